/-
  An evaluator with a heap, part c: laws for regions that draw their order: what an operation looks at; blocks that wait.
-/
import Derived.Test.YteaaijgkmcjcaaaGreatDoorWb
import Derived.OrdersIn
import Derived.RangeFuncCalls
import Derived.TacticsIn
import Derived.Lib.Bytealg
set_option linter.unusedVariables false
set_option linter.unusedSimpArgs false
namespace Go.Tw
section
variable {P : Program} {ι : Io} {w0 : World} {B : Bs} {ng nt : Nat} {fr fr' : Fr} {hp : Hp} {a : Act} {w : World}
theorem opds_congr : ∀ l : List Operand, (∀ x ∈ l, opd ng fr x = opd ng fr' x) → opds ng fr l = opds ng fr' l
  | [], _ => rfl
  | x :: l, h => by rw [opds, opds, h x (List.mem_cons_self ..), opds_congr l fun y hy => h y (List.mem_cons_of_mem _ hy)]
theorem prts_congr : ∀ l : List (Nat × Operand), (∀ x ∈ l.map (·.2), opd ng fr x = opd ng fr' x) → prts ng fr l = prts ng fr' l
  | [], _ => rfl
  | (i, x) :: l, h => by rw [prts, prts, h x (by simp), prts_congr l fun y hy => h y (by simp at hy ⊢; exact .inr hy)]
theorem opdO_congr (o : Option Operand) (h : ∀ x ∈ o, opd ng fr x = opd ng fr' x) : opdO ng fr o = opdO ng fr' o := by
  cases o with
  | none => rfl
  | some x => rw [opdO, opdO, h x rfl]
theorem pop_congr {o : Op} (h : ∀ x ∈ o.operands, opd ng fr x = opd ng fr' x) : pop P ng o fr hp = pop P ng o fr' hp := by
  unfold pop
  cases o <;> (try simp only [Op.operands] at h) <;> (try simp only)
  case build t ps => rw [prts_congr ps.toList fun x hx => h x (by simpa using hx)]
  case buildSlice t n ps => rw [prts_congr ps.toList fun x hx => h x (by simpa using hx)]
  case makeFunc fn first cs =>
    cases fn <;> simp only
    rw [opds_congr cs.toList fun x hx => h x (by simp; exact .inr (by simpa using hx))]
  case call c =>
    cases hc : c.callee with
    | builtin b =>
      simp only
      rw [opds_congr c.args.toList fun x hx => h x (by simp [Call.operands, hc]; simpa using hx)]
    | value f => rfl
    | invoke r m => rfl
  case makeMap t r => cases r <;> simp_all [opdO]
  case slice t x lo hi mx =>
    rw [h x (by simp), opdO_congr lo fun y hy => h y (by cases lo <;> simp_all), opdO_congr hi fun y hy => h y (by cases hi <;> simp_all), opdO_congr mx fun y hy => h y (by cases mx <;> simp_all)]
  case typeAssert x t u ok => cases ok <;> simp_all
  all_goals (first | rfl | (simp_all; done))
/-- What an operation looks at, as slots. -/
theorem opd_put {d : Nat} {v : AV} {x : Operand} (hs : nt < 16000000) (h : x ≠ .tmp d) : opd ng (setD nt fr (some d) v) x = opd ng fr x := by
  cases x with
  | tmp t =>
    show get .und (Bool.rec fr (put .und v fr (pth d)) (Nat.blt d nt)) (pth t) = get .und fr (pth t)
    cases hb : Nat.blt d nt with
    | false => rfl
    | true =>
      have hd : d < nt := by rwa [Nat.blt_eq] at hb
      show get .und (put .und v fr (pth d)) (pth t) = _
      rw [get_put, if_neg]
      exact fun e => h (by rw [pth_inj e (by omega)])
  | _ => rfl
theorem pop_put {ops : Array Oper} {o : Oper} {dst : Option Nat} {v : AV} (hs : nt < 16000000) (h : ∀ d, dst = some d → d ∉ o.looksAt ops) : pop P ng o.op (setD nt fr dst v) hp = pop P ng o.op fr hp := by
  cases dst with
  | none => rfl
  | some d => exact pop_congr fun x hx => opd_put hs fun e => h d rfl (by
      subst e
      exact List.mem_append_left _ (List.mem_filterMap.2 ⟨.tmp d, by simpa using hx, rfl⟩))
theorem fget_put {d n : Nat} {v : AV} (hs : nt < 16000000) (h : d ≠ n) : fget (setD nt fr (some d) v) n = fget fr n := by
  have := opd_put (ng := 0) (fr := fr) (v := v) (x := .tmp n) hs (fun e => h (by injection e with e; exact e.symm))
  exact this
theorem want_put {ops : Array Oper} {o : Oper} {dst : Option Nat} {v : AV} (hs : nt < 16000000) (h : ∀ d, dst = some d → d ∉ o.looksAt ops) : wantA ops (setD nt fr dst v) o = wantA ops fr o := by
  cases dst with
  | none => rfl
  | some d =>
    unfold wantA
    cases hg : o.guard with
    | none => rfl
    | some gw =>
      obtain ⟨g, want⟩ := gw
      simp only
      cases ht : (ops[g]?).bind (·.dst) with
      | none => rfl
      | some t =>
        simp only
        rw [fget_put hs fun e => h d rfl (by subst e; simp [Oper.looksAt, hg, ht])]
/-- What an operation that only looks yields. -/
noncomputable def sop (P : Program) (ng : Nat) (o : Op) (fr : Fr) (hp : Hp) : Option (AV × Hp) := match o with
  | .convert s d x => same hp (cvA P s d (opd ng fr x))
  | o => pop P ng o fr hp
theorem sop_put {ops : Array Oper} {o : Oper} {dst : Option Nat} {v : AV} (hs : nt < 16000000) (h : ∀ d, dst = some d → d ∉ o.looksAt ops) : sop P ng o.op (setD nt fr dst v) hp = sop P ng o.op fr hp := by
  have h1 := pop_put (P := P) (ng := ng) (nt := nt) (fr := fr) (hp := hp) (v := v) hs h
  unfold sop
  split
  · rename_i s d x hop
    cases dst with
    | none => rfl
    | some d => rw [opd_put hs fun e => h d rfl (by
        subst e
        exact List.mem_append_left _ (List.mem_filterMap.2 ⟨.tmp d, by rw [hop]; simp [Op.operands], rfl⟩))]
  · exact h1
/-- Operations that look at no memory. -/
def pureOp : Op → Bool
  | .move _ | .pick _ _ _ | .build _ _ | .nilCheck _ | .binOp _ _ _ _ _ | .unOp _ _ _ | .makeInterface _ _ | .fieldAddr _ _ _ | .field _ _ _ | .indexAddr _ _ _ | .index _ _ _ | .typeAssert _ _ _ _ | .extract _ _ => true
  | .makeFunc _ _ _ => true
  | .convert _ _ _ => true
  | _ => false
/-- Operations that only look at it. -/
def loadOp : Op → Bool
  | .load _ _ | .lookup _ _ _ _ | .slice _ _ _ _ _ => true
  | .call c => (match c.callee with
    | .builtin .len => true
    | .builtin .min => true
    | .builtin .max => true
    | _ => false)
  | _ => false
theorem same_some {r : Option AV} {v : AV} {hp hp' : Hp} (h : same hp r = some (v, hp')) : r = some v ∧ hp' = hp := by
  unfold same at h
  split at h
  · cases h; exact ⟨rfl, rfl⟩
  · cases h
theorem sop_silent {o : Op} (ho : pureOp o = true ∨ loadOp o = true) {v : AV} {hp' : Hp} (h : sop P ng o fr hp = some (v, hp')) : hp' = hp := by
  unfold sop at h
  split at h
  · exact (same_some h).2
  rename_i hnc
  unfold pop at h
  cases o <;> (try simp only [pureOp, loadOp] at ho) <;> (try simp only at h) <;> first
    | (simp at ho; done)
    | (cases h; done)
    | exact absurd rfl (hnc _ _ _)
    | exact (same_some h).2
    | (cases h; rfl)
    | skip
  case makeFunc fn first cs =>
    cases fn <;> simp only at h <;> first | (cases h; done) | skip
    split at h
    · cases h; rfl
    · cases h
  case typeAssert x t u ok => cases ok <;> simp only at h <;> first | (cases h; done) | exact (same_some h).2
  case call c =>
    cases hc : c.callee with
    | builtin b =>
      rw [hc] at h ho
      simp only at h
      unfold builtA at h
      split at h
      · simp at ho
      · exact (same_some h).2
      · exact (same_some h).2
      · exact (same_some h).2
      · cases h
    | value f => rw [hc] at h; cases h
    | invoke r m => rw [hc] at h; cases h
theorem sop_pure {o : Op} (ho : pureOp o = true) {v : AV} (h : sop P ng o fr hp = some (v, hp)) (hp' : Hp) : sop P ng o fr hp' = some (v, hp') := by
  unfold sop at h
  split at h
  · rename_i s d x
    show same hp' (cvA P s d (opd ng fr x)) = _
    rw [(same_some h).1]; rfl
  rename_i hnc
  have hg : sop P ng o fr hp' = pop P ng o fr hp' := by
    cases o <;> first | rfl | exact absurd rfl (hnc _ _ _)
  show sop P ng o fr hp' = _
  rw [hg]
  clear hg
  unfold pop at h ⊢
  cases o <;> (try simp only [pureOp] at ho) <;> (try simp only at h ⊢) <;> first
    | (simp at ho; done)
    | exact absurd rfl (hnc _ _ _)
    | (rw [(same_some h).1]; rfl)
    | (cases h; rfl)
    | skip
  case makeFunc fn first cs =>
    cases fn <;> simp only at h ⊢ <;> first | (cases h; done) | skip
    split at h
    · cases h; rfl
    · cases h
  case typeAssert x t u ok => cases ok <;> simp only at h ⊢ <;> first | (cases h; done) | (rw [(same_some h).1]; rfl)
end
end Go.Tw
set_option linter.unusedVariables false
set_option linter.unusedSimpArgs false
namespace Go.Tw
/-- The block pb is hidden. -/
def Bs.hide (B : Bs) (w0 : World) (pb : Nat) : Bs := { B with W := fun c => (B.W c ∨ w0.heap.size ≤ c) ∧ c ≠ pb, N := fun c => B.N c ∨ c = pb }
section
variable {P : Program} {ι κ : Io} {w0 : World} {B : Bs} {hp hp' : Hp} {w w' : World}
theorem HR.alloc (H : HR ι w0 B hp w) (o : Obj) : HR ι (w.alloc o) (B.hide w0 w.heap.size) hp (w.alloc o) := by
  have hold : ∀ b p, ι b = some p → (w.alloc o).heap[p.blk]? = w.heap[p.blk]? := fun b p hb => al_old w o p.blk (H.dom b p hb)
  refine ⟨fun b hb hn => ?_, fun b p hb => by have := H.dom b p hb; rw [size_al]; omega, H.fresh, H.small, fun b p hb hw => .inl ⟨H.wr b p hb hw, by have := H.dom b p hb; omega⟩, H.sep, H.sepm, fun _ _ _ => rfl, Nat.le_refl _, rfl, rfl, rfl, fun b p hb => ?_, fun c hc => ?_, H.io, H.n0⟩
  · obtain ⟨p, h1, h2⟩ := H.ent b hb hn
    exact ⟨p, h1, h2.mono (.refl _) (hold b p h1)⟩
  · rintro (h | h)
    · exact H.nev b p hb h
    · have := H.dom b p hb; omega
  · rw [size_al]
    have := H.size
    rcases hc with hc | rfl
    · have := H.nsz c hc; omega
    · omega
theorem HR.unhide (H : HR ι w0 B hp w) {o : Obj} (H' : HR κ (w.alloc o) (B.hide w0 w.heap.size) hp' w') : HR κ w0 B hp' w' ∧ w'.heap[w.heap.size]? = some o ∧ ∀ b p, κ b = some p → p.blk ≠ w.heap.size := by
  have hs := H.size
  have hsa : (w.alloc o).heap.size = w.heap.size + 1 := size_al w o
  refine ⟨⟨H'.ent, H'.dom, H'.fresh, H'.small, fun b p hb hw => ?_, H'.sep, H'.sepm, fun c hc hW => ?_, ?_, ?_, ?_, ?_, fun b p hb h => H'.nev b p hb (.inl h), H.nsz, H'.io, H'.n0⟩, ?_, fun b p hb h => H'.nev b p hb (.inr h)⟩
  · rcases H'.wr b p hb hw with h | h
    · exact h.1
    · exact .inr (by omega)
  · rw [H'.frm c (by omega) (fun h => by rcases h.1 with h | h; exact hW h; omega), al_old w o c (by omega)]
    exact H.frm c hc hW
  · have := H'.size; omega
  · exact H'.os.trans H.os
  · exact H'.tape.trans H.tape
  · exact H'.output.trans H.output
  · rw [H'.frm w.heap.size (by omega) (fun h => h.2 rfl)]
    exact heap_alloc_new w o
/-- A block that lay there gets its number. -/
theorem HR.adopt (H : HR ι w0 B hp w) (p : Pl) (e : Ent) (hpb : p.blk < w.heap.size) (hp0 : w0.heap.size ≤ p.blk) (hne : ∀ b q, ι b = some q → q.blk ≠ p.blk) (he : ER (ι.upd hp.nx p) w p e) (hs : hp.nx < 14000000) : HR (ι.upd hp.nx p) w0 B (hp.new e) w := by
  have hsm := H.small
  have hent := fun b => ent_new hp e b (by omega)
  have hle := H.le_upd p
  have hι : ∀ b q, ι.upd hp.nx p b = some q → (b = hp.nx ∧ q = p) ∨ (b ≠ hp.nx ∧ ι b = some q) := fun b q hq => by
    by_cases hb : b = hp.nx
    · subst hb; rw [Io.upd_same] at hq; cases hq; exact .inl ⟨rfl, rfl⟩
    · rw [Io.upd_other _ _ _ _ hb] at hq; exact .inr ⟨hb, hq⟩
  refine ⟨fun b hb hn => ?_, fun b q hq => ?_, fun b q hq => ?_, by rw [nx_new]; omega, fun b q hq hwr => ?_, ?_, ?_, H.frm, H.size, H.os, H.tape, H.output, fun b q hq => ?_, H.nsz, fun b hb => ?_, by rw [nx_new]; have := H.n0; omega⟩
  · rw [hent] at hn ⊢
    by_cases hb' : hp.nx = b
    · subst hb'
      rw [if_pos rfl]
      exact ⟨p, Io.upd_same _ _ _, he⟩
    · rw [if_neg hb'] at hn ⊢
      rw [nx_new] at hb
      obtain ⟨q, h1, h2⟩ := H.ent b (by omega) hn
      exact ⟨q, hle b q h1, h2.mono hle rfl⟩
  · rcases hι b q hq with ⟨rfl, rfl⟩ | ⟨_, h1⟩
    · exact hpb
    · exact H.dom b q h1
  · rw [nx_new]
    rcases hι b q hq with ⟨rfl, rfl⟩ | ⟨_, h1⟩
    · omega
    · have := H.fresh b q h1; omega
  · rcases hι b q hq with ⟨rfl, rfl⟩ | ⟨hb, h1⟩
    · exact .inr hp0
    · refine H.wr b q h1 (hwr.imp (fun hwr => ?_) id)
      rwa [hent, if_neg (fun e => hb e.symm)] at hwr
  · intro b b' q q' l es old hbb h1 h2 h3 h4 h5
    rcases hι b q h3 with ⟨rfl, rfl⟩ | ⟨hb, k1⟩
    · rcases hι b' q' h4 with ⟨rfl, rfl⟩ | ⟨hb', k2⟩
      · exact absurd rfl hbb
      · exact absurd h5.symm (hne b' q' k2)
    · rcases hι b' q' h4 with ⟨rfl, rfl⟩ | ⟨hb', k2⟩
      · exact absurd h5 (hne b q k1)
      · rw [hent, if_neg (fun e => hb e.symm)] at h1
        rw [hent, if_neg (fun e => hb' e.symm)] at h2
        obtain ⟨a1, a2⟩ := H.sep b b' q q' l es old hbb h1 h2 k1 k2 h5
        rw [hent, if_neg (fun e => hb' e.symm)]
        exact ⟨a1, a2⟩
  · intro b b' q q' l hbb h1 h2 h3 h4 h5
    rcases hι b q h3 with ⟨rfl, rfl⟩ | ⟨hb, k1⟩
    · rcases hι b' q' h4 with ⟨rfl, rfl⟩ | ⟨hb', k2⟩
      · exact absurd rfl hbb
      · exact absurd h5.symm (hne b' q' k2)
    · rcases hι b' q' h4 with ⟨rfl, rfl⟩ | ⟨hb', k2⟩
      · exact absurd h5 (hne b q k1)
      · rw [hent, if_neg (fun e => hb e.symm)] at h1
        rw [hent, if_neg (fun e => hb' e.symm)] at h2
        exact H.sepm b b' q q' l hbb h1 h2 k1 k2 h5
  · rcases hι b q hq with ⟨rfl, rfl⟩ | ⟨_, h1⟩
    · intro hn; have := H.nsz _ hn; omega
    · exact H.nev b q h1
  · have := H.n0
    rw [Io.upd_other _ _ _ _ (by omega)]; exact H.io b hb
end
/-- The first act lacks what the second one has in the slots X. -/
structure AC (X : Nat → Prop) (a c : Act) : Prop where
  size : a.tmps.size = c.tmps.size
  defers : a.defers = c.defers
  val : ∀ n, ¬ X n → a.tmps[n]? = c.tmps[n]?
theorem AC.refl (X : Nat → Prop) (a : Act) : AC X a a := ⟨rfl, rfl, fun _ _ => rfl⟩
theorem AC.put {X : Nat → Prop} {a c : Act} (h : AC X a c) (d : Option Nat) (v : Value) : AC (fun n => X n ∧ d ≠ some n) (a.put d v) (c.put d v) := by
  cases d with
  | none => exact ⟨h.size, h.defers, fun n hn => h.val n fun hx => hn ⟨hx, by simp⟩⟩
  | some d =>
    refine ⟨by simp [Act.put, h.size], h.defers, fun n hn => ?_⟩
    have hs := h.size
    by_cases hd : d = n
    · subst hd
      simp only [Act.put]
      by_cases hl : d < a.tmps.size
      · rw [Array.getElem?_setIfInBounds_self_of_lt hl, Array.getElem?_setIfInBounds_self_of_lt (by omega)]
      · rw [Array.getElem?_eq_none (by simp; omega), Array.getElem?_eq_none (by simp; omega)]
    · simp only [Act.put, Array.getElem?_setIfInBounds_ne hd]
      exact h.val n fun hx => hn ⟨hx, fun e => hd (by cases e; rfl)⟩
theorem AC.mono {X Y : Nat → Prop} {a c : Act} (h : AC X a c) (hxy : ∀ n, X n → Y n) : AC Y a c := ⟨h.size, h.defers, fun n hn => h.val n fun hx => hn (hxy n hx)⟩
/-- The second act alone goes on. -/
theorem AC.putR {X : Nat → Prop} {a c : Act} (h : AC X a c) (d : Option Nat) (v : Value) : AC (fun n => X n ∨ d = some n) a (c.put d v) := by
  cases d with
  | none => exact ⟨h.size, h.defers, fun n hn => h.val n fun hx => hn (.inl hx)⟩
  | some d =>
    refine ⟨by simp [Act.put, h.size], h.defers, fun n hn => ?_⟩
    have hd : d ≠ n := fun e => hn (.inr (by rw [e]))
    simp only [Act.put, Array.getElem?_setIfInBounds_ne hd]
    exact h.val n fun hx => hn (.inl hx)
section
variable {P : Program} {X : Nat → Prop} {a c : Act} {ops : Array Oper}
theorem AC.eval (h : AC X a c) {x : Operand} (hx : ∀ n, x = .tmp n → ¬ X n) : a.eval x = c.eval x := by
  cases x with
  | tmp t =>
    show a.tmps.getD t undef = c.tmps.getD t undef
    rw [Array.getD_eq_getD_getElem?, Array.getD_eq_getD_getElem?, h.val t (hx t rfl)]
  | _ => rfl
theorem AC.exec (h : AC X a c) {o : Oper} (hs : ∀ cs b, o.op ≠ .select cs b) (hx : ∀ n ∈ o.looksAt ops, ¬ X n) : execOp a.eval o = execOp c.eval o :=
  execOp_congr o hs fun x hm => h.eval fun n e => hx n (by
    subst e
    exact List.mem_append_left _ (List.mem_filterMap.2 ⟨.tmp n, by simpa using hm, rfl⟩))
theorem AC.wanted (h : AC X a c) {o : Oper} (hx : ∀ n ∈ o.looksAt ops, ¬ X n) : Region.wanted o (yielded ops a.tmps) = Region.wanted o (yielded ops c.tmps) := by
  unfold Region.wanted
  cases hg : o.guard with
  | none => rfl
  | some gw =>
    obtain ⟨g, want⟩ := gw
    have hy : yielded ops a.tmps g = yielded ops c.tmps g := by
      unfold yielded
      cases ht : (ops[g]?).bind (·.dst) with
      | none => rfl
      | some t =>
        have := h.val t (hx t (by simp [Oper.looksAt, hg, ht]))
        simp only [Option.bind_some, this]
    simp only [hy]
/-- All slots but one are as they were. -/
def Kp (a a' : Act) (d : Option Nat) : Prop := a'.tmps.size = a.tmps.size ∧ ∀ n, d ≠ some n → a'.tmps[n]? = a.tmps[n]?
theorem kp_put (a : Act) (ds : List Deferred) (d : Option Nat) (v : Value) : Kp a (({ a with defers := ds } : Act).put d v) d := by
  cases d with
  | none => exact ⟨rfl, fun _ _ => rfl⟩
  | some d => exact ⟨by simp [Act.put], fun n hn => by simp only [Act.put, Array.getElem?_setIfInBounds_ne (fun e => hn (by rw [e]) : d ≠ n)]⟩
/-- What an operation does in the one act it does in the other. -/
theorem wp_other {Q Q' : Exit → Act → World → Prop} {o : Oper} {w : World} {next next' : Act → World → Prop} (he : execOp a.eval o = execOp c.eval o) (hac : AC X a c)
    (hn : ∀ a' c' w', AC (fun n => X n ∧ o.dst ≠ some n) a' c' → Kp a a' o.dst → next' c' w' → next a' w') (hq : ∀ ch w', Q' (.panic ch) c w' → Q (.panic ch) a w') (ho : ∀ a w, ¬ Q' .outgrown a w) (h : o.wp P c w next' Q') : o.wp P a w next Q := by
  unfold Oper.wp at *
  rw [he]
  generalize (execOp c.eval o).run P w = r at *
  cases r with
  | ok n w' =>
    cases n <;> simp only [Oper.upon] at h ⊢
    case value v => exact hn _ _ _ (hac.put o.dst v) (kp_put a _ o.dst v) h
    case skip => exact hn _ _ _ (hac.put o.dst undef) (kp_put a _ o.dst undef) h
    case defer d =>
      have hac' : AC X { a with defers := d :: a.defers } { c with defers := d :: c.defers } := ⟨hac.size, by rw [hac.defers], hac.val⟩
      exact hn _ _ _ (hac'.put o.dst undef) (kp_put a _ o.dst undef) h
    case enter f args =>
      refine Calls.mono h fun e w'' hh => ?_
      cases e with
      | returned v => exact hn _ _ _ (hac.put o.dst v) (kp_put a _ o.dst v) hh
      | panicked ch => exact hq _ _ hh
      | outgrown => obtain ⟨a, w, hh⟩ := hh; exact absurd hh (ho a w)
    case row row args => exact Rows.mono h fun v w'' hh => hn _ _ _ (hac.put o.dst v) (kp_put a _ o.dst v) hh
  | halt x w' =>
    cases x <;> simp only [Oper.upon] at h ⊢
    case panic v => exact hq _ _ h
end
end Go.Tw
set_option linter.unusedVariables false
set_option linter.constructorNameAsVariable false
set_option linter.unusedSimpArgs false
namespace Go.Tw
inductive LK where
  | p
  | m
  | s (n : Nat)
def LK.av : LK → Nat → AV
  | .p, b => .ptr b 0
  | .m, b => .map b
  | .s n, b => .sl b 0 n
noncomputable def latV (P : Program) (ng : Nat) (o : Op) (fr : Fr) : Option (Ent × LK) := match o with
  | .alloc t => (match zeroO P t with
    | some z => if isU z = false then some (.cells (toCells z) 0 false [], .p) else none
    | none => none)
  | .makeMap t none => (match P.underlying t with
    | some (.map _ _) => some (.map [] false, .m)
    | _ => none)
  | .buildSlice t n ps => (match P.underlying t with
    | some (.slice e) => (match szO P e, zeroO P e with
      | some s, some z => if (toCells z).length = s ∧ s ≠ 0 ∧ n * s ≤ 16777216 ∧ isU z = false then (match fillA (fun i => some (i * s, s)) (rowZ (toCells z) n) (prts ng fr ps.toList) with
        | some r => some (.cells r s false [], .s n)
        | none => none) else none
      | _, _ => none)
    | _ => none)
  | _ => none
/-- What a block holds that will be known later. -/
def LatR (ι : Io) (o : Obj) (v : Value) (pb : Nat) (e : Ent) (m : LK) : Prop :=
  ∃ p : Pl, p.blk = pb ∧ ∀ (κ : Io) (w' : World) (n : Nat), ι.le κ → κ.le (κ.upd n p) → w'.heap[pb]? = some o → ER (κ.upd n p) w' p e ∧ VR (κ.upd n p) (m.av n) v
section
variable {P : Program} {ι : Io} {w0 : World} {B : Bs} {ng nt : Nat} {fr : Fr} {hp : Hp} {a : Act} {w : World}
/-- Cells that are known later. -/
theorem latCells {c : Array Value} {el : TypeId} {l : List AV} {pb es : Nat} (hl : l.length ≤ c.size) (hv : VL ι l (c.toList.take l.length)) (κ : Io) (w' : World) (n : Nat) (h1 : ι.le κ) (h2 : κ.le (κ.upd n ⟨pb, 0, c.size, es⟩)) (h3 : w'.heap[pb]? = some (.cells c el (0, 0))) : ER (κ.upd n ⟨pb, 0, c.size, es⟩) w' ⟨pb, 0, c.size, es⟩ (.cells l es false []) := by
  refine ⟨⟨⟨c, el, (0, 0), h3, rfl, .inl rfl⟩, by simpa using hl, fun i v hi => ?_⟩, rfl⟩
  obtain ⟨v', g1, g2⟩ := hv.get i v hi
  have hi2 := (List.getElem?_eq_some_iff.1 hi).1
  rw [List.getElem?_take_of_lt hi2] at g1
  refine ⟨v', ?_, g2.mono (h1.trans h2)⟩
  rw [cell_of_row w' pb (0 + i) c el (0, 0) h3, Nat.zero_add]
  simpa using g1
theorem lat_ok (F : FR ι nt fr a) (G : Gl ng ι) {o : Oper} {e : Ent} {m : LK} (h : latV P ng o.op fr = some (e, m)) (w : World) : ∃ obj v, (execOp a.eval o).run P w = .ok (.value v) (w.alloc obj) ∧ LatR ι obj v w.heap.size e m := by
  obtain ⟨dst, op, ty, pos, after, guard⟩ := o
  unfold latV at h
  unfold execOp
  cases op <;> (try simp only at h) <;> (try simp only) <;> first
    | (cases h; done)
    | skip
  case alloc t =>
    split at h
    case h_2 => cases h
    rename_i z hz
    split at h
    case isFalse => cases h
    rename_i hu
    cases h
    obtain ⟨z', h1, h2⟩ := zeroO_ok (ι := ι) hz w
    have hcr := cells_rel h2 hu
    have hlen := hcr.len
    simp only [Array.length_toList] at hlen
    refine ⟨.cells z'.cells t, .pointer (some ⟨w.heap.size, 0, none⟩), ?_, ⟨w.heap.size, 0, z'.cells.size, 0⟩, rfl, fun κ w' n k1 k2 k3 => ⟨latCells (by omega) (by rw [List.take_of_length_le (by simp; omega)]; exact hcr) κ w' n k1 k2 k3, ?_⟩⟩
    · have hrun : (Instr.alloc t true (.tuple #[])).run P w = .ok (.pointer (some ⟨w.heap.size, 0, none⟩)) (w.alloc (.cells z'.cells t)) := by
        unfold Instr.alloc
        simp only [Sem.run_bind, h1, Result.andThen_ok]
        rfl
      simp only [Sem.run_bind, hrun, Result.andThen_ok, Sem.run_pure]
    · exact .ptr (o := 0) (Io.upd_same κ n ⟨w.heap.size, 0, z'.cells.size, 0⟩)
  case makeMap t r =>
    cases r <;> simp only at h <;> first
      | (cases h; done)
      | skip
    split at h
    · cases h
      refine ⟨.map #[] 0, .map (some w.heap.size), ?_, ⟨w.heap.size, 0, 0, 0⟩, rfl, fun κ w' n k1 k2 k3 => ⟨⟨#[], 0, k3, rfl, fun i x hx => by simp at hx⟩, .map (Io.upd_same κ n ⟨w.heap.size, 0, 0, 0⟩)⟩⟩
      unfold Instr.makeMap
      rfl
    · cases h
  case buildSlice t n ps =>
    split at h
    case h_2 => cases h
    rename_i el hu
    split at h
    case h_2 => cases h
    rename_i s z hs hz
    split at h
    case isFalse => cases h
    rename_i hc
    obtain ⟨c1, c2, c3, c4⟩ := hc
    split at h
    case h_2 => cases h
    rename_i r hr
    cases h
    obtain ⟨z', g1, g2⟩ := zeroO_ok (ι := ι) hz w
    have hcr := cells_rel g2 c4
    have hzl := hcr.len
    simp only [Array.length_toList] at hzl
    have hrow := rowZ_rel hcr n
    obtain ⟨cs', k1, k2, k3⟩ := fill_ok (prts_ok' F G ps) hr hrow
    have hcs : cs'.size = n * s := by rw [k3]; simp; rw [← hzl, c1]
    have hkl := k2.len
    simp only [Array.length_toList] at hkl
    refine ⟨.cells cs' el, .slice (some ⟨w.heap.size, 0, none⟩) n n, ?_, ⟨w.heap.size, 0, cs'.size, s⟩, rfl, fun κ w' b q1 q2 q3 => ⟨latCells (by omega) (by rw [List.take_of_length_le (by simp; omega)]; exact k2) κ w' b q1 q2 q3, ?_⟩⟩
    · have hbig : ¬ (n * s > 2 ^ 24) := by omega
      have hrun : (Instr.buildSlice t n (ps.map fun (i, x) => (i, a.eval x))).run P w = .ok (.slice (some ⟨w.heap.size, 0, none⟩) n n) (w.alloc (.cells cs' el)) := by
        unfold Instr.buildSlice
        simp only [Sem.run_bind, run_underlying hu, Result.andThen_ok, szO_ok hs w, Sem.run_ite, if_neg hbig, Sem.run_pure]
        by_cases h0 : n * s = 0
        · have hn0 : n = 0 := by
            rcases Nat.mul_eq_zero.1 h0 with h | h
            · exact h
            · exact absurd h c2
          subst hn0
          have e1 : ∀ f : Nat → Value, (Array.range 0).map f = #[] := fun f => by simp
          have e2 : (Array.range (0 * z'.cells.size)).map (fun i => z'.cells[i % z'.cells.size]!) = #[] := by simp
          rw [e2] at k1
          simp only [h0, if_true, Result.andThen_ok, e1, k1]
          rfl
        · have e1 : n * s = n * z'.cells.size := by rw [← hzl, c1]
          simp only [if_neg h0, g1, Result.andThen_ok]
          rw [e1]
          simp only [k1]
          rfl
      simp only [Sem.run_bind, hrun, Result.andThen_ok, Sem.run_pure]
    · exact .sl (o := 0) (Io.upd_same κ b ⟨w.heap.size, 0, cs'.size, s⟩) (Nat.le_refl _) (by show 0 + 0 + n * s ≤ cs'.size; omega)
/-- It does not hang on other slots. -/
theorem lat_congr {fr' : Fr} {o : Op} (h : ∀ x ∈ o.operands, opd ng fr x = opd ng fr' x) : latV P ng o fr = latV P ng o fr' := by
  unfold latV
  cases o <;> (try simp only [Op.operands] at h) <;> (try simp only)
  case buildSlice t n ps => rw [prts_congr ps.toList fun x hx => h x (by simpa using hx)]
  case makeMap t r => cases r <;> rfl
theorem lat_put {ops : Array Oper} {o : Oper} {dst : Option Nat} {v : AV} (hs : nt < 16000000) (h : ∀ d, dst = some d → d ∉ o.looksAt ops) : latV P ng o.op (setD nt fr dst v) = latV P ng o.op fr := by
  cases dst with
  | none => rfl
  | some d => exact lat_congr fun x hx => opd_put hs fun e => h d rfl (by
      subst e
      exact List.mem_append_left _ (List.mem_filterMap.2 ⟨.tmp d, by simpa using hx, rfl⟩))
/-- It is known now. -/
theorem lat_adopt {κ : Io} {hp' : Hp} {w' : World} {o : Obj} {v : Value} {pb : Nat} {e : Ent} {m : LK} (hL : LatR ι o v pb e m) (hk : ι.le κ) (H : HR κ w0 B hp' w') (ho : w'.heap[pb]? = some o) (hp0 : w0.heap.size ≤ pb) (hne : ∀ b q, κ b = some q → q.blk ≠ pb) (hs : hp'.nx < 14000000) :
    ∃ κ', κ.le κ' ∧ VR κ' (m.av hp'.nx) v ∧ HR κ' w0 B (hp'.new e) w' := by
  obtain ⟨p, rfl, hr⟩ := hL
  obtain ⟨h1, h2⟩ := hr κ w' hp'.nx hk (H.le_upd p) ho
  exact ⟨_, H.le_upd p, h2, H.adopt p e (Array.getElem?_eq_some_iff.1 ho).1 hp0 hne h1 hs⟩
end
end Go.Tw
set_option linter.unusedVariables false
set_option linter.unusedSimpArgs false
set_option linter.constructorNameAsVariable false
namespace Go.Tw
/-- tw: two that come in either order. tk: taken at once; ef: when it is its turn, may the new block come before it, what is looked at again behind it; al: a new block that may have been laid before. -/
inductive Stp where
  | tk (i : Nat)
  | ef (j : Nat) (c : Bool) (rs : List Nat)
  | al (i : Nat) (rs : List Nat)
  | tw (i j : Nat) (c : Bool) (rs : List Nat)
structure Pln where
  la : Option Nat
  st : List Stp
section
variable (ops : Array Oper)
def dep (j : Nat) : List Nat := match ops[j]? with
  | some o => (o.after.toList.filter fun e => Region.binds .any e).map (·.on)
  | none => []
def dstO (i : Nat) : Option Nat := (ops[i]?).bind (·.dst)
def looksO (i : Nat) : List Nat := match ops[i]? with
  | some o => o.looksAt ops
  | none => []
def isIn (i : Nat) : List Nat → Bool
  | [] => false
  | j :: l => Nat.beq i j || isIn i l
def subL : List Nat → List Nat → Bool
  | [], _ => true
  | i :: l, m => isIn i m && subL l m
def noD : Option Nat → List Nat → Bool
  | none, _ => true
  | some d, l => !isIn d l
def neD : Option Nat → Option Nat → Bool
  | some d, some e => !Nat.beq d e
  | _, _ => true
def apt (i k : Nat) : Bool := noD (dstO ops i) (looksO ops k) && noD (dstO ops k) (looksO ops i) && neD (dstO ops i) (dstO ops k)
def loads (i : Nat) : Bool := match ops[i]? with
  | some o => loadOp o.op
  | none => false
def silO (i : Nat) : Bool := match ops[i]? with
  | some o => pureOp o.op || loadOp o.op
  | none => false
/-- Somebody waits for what is not there yet. -/
def blk (la : Option Nat) (lC : List Nat) : List Nat → Bool
  | [] => false
  | d :: l => (!isIn d lC && neD (some d) la) || blk la lC l
def othersB (la : Option Nat) (lC : List Nat) (j : Nat) (k : Nat) : Bool := isIn k lC || Nat.beq k j || !neD (some k) la || blk la lC (dep ops k)
def rsOk (lC rs : List Nat) (j : Nat) (i : Nat) : Bool := !loads ops i || isIn i (dep ops j) || isIn i rs
def allN (p : Nat → Bool) : List Nat → Bool
  | [] => true
  | i :: l => p i && allN p l
def laC (la : Option Nat) (lC : List Nat) : Bool := match la with
  | none => true
  | some l => isIn l lC || !subL (dep ops l) lC
/-- What is asked of an effect, but for who else may come. -/
def efC (la : Option Nat) (lC : List Nat) (j : Nat) (c : Bool) (rs : List Nat) : Bool := !isIn j lC && Nat.blt j ops.size && neD (some j) la && subL (dep ops j) lC && allN (rsOk ops lC rs j) lC && (c || laC ops la lC)
def oth2 (la : Option Nat) (lC : List Nat) (i j k : Nat) : Bool := Nat.beq k i || othersB ops la lC j k
def plOk (la : Option Nat) : List Nat → List Stp → Bool
  | lC, [] => allN (fun k => isIn k lC) (List.range ops.size)
  | lC, .tk i :: r => !isIn i lC && Nat.blt i ops.size && silO ops i && neD (some i) la && subL (dep ops i) lC && plOk la (i :: lC) r
  | lC, .tw i j c rs :: r => efC ops la lC i c rs && efC ops la lC j c rs && allN (oth2 ops la lC i j) (List.range ops.size) && (efC ops la (i :: lC) j c rs && allN (othersB ops la (i :: lC) j) (List.range ops.size) && plOk la (j :: i :: lC) r) && (efC ops la (j :: lC) i c rs && allN (othersB ops la (j :: lC) i) (List.range ops.size) && plOk la (i :: j :: lC) r)
  | lC, .ef j c rs :: r => efC ops la lC j c rs && allN (othersB ops la lC j) (List.range ops.size) && plOk la (j :: lC) r
  | lC, .al i rs :: r => !isIn i lC && Nat.blt i ops.size && !neD (some i) la && subL (dep ops i) lC && allN (othersB ops none lC i) (List.range ops.size) && allN (rsOk ops lC rs i) lC && plOk la (i :: lC) r
def tks : List Stp → List Nat
  | [] => []
  | .tk i :: r => i :: tks r
  | _ :: r => tks r
def pairA (i k : Nat) : Bool := Nat.beq i k || isIn k (dep ops i) || isIn i (dep ops k) || apt ops i k
def pairB (i k : Nat) : Bool := Nat.beq i k || !isIn i (dep ops k) || (noD (dstO ops k) (looksO ops i) && neD (dstO ops k) (dstO ops i))
def laOk (la : Nat) : Bool := (match ops[la]? with
  | some o => (match o.guard with
    | none => true
    | some _ => false)
  | none => false) && allN (fun k => pairA ops la k && (Nat.beq la k || neD (dstO ops la) (dstO ops k))) (List.range ops.size)
def noSel : Bool := ops.toList.all fun o => match o.op with
  | .select _ _ => false
  | _ => true
def planOk (p : Pln) : Bool := noSel ops && plOk ops p.la [] p.st && allN (fun i => noD (dstO ops i) (looksO ops i) && allN (pairA ops i) (List.range ops.size) && allN (pairB ops i) (tks p.st)) (tks p.st) && (match p.la with
  | none => true
  | some la => laOk ops la)
theorem isIn_iff (i : Nat) : ∀ l, isIn i l = true ↔ i ∈ l
  | [] => by simp [isIn]
  | j :: l => by
    have hb : Nat.beq i j = true ↔ i = j := Iff.of_eq Nat.beq_eq
    rw [isIn, Bool.or_eq_true, hb, isIn_iff i l, List.mem_cons]
theorem isIn_not {i : Nat} {l : List Nat} (h : (!isIn i l) = true) : i ∉ l := fun hm => by
  rw [(isIn_iff i l).2 hm] at h; cases h
theorem subL_mem : ∀ (l m : List Nat), subL l m = true → ∀ i ∈ l, i ∈ m
  | [], _, _, i, h => by cases h
  | j :: l, m, h, i, hi => by
    rw [subL, Bool.and_eq_true] at h
    rcases List.mem_cons.1 hi with rfl | hi
    · exact (isIn_iff _ _).1 h.1
    · exact subL_mem l m h.2 i hi
theorem allN_mem (p : Nat → Bool) : ∀ l, allN p l = true → ∀ i ∈ l, p i = true
  | [], _, i, h => by cases h
  | j :: l, h, i, hi => by
    rw [allN, Bool.and_eq_true] at h
    rcases List.mem_cons.1 hi with rfl | hi
    · exact h.1
    · exact allN_mem p l h.2 i hi
theorem noD_spec {o : Option Nat} {l : List Nat} (h : noD o l = true) : ∀ d, o = some d → d ∉ l := fun d hd => by
  subst hd
  exact isIn_not h
theorem neD_spec {o p : Option Nat} (h : neD o p = true) : ∀ d, o = some d → p ≠ some d := fun d hd e => by
  subst hd
  subst e
  have h' : (!Nat.beq d d) = true := h
  rw [Nat.beq_refl] at h'
  cases h'
theorem neD_not {i : Nat} {p : Option Nat} (h : (!neD (some i) p) = true) : p = some i := by
  cases p with
  | none => cases h
  | some d =>
    have h' : (!(!Nat.beq i d)) = true := h
    rw [Bool.not_not, Nat.beq_eq] at h'
    rw [h']
theorem blk_spec (la : Option Nat) (lC : List Nat) : ∀ l, blk la lC l = true → ∃ d ∈ l, d ∉ lC ∧ la ≠ some d
  | [], h => by cases h
  | d :: l, h => by
    rw [blk, Bool.or_eq_true] at h
    rcases h with h | h
    · rw [Bool.and_eq_true] at h
      exact ⟨d, List.mem_cons_self .., isIn_not h.1, neD_spec h.2 d rfl⟩
    · obtain ⟨e, h1, h2⟩ := blk_spec la lC l h
      exact ⟨e, List.mem_cons_of_mem _ h1, h2⟩
theorem others_spec {la : Option Nat} {lC : List Nat} {j k : Nat} (h : othersB ops la lC j k = true) : k ∈ lC ∨ k = j ∨ la = some k ∨ ∃ d ∈ dep ops k, d ∉ lC ∧ la ≠ some d := by
  unfold othersB at h
  simp only [Bool.or_eq_true] at h
  rcases h with ((h | h) | h) | h
  · exact .inl ((isIn_iff _ _).1 h)
  · exact .inr (.inl (by rwa [Nat.beq_eq] at h))
  · exact .inr (.inr (.inl (neD_not h)))
  · exact .inr (.inr (.inr (blk_spec la lC _ h)))
/-- An effect, but for who else may come. -/
structure EfC (la : Option Nat) (lC : List Nat) (j : Nat) (c : Bool) (rs : List Nat) : Prop where
  no : j ∉ lC
  lt : j < ops.size
  nla : la ≠ some j
  dp : ∀ d ∈ dep ops j, d ∈ lC
  rs : ∀ i ∈ lC, rsOk ops lC rs j i = true
  c : c = true ∨ laC ops la lC = true
theorem efC_spec {la : Option Nat} {lC : List Nat} {j : Nat} {c : Bool} {rs : List Nat} (h : efC ops la lC j c rs = true) : EfC ops la lC j c rs := by
  unfold efC at h
  simp only [Bool.and_eq_true] at h
  obtain ⟨⟨⟨⟨⟨p1, p2⟩, p3⟩, p4⟩, p5⟩, p6⟩ := h
  exact ⟨isIn_not p1, by rwa [Nat.blt_eq] at p2, neD_spec p3 j rfl, subL_mem _ _ p4, allN_mem _ _ p5, by rwa [Bool.or_eq_true] at p6⟩
/-- Two operations that have nothing to do with one another. -/
structure Apt (i k : Nat) : Prop where
  a : ∀ d, dstO ops i = some d → d ∉ looksO ops k
  b : ∀ d, dstO ops k = some d → d ∉ looksO ops i
  c : ∀ d, dstO ops i = some d → dstO ops k ≠ some d
theorem apt_spec {i k : Nat} (h : apt ops i k = true) : Apt ops i k := by
  unfold apt at h
  simp only [Bool.and_eq_true] at h
  exact ⟨noD_spec h.1.1, noD_spec h.1.2, neD_spec h.2⟩
theorem pairA_spec {i k : Nat} (h : pairA ops i k = true) : i = k ∨ k ∈ dep ops i ∨ i ∈ dep ops k ∨ Apt ops i k := by
  unfold pairA at h
  simp only [Bool.or_eq_true] at h
  rcases h with ((h | h) | h) | h
  · exact .inl (by rwa [Nat.beq_eq] at h)
  · exact .inr (.inl ((isIn_iff _ _).1 h))
  · exact .inr (.inr (.inl ((isIn_iff _ _).1 h)))
  · exact .inr (.inr (.inr (apt_spec ops h)))
/-- What a plan's check tells. -/
structure PlanP (p : Pln) : Prop where
  sel : ∀ (j : Nat) (o : Oper) cs b, ops[j]? = some o → o.op ≠ .select cs b
  ok : plOk ops p.la [] p.st = true
  own : ∀ i ∈ tks p.st, ∀ d, dstO ops i = some d → d ∉ looksO ops i
  pr : ∀ i ∈ tks p.st, ∀ k, k < ops.size → i = k ∨ k ∈ dep ops i ∨ i ∈ dep ops k ∨ Apt ops i k
  prB : ∀ i ∈ tks p.st, ∀ k ∈ tks p.st, i ≠ k → i ∈ dep ops k → (∀ d, dstO ops k = some d → d ∉ looksO ops i ∧ dstO ops i ≠ some d)
  la : ∀ la, p.la = some la → (∃ o, ops[la]? = some o ∧ o.guard = none) ∧ ∀ k, k < ops.size → k ≠ la → (k ∈ dep ops la ∨ la ∈ dep ops k ∨ Apt ops la k) ∧ ∀ d, dstO ops la = some d → dstO ops k ≠ some d
theorem plan_spec {p : Pln} (h : planOk ops p = true) : PlanP ops p := by
  unfold planOk at h
  simp only [Bool.and_eq_true] at h
  obtain ⟨⟨⟨h1, h2⟩, h3⟩, h4⟩ := h
  have h3' := allN_mem _ _ h3
  refine ⟨fun j o cs b ho e => ?_, h2, fun i hi => ?_, fun i hi k hk => ?_, fun i hi k hk hne hd => ?_, fun la hla => ?_⟩
  · have := List.all_eq_true.1 h1 o (List.mem_of_getElem? (by simpa using ho))
    rw [e] at this
    cases this
  · have := h3' i hi
    simp only [Bool.and_eq_true] at this
    exact noD_spec this.1.1
  · have := h3' i hi
    simp only [Bool.and_eq_true] at this
    exact pairA_spec ops (allN_mem _ _ this.1.2 k (List.mem_range.2 hk))
  · have := h3' i hi
    simp only [Bool.and_eq_true] at this
    have := allN_mem _ _ this.2 k hk
    unfold pairB at this
    simp only [Bool.or_eq_true, Bool.and_eq_true] at this
    rcases this with (h | h) | ⟨g1, g2⟩
    · rw [Nat.beq_eq] at h; exact absurd h hne
    · exact absurd hd (isIn_not h)
    · exact fun d hd => ⟨noD_spec g1 d hd, neD_spec g2 d hd⟩
  · rw [hla] at h4
    simp only at h4
    unfold laOk at h4
    rw [Bool.and_eq_true] at h4
    obtain ⟨g1, g2⟩ := h4
    refine ⟨?_, fun k hk hne => ?_⟩
    · split at g1
      · rename_i o ho
        split at g1
        · rename_i hg; exact ⟨o, ho, hg⟩
        · cases g1
      · cases g1
    · have := allN_mem _ _ g2 k (List.mem_range.2 hk)
      simp only [Bool.and_eq_true, Bool.or_eq_true] at this
      refine ⟨?_, ?_⟩
      · rcases pairA_spec ops this.1 with e | h
        · exact absurd e.symm hne
        · exact h
      · rcases this.2 with e | h
        · rw [Nat.beq_eq] at e; exact absurd e.symm hne
        · exact neD_spec h
end
end Go.Tw
set_option linter.unusedVariables false
set_option linter.unusedSimpArgs false
set_option linter.constructorNameAsVariable false
namespace Go.Tw
mutual
def avEq : AV → AV → Bool
  | .int k a, .int k' b => decide (k = k') && decide (a = b)
  | .bool a, .bool b => decide (a = b)
  | .str a, .str b => strEq a b
  | .nilp, .nilp => true
  | .ptr a o, .ptr b p => Nat.beq a b && Nat.beq o p
  | .nils, .nils => true
  | .sl a o n, .sl b p m => Nat.beq a b && Nat.beq o p && Nat.beq n m
  | .agg l, .agg m => avEqs l m
  | .tup l, .tup m => avEqs l m
  | .fn f l, .fn g m => Nat.beq f g && avEqs l m
  | .nilf, .nilf => true
  | .iface t v, .iface u x => Nat.beq t u && avEq v x
  | .nili, .nili => true
  | .map a, .map b => Nat.beq a b
  | .nilm, .nilm => true
  | _, _ => false
def avEqs : List AV → List AV → Bool
  | [], [] => true
  | a :: l, b :: m => avEq a b && avEqs l m
  | _, _ => false
end
mutual
theorem avEq_spec : ∀ (a b : AV), avEq a b = true → a = b
  | a, b, h => by
    unfold avEq at h
    split at h <;> first
      | (cases h; done)
      | rfl
      | (simp only [Bool.and_eq_true, decide_eq_true_eq] at h; obtain ⟨rfl, rfl⟩ := h; rfl)
      | (simp only [decide_eq_true_eq] at h; subst h; rfl)
      | (rw [strEq_iff] at h; subst h; rfl)
      | (simp only [Bool.and_eq_true, Nat.beq_eq] at h; obtain ⟨⟨rfl, rfl⟩, rfl⟩ := h; rfl)
      | (simp only [Bool.and_eq_true, Nat.beq_eq] at h; obtain ⟨rfl, rfl⟩ := h; rfl)
      | (rw [Nat.beq_eq] at h; subst h; rfl)
      | (rw [avEqs_spec _ _ h])
      | (simp only [Bool.and_eq_true, Nat.beq_eq] at h; obtain ⟨rfl, h⟩ := h; rw [avEqs_spec _ _ h])
      | (simp only [Bool.and_eq_true, Nat.beq_eq] at h; obtain ⟨rfl, h⟩ := h; rw [avEq_spec _ _ h])
theorem avEqs_spec : ∀ (a b : List AV), avEqs a b = true → a = b
  | [], [], _ => rfl
  | a :: l, b :: m, h => by
    unfold avEqs at h
    rw [Bool.and_eq_true] at h
    rw [avEq_spec a b h.1, avEqs_spec l m h.2]
  | [], _ :: _, h => by unfold avEqs at h; cases h
  | _ :: _, [], h => by unfold avEqs at h; cases h
end
section
variable (P : Program) (ng nt : Nat) (call : CallT) (ops : Array Oper)
noncomputable def clrL (nt : Nat) (fr : Fr) : List Oper → Fr
  | [] => fr
  | o :: l => setD nt (clrL nt fr l) o.dst .und
noncomputable def rck (fr : Fr) (hp : Hp) : List Nat → Bool
  | [] => true
  | i :: r => (match ops[i]? with
    | some o => (match wantA ops fr o with
      | some true => (match sop P ng o.op fr hp with
        | some (v, _) => (match o.dst with
          | some d => avEq v (fget fr d)
          | none => true)
        | none => false)
      | some false => true
      | none => false)
    | none => false) && rck fr hp r
noncomputable def laV (la : Option Nat) (fr : Fr) : Bool := match la with
  | none => true
  | some l => (match ops[l]? with
    | some o => (match latV P ng o.op fr with
      | some _ => true
      | none => false)
    | none => false)
noncomputable def efD (la : Option Nat) (pn : Fr → List AV → KV) (j : Nat) (c : Bool) (rs : List Nat) (k : KF) (fr : Fr) (df : List AV) (hp : Hp) : Bool := (!c || laV P ng ops la fr) && (match ops[j]? with
    | some o => (match wantA ops fr o with
      | some true => xop P ng call o.op fr df hp (fun v df hp => rck P ng ops (setD nt fr o.dst v) hp rs && k (setD nt fr o.dst v) df hp) (pn (clrL nt fr ops.toList) df)
      | some false => k (setD nt fr o.dst (.tup [])) df hp
      | none => false)
    | none => false)
noncomputable def regD (la : Option Nat) (pn : Fr → List AV → KV) (k : KF) : List Stp → Fr → List AV → Hp → Bool
  | [], fr, df, hp => k fr df hp
  | .tw i j c rs :: r, fr, df, hp => efD P ng nt call ops la pn i c rs (efD P ng nt call ops la pn j c rs (regD la pn k r)) fr df hp && efD P ng nt call ops la pn j c rs (efD P ng nt call ops la pn i c rs (regD la pn k r)) fr df hp
  | .tk i :: r, fr, df, hp => (match ops[i]? with
    | some o => (match wantA ops fr o with
      | some true => (match sop P ng o.op fr hp with
        | some (v, _) => regD la pn k r (setD nt fr o.dst v) df hp
        | none => false)
      | some false => regD la pn k r (setD nt fr o.dst (.tup [])) df hp
      | none => false)
    | none => false)
  | .ef j c rs :: r, fr, df, hp => efD P ng nt call ops la pn j c rs (regD la pn k r) fr df hp
  | .al i rs :: r, fr, df, hp => (match ops[i]? with
    | some o => (match latV P ng o.op fr with
      | some (e, m) => Nat.blt hp.nx 14000000 && rck P ng ops (setD nt fr o.dst (m.av hp.nx)) (hp.new e) rs && regD la pn k r (setD nt fr o.dst (m.av hp.nx)) df (hp.new e)
      | none => false)
    | none => false)
/-- What is still to be done and is known. -/
def DC (fr : Fr) (hp : Hp) (i : Nat) : Prop := ∃ o, ops[i]? = some o ∧ ((wantA ops fr o = some false ∧ ∀ d, o.dst = some d → d < nt → fget fr d = .tup []) ∨ (wantA ops fr o = some true ∧ ∃ v, sop P ng o.op fr hp = some (v, hp) ∧ ∀ d, o.dst = some d → d < nt → fget fr d = v))
end
section
variable {P : Program} {ι : Io} {w0 : World} {B : Bs} {ng nt : Nat} {fr : Fr} {hp : Hp} {a : Act} {w : World} {ops : Array Oper}
theorem fget_self {d : Nat} {v : AV} (hd : d < nt) : fget (setD nt fr (some d) v) d = v := by
  show get .und (Bool.rec fr (put .und v fr (pth d)) (Nat.blt d nt)) (pth d) = v
  have : Nat.blt d nt = true := by rw [Nat.blt_eq]; exact hd
  rw [this]
  show get .und (put .und v fr (pth d)) (pth d) = v
  rw [get_put, if_pos rfl]
theorem dst_of {i : Nat} {o : Oper} (ho : ops[i]? = some o) : dstO ops i = o.dst := by unfold dstO; rw [ho]; rfl
theorem looks_of {i : Nat} {o : Oper} (ho : ops[i]? = some o) : looksO ops i = o.looksAt ops := by unfold looksO; rw [ho]
/-- Another slot is written. -/
theorem DC.put (hs : nt < 16000000) {i : Nat} (h : DC P ng nt ops fr hp i) {dst : Option Nat} {v : AV} (h1 : ∀ d, dst = some d → d ∉ looksO ops i) (h2 : ∀ d, dst = some d → dstO ops i ≠ some d) : DC P ng nt ops (setD nt fr dst v) hp i := by
  obtain ⟨o, ho, h⟩ := h
  rw [looks_of ho] at h1
  rw [dst_of ho] at h2
  have hg : ∀ d, o.dst = some d → fget (setD nt fr dst v) d = fget fr d := fun d hd => by
    cases dst with
    | none => rfl
    | some e => exact fget_put hs fun he => h2 e rfl (by rw [he]; exact hd)
  refine ⟨o, ho, ?_⟩
  rw [want_put hs h1, sop_put hs h1]
  rcases h with ⟨g1, g2⟩ | ⟨g1, v, g2, g3⟩
  · exact .inl ⟨g1, fun d hd hn => by rw [hg d hd]; exact g2 d hd hn⟩
  · exact .inr ⟨g1, v, g2, fun d hd hn => by rw [hg d hd]; exact g3 d hd hn⟩
/-- The memory is another one; what looks at it was looked at again. -/
theorem DC.mem {i : Nat} (h : DC P ng nt ops fr hp i) (hsil : silO ops i = true) {hp' : Hp} {rs : List Nat} (hr : rck P ng ops fr hp' rs = true) (hi : loads ops i = true → i ∈ rs) : DC P ng nt ops fr hp' i := by
  obtain ⟨o, ho, h⟩ := h
  refine ⟨o, ho, ?_⟩
  rcases h with h | ⟨g1, v, g2, g3⟩
  · exact .inl h
  · by_cases hp1 : pureOp o.op = true
    · exact .inr ⟨g1, v, sop_pure hp1 g2 hp', g3⟩
    · have hl : loadOp o.op = true := by
        unfold silO at hsil
        rw [ho] at hsil
        simp only [Bool.or_eq_true] at hsil
        exact hsil.resolve_left hp1
      have hin := hi (by unfold loads; rw [ho]; exact hl)
      have key : ∀ rs, rck P ng ops fr hp' rs = true → i ∈ rs → ∃ v', sop P ng o.op fr hp' = some (v', hp') ∧ ∀ d, o.dst = some d → v' = fget fr d := by
        intro rs
        induction rs with
        | nil => intro _ h; cases h
        | cons j r ih =>
          intro h hm
          unfold rck at h
          rw [Bool.and_eq_true] at h
          rcases List.mem_cons.1 hm with rfl | hm
          · have h1 := h.1
            rw [ho] at h1
            simp only [g1] at h1
            split at h1
            · rename_i v' hp'' hpop
              have := sop_silent (.inr hl) hpop
              subst this
              refine ⟨v', hpop, fun d hd => ?_⟩
              rw [hd] at h1
              exact avEq_spec _ _ h1
            · cases h1
          · exact ih h.2 hm
      obtain ⟨v', k1, k2⟩ := key rs hr hin
      refine .inr ⟨g1, v', k1, fun d hd hn => (k2 d hd).symm⟩
/-- It is taken. -/
theorem DC.take (hs : nt < 16000000) {i : Nat} {o : Oper} (ho : ops[i]? = some o) (hown : ∀ d, dstO ops i = some d → d ∉ looksO ops i) {v : AV} (h : (wantA ops fr o = some false ∧ v = .tup []) ∨ (wantA ops fr o = some true ∧ sop P ng o.op fr hp = some (v, hp))) : DC P ng nt ops (setD nt fr o.dst v) hp i := by
  rw [dst_of ho, looks_of ho] at hown
  refine ⟨o, ho, ?_⟩
  rw [want_put hs hown, sop_put hs hown]
  have hg : ∀ d, o.dst = some d → d < nt → fget (setD nt fr o.dst v) d = v := fun d hd hn => by rw [hd]; exact fget_self hn
  rcases h with ⟨g1, rfl⟩ | ⟨g1, g2⟩
  · exact .inl ⟨g1, hg⟩
  · exact .inr ⟨g1, v, g2, hg⟩
/-- What is known already is put. -/
theorem FR.reput (F : FR ι nt fr a) {d : Option Nat} {v' : Value} (h : ∀ n, d = some n → n < nt → VR ι (fget fr n) v') : FR ι nt fr (a.put d v') := by
  cases d with
  | none => exact F
  | some d =>
    refine ⟨by simp [Act.put, F.sz], F.small, fun n => ?_⟩
    by_cases hd : d = n
    · subst hd
      simp only [Act.put, Array.getD_eq_getD_getElem?]
      by_cases hl : d < a.tmps.size
      · rw [Array.getElem?_setIfInBounds_self_of_lt hl]
        exact h d rfl (by have := F.sz; omega)
      · rw [Array.getElem?_eq_none (by simp; omega)]
        have := F.val d
        rw [Array.getD_eq_getD_getElem?, Array.getElem?_eq_none (by omega)] at this
        exact this
    · simp only [Act.put, Array.getD_eq_getD_getElem?, Array.getElem?_setIfInBounds_ne hd]
      have := F.val n
      rwa [Array.getD_eq_getD_getElem?] at this
/-- What is still to be done is known no more. -/
theorem clr_ok {X : Nat → Prop} {c : Act} (F : FR ι nt fr c) (hac : AC X a c) : ∀ l : List Oper, (∀ n, X n → ∃ o ∈ l, o.dst = some n) → FR ι nt (clrL nt fr l) a := by
  intro l hX
  have hget : ∀ (l : List Oper) (n : Nat), n < nt → fget (clrL nt fr l) n = .und ∨ (fget (clrL nt fr l) n = fget fr n ∧ ∀ o ∈ l, o.dst ≠ some n) := by
    intro l
    induction l with
    | nil => exact fun n _ => .inr ⟨rfl, fun o h => by cases h⟩
    | cons o l ih =>
      intro n hn
      show fget (setD nt (clrL nt fr l) o.dst .und) n = .und ∨ (fget (setD nt (clrL nt fr l) o.dst .und) n = _ ∧ _)
      cases hd : o.dst with
      | none =>
        rcases ih n hn with h | ⟨h, h2⟩
        · exact .inl h
        · exact .inr ⟨h, fun o' ho' => by
            rcases List.mem_cons.1 ho' with rfl | ho'
            · rw [hd]; simp
            · exact h2 o' ho'⟩
      | some d =>
        by_cases hdn : d = n
        · subst hdn
          exact .inl (fget_self hn)
        · rw [fget_put F.small hdn]
          rcases ih n hn with h | ⟨h, h2⟩
          · exact .inl h
          · exact .inr ⟨h, fun o' ho' => by
              rcases List.mem_cons.1 ho' with rfl | ho'
              · rw [hd]; exact fun e => hdn (by cases e; rfl)
              · exact h2 o' ho'⟩
  refine ⟨hac.size.trans F.sz, F.small, fun n => ?_⟩
  by_cases hn : n < nt
  · rcases hget l n hn with h | ⟨h, h2⟩
    · rw [h]; exact .und _
    · rw [h, Array.getD_eq_getD_getElem?, hac.val n (fun hx => by obtain ⟨o, h3, h4⟩ := hX n hx; exact h2 o h3 h4)]
      have := F.val n
      rwa [Array.getD_eq_getD_getElem?] at this
  · have hkeep : ∀ l : List Oper, fget (clrL nt fr l) n = fget fr n := by
      intro l
      induction l with
      | nil => rfl
      | cons o l ih =>
        show fget (setD nt (clrL nt fr l) o.dst .und) n = _
        cases hd : o.dst with
        | none => exact ih
        | some d =>
          by_cases hdn : d = n
          · subst hdn
            have : setD nt (clrL nt fr l) (some d) .und = clrL nt fr l := by
              show (Bool.rec (motive := fun _ => Fr) (clrL nt fr l) _ (Nat.blt d nt)) = _
              have : Nat.blt d nt = false := by rw [← Bool.not_eq_true, Nat.blt_eq]; exact hn
              rw [this]
            rw [this]; exact ih
          · rw [fget_put F.small hdn]; exact ih
    rw [hkeep, Array.getD_eq_getD_getElem?, Array.getElem?_eq_none (by rw [hac.size, F.sz]; omega)]
    have := F.val n
    rw [Array.getD_eq_getD_getElem?, Array.getElem?_eq_none (by rw [F.sz]; omega)] at this
    exact this
end
end Go.Tw
set_option linter.unusedVariables false
set_option linter.unusedSimpArgs false
set_option linter.constructorNameAsVariable false
namespace Go.Tw
/-- What is listed: what came (L), what is known (lC), what is known and has not come (D), what has not come (U), whether the new block has come too early (pd). -/
structure Inv (ops : Array Oper) (S : List Nat) (la : Option Nat) (L : Array Bool) (lC D U : List Nat) (pd : Bool) : Prop where
  size : L.size = ops.size
  lst : ∀ j, j < ops.size → (L.getD j false = true ↔ (j ∈ lC ∧ j ∉ D) ∨ (pd = true ∧ la = some j))
  inC : ∀ j ∈ lC, j < ops.size
  pend : pd = true → ∃ j, la = some j ∧ j ∉ lC ∧ j < ops.size ∧ ∀ d ∈ dep ops j, d ∈ lC ∧ d ∉ D
  dC : ∀ i ∈ D, i ∈ lC ∧ i ∈ S ∧ ∀ d ∈ dep ops i, d ∈ lC ∧ d ≠ i
  nd : D.Nodup
  ord : D.Pairwise fun x y => x ∉ dep ops y
  un : U.Nodup
  unm : ∀ j, j ∈ U ↔ j < ops.size ∧ L.getD j false = false
section
variable {ops : Array Oper} {S : List Nat} {la : Option Nat} {L : Array Bool} {lC D U : List Nat} {pd : Bool}
theorem rdy_iff (I : Inv ops S la L lC D U pd) (j : Nat) : j ∈ Region.ready .any ops L ↔ j ∈ U ∧ ∀ d ∈ dep ops j, L.getD d false = true := by
  have hsz := I.size
  rw [mem_ready]
  constructor
  · rintro ⟨h1, o, ho, h2⟩
    have hj : j < ops.size := (Array.getElem?_eq_some_iff.1 ho).1
    refine ⟨(I.unm j).2 ⟨hj, ?_⟩, fun d hd => ?_⟩
    · rw [Array.getD_eq_getD_getElem?, Array.getElem?_eq_getElem (by omega)] at h1 ⊢
      exact h1
    · unfold dep at hd
      rw [ho] at hd
      simp only [List.mem_map, List.mem_filter] at hd
      obtain ⟨e, ⟨he, hb⟩, rfl⟩ := hd
      exact h2 e (Array.mem_toList_iff.1 he) hb
  · rintro ⟨h1, h2⟩
    obtain ⟨hj, h3⟩ := (I.unm j).1 h1
    refine ⟨?_, ops[j], Array.getElem?_eq_getElem hj, fun e he hb => h2 _ ?_⟩
    · rw [Array.getD_eq_getD_getElem?, Array.getElem?_eq_getElem (by omega)] at h3 ⊢
      exact h3
    · unfold dep
      rw [Array.getElem?_eq_getElem hj]
      exact List.mem_map.2 ⟨e, List.mem_filter.2 ⟨Array.mem_toList_iff.2 he, hb⟩, rfl⟩
theorem set_get {L : Array Bool} {j k : Nat} (hj : j < L.size) : (L.setIfInBounds j true).getD k false = true ↔ k = j ∨ L.getD k false = true := by
  by_cases h : k = j
  · subst h; simp [hj]
  · rw [getD_set_ne false (fun e => h e.symm)]; simp [h]
theorem set_un {L : Array Bool} {j : Nat} (hj : j < L.size) {U : List Nat} {n : Nat} (hs : L.size = n) (un : U.Nodup) (unm : ∀ k, k ∈ U ↔ k < n ∧ L.getD k false = false) (k : Nat) : k ∈ U.erase j ↔ k < n ∧ (L.setIfInBounds j true).getD k false = false := by
  rw [un.mem_erase_iff, unm, ← Bool.not_eq_true ((L.setIfInBounds j true).getD k false), set_get hj, ← Bool.not_eq_true (L.getD k false)]
  simp only [not_or]
  constructor
  · rintro ⟨h1, h2, h3⟩; exact ⟨h2, h1, h3⟩
  · rintro ⟨h1, h2, h3⟩; exact ⟨h2, h1, h3⟩
theorem Inv.notU (I : Inv ops S la L lC D U pd) {j : Nat} (h : j ∈ U) : ¬ ((j ∈ lC ∧ j ∉ D) ∨ (pd = true ∧ la = some j)) := by
  obtain ⟨h1, h2⟩ := (I.unm j).1 h
  intro h3
  rw [(I.lst j h1).2 h3] at h2
  cases h2
theorem Inv.isU (I : Inv ops S la L lC D U pd) {j : Nat} (hj : j < ops.size) (h : ¬ ((j ∈ lC ∧ j ∉ D) ∨ (pd = true ∧ la = some j))) : j ∈ U := by
  refine (I.unm j).2 ⟨hj, ?_⟩
  rw [← Bool.not_eq_true, I.lst j hj]
  exact h
/-- One that is known has come. -/
theorem Inv.came (I : Inv ops S la L lC D U pd) {i : Nat} (hi : i ∈ D) : Inv ops S la (L.setIfInBounds i true) lC (D.erase i) (U.erase i) pd := by
  have hiC := (I.dC i hi).1
  have hil := I.inC i hiC
  have hsz := I.size
  refine ⟨by simp [hsz], fun j hj => ?_, I.inC, fun h => ?_, fun j hj => I.dC j (List.mem_of_mem_erase hj), I.nd.erase i, I.ord.sublist (List.erase_sublist ..), I.un.erase i, set_un (by omega) hsz I.un I.unm⟩
  · rw [set_get (by omega), I.lst j hj]
    by_cases hji : j = i
    · subst hji
      simp only [true_or, true_iff]
      exact .inl ⟨hiC, I.nd.not_mem_erase⟩
    · simp only [hji, false_or, List.mem_erase_of_ne hji]
  · obtain ⟨j, h1, h2, h3, h4⟩ := I.pend h
    exact ⟨j, h1, h2, h3, fun d hd => ⟨(h4 d hd).1, fun hm => (h4 d hd).2 (List.mem_of_mem_erase hm)⟩⟩
/-- One is known. -/
theorem Inv.take (I : Inv ops S la L lC D U pd) {i : Nat} (hi : i ∉ lC) (hl : i < ops.size) (hS : i ∈ S) (hla : la ≠ some i) (hdep : ∀ d ∈ dep ops i, d ∈ lC) : Inv ops S la L (i :: lC) (i :: D) U pd := by
  have hiD : i ∉ D := fun h => hi (I.dC i h).1
  refine ⟨I.size, fun j hj => ?_, fun j hj => ?_, fun h => ?_, fun j hj => ?_, List.nodup_cons.2 ⟨hiD, I.nd⟩, List.pairwise_cons.2 ⟨fun y hy h => hi (((I.dC y hy).2.2 i h).1), I.ord⟩, I.un, I.unm⟩
  · rw [I.lst j hj]
    by_cases hji : j = i
    · subst hji
      simp [hi]
    · simp [hji]
  · rcases List.mem_cons.1 hj with rfl | hj
    · exact hl
    · exact I.inC j hj
  · obtain ⟨j, h1, h2, h3, h4⟩ := I.pend h
    refine ⟨j, h1, fun hm => ?_, h3, fun d hd => ⟨List.mem_cons_of_mem _ (h4 d hd).1, fun hm => ?_⟩⟩
    · rcases List.mem_cons.1 hm with rfl | hm
      · exact hla h1
      · exact h2 hm
    · rcases List.mem_cons.1 hm with rfl | hm
      · exact hi (h4 d hd).1
      · exact (h4 d hd).2 hm
  · rcases List.mem_cons.1 hj with rfl | hj
    · exact ⟨List.mem_cons_self .., hS, fun d hd' => ⟨List.mem_cons_of_mem _ (hdep d hd'), fun e => hi (e ▸ hdep d hd')⟩⟩
    · obtain ⟨h1, h2, h3⟩ := I.dC j hj
      exact ⟨List.mem_cons_of_mem _ h1, h2, fun d hd' => ⟨List.mem_cons_of_mem _ (h3 d hd').1, (h3 d hd').2⟩⟩
/-- One has come and is known. -/
theorem Inv.both (I : Inv ops S la L lC D U pd) {j : Nat} (hj : j ∉ lC) (hl : j < ops.size) (hla : pd = true → la ≠ some j) : Inv ops S la (L.setIfInBounds j true) (j :: lC) D (U.erase j) pd := by
  have hsz := I.size
  have hjD : j ∉ D := fun h => hj (I.dC j h).1
  refine ⟨by simp [hsz], fun x hx => ?_, fun x hx => ?_, fun h => ?_, fun x hx => ?_, I.nd, I.ord, I.un.erase j, set_un (by omega) hsz I.un I.unm⟩
  · rw [set_get (by omega), I.lst x hx]
    by_cases hxj : x = j
    · subst hxj; simp [hjD]
    · simp [hxj]
  · rcases List.mem_cons.1 hx with rfl | hx
    · exact hl
    · exact I.inC x hx
  · obtain ⟨x, h1, h2, h3, h4⟩ := I.pend h
    refine ⟨x, h1, fun hm => ?_, h3, fun d hd => ⟨List.mem_cons_of_mem _ (h4 d hd).1, (h4 d hd).2⟩⟩
    rcases List.mem_cons.1 hm with rfl | hm
    · exact hla h h1
    · exact h2 hm
  · obtain ⟨h1, h2, h3⟩ := I.dC x hx
    exact ⟨List.mem_cons_of_mem _ h1, h2, fun d hd => ⟨List.mem_cons_of_mem _ (h3 d hd).1, (h3 d hd).2⟩⟩
/-- The new block comes too early. -/
theorem Inv.early (I : Inv ops S la L lC D U false) {j : Nat} (hj : j ∉ lC) (hl : j < ops.size) (hla : la = some j) (hd : ∀ d ∈ dep ops j, d ∈ lC ∧ d ∉ D) : Inv ops S la (L.setIfInBounds j true) lC D (U.erase j) true := by
  have hsz := I.size
  refine ⟨by simp [hsz], fun x hx => ?_, I.inC, fun _ => ⟨j, hla, hj, hl, hd⟩, I.dC, I.nd, I.ord, I.un.erase j, set_un (by omega) hsz I.un I.unm⟩
  rw [set_get (by omega), I.lst x hx, hla]
  by_cases hxj : x = j
  · subst hxj; simp
  · have : j ≠ x := fun e => hxj e.symm
    simp [hxj, this]
/-- It is known. -/
theorem Inv.known (I : Inv ops S la L lC D U true) {j : Nat} (hj : j ∉ lC) (hl : j < ops.size) (hla : la = some j) : Inv ops S la L (j :: lC) D U false := by
  have hjD : j ∉ D := fun h => hj (I.dC j h).1
  refine ⟨I.size, fun x hx => ?_, fun x hx => ?_, fun h => (by cases h), fun x hx => ?_, I.nd, I.ord, I.un, I.unm⟩
  · rw [I.lst x hx, hla]
    by_cases hxj : x = j
    · subst hxj; simp [hjD]
    · have : j ≠ x := fun e => hxj e.symm
      simp [hxj, this]
  · rcases List.mem_cons.1 hx with rfl | hx
    · exact hl
    · exact I.inC x hx
  · obtain ⟨h1, h2, h3⟩ := I.dC x hx
    exact ⟨List.mem_cons_of_mem _ h1, h2, fun d hd => ⟨List.mem_cons_of_mem _ (h3 d hd).1, (h3 d hd).2⟩⟩
/-- If something is known that has not come, something may come. -/
theorem Inv.some_rdy (I : Inv ops S la L lC D U pd) (hD : D ≠ []) : Region.ready .any ops L ≠ [] := by
  obtain ⟨D1, i, rfl⟩ : ∃ D1 i, D = D1 ++ [i] := ⟨D.dropLast, D.getLast hD, (List.dropLast_concat_getLast hD).symm⟩
  have hi : i ∈ D1 ++ [i] := by simp
  obtain ⟨h1, h2, h3⟩ := I.dC i hi
  have hr : i ∈ Region.ready .any ops L := by
    rw [rdy_iff I]
    refine ⟨I.isU (I.inC i h1) ?_, fun d hd => ?_⟩
    · rintro (⟨_, h⟩ | ⟨hp, hla⟩)
      · exact h hi
      · obtain ⟨j, g1, g2, _⟩ := I.pend hp
        rw [hla] at g1
        cases g1
        exact g2 h1
    · obtain ⟨g1, g2⟩ := h3 d hd
      refine (I.lst d (I.inC d g1)).2 (.inl ⟨g1, fun hm => ?_⟩)
      rcases List.mem_append.1 hm with hm | hm
      · exact (List.pairwise_append.1 I.ord).2.2 d hm i (by simp) hd
      · exact g2 (by simpa using hm)
  intro h
  rw [h] at hr
  cases hr
end
end Go.Tw
set_option linter.unusedVariables false
set_option linter.unusedSimpArgs false
set_option linter.constructorNameAsVariable false
namespace Go.Tw
section
variable {P : Program} {ι κ : Io} {w0 : World} {B : Bs} {ng nt : Nat} {fr : Fr} {hp : Hp} {a : Act} {w : World}
theorem Ls.same {s : Sem Value} {r : Option AV} {v : AV} {hp hp' : Hp} (h : Tw.same hp r = some (v, hp')) (hs : ∀ v, r = some v → ∃ v', s.run P w = .ok v' w ∧ VR ι v v') : ∃ v', (do pure (.value (← s)) : Sem Next).run P w = .ok (.value v') w ∧ VR ι v v' := by
  obtain ⟨v', h1, h2⟩ := hs v (same_some h).1
  exact ⟨v', by simp only [Sem.run_bind, h1, Result.andThen_ok, Sem.run_pure], h2⟩
/-- An operation that only looks. -/
theorem sop_sil (F : FR ι nt fr a) (G : Gl ng ι) (H : HR ι w0 B hp w) {o : Oper} (ho : pureOp o.op = true ∨ loadOp o.op = true) {v : AV} {hp' : Hp} (h : sop P ng o.op fr hp = some (v, hp')) : ∃ v', (execOp a.eval o).run P w = .ok (.value v') w ∧ VR ι v v' := by
  have E := opd_ok F G
  obtain ⟨dst, op, ty, pos, after, guard⟩ := o
  unfold sop at h
  split at h
  · rename_i s d x hop
    replace hop : op = .convert s d x := hop
    subst hop
    unfold execOp
    exact Ls.same h fun v hr => cvA_ok hr (E x) w
  rename_i hnc
  replace hnc : ∀ s d x, op ≠ .convert s d x := fun s d x e => hnc s d x e
  unfold pop at h
  unfold execOp
  cases op <;> (try simp only [pureOp, loadOp] at ho) <;> (try simp only at h) <;> (try simp only) <;> first
    | (simp at ho; done)
    | (cases h; done)
    | exact absurd rfl (hnc _ _ _)
    | skip
  case move x => cases h; exact ⟨_, rfl, E x⟩
  case pick c x y =>
    obtain ⟨v', h1, h2⟩ := pickA_ok (P := P) (w := w) (same_some h).1 (E c) (E x) (E y)
    refine ⟨v', ?_, h2⟩
    simp only [Sem.run_bind, Sem.run_pure] at h1 ⊢
    cases hb : (asBool (a.eval c)).run P w with
    | ok b w1 => rw [hb] at h1; simp only [Result.andThen_ok] at h1 ⊢; cases h1; rfl
    | halt x w1 => rw [hb] at h1; cases h1
  case build t ps => exact Ls.same h fun v hr => buildA_ok hr (prts_ok' F G ps) w
  case load t x => exact Ls.same h fun v hr => load_ok H hr (E x)
  case nilCheck x =>
    obtain ⟨h1, h2, h3, h4, h5⟩ := nilA_ok (same_some h).1 (E x)
    refine ⟨a.eval x, ?_, h1⟩
    generalize a.eval x = vx at h2 h3 h4 h5
    cases vx <;> first
      | rfl
      | exact absurd rfl h3
      | exact absurd rfl h4
      | skip
    case pointer p => cases p with
      | none => exact absurd rfl h2
      | some p => rfl
    case func f x y => cases f <;> first | rfl | exact absurd rfl (h5 _ _ _)
  case binOp op t x y ty => exact Ls.same h fun v hr => bin_ok hr rfl (E x) (E y) w
  case unOp op t x => exact Ls.same h fun v hr => unA_ok hr (E x) w
  case makeInterface t x => exact Ls.same h fun v hr => ifA_ok hr (E x) w
  case makeFunc f first cs =>
    cases f <;> simp only at h <;> first | (cases h; done) | skip
    split at h
    · rename_i e
      cases h
      have e1 : first = #[] := Array.ext' e
      subst e1
      refine ⟨_, rfl, ?_⟩
      have := VR.fn (f := ‹FuncId›) (a := cs.map a.eval) (l := opds ng fr cs.toList) (ι := ι) (by rw [Array.toList_map]; exact opds_ok F G _)
      simpa using this
    · cases h
  case slice t x lo hi mx => exact Ls.same h fun v hr => slice_ok H hr (E x) (opdO_ok F G lo) (opdO_ok F G hi) (opdO_ok F G mx)
  case fieldAddr t x i => exact Ls.same h fun v hr => fieldAddrA_ok hr (E x) w
  case field t x i => exact Ls.same h fun v hr => fieldA_ok hr (E x) w
  case indexAddr t x i => exact Ls.same h fun v hr => indexAddrA_ok hr (E x) (E i) w
  case index t x i => exact Ls.same h fun v hr => indexO_ok hr (E x) (E i) w
  case lookup t m k ok => exact Ls.same h fun v hr => look_ok H hr (E m) (E k)
  case typeAssert x xt t ok =>
    cases ok with
    | false => cases h
    | true => exact Ls.same h fun v hr => tasA_ok hr (E x) w
  case extract x i => exact Ls.same h fun v hr => extA_ok hr (E x) w
  case call c =>
    obtain ⟨callee, args, ts⟩ := c
    cases callee <;> simp only at h <;> first | (cases h; done) | skip
    rename_i b
    have hv : VL ι (opds ng fr args.toList) (args.map a.eval).toList := by rw [Array.toList_map]; exact opds_ok F G _
    simp only [resolve, Sem.run_bind, Sem.run_pure, Result.andThen_ok, invoke]
    generalize args.map a.eval = vs at hv
    generalize (args.map fun | .const _ => true | _ => false) = cs
    unfold builtA at h
    split at h
    · simp at ho
    · rename_i t x e e'
      rw [e'] at hv
      rw [onel e]
      have hvs : ∃ v1, vs.toList = [v1] ∧ VR ι x v1 := by
        generalize vs.toList = l at hv
        cases hv with
        | cons h1 h2 => cases h2; exact ⟨_, rfl, h1⟩
      obtain ⟨v1, e2, h1⟩ := hvs
      rw [onel e2]
      exact Ls.same h fun v hr => len_ok H hr h1
    · exact Ls.same h fun v hr => mm_ok (mx := false) hr hv ts ty
    · exact Ls.same h fun v hr => mm_ok (mx := true) hr hv ts ty
    · cases h
/-- In which world the rest is looked at: a block that came too early is hidden. -/
inductive Bse (P : Program) (ng : Nat) (ops : Array Oper) (la : Option Nat) (w0 : World) (B : Bs) (ι : Io) (fr : Fr) (a : Act) : Bool → World → Bs → Prop
  | no : Bse P ng ops la w0 B ι fr a false w0 B
  | pend {j : Nat} {o : Oper} {wp : World} {obj : Obj} {v : Value} {e : Ent} {m : LK} {ι1 : Io} {hp1 : Hp} (hla : la = some j) (ho : ops[j]? = some o) (H : HR ι1 w0 B hp1 wp) (hk : ι1.le ι) (hL : LatR ι1 obj v wp.heap.size e m) (hl : latV P ng o.op fr = some (e, m)) (hv : ∀ d, o.dst = some d → d < a.tmps.size → a.tmps[d]? = some v) : Bse P ng ops la w0 B ι fr a true (wp.alloc obj) (B.hide w0 wp.heap.size)
section
variable {ops : Array Oper} {la : Option Nat} {pd : Bool} {wb : World} {Bb : Bs}
theorem Bse.hr (h : Bse P ng ops la w0 B ι fr a pd wb Bb) (H : HR κ wb Bb hp w) : HR κ w0 B hp w := by
  cases h with
  | no => exact H
  | pend hla ho H1 _ _ _ _ => exact (HR.unhide H1 H).1
theorem Bse.mark (h : Bse P ng ops la w0 B ι fr a pd wb Bb) : Bb.mark = B.mark := by cases h <;> rfl
theorem Bse.mono (h : Bse P ng ops la w0 B ι fr a pd wb Bb) (hk : ι.le κ) : Bse P ng ops la w0 B κ fr a pd wb Bb := by
  cases h with
  | no => exact .no
  | pend hla ho H1 k1 k2 k3 k4 => exact .pend hla ho H1 (k1.trans hk) k2 k3 k4
theorem Bse.putF (hs : nt < 16000000) (h : Bse P ng ops la w0 B ι fr a pd wb Bb) {dst : Option Nat} {v : AV} (hd : pd = true → ∀ l, la = some l → ∀ d, dst = some d → d ∉ looksO ops l) : Bse P ng ops la w0 B ι (setD nt fr dst v) a pd wb Bb := by
  cases h with
  | no => exact .no
  | pend hla ho H1 k1 k2 k3 k4 =>
    refine .pend hla ho H1 k1 k2 ?_ k4
    rw [lat_put (ops := ops) hs (by rw [← looks_of ho]; exact hd rfl _ hla)]
    exact k3
theorem Bse.putA {a' : Act} (h : Bse P ng ops la w0 B ι fr a pd wb Bb) {dst : Option Nat} (hK : Kp a a' dst) (hd : pd = true → ∀ l, la = some l → ∀ d, dstO ops l = some d → dst ≠ some d) : Bse P ng ops la w0 B ι fr a' pd wb Bb := by
  cases h with
  | no => exact .no
  | pend hla ho H1 k1 k2 k3 k4 =>
    refine .pend hla ho H1 k1 k2 k3 fun d h1 h2 => ?_
    rw [hK.2 d (hd rfl _ hla d (by rw [dst_of ho]; exact h1))]
    exact k4 d h1 (by rw [hK.1] at h2; exact h2)
end
section
variable {ops : Array Oper} {p : Pln} {L : Array Bool} {lC D U : List Nat} {pd : Bool}
theorem not_D {S : List Nat} {la : Option Nat} (I : Inv ops S la L lC D U pd) {j k : Nat} (hr : j ∈ Region.ready .any ops L) (h : k ∈ dep ops j) (hk : k ∈ D) : False := by
  obtain ⟨hu, hd⟩ := (rdy_iff I j).1 hr
  have hkC := (I.dC k hk).1
  rcases (I.lst k (I.inC k hkC)).1 (hd k h) with ⟨_, g⟩ | ⟨g1, g2⟩
  · exact g hk
  · obtain ⟨l, k1, k2, _⟩ := I.pend g1
    rw [g2] at k1
    cases k1
    exact k2 hkC
theorem apt_D (hP : PlanP ops p) (I : Inv ops (tks p.st) p.la L lC D U pd) {i j : Nat} (hi : i ∈ D) (hj : j ∉ lC) (hr : j ∈ Region.ready .any ops L) : Apt ops i j := by
  obtain ⟨h1, h2, h3⟩ := I.dC i hi
  have hjs := ((I.unm j).1 ((rdy_iff I j).1 hr).1).1
  rcases hP.pr i h2 j hjs with e | h | h | h
  · exact absurd (e ▸ h1) hj
  · exact absurd (h3 j h).1 hj
  · exact (not_D I hr h hi).elim
  · exact h
theorem apt_L (hP : PlanP ops p) {l j : Nat} (hl : p.la = some l) (hlC : l ∉ lC) (hdl : ∀ d ∈ dep ops l, d ∈ lC) (hj : j ∉ lC) (hjs : j < ops.size) (hne : j ≠ l) (hdj : ∀ d ∈ dep ops j, d ∈ lC) : Apt ops l j := by
  rcases ((hP.la l hl).2 j hjs hne).1 with h | h | h
  · exact absurd (hdl j h) hj
  · exact absurd (hdj l h) hlC
  · exact h
theorem apt_LD (hP : PlanP ops p) (I : Inv ops (tks p.st) p.la L lC D U pd) {l i : Nat} (hl : p.la = some l) (hlC : l ∉ lC) (hi : i ∈ D) (hdl : i ∉ dep ops l) : Apt ops l i := by
  obtain ⟨h1, h2, h3⟩ := I.dC i hi
  rcases ((hP.la l hl).2 i (I.inC i h1) (fun e => hlC (e ▸ h1))).1 with h | h | h
  · exact absurd h hdl
  · exact absurd (h3 l h).1 hlC
  · exact h
/-- The slots that are known and not there yet. -/
def Xs (ops : Array Oper) (la : Option Nat) (D : List Nat) (pd : Bool) (n : Nat) : Prop := (∃ i ∈ D, dstO ops i = some n) ∨ (pd = true ∧ ∃ l, la = some l ∧ dstO ops l = some n)
theorem X_D (hP : PlanP ops p) (I : Inv ops (tks p.st) p.la L lC D U pd) {i : Nat} (hi : i ∈ D) (hr : i ∈ Region.ready .any ops L) : ∀ n ∈ looksO ops i, ¬ Xs ops p.la D pd n := by
  intro n hn hx
  obtain ⟨h1, h2, h3⟩ := I.dC i hi
  rcases hx with ⟨k, hk, hd⟩ | ⟨hpd, l, hl, hd⟩
  · by_cases hik : i = k
    · subst hik; exact hP.own i h2 n hd hn
    · obtain ⟨k1, k2, k3⟩ := I.dC k hk
      rcases hP.pr i h2 k (I.inC k k1) with e | h | h | h
      · exact hik e
      · exact not_D I hr h hk
      · exact (hP.prB i h2 k k2 hik h n hd).1 hn
      · exact h.b n hd hn
  · obtain ⟨l', g1, g2, g3, g4⟩ := I.pend hpd
    rw [hl] at g1
    cases g1
    exact (apt_LD hP I hl g2 hi (fun h => (g4 i h).2 hi)).a n hd hn
theorem X_E (hP : PlanP ops p) (I : Inv ops (tks p.st) p.la L lC D U pd) {j : Nat} (hj : j ∉ lC) (hr : j ∈ Region.ready .any ops L) (hdj : ∀ d ∈ dep ops j, d ∈ lC) (hla : pd = true → p.la ≠ some j) : ∀ n ∈ looksO ops j, ¬ Xs ops p.la D pd n := by
  intro n hn hx
  have hjs := ((I.unm j).1 ((rdy_iff I j).1 hr).1).1
  rcases hx with ⟨k, hk, hd⟩ | ⟨hpd, l, hl, hd⟩
  · exact (apt_D hP I hk hj hr).a n hd hn
  · obtain ⟨l', g1, g2, g3, g4⟩ := I.pend hpd
    rw [hl] at g1
    cases g1
    exact (apt_L hP hl g2 (fun d h => (g4 d h).1) hj hjs (fun e => hla hpd (by rw [e]; exact hl)) hdj).a n hd hn
theorem plOk_sil (la : Option Nat) : ∀ (st : List Stp) (lC : List Nat), plOk ops la lC st = true → ∀ i ∈ tks st, silO ops i = true
  | [], _, _, i, h => by cases h
  | .tk j :: r, lC, h, i, hi => by
    unfold plOk at h
    simp only [Bool.and_eq_true] at h
    obtain ⟨⟨⟨⟨⟨h1, h2⟩, h3⟩, h4⟩, h5⟩, h6⟩ := h
    rcases List.mem_cons.1 hi with rfl | hi
    · exact h3
    · exact plOk_sil la r _ h6 i hi
  | .ef j c rs :: r, lC, h, i, hi => by
    unfold plOk at h
    simp only [Bool.and_eq_true] at h
    exact plOk_sil la r _ h.2 i hi
  | .al j rs :: r, lC, h, i, hi => by
    unfold plOk at h
    simp only [Bool.and_eq_true] at h
    exact plOk_sil la r _ h.2 i hi
  | .tw j k c rs :: r, lC, h, i, hi => by
    unfold plOk at h
    simp only [Bool.and_eq_true] at h
    exact plOk_sil la r _ h.2.2 i hi
end
end
end Go.Tw
set_option linter.unusedVariables false
set_option linter.unusedSimpArgs false
set_option linter.constructorNameAsVariable false
namespace Go.Tw
section
variable {P : Program} {ι0 ι : Io} {w0 : World} {B : Bs} {ng nt : Nat} {call : CallT} {ops : Array Oper} {p : Pln} {k : KF} {pn : Fr → List AV → KV}
abbrev DQ (ι0 : Io) (w0 : World) (B : Bs) (ng nt : Nat) (k : KF) (pn : Fr → List AV → KV) : Exit → Act → World → Prop := PQ ι0 w0 B ng nt k (fun _ _ _ _ => false) (fun _ _ _ => false) pn
/-- What is so in the midst of a region; n are still to come. -/
structure Mid (P : Program) (ng nt : Nat) (call : CallT) (ops : Array Oper) (p : Pln) (k : KF) (pn : Fr → List AV → KV) (ι0 : Io) (w0 : World) (B : Bs) (n : Nat) (st : List Stp) (L : Array Bool) (lC D U : List Nat) (pd : Bool) (ι : Io) (fr : Fr) (df : List AV) (hp : Hp) (a c : Act) (w wb : World) (Bb : Bs) : Prop where
  inv : Inv ops (tks p.st) p.la L lC D U pd
  len : U.length = n
  ok : plOk ops p.la lC st = true
  sub : ∀ i ∈ tks st, i ∈ tks p.st
  bse : Bse P ng ops p.la w0 B ι fr a pd wb Bb
  sr : SR ι0 wb Bb ng nt ι fr df hp c w
  ac : AC (Xs ops p.la D pd) a c
  dc : ∀ i ∈ D, DC P ng nt ops fr hp i
  reg : regD P ng nt call ops p.la pn k st fr df hp = true
def Main (P : Program) (ng nt : Nat) (call : CallT) (ops : Array Oper) (p : Pln) (k : KF) (pn : Fr → List AV → KV) (ι0 : Io) (w0 : World) (B : Bs) (n : Nat) (st : List Stp) : Prop :=
  ∀ L lC D U pd ι fr df hp a c w wb Bb, Mid P ng nt call ops p k pn ι0 w0 B n st L lC D U pd ι fr df hp a c w wb Bb → wpAny P .any ops (DQ ι0 w0 B ng nt k pn) n L a w
variable {n : Nat} {st : List Stp} {L : Array Bool} {lC D U : List Nat} {pd : Bool} {fr : Fr} {df : List AV} {hp : Hp} {a c : Act} {w wb : World} {Bb : Bs}
theorem put_df (a : Act) (d : Option Nat) (v : Value) : (a.put d v).defers = a.defers := by cases d <;> rfl
theorem er_len {U : List Nat} {i : Nat} (h : i ∈ U) {n : Nat} (hn : U.length = n + 1) : (U.erase i).length = n := by rw [List.length_erase_of_mem h]; omega
/-- One that is known comes. -/
theorem step_D (hP : PlanP ops p) (hM : Main P ng nt call ops p k pn ι0 w0 B n st) (M : Mid P ng nt call ops p k pn ι0 w0 B (n + 1) st L lC D U pd ι fr df hp a c w wb Bb) {i : Nat} (hi : i ∈ D) (hr : i ∈ Region.ready .any ops L) :
    wpOp P ops (DQ ι0 w0 B ng nt k pn) i (wpAny P .any ops (DQ ι0 w0 B ng nt k pn) n (L.setIfInBounds i true)) a w := by
  obtain ⟨I, hU, hok, hsub, hb, S, hac, hdc, hreg⟩ := M
  obtain ⟨o, ho, h⟩ := hdc i hi
  obtain ⟨d1, d2, d3⟩ := I.dC i hi
  have hx : ∀ n ∈ o.looksAt ops, ¬ Xs ops p.la D pd n := by rw [← looks_of ho]; exact X_D hP I hi hr
  have hw : Region.wanted o (yielded ops a.tmps) = Region.wanted o (yielded ops c.tmps) := hac.wanted hx
  have hdst : ∀ m, Xs ops p.la D pd m ∧ o.dst ≠ some m → Xs ops p.la (D.erase i) pd m := by
    rintro m ⟨h1 | h1, h2⟩
    · obtain ⟨q, h3, h4⟩ := h1
      refine .inl ⟨q, ?_, h4⟩
      rw [I.nd.mem_erase_iff]
      exact ⟨fun e => h2 (by rw [← dst_of ho, ← e]; exact h4), h3⟩
    · exact .inr h1
  have key : ∀ (v : AV) (v' : Value), VR ι v v' → (∀ d, o.dst = some d → d < nt → fget fr d = v) → wpAny P .any ops (DQ ι0 w0 B ng nt k pn) n (L.setIfInBounds i true) (a.put o.dst v') w := by
    intro v v' hv hg
    refine hM _ lC (D.erase i) (U.erase i) pd ι fr df hp _ (c.put o.dst v') w wb Bb ⟨I.came hi, er_len ((rdy_iff I i).1 hr).1 hU, hok, hsub, hb.putA (kp_put a _ o.dst v') ?_, ⟨S.le, S.fr.reput ?_, ?_, S.gl, S.hr⟩, (hac.put o.dst v').mono hdst, fun q hq => hdc q (List.mem_of_mem_erase hq), hreg⟩
    · intro hpd l hl d hd
      obtain ⟨l', g1, g2, _⟩ := I.pend hpd
      rw [hl] at g1
      cases g1
      rw [← dst_of ho]
      exact ((hP.la l hl).2 i (I.inC i d1) (fun e => g2 (e ▸ d1))).2 d hd
    · intro m hm hn
      rw [hg m hm hn]
      exact hv
    · rw [put_df]; exact S.df
  unfold wpOp
  rw [ho]
  simp only
  rcases h with ⟨g1, g2⟩ | ⟨g1, v, g2, g3⟩
  · rw [hw, want_ok S.fr g1, if_neg (by simp)]
    exact key _ _ (undef_tup ι) g2
  · rw [hw, want_ok S.fr g1, if_pos rfl]
    have hs := plOk_sil p.la p.st [] hP.ok i d2
    unfold silO at hs
    rw [ho] at hs
    simp only [Bool.or_eq_true] at hs
    obtain ⟨v', r1, r2⟩ := sop_sil S.fr S.gl S.hr hs g2
    refine .inl ?_
    unfold Oper.wp
    rw [hac.exec (fun cs b => hP.sel i o cs b ho) hx, r1, Oper.upon_value]
    exact key v v' r2 g3
/-- The new block comes, early or not. -/
theorem step_L (hP : PlanP ops p) (hM : Main P ng nt call ops p k pn ι0 w0 B n st) (M : Mid P ng nt call ops p k pn ι0 w0 B (n + 1) st L lC D U false ι fr df hp a c w wb Bb) {i : Nat} (hla : p.la = some i) (hi : i ∉ lC) (hr : i ∈ Region.ready .any ops L) {o : Oper} (ho : ops[i]? = some o) {e : Ent} {m : LK} (hl : latV P ng o.op fr = some (e, m)) :
    wpOp P ops (DQ ι0 w0 B ng nt k pn) i (wpAny P .any ops (DQ ι0 w0 B ng nt k pn) n (L.setIfInBounds i true)) a w := by
  obtain ⟨I, hU, hok, hsub, hb, S, hac, hdc, hreg⟩ := M
  obtain ⟨hu, hd⟩ := (rdy_iff I i).1 hr
  have hil := ((I.unm i).1 hu).1
  have hdep : ∀ d ∈ dep ops i, d ∈ lC ∧ d ∉ D := by
    intro d hdd
    have hL := hd d hdd
    have hds : d < ops.size := by
      rcases Nat.lt_or_ge d ops.size with h | h
      · exact h
      · rw [Array.getD_eq_getD_getElem?, Array.getElem?_eq_none (by rw [I.size]; exact h)] at hL; cases hL
    rcases (I.lst d hds).1 hL with h | ⟨h, _⟩
    · exact h
    · cases h
  have hx : ∀ n ∈ o.looksAt ops, ¬ Xs ops p.la D false n := by
    rw [← looks_of ho]
    exact X_E hP I hi hr (fun d h => (hdep d h).1) (fun h => by cases h)
  cases hb
  obtain ⟨obj, v, r1, r2⟩ := lat_ok S.fr S.gl hl w
  obtain ⟨⟨o', ho', hg⟩, _⟩ := hP.la i hla
  rw [ho] at ho'
  cases ho'
  unfold wpOp
  rw [ho]
  have hw : Region.wanted o (yielded ops a.tmps) = true := by unfold Region.wanted; rw [hg]
  simp only [hw, if_true]
  refine .inl ?_
  unfold Oper.wp
  rw [hac.exec (fun cs b => hP.sel i o cs b ho) hx, r1, Oper.upon_value]
  refine hM _ lC D (U.erase i) true ι fr df hp _ c (w.alloc obj) (w.alloc obj) (B.hide w0 w.heap.size) ⟨I.early hi hil hla hdep, er_len hu hU, hok, hsub, .pend hla ho S.hr (.refl _) r2 hl ?_, ⟨S.le, S.fr, S.df, S.gl, S.hr.alloc obj⟩, ?_, hdc, hreg⟩
  · intro d h1 h2
    rw [h1] at h2 ⊢
    simp only [Act.put, Array.size_setIfInBounds] at h2 ⊢
    exact Array.getElem?_setIfInBounds_self_of_lt h2
  · have hK := kp_put a a.defers o.dst v
    refine ⟨hK.1.trans hac.size, by rw [put_df]; exact hac.defers, fun q hq => ?_⟩
    rw [show (a.put o.dst v).tmps[q]? = a.tmps[q]? from hK.2 q (fun e => hq (.inr ⟨rfl, i, hla, by rw [dst_of ho]; exact e⟩))]
    refine hac.val q fun h => hq ?_
    rcases h with h | ⟨h, _⟩
    · exact .inl h
    · cases h
/-- An effect comes. -/
theorem step_E (hC : CallOk P ng call) (hP : PlanP ops p) {j : Nat} {cf : Bool} {rs : List Nat} {r st : List Stp} (hM : Main P ng nt call ops p k pn ι0 w0 B n r) (M : Mid P ng nt call ops p k pn ι0 w0 B (n + 1) st L lC D U pd ι fr df hp a c w wb Bb) (hE : EfC ops p.la lC j cf rs) (p8 : plOk ops p.la (j :: lC) r = true) (hsub : ∀ i ∈ tks r, i ∈ tks p.st) (hreg : efD P ng nt call ops p.la pn j cf rs (regD P ng nt call ops p.la pn k r) fr df hp = true) (hr : j ∈ Region.ready .any ops L) :
    wpOp P ops (DQ ι0 w0 B ng nt k pn) j (wpAny P .any ops (DQ ι0 w0 B ng nt k pn) n (L.setIfInBounds j true)) a w := by
  obtain ⟨I, hU, _, _, hb, S, hac, hdc, _⟩ := M
  obtain ⟨hj, hjs, hjla, hdj, p6, _⟩ := hE
  have hu := ((rdy_iff I j).1 hr).1
  have hx' := X_E hP I hj hr hdj (fun _ => hjla)
  unfold efD at hreg
  rw [Bool.and_eq_true] at hreg
  replace hreg := hreg.2
  split at hreg
  case h_2 => cases hreg
  rename_i o ho
  have hx : ∀ n ∈ o.looksAt ops, ¬ Xs ops p.la D pd n := by rw [← looks_of ho]; exact hx'
  have hw : Region.wanted o (yielded ops a.tmps) = Region.wanted o (yielded ops c.tmps) := hac.wanted hx
  -- what has to do with one another
  have hapD : ∀ i ∈ D, Apt ops i j := fun i hi => apt_D hP I hi hj hr
  have hapL : pd = true → ∀ l, p.la = some l → Apt ops l j ∧ ∀ d, dstO ops l = some d → dstO ops j ≠ some d := by
    intro hpd l hl
    obtain ⟨l', g1, g2, g3, g4⟩ := I.pend hpd
    rw [hl] at g1
    cases g1
    have hne : j ≠ l := fun e => hjla (by rw [e]; exact hl)
    exact ⟨apt_L hP hl g2 (fun d h => (g4 d h).1) hj hjs hne hdj, ((hP.la l hl).2 j hjs hne).2⟩
  have I' := I.both hj hjs (fun _ => hjla)
  have hU' := er_len hu hU
  have hput : ∀ (v : AV) (i : Nat), i ∈ D → ∀ hp', (DC P ng nt ops fr hp' i → DC P ng nt ops (setD nt fr o.dst v) hp' i) := fun v i hi hp' h =>
    h.put S.fr.small (fun d hd => (hapD i hi).b d (by rw [dst_of ho]; exact hd)) (fun d hd e => (hapD i hi).c d e (by rw [dst_of ho]; exact hd))
  have hbF : ∀ (κ : Io) (v : AV) (a' : Act), ι.le κ → Kp a a' o.dst → Bse P ng ops p.la w0 B κ (setD nt fr o.dst v) a' pd wb Bb := fun κ v a' hk hK =>
    ((hb.mono hk).putF S.fr.small (fun hpd l hl d hd => (hapL hpd l hl).1.b d (by rw [dst_of ho]; exact hd))).putA hK (fun hpd l hl d hd => by rw [← dst_of ho]; exact (hapL hpd l hl).2 d hd)
  have hacm : ∀ {a' c' : Act}, AC (fun n => Xs ops p.la D pd n ∧ o.dst ≠ some n) a' c' → AC (Xs ops p.la D pd) a' c' := fun h => h.mono fun n hn => hn.1
  unfold wpOp
  rw [ho]
  simp only
  split at hreg
  · rename_i hwant
    rw [hw, want_ok S.fr hwant, if_pos rfl]
    refine .inl ?_
    have S1 : SR ι wb Bb ng nt ι fr df hp c w := ⟨.refl _, S.fr, S.df, S.gl, S.hr⟩
    have h1 := xop_ok hC S1 hreg
      (next := fun c' w' => ∃ κ v df' hp', SR ι wb Bb ng nt κ (setD nt fr o.dst v) df' hp' c' w' ∧ (rck P ng ops (setD nt fr o.dst v) hp' rs && regD P ng nt call ops p.la pn k r (setD nt fr o.dst v) df' hp') = true)
      (Q := fun e c' w' => ∃ κ v vv hp', e = .panic [{ v := vv, recovered := false }] ∧ SR ι wb Bb ng nt κ fr df hp' c' w' ∧ VR κ v vv ∧ pn (clrL nt fr ops.toList) df v hp' = true)
      (fun κ v df' hp' c' w' S' h' => ⟨κ, v, df', hp', S', h'⟩)
      (fun κ v vv hp' w' S' hv h' => ⟨κ, v, vv, hp', rfl, S', hv, h'⟩)
    refine wp_other (hac.exec (fun cs b => hP.sel j o cs b ho) hx) hac ?_ ?_ ?_ h1
    · rintro a' c' w' hac' hK ⟨κ, v, df', hp', S', h'⟩
      rw [Bool.and_eq_true] at h'
      refine hM _ (j :: lC) D (U.erase j) pd κ (setD nt fr o.dst v) df' hp' a' c' w' wb Bb ⟨I', hU', p8, hsub, hbF κ v a' S'.le hK, ⟨S.le.trans S'.le, S'.fr, S'.df, S'.gl, S'.hr⟩, hacm hac', fun i hi => ?_, h'.2⟩
      have hd1 := hput v i hi hp (hdc i hi)
      refine hd1.mem (plOk_sil p.la p.st [] hP.ok i (I.dC i hi).2.1) h'.1 fun hl => ?_
      have h6 := p6 i (I.dC i hi).1
      unfold rsOk at h6
      simp only [Bool.or_eq_true, hl, Bool.not_true] at h6
      rcases h6 with (h6 | h6) | h6
      · cases h6
      · exact (not_D I hr ((isIn_iff _ _).1 h6) hi).elim
      · exact (isIn_iff _ _).1 h6
    · rintro ch w' ⟨κ, v, vv, hp', e, S', hv, h'⟩
      cases e
      refine ⟨κ, clrL nt fr ops.toList, df, hp', v, vv, ⟨S.le.trans S'.le, clr_ok S'.fr hac ops.toList ?_, by rw [hac.defers, ← hb.mark]; exact S'.df, S'.gl, hb.hr S'.hr⟩, rfl, hv, h'⟩
      have hmem : ∀ q n, dstO ops q = some n → ∃ o ∈ ops.toList, o.dst = some n := by
        intro q n hq
        unfold dstO at hq
        cases hoq : ops[q]? with
        | none => rw [hoq] at hq; cases hq
        | some oq =>
          rw [hoq] at hq
          exact ⟨oq, List.mem_of_getElem? (i := q) (by simpa using hoq), hq⟩
      rintro n (⟨q, _, hq⟩ | ⟨_, q, _, hq⟩)
      · exact hmem q n hq
      · exact hmem q n hq
    · rintro a w ⟨_, _, _, _, e, _⟩
      cases e
  · rename_i hwant
    rw [hw, want_ok S.fr hwant, if_neg (by simp)]
    exact hM _ (j :: lC) D (U.erase j) pd ι (setD nt fr o.dst (.tup [])) df hp _ (c.put o.dst undef) w wb Bb ⟨I', hU', p8, hsub, hbF ι _ _ (.refl _) (kp_put a _ o.dst undef), S.put (.refl _) o.dst (undef_tup ι) S.hr, hacm (hac.put o.dst undef), fun i hi => hput _ i hi hp (hdc i hi), hreg⟩
  · cases hreg
end
end Go.Tw
set_option linter.unusedVariables false
set_option linter.unusedSimpArgs false
set_option linter.constructorNameAsVariable false
namespace Go.Tw
section
variable {P : Program} {ι0 ι : Io} {w0 : World} {B : Bs} {ng nt : Nat} {call : CallT} {ops : Array Oper} {p : Pln} {k : KF} {pn : Fr → List AV → KV}
variable {n : Nat} {st : List Stp} {L : Array Bool} {lC D U : List Nat} {pd : Bool} {fr : Fr} {df : List AV} {hp : Hp} {a c : Act} {w wb : World} {Bb : Bs}
theorem subL_of : ∀ (l m : List Nat), (∀ i ∈ l, i ∈ m) → subL l m = true
  | [], _, _ => rfl
  | i :: l, m, h => by rw [subL, Bool.and_eq_true]; exact ⟨(isIn_iff _ _).2 (h i (List.mem_cons_self ..)), subL_of l m fun j hj => h j (List.mem_cons_of_mem _ hj)⟩
theorem in_D {S : List Nat} {la : Option Nat} (I : Inv ops S la L lC D U pd) {i : Nat} (hi : i ∈ lC) (hu : i ∈ U) : i ∈ D := by
  by_cases h : i ∈ D
  · exact h
  · exact absurd (.inl ⟨hi, h⟩) (I.notU hu)
theorem D_U {S : List Nat} {la : Option Nat} (I : Inv ops S la L lC D U pd) {i : Nat} (hi : i ∈ D) : i ∈ U := by
  have h1 := (I.dC i hi).1
  refine I.isU (I.inC i h1) ?_
  rintro (⟨_, h⟩ | ⟨hp, hla⟩)
  · exact h hi
  · obtain ⟨j, g1, g2, _⟩ := I.pend hp
    rw [hla] at g1
    cases g1
    exact g2 h1
/-- Who may come when it is j's turn. -/
theorem who1 {la : Option Nat} {S : List Nat} (I : Inv ops S la L lC D U pd) {j q : Nat} (ho : othersB ops la lC j q = true) (hq : q ∈ Region.ready .any ops L) : q ∈ D ∨ q = j ∨ (la = some q ∧ q ∉ lC ∧ pd = false) := by
  obtain ⟨hu, hd⟩ := (rdy_iff I q).1 hq
  have hqs := ((I.unm q).1 hu).1
  rcases others_spec ops ho with h | h | h | ⟨d, h1, h2, h3⟩
  · exact .inl (in_D I h hu)
  · exact .inr (.inl h)
  · by_cases hqC : q ∈ lC
    · exact .inl (in_D I hqC hu)
    · refine .inr (.inr ⟨h, hqC, ?_⟩)
      cases pd with
      | false => rfl
      | true => exact absurd (.inr ⟨rfl, h⟩) (I.notU hu)
  · have hL := hd d h1
    have hds : d < ops.size := by
      rcases Nat.lt_or_ge d ops.size with h | h
      · exact h
      · rw [Array.getD_eq_getD_getElem?, Array.getElem?_eq_none (by rw [I.size]; exact h)] at hL; cases hL
    rcases (I.lst d hds).1 hL with ⟨h, _⟩ | ⟨_, h⟩
    · exact absurd h h2
    · exact absurd h h3
theorem who {la : Option Nat} {S : List Nat} (I : Inv ops S la L lC D U pd) {j : Nat} (ho : allN (othersB ops la lC j) (List.range ops.size) = true) {q : Nat} (hq : q ∈ Region.ready .any ops L) : q ∈ D ∨ q = j ∨ (la = some q ∧ q ∉ lC ∧ pd = false) :=
  who1 I (allN_mem _ _ ho q (List.mem_range.2 ((I.unm q).1 ((rdy_iff I q).1 hq).1).1)) hq
/-- The new block that comes early is one that may. -/
theorem early {la : Option Nat} {S : List Nat} (I : Inv ops S la L lC D U false) {q j : Nat} {cf : Bool} {rs : List Nat} {kk : KF} {df : List AV} (hc : cf = true ∨ laC ops la lC = true) (h1 : la = some q) (h2 : q ∉ lC) (hq : q ∈ Region.ready .any ops L) (hreg : efD P ng nt call ops la pn j cf rs kk fr df hp = true) : ∃ o e m, ops[q]? = some o ∧ latV P ng o.op fr = some (e, m) := by
  have hdq : ∀ d ∈ dep ops q, d ∈ lC := by
    intro d hdd
    have hL := ((rdy_iff I q).1 hq).2 d hdd
    have hds : d < ops.size := by
      rcases Nat.lt_or_ge d ops.size with h | h
      · exact h
      · rw [Array.getD_eq_getD_getElem?, Array.getElem?_eq_none (by rw [I.size]; exact h)] at hL; cases hL
    rcases (I.lst d hds).1 hL with ⟨h, _⟩ | ⟨h, _⟩
    · exact h
    · cases h
  unfold efD at hreg
  rw [Bool.and_eq_true] at hreg
  have hf : cf = true := by
    rcases hc with h | h
    · exact h
    · unfold laC at h
      rw [h1] at h
      simp only [Bool.or_eq_true] at h
      rcases h with h | h
      · exact absurd ((isIn_iff _ _).1 h) h2
      · rw [subL_of _ _ hdq] at h; cases h
  have hlv := hreg.1
  rw [hf] at hlv
  simp only [Bool.not_true, Bool.false_or] at hlv
  unfold laV at hlv
  rw [h1] at hlv
  simp only at hlv
  split at hlv
  case h_2 => cases hlv
  rename_i o ho
  split at hlv
  case h_2 => cases hlv
  rename_i em hem
  obtain ⟨e, m⟩ := em
  exact ⟨o, e, m, ho, hem⟩
/-- Who may come when it is the new block's turn. -/
theorem whoL {la : Option Nat} {S : List Nat} (I : Inv ops S la L lC D U false) {j : Nat} (ho : allN (othersB ops none lC j) (List.range ops.size) = true) {q : Nat} (hq : q ∈ Region.ready .any ops L) : q ∈ D ∨ q = j := by
  obtain ⟨hu, hd⟩ := (rdy_iff I q).1 hq
  have hqs := ((I.unm q).1 hu).1
  rcases others_spec ops (allN_mem _ _ ho q (List.mem_range.2 hqs)) with h | h | h | ⟨d, h1, h2, h3⟩
  · exact .inl (in_D I h hu)
  · exact .inr h
  · cases h
  · have hL := hd d h1
    have hds : d < ops.size := by
      rcases Nat.lt_or_ge d ops.size with h | h
      · exact h
      · rw [Array.getD_eq_getD_getElem?, Array.getElem?_eq_none (by rw [I.size]; exact h)] at hL; cases hL
    rcases (I.lst d hds).1 hL with ⟨h, _⟩ | ⟨h, _⟩
    · exact absurd h h2
    · cases h
/-- Somebody may come. -/
theorem some_may {la : Option Nat} {S : List Nat} (I : Inv ops S la L lC D U pd) {j : Nat} (hj : j ∉ lC) (hjs : j < ops.size) (hla : pd = true → la ≠ some j) (hdj : ∀ d ∈ dep ops j, d ∈ lC) : Region.ready .any ops L ≠ [] := by
  by_cases hD : D = []
  · subst hD
    intro h
    have : j ∈ Region.ready .any ops L := by
      rw [rdy_iff I]
      refine ⟨I.isU hjs ?_, fun d hd => (I.lst d (I.inC d (hdj d hd))).2 (.inl ⟨hdj d hd, by simp⟩)⟩
      rintro (⟨h, _⟩ | ⟨h1, h2⟩)
      · exact hj h
      · exact hla h1 h2
    rw [h] at this
    cases this
  · exact I.some_rdy hD
theorem drw_main (hC : CallOk P ng call) (hP : PlanP ops p) : ∀ (n : Nat) (st : List Stp), Main P ng nt call ops p k pn ι0 w0 B n st := by
  intro n
  induction n using Nat.strongRecOn with
  | ind n ihn =>
  intro st
  induction st with
  | nil =>
    intro L lC D U pd ι fr df hp a c w wb Bb M
    have I := M.inv
    have hall : ∀ q, q < ops.size → q ∈ lC := fun q hq => (isIn_iff _ _).1 (allN_mem _ _ M.ok q (List.mem_range.2 hq))
    have hpd : pd = false := by
      cases pd with
      | false => rfl
      | true =>
        obtain ⟨j, _, h2, h3, _⟩ := I.pend rfl
        exact absurd (hall j h3) h2
    subst hpd
    have fin : D = [] → DQ ι0 w0 B ng nt k pn .normal a w := by
      intro hD
      subst hD
      have S := M.sr
      refine ⟨ι, fr, df, hp, ⟨S.le, ?_, by rw [M.ac.defers, ← M.bse.mark]; exact S.df, S.gl, M.bse.hr S.hr⟩, M.reg⟩
      refine clr_ok S.fr M.ac [] ?_
      rintro n (⟨q, hq, _⟩ | ⟨h, _⟩)
      · cases hq
      · cases h
    cases n with
    | zero =>
      have hU : U = [] := List.eq_nil_of_length_eq_zero M.len
      subst hU
      refine ⟨List.eq_nil_iff_forall_not_mem.2 fun q hq => (by cases ((rdy_iff I q).1 hq).1), fin (List.eq_nil_iff_forall_not_mem.2 fun q hq => (by cases D_U I hq))⟩
    | succ n =>
      refine ⟨fun h => fin ?_, fun q hq => ?_⟩
      · by_cases hD : D = []
        · exact hD
        · exact absurd h (I.some_rdy hD)
      · have hu := ((rdy_iff I q).1 hq).1
        exact step_D hP (ihn n (Nat.lt_succ_self n) []) M (in_D I (hall q ((I.unm q).1 hu).1) hu) hq
  | cons s r ihr =>
    intro L lC D U pd ι fr df hp a c w wb Bb M
    have I := M.inv
    have S := M.sr
    have hok := M.ok
    have hreg := M.reg
    cases s with
    | tk i =>
      unfold plOk at hok
      simp only [Bool.and_eq_true] at hok
      obtain ⟨⟨⟨⟨⟨p1, p2⟩, p3⟩, p4⟩, p5⟩, p6⟩ := hok
      have hi : i ∉ lC := isIn_not p1
      have his : i < ops.size := by rwa [Nat.blt_eq] at p2
      have hila : p.la ≠ some i := neD_spec p4 i rfl
      have hdi := subL_mem _ _ p5
      have hiS : i ∈ tks p.st := M.sub i (List.mem_cons_self ..)
      unfold regD at hreg
      split at hreg
      case h_2 => cases hreg
      rename_i o ho
      have key : ∀ (v : AV) (v' : Value), VR ι v v' → ((wantA ops fr o = some false ∧ v = .tup []) ∨ (wantA ops fr o = some true ∧ sop P ng o.op fr hp = some (v, hp))) → regD P ng nt call ops p.la pn k r (setD nt fr o.dst v) df hp = true → wpAny P .any ops (DQ ι0 w0 B ng nt k pn) n L a w := by
        intro v v' hv hpop hr
        refine ihr L (i :: lC) (i :: D) U pd ι (setD nt fr o.dst v) df hp a (c.put o.dst v') w wb Bb ⟨I.take hi his hiS hila hdi, M.len, p6, fun q hq => M.sub q (List.mem_cons_of_mem _ hq), M.bse.putF S.fr.small ?_, S.put (.refl _) o.dst hv S.hr, (M.ac.putR o.dst v').mono ?_, ?_, hr⟩
        · intro hpd l hl d hd
          obtain ⟨l', g1, g2, g3, g4⟩ := I.pend hpd
          rw [hl] at g1
          cases g1
          exact (apt_L hP hl g2 (fun d h => (g4 d h).1) hi his (fun e => hila (by rw [e]; exact hl)) hdi).b d (by rw [dst_of ho]; exact hd)
        · rintro q (h | h)
          · rcases h with ⟨x, hx, hd⟩ | h
            · exact .inl ⟨x, List.mem_cons_of_mem _ hx, hd⟩
            · exact .inr h
          · exact .inl ⟨i, List.mem_cons_self .., by rw [dst_of ho]; exact h⟩
        · intro q hq
          rcases List.mem_cons.1 hq with rfl | hq
          · exact DC.take S.fr.small ho (hP.own q hiS) hpop
          · obtain ⟨d1, d2, d3⟩ := I.dC q hq
            have hqi : q ≠ i := fun e => hi (e ▸ d1)
            have hrel : ∀ d, dstO ops i = some d → d ∉ looksO ops q ∧ dstO ops q ≠ some d := by
              intro d hd
              rcases hP.pr i hiS q (I.inC q d1) with e | h | h | h
              · exact absurd e.symm hqi
              · exact hP.prB q d2 i hiS hqi h d hd
              · exact absurd (d3 i h).1 hi
              · exact ⟨h.a d hd, h.c d hd⟩
            exact (M.dc q hq).put S.fr.small (fun d hd => (hrel d (by rw [dst_of ho]; exact hd)).1) (fun d hd => (hrel d (by rw [dst_of ho]; exact hd)).2)
      split at hreg
      · rename_i hwant
        split at hreg
        case h_2 => cases hreg
        rename_i v hp' hpop
        have hs := p3
        unfold silO at hs
        rw [ho] at hs
        simp only [Bool.or_eq_true] at hs
        have e := sop_silent hs hpop
        subst e
        obtain ⟨v', _, hv⟩ := sop_sil S.fr S.gl S.hr hs hpop
        exact key v v' hv (.inr ⟨hwant, hpop⟩) hreg
      · rename_i hwant
        exact key _ _ (undef_tup ι) (.inl ⟨hwant, rfl⟩) hreg
      · cases hreg
    | ef j cf rs =>
      unfold plOk at hok
      simp only [Bool.and_eq_true] at hok
      obtain ⟨⟨q1, q2⟩, q3⟩ := hok
      have hE := efC_spec ops q1
      unfold regD at hreg
      have hne := some_may I hE.no hE.lt (fun _ => hE.nla) hE.dp
      cases n with
      | zero =>
        have hU : U = [] := List.eq_nil_of_length_eq_zero M.len
        subst hU
        exact absurd (List.eq_nil_iff_forall_not_mem.2 fun q hq => (by cases ((rdy_iff I q).1 hq).1)) hne
      | succ n =>
        refine ⟨fun h => absurd h hne, fun q hq => ?_⟩
        rcases who I q2 hq with h | h | ⟨h1, h2, h3⟩
        · exact step_D hP (ihn n (Nat.lt_succ_self n) _) M h hq
        · subst h
          exact step_E hC hP (ihn n (Nat.lt_succ_self n) r) M hE q3 M.sub hreg hq
        · subst h3
          obtain ⟨o, e, m, ho, hem⟩ := early I hE.c h1 h2 hq hreg
          exact step_L hP (ihn n (Nat.lt_succ_self n) _) M h1 h2 hq ho hem
    | tw i j cf rs =>
      unfold plOk at hok
      simp only [Bool.and_eq_true] at hok
      obtain ⟨⟨⟨⟨q1, q2⟩, q3⟩, ⟨q4, q5⟩, q6⟩, ⟨q7, q8⟩, q9⟩ := hok
      have hE := efC_spec ops q1
      have hF := efC_spec ops q2
      unfold regD at hreg
      rw [Bool.and_eq_true] at hreg
      have hne := some_may I hE.no hE.lt (fun _ => hE.nla) hE.dp
      cases n with
      | zero =>
        have hU : U = [] := List.eq_nil_of_length_eq_zero M.len
        subst hU
        exact absurd (List.eq_nil_iff_forall_not_mem.2 fun q hq => (by cases ((rdy_iff I q).1 hq).1)) hne
      | succ n =>
        refine ⟨fun h => absurd h hne, fun q hq => ?_⟩
        by_cases hqi : q = i
        · subst hqi
          refine step_E hC hP (ihn n (Nat.lt_succ_self n) (.ef j cf rs :: r)) M hE ?_ M.sub hreg.1 hq
          unfold plOk
          simp only [Bool.and_eq_true]
          exact ⟨⟨q4, q5⟩, q6⟩
        · have ho' : ∀ k, k < ops.size → k ≠ i → othersB ops p.la lC j k = true := fun k hk hne => by
            have := allN_mem _ _ q3 k (List.mem_range.2 hk)
            unfold oth2 at this
            rw [Bool.or_eq_true, Nat.beq_eq] at this
            exact this.resolve_left hne
          rcases who1 I (ho' q ((I.unm q).1 ((rdy_iff I q).1 hq).1).1 hqi) hq with h | h | ⟨h1, h2, h3⟩
          · exact step_D hP (ihn n (Nat.lt_succ_self n) _) M h hq
          · subst h
            refine step_E hC hP (ihn n (Nat.lt_succ_self n) (.ef i cf rs :: r)) M hF ?_ M.sub hreg.2 hq
            unfold plOk
            simp only [Bool.and_eq_true]
            exact ⟨⟨q7, q8⟩, q9⟩
          · subst h3
            obtain ⟨o, e, m, ho, hem⟩ := early I hE.c h1 h2 hq hreg.1
            exact step_L hP (ihn n (Nat.lt_succ_self n) _) M h1 h2 hq ho hem
    | al i rs =>
      have hok0 := hok
      unfold plOk at hok
      simp only [Bool.and_eq_true] at hok
      obtain ⟨⟨⟨⟨⟨⟨p1, p2⟩, p3⟩, p4⟩, p5⟩, p6⟩, p7⟩ := hok
      have hi : i ∉ lC := isIn_not p1
      have his : i < ops.size := by rwa [Nat.blt_eq] at p2
      have hila : p.la = some i := neD_not p3
      have hdi := subL_mem _ _ p4
      have hreg0 := hreg
      unfold regD at hreg
      split at hreg
      case h_2 => cases hreg
      rename_i o ho
      split at hreg
      case h_2 => cases hreg
      rename_i e m hem
      cases pd with
      | false =>
        have hne := some_may I hi his (fun h => by cases h) hdi
        cases n with
        | zero =>
          have hU : U = [] := List.eq_nil_of_length_eq_zero M.len
          subst hU
          exact absurd (List.eq_nil_iff_forall_not_mem.2 fun q hq => (by cases ((rdy_iff I q).1 hq).1)) hne
        | succ n =>
          refine ⟨fun h => absurd h hne, fun q hq => ?_⟩
          have hL : q = i → wpOp P ops (DQ ι0 w0 B ng nt k pn) q (wpAny P .any ops (DQ ι0 w0 B ng nt k pn) n (L.setIfInBounds q true)) a w := fun h => by
            subst h
            exact step_L hP (ihn n (Nat.lt_succ_self n) _) M hila hi hq ho hem
          rcases whoL I p5 hq with h | h
          · exact step_D hP (ihn n (Nat.lt_succ_self n) _) M h hq
          · exact hL h
      | true =>
        simp only [Bool.and_eq_true] at hreg
        obtain ⟨⟨r1, r2⟩, r3⟩ := hreg
        have hs : hp.nx < 14000000 := by rwa [Nat.blt_eq] at r1
        obtain ⟨l', g1, g2, g3, g4⟩ := I.pend rfl
        rw [hila] at g1
        cases g1
        have hb := M.bse
        generalize hpt : true = tt at hb
        cases hb with
        | no => cases hpt
        | @pend j o' wp obj v e' m' ι1 hp1 hla' ho' H1 hk hL hl hv =>
          rw [hila] at hla'
          cases hla'
          rw [ho] at ho'
          cases ho'
          rw [hem] at hl
          cases hl
          obtain ⟨H', hobj, hnb⟩ := HR.unhide H1 S.hr
          obtain ⟨κ', k1, k2, k3⟩ := lat_adopt hL hk H' hobj H1.size hnb hs
          have hapD : ∀ q ∈ D, Apt ops i q := fun q hq => apt_LD hP I hila hi hq (fun h => (g4 q h).2 hq)
          refine ihr L (i :: lC) D U false κ' (setD nt fr o.dst (m.av hp.nx)) df (hp.new e) a (c.put o.dst v) w w0 B ⟨I.known hi his hila, M.len, p7, M.sub, .no, ⟨S.le.trans k1, (S.fr.mono k1).put o.dst k2, by rw [put_df]; exact S.df.mono k1, S.gl.mono k1, k3⟩, ?_, fun q hq => ?_, r3⟩
          · have hK := kp_put c c.defers o.dst v
            refine ⟨M.ac.size.trans hK.1.symm, by rw [put_df]; exact M.ac.defers, fun q hq => ?_⟩
            by_cases hd : o.dst = some q
            · have hqs := M.ac.size
              rw [hd]
              simp only [Act.put]
              by_cases hlt : q < a.tmps.size
              · rw [hv q hd hlt, Array.getElem?_setIfInBounds_self_of_lt (by omega)]
              · rw [Array.getElem?_eq_none (by omega), Array.getElem?_eq_none (by simp; omega)]
            · rw [show (c.put o.dst v).tmps[q]? = c.tmps[q]? from hK.2 q hd]
              refine M.ac.val q fun hx => hq ?_
              rcases hx with hx | ⟨_, l, h1, h2⟩
              · exact .inl hx
              · rw [hila] at h1
                cases h1
                rw [dst_of ho] at h2
                exact absurd h2 hd
          · have hd1 : DC P ng nt ops (setD nt fr o.dst (m.av hp.nx)) hp q := (M.dc q hq).put S.fr.small (fun d hd => (hapD q hq).a d (by rw [dst_of ho]; exact hd)) (fun d hd => (hapD q hq).c d (by rw [dst_of ho]; exact hd))
            refine hd1.mem (plOk_sil p.la p.st [] hP.ok q (I.dC q hq).2.1) r2 fun hl => ?_
            have h6 := allN_mem _ _ p6 q (I.dC q hq).1
            unfold rsOk at h6
            simp only [Bool.or_eq_true, hl, Bool.not_true] at h6
            rcases h6 with (h6 | h6) | h6
            · cases h6
            · exact absurd ((isIn_iff _ _).1 h6) (fun h => (g4 q h).2 hq)
            · exact (isIn_iff _ _).1 h6
/-- A region that draws its order, by its plan. -/
theorem drw_any (hC : CallOk P ng call) (hP : planOk ops p = true) (h : regD P ng nt call ops p.la pn k p.st fr df hp = true) (S : SR ι0 w0 B ng nt ι fr df hp a w) : wpAny P .any ops (DQ ι0 w0 B ng nt k pn) ops.size (Array.replicate ops.size false) a { w with drawn := w.drawn + 1 } := by
  have PP := plan_spec ops hP
  refine drw_main hC PP ops.size p.st (Array.replicate ops.size false) [] [] (List.range ops.size) false ι fr df hp a a _ w0 B ⟨⟨by simp, fun j hj => ?_, fun j hj => (by cases hj), fun h => (by cases h), fun j hj => (by cases hj), .nil, .nil, List.nodup_range, fun j => ?_⟩, by simp, PP.ok, fun i hi => hi, .no, ⟨S.le, S.fr, S.df, S.gl, S.hr.drew⟩, .refl _ _, fun i hi => (by cases hi), h⟩
  · simp [hj]
  · simp only [List.mem_range, Array.getD_eq_getD_getElem?]
    constructor
    · intro hj; exact ⟨hj, by simp [hj]⟩
    · intro hj; exact hj.1
theorem drw_ok (hm : P.follows .mixedOrders = true) (hC : CallOk P ng call) (hP : planOk ops p = true) {id : Nat} (h : regD P ng nt call ops p.la pn k p.st fr df hp = true) (S : SR ι0 w0 B ng nt ι fr df hp a w) : (Code.region id ops true).wp P (DQ ι0 w0 B ng nt k pn) a w :=
  wp_region_any hm (drw_any hC hP h S)
end
end Go.Tw
set_option linter.unusedVariables false
set_option linter.unusedSimpArgs false
set_option linter.constructorNameAsVariable false
namespace Go.Tw
abbrev EL2 := List (Nat × Ent)
def lk : EL2 → Nat → Option Ent
  | [], _ => none
  | (b, e) :: l, c => if b = c then some e else lk l c
noncomputable def putL (l : EL2) (h : Hp) : Hp := List.rec h (fun x _ ih => setE ih x.1 x.2) l
noncomputable def Hp.at (h : Hp) (n : Nat) : Hp := Hp.rec (fun t _ => .mk t n) h
def smallL : EL2 → Bool
  | [] => true
  | (b, _) :: l => Nat.blt b 16000000 && smallL l
theorem ent_at (h : Hp) (n b : Nat) : entOf (h.at n) b = entOf h b := by cases h; rfl
theorem nx_at (h : Hp) (n : Nat) : (h.at n).nx = n := by cases h; rfl
theorem putL_ent : ∀ (l : EL2) (h : Hp) (b : Nat), smallL l = true → entOf (putL l h) b = (lk l b).getD (entOf h b)
  | [], h, b, _ => rfl
  | (c, e) :: l, h, b, hs => by
    rw [smallL, Bool.and_eq_true, Nat.blt_eq] at hs
    show entOf (setE (putL l h) c e) b = _
    rw [ent_set _ _ _ _ hs.1, putL_ent l h b hs.2]
    show (if c = b then e else _) = (if c = b then some e else lk l b).getD (entOf h b)
    split <;> rfl
theorem putL_nx : ∀ (l : EL2) (h : Hp), (putL l h).nx = h.nx
  | [], h => rfl
  | (c, e) :: l, h => by
    show (setE (putL l h) c e).nx = _
    rw [nx_set, putL_nx l h]
def mpEq : List (AV × AV) → List (AV × AV) → Bool
  | [], [] => true
  | (a, b) :: l, (c, d) :: m => avEq a c && avEq b d && mpEq l m
  | _, _ => false
theorem mpEq_spec : ∀ l m, mpEq l m = true → l = m
  | [], [], _ => rfl
  | (a, b) :: l, (c, d) :: m, h => by
    rw [mpEq, Bool.and_eq_true, Bool.and_eq_true] at h
    rw [avEq_spec _ _ h.1.1, avEq_spec _ _ h.1.2, mpEq_spec l m h.2]
  | [], _ :: _, h => by cases h
  | _ :: _, [], h => by cases h
/-- The first entry tells what the second one says. gone: what is not there any more. -/
def leE (gone : Nat → Bool) : Ent → Ent → Bool
  | _, .no => true
  | .cells l es st old, .cells l' es' true _ => avEqs l l' && Nat.beq es es'
  | .cells l es false old, .cells l' es' false old' => avEqs l l' && Nat.beq es es' && allN (fun x => isIn x old' || gone x) old
  | .map l st, .map l' true => mpEq l l'
  | .map l false, .map l' false => mpEq l l'
  | _, _ => false
/-- The second entry is the first one, or what may be read of it. -/
def viE : Ent → Ent → Bool
  | .cells l es st old, .cells l' es' true _ => avEqs l l' && Nat.beq es es'
  | .cells l es false old, .cells l' es' false old' => avEqs l l' && Nat.beq es es' && strEq old old'
  | .map l st, .map l' true => mpEq l l'
  | .map l false, .map l' false => mpEq l l'
  | _, _ => false
inductive Le (gone : Nat → Prop) : Ent → Ent → Prop
  | no (e : Ent) : Le gone e .no
  | rd (l : List AV) (es : Nat) (st : Bool) (old old' : List Nat) : Le gone (.cells l es st old) (.cells l es true old')
  | wr (l : List AV) (es : Nat) (old old' : List Nat) (h : ∀ x ∈ old, x ∈ old' ∨ gone x) : Le gone (.cells l es false old) (.cells l es false old')
  | mr (l : List (AV × AV)) (st : Bool) : Le gone (.map l st) (.map l true)
  | mw (l : List (AV × AV)) : Le gone (.map l false) (.map l false)
inductive Vi : Ent → Ent → Prop
  | rd (l : List AV) (es : Nat) (st : Bool) (old old' : List Nat) : Vi (.cells l es st old) (.cells l es true old')
  | wr (l : List AV) (es : Nat) (old : List Nat) : Vi (.cells l es false old) (.cells l es false old)
  | mr (l : List (AV × AV)) (st : Bool) : Vi (.map l st) (.map l true)
  | mw (l : List (AV × AV)) : Vi (.map l false) (.map l false)
theorem leE_spec {gone : Nat → Bool} {e e' : Ent} (h : leE gone e e' = true) : Le (fun x => gone x = true) e e' := by
  unfold leE at h
  split at h
  · exact .no _
  · rw [Bool.and_eq_true, Nat.beq_eq] at h
    rw [avEqs_spec _ _ h.1, h.2]
    exact .rd _ _ _ _ _
  · rw [Bool.and_eq_true, Bool.and_eq_true, Nat.beq_eq] at h
    rw [avEqs_spec _ _ h.1.1, h.1.2]
    refine .wr _ _ _ _ fun x hx => ?_
    have := allN_mem _ _ h.2 x hx
    rw [Bool.or_eq_true, isIn_iff] at this
    exact this
  · rw [mpEq_spec _ _ h]; exact .mr _ _
  · rw [mpEq_spec _ _ h]; exact .mw _
  · cases h
theorem viE_spec {e e' : Ent} (h : viE e e' = true) : Vi e e' := by
  unfold viE at h
  split at h
  · rw [Bool.and_eq_true, Nat.beq_eq] at h
    rw [avEqs_spec _ _ h.1, h.2]
    exact .rd _ _ _ _ _
  · rw [Bool.and_eq_true, Bool.and_eq_true, Nat.beq_eq, strEq_iff] at h
    rw [avEqs_spec _ _ h.1.1, h.1.2, h.2]
    exact .wr _ _ _
  · rw [mpEq_spec _ _ h]; exact .mr _ _
  · rw [mpEq_spec _ _ h]; exact .mw _
  · cases h
section
variable {ι κ : Io} {w0 : World} {B : Bs} {h h2 : Hp} {w : World}
theorem Le.er {g : Nat → Prop} {e e' : Ent} (hl : Le g e e') {p : Pl} (h : ER ι w p e) : ER ι w p e' := by
  cases hl with
  | no => trivial
  | rd => exact h
  | wr => exact h
  | mr => exact h
  | mw => exact h
theorem Le.ne {g : Nat → Prop} {e e' : Ent} (hl : Le g e e') (h : e' ≠ .no) : e ≠ .no := by
  cases hl <;> first | exact absurd rfl h | exact fun e => by cases e
theorem Le.wrt {g : Nat → Prop} {e e' : Ent} (hl : Le g e e') (h : e'.wr = true) : e.wr = true := by
  cases hl <;> first | (cases h; done) | rfl
/-- Less is known. -/
theorem HR.weak (H : HR ι w0 B h w) (hn : h2.nx = h.nx) (hl : ∀ b, Le (fun x => entOf h2 x = .no) (entOf h b) (entOf h2 b)) : HR ι w0 B h2 w := by
  refine ⟨fun b hb hne => ?_, H.dom, fun b p hb => by rw [hn]; exact H.fresh b p hb, by rw [hn]; exact H.small, fun b p hb hw => H.wr b p hb (hw.imp (hl b).wrt id), ?_, ?_, H.frm, H.size, H.os, H.tape, H.output, H.nev, H.nsz, H.io, by rw [hn]; exact H.n0⟩
  · obtain ⟨p, h1, h2⟩ := H.ent b (by omega) ((hl b).ne hne)
    exact ⟨p, h1, (hl b).er h2⟩
  · intro b b' p p' l es old hne e1 e2 hp hp' hblk
    have hb := hl b
    have hb' := hl b'
    rw [e1] at hb
    generalize hx : entOf h b = x at hb
    cases hb with
    | wr l es o _ ho =>
      obtain ⟨h1, l', es', old', h3, h4⟩ := H.sep b b' p p' l es o hne hx (hb'.ne e2) hp hp' hblk
      refine ⟨(ho b' h1).resolve_right e2, ?_⟩
      rw [h3] at hb'
      generalize hy : entOf h2 b' = y at hb' e2
      cases hb' with
      | no => exact absurd rfl e2
      | rd => exact ⟨_, _, _, rfl, h4⟩
  · intro b b' p p' l hne e1 e2 hp hp'
    have hb := hl b
    rw [e1] at hb
    generalize hx : entOf h b = x at hb
    cases hb with
    | mw => exact H.sepm b b' p p' l hne hx ((hl b').ne e2) hp hp'
end
end Go.Tw
set_option linter.unusedVariables false
set_option linter.unusedSimpArgs false
set_option linter.constructorNameAsVariable false
namespace Go.Tw
section
variable {ι κ : Io} {w0 : World} {B : Bs} {h hc : Hp} {w w' : World} {L U : EL2} {N N' : Nat}
theorem Vi.er {e e' : Ent} (hl : Vi e e') {p : Pl} : ER ι w p e ↔ ER ι w p e' := by
  cases hl <;> exact Iff.rfl
theorem Vi.wrt {e e' : Ent} (hl : Vi e e') (h : e'.wr = true) : e = e' := by
  cases hl <;> first | (cases h; done) | rfl
theorem Vi.ne {e e' : Ent} (hl : Vi e e') : e ≠ .no ∧ e' ≠ .no := by
  cases hl <;> exact ⟨(fun h => by cases h), (fun h => by cases h)⟩
/-- What the small heap is to the large one. -/
structure Sub (h hc : Hp) : Prop where
  nx : hc.nx = h.nx
  vi : ∀ b, entOf hc b = .no ∨ Vi (entOf h b) (entOf hc b)
  clo : ∀ b l es old, entOf hc b = .cells l es false old → ∀ x ∈ old, entOf hc x ≠ .no
theorem Sub.wrt (S : Sub h hc) {b : Nat} (hw : (entOf hc b).wr = true) : entOf h b = entOf hc b := by
  rcases S.vi b with e | v
  · rw [e] at hw; cases hw
  · exact v.wrt hw
theorem Sub.ne (S : Sub h hc) {b : Nat} (hw : entOf hc b ≠ .no) : entOf h b ≠ .no := by
  rcases S.vi b with e | v
  · exact absurd e hw
  · exact v.ne.1
/-- What may change is nobody else's. -/
theorem Sub.own (S : Sub h hc) (H : HR ι w0 B h w) {b : Nat} {p : Pl} (hb : ι b = some p) (hn : entOf h b ≠ .no) (hW : WOf ι hc p.blk) : entOf hc b ≠ .no := by
  obtain ⟨b2, p2, h1, h2, h3⟩ := hW
  by_cases e : b2 = b
  · subst e; intro e; rw [e] at h2; cases h2
  · have hh := S.wrt h2
    cases hx : entOf hc b2 with
    | no => rw [hx] at h2; cases h2
    | cells l es st old =>
      rw [hx] at h2 hh
      cases st with
      | true => cases h2
      | false => exact S.clo b2 l es old hx b (H.sep b2 b p2 p l es old e hh hn h1 hb h3).1
    | map l st =>
      rw [hx] at h2 hh
      cases st with
      | true => cases h2
      | false => exact absurd h3 (H.sepm b2 b p2 p l e hh hn h1 hb)
/-- Whoever else writes a block that may change is one that was there. -/
theorem Sub.wrs (S : Sub h hc) (H : HR ι w0 B h w) {b : Nat} {p : Pl} (hb : ι b = some p) (hw : (entOf h b).wr = true) (hW : WOf ι hc p.blk) : (entOf hc b).wr = true := by
  obtain ⟨b2, p2, h1, h2, h3⟩ := hW
  by_cases e : b = b2
  · subst e; exact h2
  · have hh := S.wrt h2
    have hne2 : entOf h b2 ≠ .no := by rw [hh]; intro e; rw [e] at h2; cases h2
    cases hx : entOf h b with
    | no => rw [hx] at hw; cases hw
    | cells l es st old =>
      rw [hx] at hw
      cases st with
      | true => cases hw
      | false =>
        obtain ⟨_, l', es', old', g1, _⟩ := H.sep b b2 p p2 l es old e hx hne2 hb h1 h3.symm
        rw [hh] at g1
        rw [g1] at h2
        cases h2
    | map l st =>
      rw [hx] at hw
      cases st with
      | true => cases hw
      | false => exact absurd h3.symm (H.sepm b b2 p p2 l e hx hne2 hb h1)
/-- The small heap, seen from where it is. -/
theorem Sub.enter (S : Sub h hc) (H : HR ι w0 B h w) : HR ι w { W := WOf ι hc, N := B.N, n0 := h.nx, ι0 := ι } hc w := by
  refine ⟨fun b hb hn => ?_, H.dom, fun b p hb => by rw [S.nx]; exact H.fresh b p hb, by rw [S.nx]; exact H.small, fun b p hb hw => ?_, ?_, ?_, fun _ _ _ => rfl, Nat.le_refl _, rfl, rfl, rfl, H.nev, fun c hc => by have := H.nsz c hc; have := H.size; omega, fun b hb => rfl, by rw [S.nx]; exact Nat.le_refl _⟩
  · obtain ⟨p, h1, h2⟩ := H.ent b (by rw [← S.nx]; exact hb) (S.ne hn)
    exact ⟨p, h1, ((S.vi b).resolve_left hn).er.1 h2⟩
  · rcases hw with hw | hw
    · exact .inl ⟨b, p, hb, hw, rfl⟩
    · have := H.fresh b p hb
      exact absurd hw (by show ¬ h.nx ≤ b; omega)
  · intro b b' p p' l es old hne e1 e2 hp hp' hblk
    have hh := S.wrt (b := b) (by rw [e1]; rfl)
    rw [e1] at hh
    obtain ⟨g1, l', es', old', g2, g3⟩ := H.sep b b' p p' l es old hne hh (S.ne e2) hp hp' hblk
    refine ⟨g1, ?_⟩
    have hv := (S.vi b').resolve_left e2
    rw [g2] at hv
    generalize hy : entOf hc b' = y at hv
    cases hv with
    | rd => exact ⟨_, _, _, rfl, g3⟩
  · intro b b' p p' l hne e1 e2 hp hp'
    have hh := S.wrt (b := b) (by rw [e1]; rfl)
    rw [e1] at hh
    exact H.sepm b b' p p' l hne hh (S.ne e2) hp hp'
/-- What came out of the small heap, put into the large one. -/
structure Out (h hc h3 h' : Hp) (U : EL2) : Prop where
  nx : h'.nx = h3.nx
  le : h.nx ≤ h3.nx
  new : ∀ b, h.nx ≤ b → b < h3.nx → entOf h b = .no
  ent : ∀ b, entOf h' b = (lk U b).getD (entOf h b)
  inU : ∀ b e, lk U b = some e → entOf h3 b = e ∧ (b < h.nx → (entOf hc b).wr = true ∨ e = .no) ∧ (e ≠ .no → b < h3.nx)
  noU : ∀ b, lk U b = none → entOf hc b ≠ .no → entOf h3 b = entOf hc b
theorem Sub.leave {h3 h' : Hp} (S : Sub h hc) (H : HR ι w0 B h w) (O : Out h hc h3 h' U) (hk : ι.le κ) (H' : HR κ w { W := WOf ι hc, N := B.N, n0 := h.nx, ι0 := ι } h3 w') : HR κ w0 B h' w' := by
  have hold : ∀ b, b < h.nx → κ b = ι b := fun b hb => H'.io b hb
  have hsz := H.size
  have hszw : w.heap.size ≤ w'.heap.size := H'.size
  -- what lies where it lay
  have hout : ∀ b p, lk U b = none → entOf hc b = .no → entOf h b ≠ .no → b < h.nx → κ b = some p → ι b = some p ∧ ¬ WOf ι hc p.blk ∧ p.blk < w.heap.size := fun b p h1 h2 h3 h4 h5 => by
    rw [hold b h4] at h5
    exact ⟨h5, fun hW => S.own H h5 h3 hW h2, H.dom b p h5⟩
  have hW0 : ∀ c, WOf ι hc c → B.W c ∨ w0.heap.size ≤ c := by
    rintro c ⟨b, p, h1, h2, rfl⟩
    refine H.wr b p h1 (.inl ?_)
    rw [S.wrt h2]; exact h2
  have hlt : ∀ b, lk U b = none → entOf h' b ≠ .no → b < h3.nx → b < h.nx := fun b h1 h2 h3 => by
    rw [O.ent, h1] at h2
    rcases Nat.lt_or_ge b h.nx with h | h
    · exact h
    · exact absurd (O.new b h h3) h2
  refine ⟨fun b hb hn => ?_, H'.dom, fun b p hb => by rw [O.nx]; exact H'.fresh b p hb, by rw [O.nx]; exact H'.small, fun b p hb hw => ?_, ?_, ?_, fun c hc0 hW => ?_, by omega, H'.os.trans H.os, H'.tape.trans H.tape, H'.output.trans H.output, H'.nev, H.nsz, fun b hb => ?_, by rw [O.nx]; have := H.n0; have := O.le; omega⟩
  · rw [O.nx] at hb
    cases hU : lk U b with
    | some e =>
      have he := (O.inU b e hU).1
      rw [O.ent, hU] at hn ⊢
      simp only [Option.getD_some] at hn ⊢
      rw [← he] at hn ⊢
      exact H'.ent b hb hn
    | none =>
      have hbn := hlt b hU hn hb
      rw [O.ent, hU] at hn ⊢
      simp only [Option.getD_none] at hn ⊢
      by_cases hcb : entOf hc b = .no
      · obtain ⟨p, h1, h2⟩ := H.ent b hbn hn
        obtain ⟨k1, k2, k3⟩ := hout b p hU hcb hn hbn (hk b p h1)
        exact ⟨p, hk b p h1, h2.mono hk (H'.frm p.blk k3 k2)⟩
      · have h3b := O.noU b hU hcb
        obtain ⟨p, h1, h2⟩ := H'.ent b hb (by rw [h3b]; exact hcb)
        rw [h3b] at h2
        exact ⟨p, h1, ((S.vi b).resolve_left hcb).er.2 h2⟩
  · -- who may be written
    have hin : ∀ q : Pl, WOf ι hc q.blk ∨ w.heap.size ≤ q.blk → B.W q.blk ∨ w0.heap.size ≤ q.blk := fun q hq => by
      rcases hq with hq | hq
      · exact hW0 _ hq
      · exact .inr (by omega)
    have hb3 := H'.fresh b p hb
    rcases hw with hw | hw
    · cases hU : lk U b with
      | some e =>
        rw [O.ent, hU] at hw
        simp only [Option.getD_some] at hw
        refine hin p (H'.wr b p hb (.inl ?_))
        rw [(O.inU b e hU).1]; exact hw
      | none =>
        have hn : entOf h' b ≠ .no := fun e => by rw [e] at hw; cases hw
        have hbn := hlt b hU hn hb3
        rw [O.ent, hU] at hw
        rw [hold b hbn] at hb
        exact H.wr b p hb (.inl hw)
    · rcases Nat.lt_or_ge b h.nx with hbn | hbn
      · rw [hold b hbn] at hb
        exact H.wr b p hb (.inr hw)
      · exact hin p (H'.wr b p hb (.inr hbn))
  · intro b b' p p' l es old hne e1 e2 hp hp' hblk
    have hb3 := H'.fresh b p hp
    have hb3' := H'.fresh b' p' hp'
    have hW1 : ∀ q, (entOf h3 b).wr = true → q = p.blk → q < w.heap.size → WOf ι hc q := fun q h1 h2 h3 => by
      subst h2
      rcases H'.wr b p hp (.inl h1) with h | h
      · exact h
      · exact absurd h (by omega)
    cases hU : lk U b with
    | some e =>
      have h3b := (O.inU b e hU).1
      have e1' := e1
      rw [O.ent, hU] at e1'
      simp only [Option.getD_some] at e1'
      rw [e1'] at h3b
      cases hU' : lk U b' with
      | some e' =>
        have h3b' := (O.inU b' e' hU').1
        have e2' := e2
        rw [O.ent, hU'] at e2'
        simp only [Option.getD_some] at e2'
        obtain ⟨g1, g2⟩ := H'.sep b b' p p' l es old hne h3b (by rw [h3b']; exact e2') hp hp' hblk
        refine ⟨g1, ?_⟩
        rw [O.ent, hU']
        simp only [Option.getD_some]
        rw [← h3b']
        exact g2
      | none =>
        have hbn' := hlt b' hU' e2 hb3'
        have e2' := e2
        rw [O.ent, hU'] at e2'
        simp only [Option.getD_none] at e2'
        have hι' : ι b' = some p' := by rw [← hold b' hbn']; exact hp'
        have hWp : WOf ι hc p'.blk := hW1 p'.blk (by rw [h3b]; rfl) hblk.symm (H.dom b' p' hι')
        have hcb' := S.own H hι' e2' hWp
        have h3b' := O.noU b' hU' hcb'
        obtain ⟨g1, l', es', old', g2, g3⟩ := H'.sep b b' p p' l es old hne h3b (by rw [h3b']; exact hcb') hp hp' hblk
        refine ⟨g1, ?_⟩
        rw [O.ent, hU']
        simp only [Option.getD_none]
        -- it is not written: else it would be known to be
        have hv := (S.vi b').resolve_left hcb'
        rw [h3b'] at g2
        rw [g2] at hv
        have hwr : ¬ (entOf h b').wr = true := fun hw => by
          have := S.wrs H hι' hw hWp
          rw [g2] at this
          cases this
        generalize hy : entOf h b' = y at hv hwr
        cases hv with
        | rd _ _ st old2 _ =>
          cases st with
          | true => exact ⟨_, _, _, rfl, g3⟩
          | false => exact absurd rfl hwr
    | none =>
      have hbn := hlt b hU (by rw [e1]; intro e; cases e) hb3
      have e1' := e1
      rw [O.ent, hU] at e1'
      simp only [Option.getD_none] at e1'
      have hι : ι b = some p := by rw [← hold b hbn]; exact hp
      cases hU' : lk U b' with
      | none =>
        have hbn' := hlt b' hU' e2 hb3'
        have e2' := e2
        rw [O.ent, hU'] at e2' ⊢
        simp only [Option.getD_none] at e2' ⊢
        exact H.sep b b' p p' l es old hne e1' e2' hι (by rw [← hold b' hbn']; exact hp') hblk
      | some e' =>
        obtain ⟨h3b', hu1, hu2⟩ := O.inU b' e' hU'
        have e2' := e2
        rw [O.ent, hU'] at e2' ⊢
        simp only [Option.getD_some] at e2' ⊢
        by_cases hcw : (entOf hc b).wr = true
        · have hcb := S.wrt hcw
          have hcn : entOf hc b ≠ .no := fun e => by rw [e] at hcw; cases hcw
          have h3b := O.noU b hU hcn
          rw [← hcb, e1'] at h3b
          have := H'.sep b b' p p' l es old hne h3b (by rw [h3b']; exact e2') hp hp' hblk
          rw [h3b'] at this
          exact this
        · exfalso
          rcases Nat.lt_or_ge b' h.nx with hbn' | hbn'
          · have hw := (hu1 hbn').resolve_right e2'
            have hh := S.wrt hw
            have hι' : ι b' = some p' := by rw [← hold b' hbn']; exact hp'
            obtain ⟨_, l', es', old', g2, _⟩ := H.sep b b' p p' l es old hne e1' (by rw [hh]; intro e; rw [e] at hw; cases hw) hι hι' hblk
            rw [hh] at g2
            rw [g2] at hw
            cases hw
          · have hWp : WOf ι hc p.blk := by
              rcases H'.wr b' p' hp' (.inr hbn') with h | h
              · rw [hblk]; exact h
              · have := H.dom b p hι; exact absurd h (by omega)
            exact hcw (S.wrs H hι (by rw [e1']; rfl) hWp)
  · intro b b' p p' l hne e1 e2 hp hp' hblk
    have hb3 := H'.fresh b p hp
    have hb3' := H'.fresh b' p' hp'
    cases hU : lk U b with
    | some e =>
      have h3b := (O.inU b e hU).1
      have e1' := e1
      rw [O.ent, hU] at e1'
      simp only [Option.getD_some] at e1'
      rw [e1'] at h3b
      cases hU' : lk U b' with
      | some e' =>
        have h3b' := (O.inU b' e' hU').1
        have e2' := e2
        rw [O.ent, hU'] at e2'
        simp only [Option.getD_some] at e2'
        exact H'.sepm b b' p p' l hne h3b (by rw [h3b']; exact e2') hp hp' hblk
      | none =>
        have hbn' := hlt b' hU' e2 hb3'
        have e2' := e2
        rw [O.ent, hU'] at e2'
        simp only [Option.getD_none] at e2'
        have hι' : ι b' = some p' := by rw [← hold b' hbn']; exact hp'
        have hWp : WOf ι hc p'.blk := by
          rcases H'.wr b p hp (.inl (by rw [h3b]; rfl)) with h | h
          · rw [← hblk]; exact h
          · have := H.dom b' p' hι'; exact absurd h (by omega)
        have hcb' := S.own H hι' e2' hWp
        have h3b' := O.noU b' hU' hcb'
        exact H'.sepm b b' p p' l hne h3b (by rw [h3b']; exact hcb') hp hp' hblk
    | none =>
      have hbn := hlt b hU (by rw [e1]; intro e; cases e) hb3
      have e1' := e1
      rw [O.ent, hU] at e1'
      simp only [Option.getD_none] at e1'
      have hι : ι b = some p := by rw [← hold b hbn]; exact hp
      cases hU' : lk U b' with
      | none =>
        have hbn' := hlt b' hU' e2 hb3'
        have e2' := e2
        rw [O.ent, hU'] at e2'
        simp only [Option.getD_none] at e2'
        exact H.sepm b b' p p' l hne e1' e2' hι (by rw [← hold b' hbn']; exact hp') hblk
      | some e' =>
        obtain ⟨h3b', hu1, hu2⟩ := O.inU b' e' hU'
        have e2' := e2
        rw [O.ent, hU'] at e2'
        simp only [Option.getD_some] at e2'
        by_cases hcw : (entOf hc b).wr = true
        · have hcb := S.wrt hcw
          have hcn : entOf hc b ≠ .no := fun e => by rw [e] at hcw; cases hcw
          have h3b := O.noU b hU hcn
          rw [← hcb, e1'] at h3b
          exact H'.sepm b b' p p' l hne h3b (by rw [h3b']; exact e2') hp hp' hblk
        · rcases Nat.lt_or_ge b' h.nx with hbn' | hbn'
          · have hw := (hu1 hbn').resolve_right e2'
            have hh := S.wrt hw
            have hι' : ι b' = some p' := by rw [← hold b' hbn']; exact hp'
            exact H.sepm b b' p p' l hne e1' (by rw [hh]; intro e; rw [e] at hw; cases hw) hι hι' hblk
          · have hWp : WOf ι hc p.blk := by
              rcases H'.wr b' p' hp' (.inr hbn') with h | h
              · rw [hblk]; exact h
              · have := H.dom b p hι; exact absurd h (by omega)
            exact hcw (S.wrs H hι (by rw [e1']; rfl) hWp)
  · have h1 : ¬ WOf ι hc c := fun h => by
      rcases hW0 c h with h | h
      · exact hW h
      · omega
    rw [H'.frm c (by omega) h1]
    exact H.frm c hc0 hW
  · rw [hold b (by have := H.n0; omega)]
    exact H.io b hb
end
end Go.Tw
set_option linter.unusedVariables false
set_option linter.unusedSimpArgs false
set_option linter.constructorNameAsVariable false
namespace Go.Tw
/-- f at as, in a heap that holds L, the next number being N: v; U is put, the next number is N'. -/
structure Fact where
  f : Nat
  ar : List AV
  L : EL2
  N : Nat
  v : AV
  U : EL2
  N' : Nat
def noE : Ent → Bool
  | .no => true
  | _ => false
noncomputable def mL (hp : Hp) (l : EL2) : Bool := List.rec true (fun x _ ih => viE (entOf hp x.1) x.2 && ih) l
noncomputable def allNo (hp : Hp) (n k : Nat) : Bool := Nat.rec true (fun i ih => noE (entOf hp (n + i)) && ih) k
noncomputable def hmatch (F : Fact) (hp : Hp) : Bool := Nat.beq hp.nx F.N && mL hp F.L && allNo hp F.N (F.N' - F.N)
def wrL (L : EL2) (b : Nat) : Bool := match lk L b with
  | some e => e.wr
  | none => false
def inL (L : EL2) (b : Nat) : Bool := match lk L b with
  | some e => !noE e
  | none => false
def cloE (L : EL2) : Ent → Bool
  | .cells _ _ false old => allN (inL L) old
  | _ => true
def fokL (F : Fact) : EL2 → Bool
  | [] => true
  | (b, e) :: l => cloE F.L e && fokL F l
def fokU (F : Fact) : EL2 → Bool
  | [] => true
  | (b, e) :: l => (Nat.ble F.N b || wrL F.L b || noE e) && (noE e || Nat.blt b F.N') && fokU F l
def fok (F : Fact) : Bool := Nat.ble F.N F.N' && smallL F.L && smallL F.U && fokL F F.L && fokU F F.U
def goneU (F : Fact) (x : Nat) : Bool := noE ((lk F.U x).getD ((lk F.L x).getD .no))
noncomputable def outU (F : Fact) (hp : Hp) (l : EL2) : Bool := List.rec true (fun x _ ih => leE (goneU F) (entOf hp x.1) x.2 && ih) l
noncomputable def outL (F : Fact) (hp : Hp) (l : EL2) : Bool := List.rec true (fun x _ ih => ((lk F.U x.1).isSome || leE (goneU F) (entOf hp x.1) x.2) && ih) l
noncomputable def chkF (F : Fact) (v : AV) (hp : Hp) : Bool := avEq v F.v && Nat.beq hp.nx F.N' && outU F hp F.U && outL F hp F.L
noncomputable def preF (F : Fact) : Hp := putL F.L (.mk .lf F.N)
noncomputable def orcL (l : List Fact) (f : Nat) (as : List AV) (hp : Hp) : Option (AV × Hp) :=
  List.rec none (fun F _ ih => Bool.rec ih (some (F.v, (putL F.U hp).at F.N')) (Nat.beq f F.f && avEqs as F.ar && hmatch F hp)) l
def FactOk (P : Program) (ng : Nat) (F : Fact) : Prop := ∀ w0 B hp ι args w, hmatch F hp = true → VL ι F.ar args.toList → Gl ng ι → HR ι w0 B hp w →
  (callFunc F.f args).run P w = .ok (.enter F.f args) w ∧ Calls P F.f args w fun e w' => ∃ κ v', ι.le κ ∧ e = .returned v' ∧ VR κ F.v v' ∧ HR κ w0 B ((putL F.U hp).at F.N') w'
theorem noE_iff (e : Ent) : noE e = true ↔ e = .no := by cases e <;> simp [noE]
theorem lk_mem : ∀ (l : EL2) (b : Nat) (e : Ent), lk l b = some e → (b, e) ∈ l
  | [], b, e, h => by cases h
  | (c, x) :: l, b, e, h => by
    unfold lk at h
    split at h
    · rename_i hc
      cases h
      rw [hc]
      exact List.mem_cons_self ..
    · exact List.mem_cons_of_mem _ (lk_mem l b e h)
theorem mL_mem (hp : Hp) : ∀ (l : EL2), mL hp l = true → ∀ x ∈ l, viE (entOf hp x.1) x.2 = true
  | [], _, x, hx => by cases hx
  | y :: l, h, x, hx => by
    have h' : (viE (entOf hp y.1) y.2 && mL hp l) = true := h
    rw [Bool.and_eq_true] at h'
    rcases List.mem_cons.1 hx with rfl | hx
    · exact h'.1
    · exact mL_mem hp l h'.2 x hx
theorem outU_mem (F : Fact) (hp : Hp) : ∀ (l : EL2), outU F hp l = true → ∀ x ∈ l, leE (goneU F) (entOf hp x.1) x.2 = true
  | [], _, x, hx => by cases hx
  | y :: l, h, x, hx => by
    have h' : (leE (goneU F) (entOf hp y.1) y.2 && outU F hp l) = true := h
    rw [Bool.and_eq_true] at h'
    rcases List.mem_cons.1 hx with rfl | hx
    · exact h'.1
    · exact outU_mem F hp l h'.2 x hx
theorem outL_mem (F : Fact) (hp : Hp) : ∀ (l : EL2), outL F hp l = true → ∀ x ∈ l, ((lk F.U x.1).isSome || leE (goneU F) (entOf hp x.1) x.2) = true
  | [], _, x, hx => by cases hx
  | y :: l, h, x, hx => by
    have h' : (((lk F.U y.1).isSome || leE (goneU F) (entOf hp y.1) y.2) && outL F hp l) = true := h
    rw [Bool.and_eq_true] at h'
    rcases List.mem_cons.1 hx with rfl | hx
    · exact h'.1
    · exact outL_mem F hp l h'.2 x hx
theorem allNo_lt (hp : Hp) (n : Nat) : ∀ (k : Nat), allNo hp n k = true → ∀ i, i < k → entOf hp (n + i) = .no
  | 0, _, i, hi => by omega
  | k + 1, h, i, hi => by
    have h' : (noE (entOf hp (n + k)) && allNo hp n k) = true := h
    rw [Bool.and_eq_true] at h'
    by_cases e : i = k
    · subst e; exact (noE_iff _).1 h'.1
    · exact allNo_lt hp n k h'.2 i (by omega)
theorem fokL_mem (F : Fact) : ∀ (l : EL2), fokL F l = true → ∀ x ∈ l, cloE F.L x.2 = true
  | [], _, x, hx => by cases hx
  | (b, e) :: l, h, x, hx => by
    rw [fokL, Bool.and_eq_true] at h
    rcases List.mem_cons.1 hx with rfl | hx
    · exact h.1
    · exact fokL_mem F l h.2 x hx
theorem fokU_mem (F : Fact) : ∀ (l : EL2), fokU F l = true → ∀ x ∈ l, ((Nat.ble F.N x.1 || wrL F.L x.1 || noE x.2) && (noE x.2 || Nat.blt x.1 F.N')) = true
  | [], _, x, hx => by cases hx
  | (b, e) :: l, h, x, hx => by
    rw [fokU, Bool.and_eq_true] at h
    rcases List.mem_cons.1 hx with rfl | hx
    · exact h.1
    · exact fokU_mem F l h.2 x hx
theorem pre_ent (F : Fact) (hs : smallL F.L = true) (b : Nat) : entOf (preF F) b = (lk F.L b).getD .no := by
  unfold preF
  rw [putL_ent _ _ _ hs]
  congr 1
  exact get_lf _ _
theorem fact_ok {P : Program} {ng : Nat} {call : CallT} {F : Fact} (hC : CallOk P ng call) (hf : fok F = true) (hr : call F.f F.ar (preF F) (chkF F) (fun _ _ => false) = true) : FactOk P ng F := by
  intro w0 B hp ι args w hm hv G H
  unfold fok at hf
  simp only [Bool.and_eq_true] at hf
  obtain ⟨⟨⟨⟨f1, f2⟩, f3⟩, f4⟩, f5⟩ := hf
  have hle : F.N ≤ F.N' := Nat.le_of_ble_eq_true f1
  unfold hmatch at hm
  simp only [Bool.and_eq_true] at hm
  obtain ⟨⟨m1, m2⟩, m3⟩ := hm
  have hnx : hp.nx = F.N := by rwa [Nat.beq_eq] at m1
  have hpre := pre_ent F f2
  have hnxp : (preF F).nx = F.N := by unfold preF; rw [putL_nx]; rfl
  have S : Sub hp (preF F) := by
    refine ⟨by rw [hnxp, hnx], fun b => ?_, fun b l es old hb x hx => ?_⟩
    · rw [hpre]
      cases hl : lk F.L b with
      | none => exact .inl rfl
      | some e =>
        have h1 : viE (entOf hp b) e = true := mL_mem hp F.L m2 (b, e) (lk_mem _ _ _ hl)
        exact .inr (viE_spec h1)
    · rw [hpre] at hb ⊢
      cases hl : lk F.L b with
      | none => rw [hl] at hb; cases hb
      | some e =>
        rw [hl] at hb
        have := fokL_mem F F.L f4 (b, e) (lk_mem _ _ _ hl)
        simp only [Option.getD_some] at hb
        subst hb
        have := allN_mem _ _ this x hx
        unfold inL at this
        split at this
        · rename_i e he
          rw [he]
          intro e'
          simp only [Option.getD_some] at e'
          rw [e'] at this
          cases this
        · cases this
  obtain ⟨h1, h2⟩ := hC w _ F.f F.ar (preF F) (chkF F) (fun _ _ => false) hr ι args w hv G (S.enter H)
  refine ⟨h1, h2.mono fun e w' hq => ?_⟩
  cases e with
  | panicked ch => obtain ⟨_, _, _, _, _, _, _, _, e⟩ := hq; cases e
  | outgrown => exact hq.elim
  | returned v' =>
    obtain ⟨κ, av, hr, k1, k2, k3, k4⟩ := hq
    unfold chkF at k4
    simp only [Bool.and_eq_true] at k4
    obtain ⟨⟨⟨c1, c2⟩, c3⟩, c4⟩ := k4
    have ev := avEq_spec _ _ c1
    subst ev
    have hrn : hr.nx = F.N' := by rwa [Nat.beq_eq] at c2
    refine ⟨κ, v', k1, rfl, k2, ?_⟩
    have h3e : ∀ b, entOf (putL F.U (putL F.L (.mk .lf F.N'))) b = (lk F.U b).getD ((lk F.L b).getD .no) := fun b => by
      rw [putL_ent _ _ _ f3, putL_ent _ _ _ f2]
      congr 2
      exact get_lf _ _
    have h3n : (putL F.U (putL F.L (.mk .lf F.N'))).nx = F.N' := by rw [putL_nx, putL_nx]; rfl
    generalize putL F.U (putL F.L (.mk .lf F.N')) = h3 at h3e h3n
    have hgone : (fun x => goneU F x = true) = fun x => entOf h3 x = .no := by
      funext x
      unfold goneU
      rw [noE_iff, h3e]
    have H3 := k3.weak (h2 := h3) (by rw [h3n, hrn]) fun b => by
      rw [h3e]
      cases hU : lk F.U b with
      | some e =>
        have h1 : leE (goneU F) (entOf hr b) e = true := outU_mem F hr F.U c3 (b, e) (lk_mem _ _ _ hU)
        have := leE_spec h1
        rw [hgone] at this
        exact this
      | none =>
        cases hL : lk F.L b with
        | none => exact .no _
        | some e =>
          have h1 : ((lk F.U b).isSome || leE (goneU F) (entOf hr b) e) = true := outL_mem F hr F.L c4 (b, e) (lk_mem _ _ _ hL)
          rw [hU] at h1
          replace h1 : leE (goneU F) (entOf hr b) e = true := h1
          have := leE_spec h1
          rw [hgone] at this
          exact this
    refine Sub.leave (U := F.U) (h3 := h3) S H ⟨by rw [nx_at, h3n], by rw [hnx, h3n]; exact hle, fun b hb1 hb2 => ?_, fun b => ?_, fun b e hU => ⟨by rw [h3e, hU]; rfl, fun hb => ?_, fun hne => ?_⟩, fun b hU hne => by rw [h3e, hU, hpre]; rfl⟩ k1 H3
    · rw [hnx] at hb1
      rw [h3n] at hb2
      have := allNo_lt hp F.N _ m3 (b - F.N) (by omega)
      rwa [show F.N + (b - F.N) = b by omega] at this
    · rw [ent_at, putL_ent _ _ _ f3]
    · have := fokU_mem F F.U f5 (b, e) (lk_mem _ _ _ hU)
      simp only [Bool.and_eq_true, Bool.or_eq_true] at this
      rcases this.1 with (h | h) | h
      · have := Nat.le_of_ble_eq_true h
        rw [hnx] at hb
        exact absurd hb (by show ¬ b < F.N; exact Nat.not_lt.2 this)
      · left
        rw [hpre]
        unfold wrL at h
        split at h
        · rename_i e' he'
          rw [he']
          exact h
        · cases h
      · exact .inr ((noE_iff _).1 h)
    · have := fokU_mem F F.U f5 (b, e) (lk_mem _ _ _ hU)
      simp only [Bool.and_eq_true, Bool.or_eq_true] at this
      rcases this.2 with h | h
      · exact absurd ((noE_iff _).1 h) hne
      · rw [h3n]; rwa [Nat.blt_eq] at h
theorem orcL_ok {P : Program} {ng : Nat} : ∀ (l : List Fact), (∀ F ∈ l, FactOk P ng F) → OrcOk P ng (orcL l)
  | [], _ => fun w0 B f as hp v hp' h => by cases h
  | F :: l, hl => fun w0 B f as hp v hp' h ι args w hv G H => by
    have h' : Bool.rec (motive := fun _ => Option (AV × Hp)) (orcL l f as hp) (some (F.v, (putL F.U hp).at F.N')) (Nat.beq f F.f && avEqs as F.ar && hmatch F hp) = some (v, hp') := h
    cases hb : (Nat.beq f F.f && avEqs as F.ar && hmatch F hp) with
    | false =>
      rw [hb] at h'
      exact orcL_ok l (fun G hG => hl G (List.mem_cons_of_mem _ hG)) w0 B f as hp v hp' h' ι args w hv G H
    | true =>
      rw [hb] at h'
      cases h'
      simp only [Bool.and_eq_true, Nat.beq_eq] at hb
      obtain ⟨⟨e1, e2⟩, e3⟩ := hb
      subst e1
      have e2' := avEqs_spec _ _ e2
      subst e2'
      exact hl F (List.mem_cons_self ..) w0 B hp ι args w e3 hv G H
end Go.Tw
set_option linter.unusedVariables false
set_option linter.unusedSimpArgs false
set_option linter.constructorNameAsVariable false
namespace Go.Tw
abbrev PT := T (List (Nat × Pln))
def findP : List (Nat × Pln) → Nat → Option Pln
  | [], _ => none
  | (i, p) :: l, id => match Nat.beq i id with
    | true => some p
    | false => findP l id
noncomputable def plansOf (pl : PT) (f : Nat) : List (Nat × Pln) := get [] pl (pth f)
noncomputable def drwL (P : Program) (ng : Nat) (l : List (Nat × Pln)) (call : CallT) (nt id : Nat) (ops : Array Oper) (fr : Fr) (df : List AV) (hp : Hp) (k : KF) (pn : Fr → List AV → KV) : Bool := match findP l id with
  | some p => regD P ng nt call ops p.la pn k p.st fr df hp
  | none => false
noncomputable def drwP (P : Program) (ng : Nat) (pl : PT) (f : Nat) : CallT → Nat → Nat → Array Oper → Fr → List AV → Hp → KF → (Fr → List AV → KV) → Bool := drwL P ng (plansOf pl f)
def codeP (l : List (Nat × Pln)) : Code → Bool
  | .region id ops true => (match findP l id with
    | some p => planOk ops p
    | none => true)
  | .seq a b => codeP l a && codeP l b
  | .cond _ a b => codeP l a && codeP l b
  | .block _ b => codeP l b
  | .loop b => codeP l b
  | .scope b => codeP l b
  | .rangeFunc _ _ a b => codeP l a && codeP l b
  | _ => true
noncomputable def fnP (P : Program) (pl : PT) (f : Nat) : Bool := match plansOf pl f with
  | [] => true
  | l => (match P.funcs[f]? with
    | some fn => (match fn.body with
      | some c => codeP l c
      | none => true)
    | none => true)
noncomputable def allP (P : Program) (pl : PT) : Bool := allN (fnP P pl) (List.range P.funcs.size)
section
variable {P : Program} {ng nt : Nat} {call : CallT}
theorem codeP_ok {rng : Operand → Array Tmp → Code → Code → Fr → List AV → Hp → KF → Bool} (hm : P.follows .mixedOrders = true) (hC : CallOk P ng call) (l : List (Nat × Pln)) (hR : ∀ g ps asg b, codeP l asg = true → codeP l b = true → RngOk P ng nt rng g ps asg b) : ∀ c : Code, codeP l c = true → CodeOk P ng nt rng (drwL P ng l call nt) c := by
  intro c
  induction c with
  | region id ops draw =>
    intro h
    cases draw with
    | false => trivial
    | true =>
      intro w0 B ι0 ι fr df hp a w k pn hd S
      unfold drwL at hd
      unfold codeP at h
      split at hd
      · rename_i p hp'
        rw [hp'] at h
        exact drw_ok hm hC h hd S
      · cases hd
  | seq a b iha ihb =>
    intro h
    unfold codeP at h
    rw [Bool.and_eq_true] at h
    exact ⟨iha h.1, ihb h.2⟩
  | cond x a b iha ihb =>
    intro h
    unfold codeP at h
    rw [Bool.and_eq_true] at h
    exact ⟨iha h.1, ihb h.2⟩
  | block id b ih => intro h; unfold codeP at h; exact ih h
  | loop b ih => intro h; unfold codeP at h; exact ih h
  | scope b ih => intro h; unfold codeP at h; exact ih h
  | rangeFunc g ps a b _ _ =>
    intro h
    unfold codeP at h
    rw [Bool.and_eq_true] at h
    exact hR g ps a b h.1 h.2
  | _ => intro _; trivial
theorem codeP_nil (l : List (Nat × Pln)) (hl : l = []) : ∀ c : Code, codeP l c = true := by
  subst hl
  intro c
  induction c with
  | region id ops draw => cases draw <;> rfl
  | seq a b iha ihb => unfold codeP; rw [iha, ihb]; rfl
  | cond x a b iha ihb => unfold codeP; rw [iha, ihb]; rfl
  | block id b ih => unfold codeP; exact ih
  | loop b ih => unfold codeP; exact ih
  | scope b ih => unfold codeP; exact ih
  | rangeFunc g ps a b iha ihb => unfold codeP; rw [iha, ihb]; rfl
  | _ => rfl
def RngAll (P : Program) (ng : Nat) (pl : PT) (rng : Nat → CallT → Nat → Operand → Array Tmp → Code → Code → Fr → List AV → Hp → KF → Bool) : Prop := ∀ (f : Nat) (fn : Func) (call : CallT), P.funcs[f]? = some fn → CallOk P ng call → ∀ g ps asg b, codeP (plansOf pl f) asg = true → codeP (plansOf pl f) b = true → RngOk P ng fn.ntmps (rng f call fn.ntmps) g ps asg b
theorem drwP_all (hm : P.follows .mixedOrders = true) {pl : PT} {rng : Nat → CallT → Nat → Operand → Array Tmp → Code → Code → Fr → List AV → Hp → KF → Bool} (hR : RngAll P ng pl rng) (h : allP P pl = true) : DrwAll P ng rng (drwP P ng pl) := by
  intro f fn c call hf hb hC
  have h1 := allN_mem _ _ h f (List.mem_range.2 (Array.getElem?_eq_some_iff.1 hf).1)
  refine codeP_ok hm hC (plansOf pl f) (hR f fn call hf hC) c ?_
  unfold fnP at h1
  split at h1
  · rename_i e
    exact codeP_nil _ e c
  · rw [hf] at h1
    simp only [hb] at h1
    exact h1
def namedB (P : Program) : Bool := P.funcs.toList.all fun fn => !(fn.name == "runtime.NumGoroutine")
theorem named_ok (h : namedB P = true) : Named P := by
  intro f fn hf
  have := List.all_eq_true.1 h fn (List.mem_of_getElem? (i := f) (by simpa using hf))
  simpa using this
/-- The evaluator with plans and facts. -/
noncomputable def evF (P : Program) (ng : Nat) (rg : Nat → Bool) (rng : Nat → CallT → Nat → Operand → Array Tmp → Code → Code → Fr → List AV → Hp → KF → Bool) (pl : PT) (l : List Fact) (n : Nat) : CallT := callN P ng rg rng (drwP P ng pl) (orcL l) n
theorem evF_ok (hm : P.follows .mixedOrders = true) (hN : namedB P = true) {pl : PT} (hp : allP P pl = true) {rg : Nat → Bool} {rng : Nat → CallT → Nat → Operand → Array Tmp → Code → Code → Fr → List AV → Hp → KF → Bool} (hR : RngAll P ng pl rng) {l : List Fact} (hl : ∀ F ∈ l, FactOk P ng F) (n : Nat) : CallOk P ng (evF P ng rg rng pl l n) :=
  call_ok (named_ok hN) (drwP_all hm hR hp) (orcL_ok l hl) n
end
end Go.Tw
set_option linter.unusedVariables false
set_option linter.unusedSimpArgs false
set_option linter.constructorNameAsVariable false
namespace Go.Tw
section
variable {P : Program} {ops : Array Oper} {Q : Exit → Act → World → Prop} {l n : Nat}
def isDf : Op → Bool
  | .defer _ => true
  | _ => false
theorem wp_inRound {o : Oper} (hd : isDf o.op = false) {a : Act} {w : World} {next next' : Act → World → Prop} (hn : ∀ a w, next a w → next' a w) (hQ : ¬ LetsOut Q) (h : o.wp P a w next Q) : o.wpIn (Fence.wide.inRound l) n P a w next' Q := by
  refine ⟨fun _ _ => trivial, ?_⟩
  have e : o.semAt (Fence.wide.inRound l).round a.eval = execOp a.eval o := Oper.semAt_some l _ o (fun c hc => by rw [hc] at hd; cases hd)
  rw [e]
  unfold Oper.wp at h
  generalize (execOp a.eval o).run P w = r at h
  cases r with
  | ok nx w' =>
    cases nx <;> simp only [Oper.upon] at h <;> simp only [Oper.uponIn]
    case value v => exact hn _ _ h
    case skip => exact hn _ _ h
    case defer d => exact hn _ _ h
    case enter f args =>
      refine ⟨fun hh => by simp [Fence.inRound, Fence.wide] at hh, CallsIn.inRound l (callsIn_wide.2 (h.mono fun e w'' he => ?_))⟩
      cases e with
      | returned v => exact hn _ _ he
      | panicked ch => exact he
      | outgrown => exact he
    case row row args =>
      refine ⟨fun hh => by simp [Fence.inRound, Fence.wide] at hh, fun c cs _ => ?_⟩
      obtain ⟨v, w'', h1, h2⟩ := h c cs
      exact ⟨v, w'', hn _ _ h1, stepsIn_wide.2 h2⟩
  | halt x w' =>
    cases x <;> simp only [Oper.upon] at h <;> simp only [Oper.uponIn]
    case panic v => exact h
theorem wpOp_inRound {i : Nat} (hd : ∀ o, ops[i]? = some o → isDf o.op = false) {a : Act} {w : World} {next next' : Act → World → Prop} (hn : ∀ a w, next a w → next' a w) (hQ : ¬ LetsOut Q) (h : wpOp P ops Q i next a w) : wpOpIn (Fence.wide.inRound l) n P ops Q i next' a w := by
  unfold wpOp at h
  unfold wpOpIn
  split at h
  · rename_i ho; rw [ho]; exact hn _ _ h
  · rename_i o ho
    rw [ho]
    simp only
    split at h
    · rename_i hw
      rw [if_pos hw]
      rcases h with h | ⟨_, h⟩
      · exact wp_inRound (hd o ho) hn hQ h
      · exact absurd h hQ
    · rename_i hw
      rw [if_neg hw]
      exact ⟨fun _ _ => trivial, hn _ _ h⟩
theorem wpOps_inRound (hd : ∀ (i : Nat) (o : Oper), ops[i]? = some o → isDf o.op = false) (hQ : ¬ LetsOut Q) : ∀ (li : List Nat) (a : Act) (w : World), wpOps P ops Q li a w → wpOpsIn (Fence.wide.inRound l) n P ops Q li a w
  | [], a, w, h => h
  | i :: li, a, w, h => by
    rw [wpOps_cons] at h
    rw [wpOpsIn_cons]
    exact wpOp_inRound (hd i) (fun a w h => wpOps_inRound hd hQ li a w h) hQ h
theorem wpAny_inRound (hd : ∀ (i : Nat) (o : Oper), ops[i]? = some o → isDf o.op = false) (hQ : ¬ LetsOut Q) : ∀ (k : Nat) (L : Array Bool) (a : Act) (w : World), wpAny P .any ops Q k L a w → wpAnyIn (Fence.wide.inRound l) n P .any ops Q k L a w
  | 0, L, a, w, h => h
  | k + 1, L, a, w, h => ⟨h.1, fun i hi => wpOp_inRound (hd i) (fun a w h => wpAny_inRound hd hQ k _ a w h) hQ (h.2 i hi)⟩
def simpleC : Code → Bool
  | .skip => true
  | .region _ ops _ => ops.toList.all fun o => !isDf o.op
  | .seq a b => simpleC a && simpleC b
  | .block _ b => simpleC b
  | _ => false
end
section
variable {P : Program} {ng nt : Nat} {call : CallT} {ι0 : Io} {w0 : World} {B : Bs} {l n : Nat}
theorem noDf {ops : Array Oper} (h : (ops.toList.all fun o => !isDf o.op) = true) (i : Nat) (o : Oper) (ho : ops[i]? = some o) : isDf o.op = false := by
  have := List.all_eq_true.1 h o (List.mem_of_getElem? (i := i) (by simpa using ho))
  simpa using this
theorem noOut {k : KF} {x : Nat → KF} {r : KF} {pn : Fr → List AV → KV} : ¬ LetsOut (PQ ι0 w0 B ng nt k x r pn) := by
  rintro ⟨_, _, h⟩
  exact h
theorem codeR_ok {rng : Operand → Array Tmp → Code → Code → Fr → List AV → Hp → KF → Bool} (hm : P.follows .mixedOrders = true) (hC : CallOk P ng call) (pls : List (Nat × Pln)) {pn : Fr → List AV → KV} : ∀ (c : Code), simpleC c = true → codeP pls c = true → ∀ (k : KF) (x : Nat → KF) (r : KF) (ι : Io) (fr : Fr) (df : List AV) (hp : Hp) (a : Act) (w : World),
    SR ι0 w0 B ng nt ι fr df hp a w → runC P ng nt call rng (drwL P ng pls call nt) pn c fr df hp k x r = true → c.wpIn (Fence.wide.inRound l) n P (PQ ι0 w0 B ng nt k x r pn) a w := by
  intro c
  induction c with
  | skip => exact fun _ _ k x r ι fr df hp a w S h => wpIn_skip ⟨ι, fr, df, hp, S, h⟩
  | region id ops draw =>
    intro hs hp0 k x r ι fr df hp a w S h
    have hd := noDf (by unfold simpleC at hs; exact hs)
    cases draw with
    | false =>
      have h' : regL P ng nt call ops pn ops.toList fr df hp k = true := h
      refine wpIn_region (wpOps_inRound hd noOut _ _ _ ?_)
      have := regL_ok (Q := PQ ι0 w0 B ng nt k x r pn) hC (fun ι fr df hp a w S h => ⟨ι, fr, df, hp, S, h⟩) (fun ι fr df hp a w v vv S hv h => ⟨ι, fr, df, hp, v, vv, S, rfl, hv, h⟩) ops.toList 0 ι fr df hp a w (by simp) S h'
      rw [List.range_eq_range']
      simpa using this
    | true =>
      have h' : drwL P ng pls call nt id ops fr df hp k pn = true := h
      unfold drwL at h'
      unfold codeP at hp0
      split at h'
      case h_2 => cases h'
      rename_i p hp'
      rw [hp'] at hp0
      have := wpAny_inRound (l := l) (n := n) hd noOut _ _ _ _ (drw_any hC hp0 h' S)
      refine Go.wpIn_mono (wpIn_region_any (id := id) hm this) fun e a w hq => ?_
      cases e with
      | normal => exact hq
      | exit i => obtain ⟨_, _, _, _, _, e⟩ := hq; cases e
      | ret => obtain ⟨_, _, _, _, _, e⟩ := hq; cases e
      | panic ch => exact hq
      | goto l => exact hq
      | outgrown => exact hq
  | seq c d ihc ihd =>
    intro hs hp0 k x r ι fr df hp a w S h
    unfold simpleC at hs
    unfold codeP at hp0
    rw [Bool.and_eq_true] at hs hp0
    refine wpIn_seq (Go.wpIn_mono (ihc hs.1 hp0.1 _ x r ι fr df hp a w S h) fun e a w hq => ?_)
    cases e with
    | normal =>
      obtain ⟨ι', fr', df', hp', S', h'⟩ := hq
      exact ihd hs.2 hp0.2 k x r ι' fr' df' hp' a w S' h'
    | exit i => exact hq
    | ret => exact hq
    | panic ch => exact hq
    | goto l => exact hq
    | outgrown => exact hq
  | block id c ih =>
    intro hs hp0 k x r ι fr df hp a w S h
    unfold simpleC at hs
    unfold codeP at hp0
    refine wpIn_block (Go.wpIn_mono (ih hs hp0 k _ r ι fr df hp a w S h) fun e a w hq => ?_)
    cases e with
    | normal => exact hq
    | exit i =>
      obtain ⟨ι', fr', df', hp', S', h'⟩ := hq
      replace h' : Bool.rec (motive := fun _ => Bool) (x i fr' df' hp') (k fr' df' hp') (Nat.beq i id) = true := h'
      show if i = id then _ else _
      by_cases hi : i = id
      · rw [if_pos hi]
        have : Nat.beq i id = true := by rw [Nat.beq_eq]; exact hi
        rw [this] at h'
        exact ⟨ι', fr', df', hp', S', h'⟩
      · rw [if_neg hi]
        have : Nat.beq i id = false := by rw [← Bool.not_eq_true, Nat.beq_eq]; exact hi
        rw [this] at h'
        exact ⟨ι', fr', df', hp', S', h'⟩
    | ret => exact hq
    | panic ch => exact hq
    | goto l => exact hq
    | outgrown => exact hq
  | _ => intro hs; cases hs
end
/-- What a round of Chunk reads. -/
structure ChJ (P : Program) (k l Bs os Bn on : Nat) (J : Nat → World → Prop) : Prop where
  drew : ∀ i W, J i W → J i W.drew
  rd : ∀ i W, J i W → ∃ (b o m cap : Nat) (c : Int), W.cell? ⟨Bs, os, none⟩ = some (.slice (some ⟨b, o, none⟩) m cap) ∧ m ≤ cap ∧ m ≤ 100000 ∧ W.cell? ⟨Bn, on, none⟩ = some (.int .i64 c) ∧ 1 ≤ c ∧ c ≤ 100000 ∧
    (i < m → YieldAt Fence.wide k P l #[.slice (some ⟨b, o + i, none⟩) (min c.toNat (m - i)) (min c.toNat (m - i))] W fun e W' => e = .returned (.bool true) ∧ ∃ c' : Int, W'.cell? ⟨Bn, on, none⟩ = some (.int .i64 c') ∧ 1 ≤ c' ∧ c' ≤ 100000 ∧ J (i + c'.toNat) W')
/-- Chunk's iterator. -/
def ChunkOk (P : Program) (cf : Nat) : Prop := (∀ args w, (callFunc cf args).run P w = .ok (.enter cf args) w) ∧ ∀ (n l Bs os Bn on : Nat) (J : Nat → World → Prop), ChJ P (n - 1) l Bs os Bn on J → ∀ W, J 0 W →
    CallsIn Fence.wide n P cf #[.func (.yield l) #[] #[], .pointer (some ⟨Bs, os, none⟩), .pointer (some ⟨Bn, on, none⟩)] W fun e W' => (∃ v, e = .returned v) ∧ ∃ i m, J i W' ∧ m ≤ i ∧ ∃ b o cap, W'.cell? ⟨Bs, os, none⟩ = some (.slice (some ⟨b, o, none⟩) m cap)
end Go.Tw
set_option linter.unusedVariables false
set_option linter.unusedSimpArgs false
set_option linter.constructorNameAsVariable false
namespace Go.Tw
def cell0 : Ent → Option AV
  | .cells (v :: _) _ _ _ => some v
  | _ => none
def c0I : Ent → Option Nat
  | .cells (.int .i64 c :: _) _ _ _ => if 1 ≤ c ∧ c ≤ 100000 then some c.toNat else none
  | _ => none
def c0S : Ent → Option (Nat × Nat × Nat)
  | .cells (.sl b o n :: _) _ _ _ => some (b, o, n)
  | _ => none
def es1 (e : Ent) : Bool := match e with
  | .cells _ es _ _ => Nat.beq es 1
  | _ => false
section
variable (P : Program) (ng nt : Nat) (call : CallT) (pls : List (Nat × Pln)) (bs bn p : Nat) (asg body : Code) (fr : Fr) (k : KF)
noncomputable def chC (c : Code) (fr : Fr) (hp : Hp) (k : Fr → Hp → Bool) : Bool := runC P ng nt call (fun _ _ _ _ _ _ _ _ => false) (drwL P ng pls call nt) (fun _ _ _ _ => false) c fr [] hp (fun fr df hp => match df with
  | [] => k fr hp
  | _ => false) (fun _ _ _ _ => false) (fun _ _ _ => false)
noncomputable def chR (fuel : Nat) : Nat → Hp → Bool :=
  Nat.rec (fun _ _ => false) (fun _ ih i hp => match c0S (entOf hp bs), c0I (entOf hp bn) with
    | some (b, o, n), some c => Nat.ble n 100000 && es1 (entOf hp b) && (match Nat.blt i n with
      | true => chC P ng nt call pls asg (setD nt fr (some p) (.sl b (o + i) (min c (n - i)))) hp fun fr2 hp2 => chC P ng nt call pls body fr2 hp2 fun _ hp3 => (match c0I (entOf hp3 bn) with
        | some c' => ih (i + c') hp3
        | none => false)
      | false => k fr [.nilm] hp)
    | _, _ => false) fuel
end
/-- cf: the iterator. -/
noncomputable def rngC (P : Program) (ng cf : Nat) (pl : PT) (f : Nat) (call : CallT) (nt : Nat) (g : Operand) (ps : Array Tmp) (asg body : Code) (fr : Fr) (df : List AV) (hp : Hp) (k : KF) : Bool := match df, opd ng fr g, ps.toList with
  | [], .fn g' [.ptr bs 0, .ptr bn 0], [p] => Nat.beq g' cf && simpleC asg && simpleC body && Nat.blt p nt && chR P ng nt call (plansOf pl f) bs bn p asg body fr k 64 0 hp
  | _, _, _ => false
section
variable {P : Program} {ng nt : Nat} {call : CallT} {ι κ ι0 : Io} {w0 : World} {B : Bs} {hp : Hp} {w : World}
theorem HR.ext (H : HR ι w0 B hp w) (o : Obj) : HR ι w0 B hp (w.alloc o) := by
  have hs := H.size
  refine ⟨fun b hb hn => ?_, fun b p hb => by have := H.dom b p hb; rw [size_al]; omega, H.fresh, H.small, H.wr, H.sep, H.sepm, fun c hc hW => ?_, by rw [size_al]; omega, H.os, H.tape, H.output, H.nev, H.nsz, H.io, H.n0⟩
  · obtain ⟨p, h1, h2⟩ := H.ent b hb hn
    exact ⟨p, h1, h2.mono (.refl _) (al_old w o _ (H.dom b p h1))⟩
  · rw [al_old w o c (by omega)]
    exact H.frm c hc hW
theorem c0_ok (H : HR ι w0 B hp w) {b : Nat} {p : Pl} (hb : ι b = some p) {v : AV} (h : cell0 (entOf hp b) = some v) : ∃ v', w.cell? ⟨p.blk, p.base, none⟩ = some v' ∧ VR ι v v' := by
  cases he : entOf hp b with
  | no => rw [he] at h; cases h
  | map l st => rw [he] at h; cases h
  | cells l es st old =>
    rw [he] at h
    cases l with
    | nil => cases h
    | cons x l =>
      cases h
      obtain ⟨q, h1, h2⟩ := H.ent b (H.fresh _ _ hb) (by rw [he]; exact fun e => by cases e)
      rw [hb] at h1
      cases h1
      rw [he] at h2
      obtain ⟨v', h3, h4⟩ := h2.1.val 0 v rfl
      exact ⟨v', h3, h4⟩
theorem c0I_ok (H : HR ι w0 B hp w) {b : Nat} {p : Pl} (hb : ι b = some p) {c : Nat} (h : c0I (entOf hp b) = some c) : w.cell? ⟨p.blk, p.base, none⟩ = some (.int .i64 c) ∧ 1 ≤ c ∧ c ≤ 100000 := by
  unfold c0I at h
  split at h
  case h_2 => cases h
  rename_i z l es st old he
  split at h
  case isFalse => cases h
  rename_i hz
  cases h
  obtain ⟨v', h1, h2⟩ := c0_ok H hb (v := .int .i64 z) (by rw [he]; rfl)
  have := h2.int_inv
  subst this
  refine ⟨?_, by omega, by omega⟩
  rw [h1]
  congr 2
  omega
theorem c0S_ok (H : HR ι w0 B hp w) {b : Nat} {p : Pl} (hb : ι b = some p) {x o n : Nat} (h : c0S (entOf hp b) = some (x, o, n)) : ∃ (q : Pl) (of c : Nat), w.cell? ⟨p.blk, p.base, none⟩ = some (.slice (some ⟨q.blk, of, none⟩) n c) ∧ n ≤ c ∧ ι x = some q ∧ (of = q.base + o ∧ q.base + o + c * q.es ≤ q.sz ∨ n = 0) := by
  unfold c0S at h
  split at h
  case h_2 => cases h
  rename_i b' o' n' l es st old he
  cases h
  obtain ⟨v', h1, h2⟩ := c0_ok H hb (v := .sl x o n) (by rw [he]; rfl)
  cases h2 with
  | @sl _ _ _ c q h hn hc => exact ⟨q, _, c, h1, hn, h, .inl ⟨rfl, hc⟩⟩
  | @sl0 _ _ o' q h => exact ⟨q, o', 0, h1, Nat.le_refl _, h, .inr rfl⟩
end
end Go.Tw
set_option linter.unusedVariables false
set_option linter.unusedSimpArgs false
set_option linter.constructorNameAsVariable false
namespace Go.Tw
section
variable {P : Program} {ng nt : Nat} {call : CallT} {ι κ ι0 : Io} {w0 : World} {B : Bs} {hp : Hp} {w : World} {pls : List (Nat × Pln)} {fr : Fr} {a : Act}
theorem chC_ok (hm : P.follows .mixedOrders = true) (hC : CallOk P ng call) {c : Code} (hs : simpleC c = true) (hcp : codeP pls c = true) {l n : Nat} (S : SR ι w0 B ng nt ι fr [] hp a w) {k : Fr → Hp → Bool} (h : chC P ng nt call pls c fr hp k = true) :
    c.wpIn (Fence.wide.inRound l) n P (fun e a' w' => e = .normal ∧ ∃ κ fr' hp', SR ι w0 B ng nt κ fr' [] hp' a' w' ∧ k fr' hp' = true) a w := by
  refine Go.wpIn_mono (codeR_ok hm hC pls c hs hcp _ _ _ ι fr [] hp a w S h) fun e a w hq => ?_
  cases e with
  | normal =>
    obtain ⟨κ, fr', df', hp', S', h'⟩ := hq
    dsimp only at h'
    split at h'
    · exact ⟨rfl, κ, fr', hp', S', h'⟩
    · cases h'
  | exit i => obtain ⟨_, _, _, _, _, e⟩ := hq; cases e
  | ret => obtain ⟨_, _, _, _, _, e⟩ := hq; cases e
  | panic ch => obtain ⟨_, _, _, _, _, _, _, _, _, e⟩ := hq; cases e
  | goto l => exact hq.elim
  | outgrown => exact hq.elim
def rcd (a : Act) (fn : FuncId) (p : Nat) (asg body : Code) (D : Nat) (st : LoopState) (pe : Option Code) : Loop := { state := st, pending := pe, fn, tmps := a.tmps, params := #[p], assign := asg, body, defers := D }
/-- Between two rounds. -/
def JS (P : Program) (ng nt : Nat) (call : CallT) (pls : List (Nat × Pln)) (bs bn p : Nat) (asg body : Code) (fr : Fr) (k : KF) (w0 : World) (B : Bs) (ι : Io) (a : Act) (fn : FuncId) (l D : Nat) (i : Nat) (W : World) : Prop :=
  ∃ κ hp fuel, ι.le κ ∧ HR κ w0 B hp W ∧ W.heap[l]? = some (.loop (rcd a fn p asg body D .ready none)) ∧ W.heap[D]? = some (.deferred (some [])) ∧ (∀ b q, κ b = some q → q.blk ≠ l ∧ q.blk ≠ D) ∧ chR P ng nt call pls bs bn p asg body fr k fuel i hp = true
theorem round_ok (hm : P.follows .mixedOrders = true) (hC : CallOk P ng call) {bs bn p : Nat} {asg body : Code} {k : KF} (hsa : simpleC asg = true) (hsb : simpleC body = true) (hca : codeP pls asg = true) (hcb : codeP pls body = true) (F : FR ι nt fr a) (G : Gl ng ι) {fn : FuncId} {l D : Nat} (hl0 : w0.heap.size ≤ l) (hD0 : w0.heap.size ≤ D) (hlD : l ≠ D) {qs qn : Pl} (hbs : ι bs = some qs) (hbn : ι bn = some qn) (kd : Nat) :
    ChJ P kd l qs.blk qs.base qn.blk qn.base (JS P ng nt call pls bs bn p asg body fr k w0 B ι a fn l D) := by
  refine ⟨?_, ?_⟩
  · rintro i W ⟨κ, hp, fuel, h1, h2, h3, h4, h5, h6⟩
    exact ⟨κ, hp, fuel, h1, h2.drew, h3, h4, h5, h6⟩
  · rintro i W ⟨κ, hp, fuel, h1, h2, h3, h4, h5, h6⟩
    cases fuel with
    | zero => cases h6
    | succ fuel =>
    have h7 : (match c0S (entOf hp bs), c0I (entOf hp bn) with
      | some (b, o, n), some c => Nat.ble n 100000 && es1 (entOf hp b) && (match Nat.blt i n with
        | true => chC P ng nt call pls asg (setD nt fr (some p) (.sl b (o + i) (min c (n - i)))) hp fun fr2 hp2 => chC P ng nt call pls body fr2 hp2 fun _ hp3 => (match c0I (entOf hp3 bn) with
          | some c' => chR P ng nt call pls bs bn p asg body fr k fuel (i + c') hp3
          | none => false)
        | false => k fr [.nilm] hp)
      | _, _ => false) = true := h6
    clear h6
    split at h7
    case h_2 => cases h7
    rename_i b o n c hS hI
    rw [Bool.and_eq_true, Bool.and_eq_true] at h7
    obtain ⟨⟨hn, he⟩, h7⟩ := h7
    replace hn : n ≤ 100000 := Nat.le_of_ble_eq_true hn
    obtain ⟨q, of, cap, g1, g2, g3, g4⟩ := c0S_ok h2 (h1 _ _ hbs) hS
    obtain ⟨g5, g6, g7⟩ := c0I_ok h2 (h1 _ _ hbn) hI
    refine ⟨q.blk, of, n, cap, c, g1, g2, hn, g5, by omega, by omega, fun hi => ?_⟩
    have hblt : Nat.blt i n = true := by rw [Nat.blt_eq]; exact hi
    rw [hblt] at h7
    simp only at h7
    obtain ⟨rfl, g8⟩ : of = q.base + o ∧ q.base + o + cap * q.es ≤ q.sz := g4.resolve_right (by omega)
    have hes : q.es = 1 := by
      cases hx : entOf hp b with
      | no => rw [hx] at he; cases he
      | map _ _ => rw [hx] at he; cases he
      | cells l' es st old =>
        rw [hx] at he
        obtain ⟨q', e1, e2⟩ := h2.ent b (h2.fresh _ _ g3) (by rw [hx]; exact fun e => by cases e)
        rw [g3] at e1
        cases e1
        rw [hx] at e2
        rw [e2.2]
        have he' : Nat.beq es 1 = true := he
        rwa [Nat.beq_eq] at he'
    rw [hes] at g8
    have ec : ((c : Nat) : Int).toNat = c := by simp
    rw [ec]
    generalize hE : min c (n - i) = E at h7 ⊢
    have hE1 : 1 ≤ E ∧ i + E ≤ n := by omega
    have hv : VR κ (.sl b (o + i) E) (.slice (some ⟨q.blk, q.base + o + i, none⟩) E E) := by
      have := VR.sl (o := o + i) (n := E) (c := E) g3 (Nat.le_refl _) (by rw [hes]; omega)
      rwa [← Nat.add_assoc] at this
    have hlW : l < W.heap.size := (Array.getElem?_eq_some_iff.1 h3).1
    have hDW : D < W.heap.size := (Array.getElem?_eq_some_iff.1 h4).1
    have hX : ∀ c, (c = l ∨ c = D) → c < W.heap.size ∧ ∀ b q, κ b = some q → q.blk ≠ c := by
      rintro c (rfl | rfl)
      · exact ⟨hlW, fun b q hb => (h5 b q hb).1⟩
      · exact ⟨hDW, fun b q hb => (h5 b q hb).2⟩
    have Hh := h2.hide (fun c => c = l ∨ c = D) none hX
    refine ⟨fn, _, asg, body, run_yield h3 (by simp [rcd]), roundIn_of_wpIn trivial ?_⟩
    have Fa := (F.mono h1).put (some p) hv
    have ht : ((rcd a fn p asg body D .ready none).params.zip #[Value.slice (some ⟨q.blk, q.base + o + i, none⟩) E E]).foldl (fun tmps x => tmps.setIfInBounds x.1 x.2) (rcd a fn p asg body D .ready none).tmps = a.tmps.setIfInBounds p (.slice (some ⟨q.blk, q.base + o + i, none⟩) E E) := by
      simp [rcd]
    have ht' : ∀ t : Array Value, t = a.tmps.setIfInBounds p (.slice (some ⟨q.blk, q.base + o + i, none⟩) E E) → SR κ W { W := WOf κ hp, N := fun c => B.N c ∨ (c = l ∨ c = D), n0 := hp.nx, ι0 := κ, mark := none } ng nt κ (setD nt fr (some p) (.sl b (o + i) E)) [] hp { tmps := t, defers := [] } W := fun t e => by
      subst e
      exact ⟨.refl _, ⟨Fa.sz, Fa.small, Fa.val⟩, .nil, G.mono h1, Hh⟩
    refine Go.wpIn_mono (chC_ok hm hC hsa hca (ht' _ ht) h7) ?_
    rintro e a1 W1 ⟨rfl, κ1, fr1, hp1, S1, hk1⟩
    have l1 := (S1.hr.kept hlW (hX l (.inl rfl)).2).trans h3
    have d1 := (S1.hr.kept hDW (hX D (.inr rfl)).2).trans h4
    have H1 := HR.back h2 S1.le S1.hr
    have u1 : ∀ b q, κ1 b = some q → q.blk ≠ l ∧ q.blk ≠ D := fun b q hb => ⟨fun e => S1.hr.nev b q hb (.inr (.inl e)), fun e => S1.hr.nev b q hb (.inr (.inr e))⟩
    have lW1 : l < W1.heap.size := (Array.getElem?_eq_some_iff.1 l1).1
    have dW1 : D < W1.heap.size := (Array.getElem?_eq_some_iff.1 d1).1
    refine ⟨_, run_beginRound l1 rfl, ?_⟩
    have H2 : HR κ1 w0 B hp1 (W1.putObj l (.loop { rcd a fn p asg body D .ready none with state := .busy })) := H1.other _ hl0 fun b q hb => (u1 b q hb).1
    have l2 := World.putObj_heap_same (w := W1) (o := .loop { rcd a fn p asg body D .ready none with state := .busy }) lW1
    have d2 := (World.putObj_heap_other (w := W1) (r := l) (k := D) (o := .loop { rcd a fn p asg body D .ready none with state := .busy }) (Ne.symm hlD)).trans d1
    generalize W1.putObj l (.loop { rcd a fn p asg body D .ready none with state := .busy }) = W2 at H2 l2 d2
    have lW2 : l < W2.heap.size := (Array.getElem?_eq_some_iff.1 l2).1
    have dW2 : D < W2.heap.size := (Array.getElem?_eq_some_iff.1 d2).1
    have hX2 : ∀ c, (c = l ∨ c = D) → c < W2.heap.size ∧ ∀ b q, κ1 b = some q → q.blk ≠ c := by
      rintro c (rfl | rfl)
      · exact ⟨lW2, fun b q hb => (u1 b q hb).1⟩
      · exact ⟨dW2, fun b q hb => (u1 b q hb).2⟩
    have Hh2 := H2.hide (fun c => c = l ∨ c = D) none hX2
    have S2 : SR κ1 W2 { W := WOf κ1 hp1, N := fun c => B.N c ∨ (c = l ∨ c = D), n0 := hp1.nx, ι0 := κ1, mark := none } ng nt κ1 fr1 [] hp1 a1 W2 := ⟨.refl _, S1.fr, S1.df, S1.gl, Hh2⟩
    refine Go.wpIn_mono (chC_ok hm hC hsb hcb S2 hk1) ?_
    rintro e a3 W3 ⟨rfl, κ3, fr3, hp3, S3, hk3⟩
    have l3 := (S3.hr.kept lW2 (hX2 l (.inl rfl)).2).trans l2
    have d3 := (S3.hr.kept dW2 (hX2 D (.inr rfl)).2).trans d2
    have H3 := HR.back H2 S3.le S3.hr
    have u3 : ∀ b q, κ3 b = some q → q.blk ≠ l ∧ q.blk ≠ D := fun b q hb => ⟨fun e => S3.hr.nev b q hb (.inr (.inl e)), fun e => S3.hr.nev b q hb (.inr (.inr e))⟩
    have lW3 : l < W3.heap.size := (Array.getElem?_eq_some_iff.1 l3).1
    split at hk3
    case h_2 => cases hk3
    rename_i c' hc'
    refine ⟨_, _, run_endRound none l3, ?_⟩
    have H4 : HR κ3 w0 B hp3 (W3.putObj l (.loop (rcd a fn p asg body D .ready none))) := H3.other _ hl0 fun b q hb => (u3 b q hb).1
    have hle : ι.le κ3 := (h1.trans S1.le).trans S3.le
    obtain ⟨m1, m2, m3⟩ := c0I_ok H4 (hle _ _ hbn) hc'
    have ec' : ((c' : Nat) : Int).toNat = c' := by simp
    refine ⟨rfl, c', m1, by omega, by omega, ?_⟩
    rw [ec']
    exact ⟨κ3, hp3, fuel, hle, H4, World.putObj_heap_same lW3, (World.putObj_heap_other (Ne.symm hlD)).trans d3, u3, hk3⟩
theorem rng_ok (hm : P.follows .mixedOrders = true) {cf : Nat} (hK : ChunkOk P cf) {pl : PT} (hC : CallOk P ng call) {f : Nat} {g : Operand} {ps : Array Tmp} {asg body : Code} (hca : codeP (plansOf pl f) asg = true) (hcb : codeP (plansOf pl f) body = true) : RngOk P ng nt (rngC P ng cf pl f call nt) g ps asg body := by
  refine ⟨fun fr df hp k h => ?_, fun w0 B ι0 ι fr df hp a w k hB h S => ?_⟩
  · unfold rngC at h
    split at h
    · rfl
    · cases h
  · unfold rngC at h
    split at h
    case h_2 => cases h
    rename_i g' bs bn p hg hps
    simp only [Bool.and_eq_true, Nat.beq_eq] at h
    obtain ⟨⟨⟨⟨e1, hsa⟩, hsb⟩, hpn⟩, h⟩ := h
    subst e1
    have hE := opd_ok S.fr S.gl g
    rw [hg] at hE
    obtain ⟨cs, ev, hcs⟩ := hE.fn_inv
    have hps' : ps = #[p] := Array.ext' hps
    subst hps'
    obtain ⟨qs, qn, hbs, hbn, hcsE⟩ : ∃ qs qn : Pl, ι bs = some qs ∧ ι bn = some qn ∧ cs = #[.pointer (some ⟨qs.blk, qs.base, none⟩), .pointer (some ⟨qn.blk, qn.base, none⟩)] := by
      generalize hl : cs.toList = l at hcs
      cases hcs with
      | cons h1 h2 =>
        cases h2 with
        | cons h2 h3 =>
          cases h3
          cases h1 with
          | ptr h1 =>
            cases h2 with
            | ptr h2 => exact ⟨_, _, h1, h2, Array.ext' hl⟩
    have hdf := S.df
    rw [hB] at hdf
    generalize had : a.defers = ds at hdf
    cases hdf
    have H0 := S.hr
    have hsz := H0.size
    refine wpIn_wide.1 (wpIn_rangeFunc (n := 3) ?_)
    intro fn _
    have HL : HR ι w0 B hp ((w.alloc (.deferred (some []))).alloc (.loop (rcd a fn p asg body w.heap.size .ready none))) := (H0.ext _).ext _
    have hL1 : ((w.alloc (.deferred (some []))).alloc (.loop (rcd a fn p asg body w.heap.size .ready none))).heap[w.heap.size + 1]? = some (.loop (rcd a fn p asg body w.heap.size .ready none)) := by
      have := World.alloc_heap_new (w.alloc (.deferred (some []))) (.loop (rcd a fn p asg body w.heap.size .ready none)); rwa [World.size_alloc] at this
    have hD1 : ((w.alloc (.deferred (some []))).alloc (.loop (rcd a fn p asg body w.heap.size .ready none))).heap[w.heap.size]? = some (.deferred (some [])) :=
      (RowKit.Below.heap_alloc _ _ _ (by simp)).trans (World.alloc_heap_new w _)
    have hn1 : ∀ b q, ι b = some q → q.blk ≠ w.heap.size + 1 ∧ q.blk ≠ w.heap.size := fun b q hb => by
      have := H0.dom b q hb
      omega
    have hent : (Instr.enterLoop fn a.tmps #[p] asg body none).run P w = .ok (w.heap.size + 1, [{ target := .collected w.heap.size, args := #[] }]) ((w.alloc (.deferred (some []))).alloc (.loop (rcd a fn p asg body w.heap.size .ready none))) := run_enterLoop_outer _ _ _ _ _
    generalize (w.alloc (.deferred (some []))).alloc (.loop (rcd a fn p asg body w.heap.size .ready none)) = W1 at HL hL1 hD1 hent
    refine ⟨w.heap.size + 1, [{ target := .collected w.heap.size, args := #[] }], W1, { target := .fn (.func g') cs, args := #[.func (.yield (w.heap.size + 1)) #[] #[]] }, W1, g',
      #[.func (.yield (w.heap.size + 1)) #[] #[]] ++ cs, W1, hent, ?_, fun _ _ => trivial, ?_, fun hh => by simp [Fence.wide] at hh, ?_⟩
    · simp only [resolve, ev]
      simp [go_sem]
    · simp [invoke, go_sem, hK.1]
    · subst hcsE
      have hJ := round_ok (w0 := w0) (B := B) (k := k) (p := p) hm hC hsa hsb hca hcb S.fr S.gl (fn := fn) (l := w.heap.size + 1) (D := w.heap.size) (by omega) hsz (by omega) hbs hbn (3 - 1 - 1)
      refine (hK.2 (3 - 1) _ _ _ _ _ _ hJ _ ⟨ι, hp, 64, .refl _, HL, hL1, hD1, hn1, h⟩).mono ?_
      rintro e W2 ⟨⟨v, rfl⟩, i, m, ⟨κ, hp', fuel, j1, j2, j3, j4, j5, j6⟩, hmi, b, o, cap, hcell⟩
      have hD : w.heap.size < W2.heap.size := (Array.getElem?_eq_some_iff.1 j4).1
      have hk : k fr [.nilm] hp' = true := by
        cases fuel with
        | zero => cases j6
        | succ fuel =>
        have h7 : (match c0S (entOf hp' bs), c0I (entOf hp' bn) with
          | some (b, o, n), some c => Nat.ble n 100000 && es1 (entOf hp' b) && (match Nat.blt i n with
            | true => chC P ng nt call (plansOf pl f) asg (setD nt fr (some p) (.sl b (o + i) (min c (n - i)))) hp' fun fr2 hp2 => chC P ng nt call (plansOf pl f) body fr2 hp2 fun _ hp3 => (match c0I (entOf hp3 bn) with
              | some c' => chR P ng nt call (plansOf pl f) bs bn p asg body fr k fuel (i + c') hp3
              | none => false)
            | false => k fr [.nilm] hp')
          | _, _ => false) = true := j6
        split at h7
        case h_2 => cases h7
        rename_i b1 o1 n1 c1 hS hI
        obtain ⟨q, of, cap1, g1, g2, g3, g4⟩ := c0S_ok j2 (j1 _ _ hbs) hS
        rw [hcell] at g1
        have e1 : m = n1 := by injection g1 with g1; injection g1
        have hblt : Nat.blt i n1 = false := by rw [← Bool.not_eq_true, Nat.blt_eq]; omega
        rw [hblt] at h7
        simp only [Bool.and_eq_true] at h7
        exact h7.2
      have H3 : HR κ w0 B hp' (W2.putObj (w.heap.size + 1) (.loop { rcd a fn p asg body w.heap.size .ready none with state := .exhausted })) := j2.other _ (by omega) fun b q hb => (j5 b q hb).1
      have d3 := (World.putObj_heap_other (w := W2) (r := w.heap.size + 1) (k := w.heap.size) (o := .loop { rcd a fn p asg body w.heap.size .ready none with state := .exhausted }) (by omega)).trans j4
      refine ⟨none, _, run_endLoop j3 (by simp [rcd]), ?_⟩
      refine ⟨_, _, Mk.one hB H3 hsz d3 (fun b q hb => (j5 b q hb).2), κ, fr, [.nilm], hp', ⟨S.le.trans j1, ⟨S.fr.sz, S.fr.small, fun n => (S.fr.val n).mono j1⟩, ?_, S.gl.mono j1, ?_⟩, hk⟩
      · show DR κ (some w.heap.size) [.nilm] ([{ target := .collected w.heap.size, args := #[] }] ++ a.defers)
        rw [had]
        exact .mark
      · exact H3.hide (fun c => c = w.heap.size) (some w.heap.size) fun c hc => by
          subst hc
          exact ⟨(Array.getElem?_eq_some_iff.1 d3).1, fun b q hb => (j5 b q hb).2⟩
end
end Go.Tw
set_option linter.unusedVariables false
namespace Go.Tw
def orc2 (a b : Nat → List AV → Hp → Option (AV × Hp)) (f : Nat) (xs : List AV) (hp : Hp) : Option (AV × Hp) := match a f xs hp with
  | some r => some r
  | none => b f xs hp
theorem orc2_ok {P : Program} {ng : Nat} {a b : Nat → List AV → Hp → Option (AV × Hp)} (ha : OrcOk P ng a) (hb : OrcOk P ng b) : OrcOk P ng (orc2 a b) := by
  intro w0 B f xs hp v hp' h
  unfold orc2 at h
  split at h
  · rename_i r hr
    cases h
    exact ha w0 B f xs hp v hp' hr
  · exact hb w0 B f xs hp v hp' h
/-- The first place of a byte. -/
def idxN (c : Nat) : Nat → List Nat → Int
  | _, [] => -1
  | i, b :: l => match Nat.beq b c with
    | true => (i : Int)
    | false => idxN c (i + 1) l
theorem idxN_eq (c : UInt8) : ∀ (l : List UInt8) (i : Nat), idxN c.toNat i (l.map UInt8.toNat) = if Go.Lib.indexByte l c = -1 then -1 else (i : Int) + Go.Lib.indexByte l c
  | [], i => rfl
  | b :: l, i => by
    have ih := idxN_eq c l (i + 1)
    have hge : ∀ l : List UInt8, -1 ≤ Go.Lib.indexByte l c := by
      intro l
      induction l with
      | nil => simp [Go.Lib.indexByte]
      | cons x l ih => unfold Go.Lib.indexByte; split <;> first | omega | (split <;> omega)
    have hl := hge l
    show (match Nat.beq b.toNat c.toNat with | true => (i : Int) | false => idxN c.toNat (i + 1) (l.map UInt8.toNat)) = _
    unfold Go.Lib.indexByte
    by_cases hb : b = c
    · subst hb
      rw [Nat.beq_refl]
      simp
    · have h1 : Nat.beq b.toNat c.toNat = false := by
        rw [← Bool.not_eq_true, Nat.beq_eq]
        exact fun e => hb (UInt8.toNat_inj.1 e)
      have h2 : (b == c) = false := by simpa using hb
      rw [h1, ih, h2]
      simp only [Bool.false_eq_true, if_false]
      by_cases h3 : Go.Lib.indexByte l c = -1
      · simp [h3]
      · have h4 : (Go.Lib.indexByte l c == -1) = false := by simpa using h3
        rw [if_neg h3, h4]
        simp only [Bool.false_eq_true, if_false]
        rw [if_neg (by omega)]
        push_cast
        omega
def orcI (fi : Nat) (f : Nat) (xs : List AV) (hp : Hp) : Option (AV × Hp) := match Nat.beq f fi, xs with
  | true, [.str s, .int .u8 c] => if 0 ≤ c ∧ c < 256 then some (.int .i64 (idxN c.toNat 0 s), hp) else none
  | _, _ => none
theorem orcI_ok {P : Program} {ng fi : Nat} (he : ∀ args w, (callFunc fi args).run P w = .ok (.enter fi args) w) (hc : ∀ (s : ByteArray) (c : Int) (w : World), Calls P fi #[.string s, .int .u8 c] w fun e w' => e = .returned (.int .i64 (Go.Lib.indexByte s.data.toList c.toNat.toUInt8)) ∧ w' = w) : OrcOk P ng (orcI fi) := by
  intro w0 B f xs hp v hp' h ι args w hv G H
  unfold orcI at h
  split at h
  case h_2 => cases h
  rename_i s c hf
  split at h
  case isFalse => cases h
  rename_i hcc
  cases h
  rw [Nat.beq_eq] at hf
  subst hf
  obtain ⟨s', rfl, hargs⟩ : ∃ s' : ByteArray, s = s'.data.toList.map UInt8.toNat ∧ args = #[.string s', .int .u8 c] := by
    generalize hl : args.toList = l at hv
    cases hv with
    | cons h1 h2 =>
      cases h2 with
      | cons h2 h3 =>
        cases h3
        cases h1 with
        | str s' h1 =>
          cases h2
          exact ⟨s', h1, Array.ext' hl⟩
  subst hargs
  refine ⟨he _ w, (hc s' c w).mono ?_⟩
  rintro e w' ⟨rfl, rfl⟩
  refine ⟨ι, _, .refl _, rfl, ?_, H⟩
  have e1 : c.toNat.toUInt8.toNat = c.toNat := by
    simp only [Nat.toUInt8, UInt8.toNat_ofNat']
    omega
  have := idxN_eq c.toNat.toUInt8 s'.data.toList 0
  rw [e1] at this
  rw [this]
  split
  · rename_i h; rw [h]; exact .int _ _
  · simp only [Int.natCast_zero, Int.zero_add]; exact .int _ _
end Go.Tw
