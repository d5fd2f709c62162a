/-
  An evaluator with a heap, part a: tries with paths for numbers; pure values with places; what they stand for in a world.
-/
import Derived.Deep.MidRow
import Derived.Calls
import Derived.Laws.AppendOwn
import Derived.KernelRfl
import Derived.Deep.Upon
import Derived.Laws.Strings
import Derived.ChangeKeysEq
import GoSem.Dispatch
set_option linter.unusedVariables false
set_option linter.unusedSimpArgs false
namespace Go.Tw
inductive Pth where
  | e
  | l (p : Pth)
  | r (p : Pth)
  deriving DecidableEq
inductive T (α : Type) where
  | lf
  | nd (l : T α) (v : α) (r : T α)
section
variable {α : Type}
noncomputable def get (d : α) (t : T α) (p : Pth) : α :=
  Pth.rec (motive := fun _ => T α → α) (fun t => T.rec d (fun _ v _ _ _ => v) t) (fun _ ih t => T.rec d (fun l _ _ _ _ => ih l) t) (fun _ ih t => T.rec d (fun _ _ r _ _ => ih r) t) p t
noncomputable def put (d v : α) (t : T α) (p : Pth) : T α :=
  Pth.rec (motive := fun _ => T α → T α) (fun t => T.rec (.nd .lf v .lf) (fun l _ r _ _ => .nd l v r) t)
    (fun _ ih t => T.rec (.nd (ih .lf) d .lf) (fun l x r _ _ => .nd (ih l) x r) t) (fun _ ih t => T.rec (.nd .lf d (ih .lf)) (fun l x r _ _ => .nd l x (ih r)) t) p t
theorem get_lf (d : α) (p : Pth) : get d (.lf : T α) p = d := by cases p <;> rfl
theorem get_put (d v : α) : ∀ (p q : Pth) (t : T α), get d (put d v t p) q = if p = q then v else get d t q := by
  intro p
  induction p with
  | e => intro q t; cases t <;> cases q <;> first | rfl | (simp only [reduceCtorEq, if_false]; exact get_lf d _)
  | l p ih =>
    intro q t
    cases t with
    | lf =>
      cases q with
      | e => rfl
      | l q => show get d (put d v .lf p) q = _; rw [ih]; simp [get_lf]
      | r q => show get d (.lf : T α) q = _; simp [get_lf]
    | nd a x b =>
      cases q with
      | e => rfl
      | l q => show get d (put d v a p) q = if Pth.l p = Pth.l q then v else get d a q; rw [ih]; simp
      | r q => show get d b q = if Pth.l p = Pth.r q then v else get d b q; simp
  | r p ih =>
    intro q t
    cases t with
    | lf =>
      cases q with
      | e => rfl
      | r q => show get d (put d v .lf p) q = _; rw [ih]; simp [get_lf]
      | l q => show get d (.lf : T α) q = _; simp [get_lf]
    | nd a x b =>
      cases q with
      | e => rfl
      | r q => show get d (put d v b p) q = if Pth.r p = Pth.r q then v else get d b q; rw [ih]; simp
      | l q => show get d a q = if Pth.r p = Pth.l q then v else get d a q; simp
end
noncomputable def pthN (f : Nat) : Nat → Pth :=
  Nat.rec (fun _ => .e) (fun _ ih n => Bool.rec (Bool.rec (.r (ih (n / 2 - 1))) (.l (ih (n / 2))) (Nat.beq (n % 2) 1)) .e (Nat.beq n 0)) f
noncomputable def pth (n : Nat) : Pth := pthN 24 n
def val : Pth → Nat
  | .e => 0
  | .l p => 2 * val p + 1
  | .r p => 2 * val p + 2
theorem pthN_val : ∀ (f n : Nat), (n + 1 < 2 ^ (f + 1) → val (pthN f n) = n) ∧ (2 ^ f ≤ n + 1 → 2 ^ f ≤ val (pthN f n) + 1) := by
  intro f
  induction f with
  | zero => intro n; exact ⟨fun h => by show 0 = n; simp at h; omega, fun h => by simp [pthN, val]⟩
  | succ f ih =>
    intro n
    have e1 : (2 : Nat) ^ (f + 1) = 2 * 2 ^ f := by rw [Nat.pow_succ]; omega
    have e2 : (2 : Nat) ^ (f + 1 + 1) = 2 * 2 ^ (f + 1) := by rw [Nat.pow_succ]; omega
    have ep := Nat.two_pow_pos f
    show (_ → val (Bool.rec (Bool.rec (.r (pthN f (n / 2 - 1))) (.l (pthN f (n / 2))) (Nat.beq (n % 2) 1)) .e (Nat.beq n 0)) = n) ∧ (_ → _ ≤ val (Bool.rec (Bool.rec (.r (pthN f (n / 2 - 1))) (.l (pthN f (n / 2))) (Nat.beq (n % 2) 1)) .e (Nat.beq n 0)) + 1)
    by_cases h0 : n = 0
    · subst h0
      exact ⟨fun _ => rfl, fun h => by omega⟩
    · have hb : Nat.beq n 0 = false := by rw [← Bool.not_eq_true, Nat.beq_eq]; exact h0
      rw [hb]
      by_cases h1 : n % 2 = 1
      · have hb1 : Nat.beq (n % 2) 1 = true := by rw [Nat.beq_eq]; exact h1
        rw [hb1]
        obtain ⟨i1, i2⟩ := ih (n / 2)
        refine ⟨fun h => ?_, fun h => ?_⟩
        · show 2 * val (pthN f (n / 2)) + 1 = n
          rw [i1 (by omega)]; omega
        · show _ ≤ 2 * val (pthN f (n / 2)) + 1 + 1
          have := i2 (by omega)
          omega
      · have hb1 : Nat.beq (n % 2) 1 = false := by rw [← Bool.not_eq_true, Nat.beq_eq]; exact h1
        rw [hb1]
        obtain ⟨i1, i2⟩ := ih (n / 2 - 1)
        refine ⟨fun h => ?_, fun h => ?_⟩
        · show 2 * val (pthN f (n / 2 - 1)) + 2 = n
          rw [i1 (by omega)]; omega
        · show _ ≤ 2 * val (pthN f (n / 2 - 1)) + 2 + 1
          have := i2 (by omega)
          omega
theorem pth_inj {n m : Nat} (h : pth n = pth m) (hn : n < 16000000) : n = m := by
  have h1 := (pthN_val 24 n).1 (by omega)
  have e : val (pthN 24 n) = val (pthN 24 m) := congrArg val h
  rcases Nat.lt_or_ge (m + 1) (2 ^ (24 + 1)) with hm | hm
  · have h2 := (pthN_val 24 m).1 hm
    omega
  · have h2 := (pthN_val 24 m).1
    have h3 := (pthN_val 24 m).2 (by omega)
    omega
end Go.Tw
set_option linter.unusedVariables false
set_option linter.unusedSimpArgs false
namespace Go.Tw
/-- und: unknown. str: bytes. ptr: block, cell. sl: block, cell, how many elements. -/
inductive AV where
  | und
  | int (k : IntKind) (n : Int)
  | bool (b : Bool)
  | str (s : List Nat)
  | nilp
  | ptr (b o : Nat)
  | nils
  | sl (b o n : Nat)
  | agg (l : List AV)
  | tup (l : List AV)
  | fn (f : Nat) (caps : List AV)
  | nilf
  | iface (t : Nat) (v : AV)
  | nili
  | map (b : Nat)
  | nilm
/-- cells: a variable or a row: its cells, how many an element has (0: a variable), is there a longer one, which shorter ones may lie in the same block. -/
inductive Ent where
  | no
  | cells (l : List AV) (es : Nat) (stale : Bool) (old : List Nat)
  | map (l : List (AV × AV)) (stale : Bool)
inductive Hp where
  | mk (t : T Ent) (n : Nat)
noncomputable def entOf (h : Hp) (b : Nat) : Ent := Hp.rec (fun t _ => get .no t (pth b)) h
noncomputable def setE (h : Hp) (b : Nat) (e : Ent) : Hp := Hp.rec (fun t n => .mk (put .no e t (pth b)) n) h
def Hp.nx : Hp → Nat
  | .mk _ n => n
theorem ent_set (h : Hp) (b b' : Nat) (e : Ent) (hb : b < 16000000) : entOf (setE h b e) b' = if b = b' then e else entOf h b' := by
  cases h with
  | mk t n =>
    show get .no (put .no e t (pth b)) (pth b') = if b = b' then e else get .no t (pth b')
    rw [get_put]
    by_cases hbb : b = b'
    · subst hbb; simp
    · rw [if_neg hbb, if_neg (fun e => hbb (pth_inj e hb))]
theorem nx_set (h : Hp) (b : Nat) (e : Ent) : (setE h b e).nx = h.nx := by cases h; rfl
/-- Where a block lies: in which one, from which cell on, how many cells that has, how many an element. -/
structure Pl where
  blk : Nat
  base : Nat
  sz : Nat
  es : Nat
abbrev Io := Nat → Option Pl
def Io.le (i j : Io) : Prop := ∀ b p, i b = some p → j b = some p
theorem Io.le.refl (i : Io) : i.le i := fun _ _ h => h
theorem Io.le.trans {i j k : Io} (h : i.le j) (h' : j.le k) : i.le k := fun b p e => h' b p (h b p e)
mutual
inductive VR (ι : Io) : AV → Value → Prop
  | und (v : Value) : VR ι .und v
  | int (k : IntKind) (n : Int) : VR ι (.int k n) (.int k n)
  | bool (b : Bool) : VR ι (.bool b) (.bool b)
  | str (s : ByteArray) {l : List Nat} (h : l = s.data.toList.map UInt8.toNat) : VR ι (.str l) (.string s)
  | nilp : VR ι .nilp (.pointer none)
  | ptr {b o : Nat} {p : Pl} (h : ι b = some p) : VR ι (.ptr b o) (.pointer (some ⟨p.blk, p.base + o, none⟩))
  | nils : VR ι .nils (.slice none 0 0)
  | sl {b o n c : Nat} {p : Pl} (h : ι b = some p) (hn : n ≤ c) (hc : p.base + o + c * p.es ≤ p.sz) : VR ι (.sl b o n) (.slice (some ⟨p.blk, p.base + o, none⟩) n c)
  | sl0 {b o o' : Nat} {p : Pl} (h : ι b = some p) : VR ι (.sl b o 0) (.slice (some ⟨p.blk, o', none⟩) 0 0)
  | agg {l : List AV} {a : Array Value} (h : VL ι l a.toList) : VR ι (.agg l) (.agg a)
  | tup {l : List AV} {a : Array Value} (h : VL ι l a.toList) : VR ι (.tup l) (.tuple a)
  | fn {f : Nat} {l : List AV} {a : Array Value} (h : VL ι l a.toList) : VR ι (.fn f l) (.func (.func f) #[] a)
  | nilf : VR ι .nilf .nilFunc
  | iface {t : Nat} {v : AV} {v' : Value} (h : VR ι v v') : VR ι (.iface t v) (.iface t v')
  | nili : VR ι .nili .nilIface
  | map {b : Nat} {p : Pl} (h : ι b = some p) : VR ι (.map b) (.map (some p.blk))
  | nilm : VR ι .nilm (.map none)
inductive VL (ι : Io) : List AV → List Value → Prop
  | nil : VL ι [] []
  | cons {v : AV} {v' : Value} {l : List AV} {l' : List Value} (h : VR ι v v') (hl : VL ι l l') : VL ι (v :: l) (v' :: l')
end
mutual
theorem VR.mono {ι κ : Io} (hk : ι.le κ) : ∀ {v : AV} {v' : Value}, VR ι v v' → VR κ v v'
  | _, _, .und v => .und v
  | _, _, .int k n => .int k n
  | _, _, .bool b => .bool b
  | _, _, .str s h => .str s h
  | _, _, .nilp => .nilp
  | _, _, .ptr h => .ptr (hk _ _ h)
  | _, _, .nils => .nils
  | _, _, .sl h hn hc => .sl (hk _ _ h) hn hc
  | _, _, .sl0 h => .sl0 (hk _ _ h)
  | _, _, .agg h => .agg (VL.mono hk h)
  | _, _, .tup h => .tup (VL.mono hk h)
  | _, _, .fn h => .fn (VL.mono hk h)
  | _, _, .nilf => .nilf
  | _, _, .iface h => .iface (VR.mono hk h)
  | _, _, .nili => .nili
  | _, _, .map h => .map (hk _ _ h)
  | _, _, .nilm => .nilm
theorem VL.mono {ι κ : Io} (hk : ι.le κ) : ∀ {l : List AV} {l' : List Value}, VL ι l l' → VL κ l l'
  | _, _, .nil => .nil
  | _, _, .cons h hl => .cons (VR.mono hk h) (VL.mono hk hl)
end
theorem VL.len {ι : Io} : ∀ {l : List AV} {l' : List Value}, VL ι l l' → l.length = l'.length
  | _, _, .nil => rfl
  | _, _, .cons _ hl => by simp [hl.len]
theorem VL.get {ι : Io} : ∀ {l : List AV} {l' : List Value}, VL ι l l' → ∀ (i : Nat) (v : AV), l[i]? = some v → ∃ v', l'[i]? = some v' ∧ VR ι v v'
  | _, _, .nil, i, v, h => by simp at h
  | _, _, .cons h hl, 0, v, e => by cases e; exact ⟨_, rfl, h⟩
  | _, _, .cons h hl, i + 1, v, e => by simpa using hl.get i v (by simpa using e)
theorem VL.get' {ι : Io} {l : List AV} {l' : List Value} (h : VL ι l l') (i : Nat) (v' : Value) (e : l'[i]? = some v') : ∃ v, l[i]? = some v ∧ VR ι v v' := by
  have hi := (List.getElem?_eq_some_iff.1 e).1
  have hl := h.len
  obtain ⟨u, h1, h2⟩ := h.get i _ (List.getElem?_eq_getElem (by omega))
  rw [e] at h1
  cases h1
  exact ⟨_, List.getElem?_eq_getElem (by omega), h2⟩
theorem VL.of {ι : Io} : ∀ (l : List AV) (l' : List Value), l.length = l'.length → (∀ (i : Nat) (v : AV) (v' : Value), l[i]? = some v → l'[i]? = some v' → VR ι v v') → VL ι l l'
  | [], [], _, _ => .nil
  | v :: l, v' :: l', hl, h => .cons (h 0 v v' rfl rfl) (VL.of l l' (by simpa using hl) fun i a b h1 h2 => h (i + 1) a b (by simpa using h1) (by simpa using h2))
  | [], _ :: _, hl, _ => by simp at hl
  | _ :: _, [], hl, _ => by simp at hl
theorem VL.app {ι : Io} : ∀ {l : List AV} {l' : List Value} {m : List AV} {m' : List Value}, VL ι l l' → VL ι m m' → VL ι (l ++ m) (l' ++ m')
  | _, _, _, _, .nil, h => h
  | _, _, _, _, .cons h hl, h' => .cons h (hl.app h')
theorem VL.drop {ι : Io} : ∀ {l : List AV} {l' : List Value} (n : Nat), VL ι l l' → VL ι (l.drop n) (l'.drop n)
  | _, _, 0, h => by simpa using h
  | _, _, n + 1, .nil => by simpa using VL.nil
  | _, _, n + 1, .cons h hl => by simpa using hl.drop n
theorem VL.take {ι : Io} : ∀ {l : List AV} {l' : List Value} (n : Nat), VL ι l l' → VL ι (l.take n) (l'.take n)
  | _, _, 0, h => by simpa using VL.nil
  | _, _, n + 1, .nil => by simpa using VL.nil
  | _, _, n + 1, .cons h hl => by simpa using VL.cons h (hl.take n)
/-- A value of one cell. -/
def one : AV → Bool
  | .und | .agg _ | .tup _ => false
  | _ => true
theorem VR.one {ι : Io} {v : AV} {v' : Value} (h : VR ι v v') (ho : one v = true) : v'.oneCell' = true := by
  cases h <;> first | rfl | simp [Tw.one] at ho
def toCells : AV → List AV
  | .agg l => l
  | v => [v]
/-- Nothing of so many cells is frozen. -/
def fz (n : Nat) (fr : Nat × Nat) : Prop := fr = (0, 0) ∨ n ≤ fr.1
/-- A row's or a variable's cells. -/
structure CR (ι : Io) (w : World) (p : Pl) (l : List AV) : Prop where
  blk : ∃ c el fr, w.heap[p.blk]? = some (.cells c el fr) ∧ c.size = p.sz ∧ fz p.sz fr
  fit : p.base + l.length ≤ p.sz
  val : ∀ (i : Nat) (v : AV), l[i]? = some v → ∃ v', w.cell? ⟨p.blk, p.base + i, none⟩ = some v' ∧ VR ι v v'
def MR (ι : Io) (w : World) (p : Pl) (l : List (AV × AV)) : Prop :=
  ∃ es clock, w.heap[p.blk]? = some (.map es clock) ∧ l.length = es.size ∧ ∀ (i : Nat) (x : AV × AV), l[i]? = some x → ∃ e, es[i]? = some e ∧ VR ι x.1 e.key ∧ VR ι x.2 e.val
def ER (ι : Io) (w : World) (p : Pl) : Ent → Prop
  | .no => True
  | .cells l es _ _ => CR ι w p l ∧ p.es = es
  | .map l _ => MR ι w p l
def Ent.wr : Ent → Bool
  | .cells _ _ false _ => true
  | .map _ false => true
  | _ => false
/-- What a run may rely on and may touch: the blocks that may change (W), those that it never sees (N), the numbers that were there (n0, ι0), the block of a range's deferred calls (mark). -/
structure Bs where
  W : Nat → Prop
  N : Nat → Prop
  n0 : Nat
  ι0 : Io
  mark : Option Nat := none
/-- The heap in a world that began as w0. -/
structure HR (ι : Io) (w0 : World) (B : Bs) (h : Hp) (w : World) : Prop where
  ent : ∀ b, b < h.nx → entOf h b ≠ .no → ∃ p, ι b = some p ∧ ER ι w p (entOf h b)
  dom : ∀ b p, ι b = some p → p.blk < w.heap.size
  fresh : ∀ b p, ι b = some p → b < h.nx
  small : h.nx < 15000000
  wr : ∀ b p, ι b = some p → (entOf h b).wr = true ∨ B.n0 ≤ b → B.W p.blk ∨ w0.heap.size ≤ p.blk
  sep : ∀ b b' p p' l es old, b ≠ b' → entOf h b = .cells l es false old → entOf h b' ≠ .no → ι b = some p → ι b' = some p' → p.blk = p'.blk → b' ∈ old ∧ ∃ l' es' old', entOf h b' = .cells l' es' true old' ∧ p'.base + l'.length ≤ p.base + l.length
  sepm : ∀ b b' p p' l, b ≠ b' → entOf h b = .map l false → entOf h b' ≠ .no → ι b = some p → ι b' = some p' → p.blk ≠ p'.blk
  frm : ∀ c, c < w0.heap.size → ¬ B.W c → w.heap[c]? = w0.heap[c]?
  size : w0.heap.size ≤ w.heap.size
  os : w.os = w0.os
  tape : w.tape = w0.tape
  output : w.output = w0.output
  nev : ∀ b p, ι b = some p → ¬ B.N p.blk
  nsz : ∀ c, B.N c → c < w0.heap.size
  io : ∀ b, b < B.n0 → ι b = B.ι0 b
  n0 : B.n0 ≤ h.nx
theorem CR.mono {ι κ : Io} {w w' : World} {p : Pl} {l : List AV} (h : CR ι w p l) (hk : ι.le κ) (hb : w'.heap[p.blk]? = w.heap[p.blk]?) : CR κ w' p l := by
  refine ⟨by rw [hb]; exact h.blk, h.fit, fun i v hv => ?_⟩
  obtain ⟨v', h1, h2⟩ := h.val i v hv
  exact ⟨v', (World.cell?_of_block (a := ⟨p.blk, p.base + i, none⟩) hb).trans h1, h2.mono hk⟩
theorem ER.mono {ι κ : Io} {w w' : World} {p : Pl} {e : Ent} (h : ER ι w p e) (hk : ι.le κ) (hb : w'.heap[p.blk]? = w.heap[p.blk]?) : ER κ w' p e := by
  cases e with
  | no => trivial
  | cells l es st old => exact ⟨h.1.mono hk hb, h.2⟩
  | map l st =>
    obtain ⟨es, clock, h1, h2, h3⟩ := h
    refine ⟨es, clock, by rw [hb]; exact h1, h2, fun i x hx => ?_⟩
    obtain ⟨e, a, b, c⟩ := h3 i x hx
    exact ⟨e, a, b.mono hk, c.mono hk⟩
/-- A world that draws. -/
theorem HR.drew {ι : Io} {w0 : World} {W : Bs} {h : Hp} {w : World} (H : HR ι w0 W h w) : HR ι w0 W h { w with drawn := w.drawn + 1 } :=
  ⟨fun b hb hn => by obtain ⟨p, h1, h2⟩ := H.ent b hb hn; exact ⟨p, h1, h2.mono (.refl _) rfl⟩, H.dom, H.fresh, H.small, H.wr, H.sep, H.sepm, H.frm, H.size, H.os, H.tape, H.output, H.nev, H.nsz, H.io, H.n0⟩
end Go.Tw
set_option linter.unusedVariables false
set_option linter.unusedSimpArgs false
namespace Go.Tw
def Io.upd (ι : Io) (b : Nat) (p : Pl) : Io := fun x => if x = b then some p else ι x
theorem Io.upd_same (ι : Io) (b : Nat) (p : Pl) : ι.upd b p b = some p := by simp [Io.upd]
theorem Io.upd_other (ι : Io) (b x : Nat) (p : Pl) (h : x ≠ b) : ι.upd b p x = ι x := by simp [Io.upd, h]
noncomputable def Hp.new (h : Hp) (e : Ent) : Hp := Hp.rec (fun t n => .mk (put .no e t (pth n)) (n + 1)) h
theorem ent_new (h : Hp) (e : Ent) (b : Nat) (hs : h.nx < 16000000) : entOf (h.new e) b = if h.nx = b then e else entOf h b := by
  cases h with
  | mk t n => exact ent_set (.mk t n) n b e hs
theorem nx_new (h : Hp) (e : Ent) : (h.new e).nx = h.nx + 1 := by cases h; rfl
theorem al_old (w : World) (o : Obj) (k : Nat) (h : k < w.heap.size) : (w.alloc o).heap[k]? = w.heap[k]? := by
  show (w.heap.push o)[k]? = _
  rw [Array.getElem?_push_lt h, Array.getElem?_eq_getElem h]
theorem size_al (w : World) (o : Obj) : (w.alloc o).heap.size = w.heap.size + 1 := by show (w.heap.push o).size = _; simp
section
variable {ι : Io} {w0 : World} {W : Bs} {h : Hp} {w : World}
theorem HR.le_upd (H : HR ι w0 W h w) (p : Pl) : ι.le (ι.upd h.nx p) := fun b q e => by
  rw [Io.upd_other]
  · exact e
  · have := H.fresh b q e; omega
/-- An entry in a new block. -/
theorem HR.new (H : HR ι w0 W h w) (o : Obj) (p : Pl) (e : Ent) (hp : p.blk = w.heap.size) (he : ER (ι.upd h.nx p) (w.alloc o) p e) (hs : h.nx < 14000000) : HR (ι.upd h.nx p) w0 W (h.new e) (w.alloc o) := by
  have hsm := H.small
  have hent := fun b => ent_new h e b (by omega)
  have hle := H.le_upd p
  have hblk : ∀ b q, ι b = some q → (w.alloc o).heap[q.blk]? = w.heap[q.blk]? := fun b q hq => al_old w o q.blk (H.dom b q hq)
  have hι : ∀ b q, ι.upd h.nx p b = some q → (b = h.nx ∧ q = p) ∨ (b ≠ h.nx ∧ ι b = some q) := fun b q hq => by
    by_cases hb : b = h.nx
    · subst hb; rw [Io.upd_same] at hq; cases hq; exact .inl ⟨rfl, rfl⟩
    · rw [Io.upd_other _ _ _ _ hb] at hq; exact .inr ⟨hb, hq⟩
  refine ⟨fun b hb hn => ?_, fun b q hq => ?_, fun b q hq => ?_, by rw [nx_new]; omega, fun b q hq hwr => ?_, ?_, ?_, fun c hc hW => ?_, ?_, H.os, H.tape, H.output, fun b q hq => ?_, H.nsz, fun b hb => ?_, by rw [nx_new]; have := H.n0; omega⟩
  · rw [hent] at hn ⊢
    by_cases hb' : h.nx = b
    · subst hb'
      rw [if_pos rfl]
      exact ⟨p, Io.upd_same _ _ _, he⟩
    · rw [if_neg hb'] at hn ⊢
      rw [nx_new] at hb
      obtain ⟨q, h1, h2⟩ := H.ent b (by omega) hn
      exact ⟨q, hle b q h1, h2.mono hle (hblk b q h1)⟩
  · rcases hι b q hq with ⟨rfl, rfl⟩ | ⟨_, h1⟩
    · rw [size_al, hp]; omega
    · have := H.dom b q h1; rw [size_al]; omega
  · rw [nx_new]
    rcases hι b q hq with ⟨rfl, rfl⟩ | ⟨_, h1⟩
    · omega
    · have := H.fresh b q h1; omega
  · rcases hι b q hq with ⟨rfl, rfl⟩ | ⟨hb, h1⟩
    · exact .inr (by rw [hp]; exact H.size)
    · refine H.wr b q h1 (hwr.imp (fun hwr => ?_) id)
      rwa [hent, if_neg (fun e => hb e.symm)] at hwr
  · intro b b' q q' l es old hbb h1 h2 h3 h4 h5
    rcases hι b q h3 with ⟨rfl, rfl⟩ | ⟨hb, k1⟩
    · rcases hι b' q' h4 with ⟨rfl, rfl⟩ | ⟨hb', k2⟩
      · exact absurd rfl hbb
      · have := H.dom b' q' k2; omega
    · rcases hι b' q' h4 with ⟨rfl, rfl⟩ | ⟨hb', k2⟩
      · have := H.dom b q k1; omega
      · rw [hent, if_neg (fun e => hb e.symm)] at h1
        rw [hent, if_neg (fun e => hb' e.symm)] at h2
        obtain ⟨a1, a2⟩ := H.sep b b' q q' l es old hbb h1 h2 k1 k2 h5
        rw [hent, if_neg (fun e => hb' e.symm)]
        exact ⟨a1, a2⟩
  · intro b b' q q' l hbb h1 h2 h3 h4 h5
    rcases hι b q h3 with ⟨rfl, rfl⟩ | ⟨hb, k1⟩
    · rcases hι b' q' h4 with ⟨rfl, rfl⟩ | ⟨hb', k2⟩
      · exact absurd rfl hbb
      · have := H.dom b' q' k2; omega
    · rcases hι b' q' h4 with ⟨rfl, rfl⟩ | ⟨hb', k2⟩
      · have := H.dom b q k1; omega
      · rw [hent, if_neg (fun e => hb e.symm)] at h1
        rw [hent, if_neg (fun e => hb' e.symm)] at h2
        exact H.sepm b b' q q' l hbb h1 h2 k1 k2 h5
  · rw [al_old w o c (by have := H.size; omega)]
    exact H.frm c hc hW
  · have := H.size; rw [size_al]; omega
  · rcases hι b q hq with ⟨rfl, rfl⟩ | ⟨_, h1⟩
    · intro hn; have := H.nsz _ hn; have := H.size; omega
    · exact H.nev b q h1
  · have := H.n0
    rw [Io.upd_other _ _ _ _ (by omega)]; exact H.io b hb
/-- A row of cells in a new block. -/
theorem HR.newCells (H : HR ι w0 W h w) (c : Array Value) (el : TypeId) {l : List AV} (es : Nat) (hl : l.length ≤ c.size) (hv : VL ι l (c.toList.take l.length)) (hs : h.nx < 14000000) (old : List Nat) (fr : Nat × Nat := (0, 0)) (hf : fz c.size fr := by exact .inl rfl) :
    HR (ι.upd h.nx ⟨w.heap.size, 0, c.size, es⟩) w0 W (h.new (.cells l es false old)) (w.alloc (.cells c el fr)) := by
  refine H.new _ _ _ rfl ⟨⟨⟨c, el, fr, heap_alloc_new w _, rfl, hf⟩, by simpa using hl, fun i v hi => ?_⟩, rfl⟩ hs
  obtain ⟨v', h1, h2⟩ := hv.get i v hi
  have hi2 := (List.getElem?_eq_some_iff.1 hi).1
  rw [List.getElem?_take_of_lt hi2] at h1
  refine ⟨v', ?_, h2.mono (H.le_upd _)⟩
  rw [cell_of_row (w.alloc (.cells c el fr)) w.heap.size (0 + i) c el fr (heap_alloc_new w _), Nat.zero_add]
  simpa using h1
/-- What a load tells. -/
theorem HR.cells (H : HR ι w0 W h w) {b o : Nat} {v : Value} (hv : VR ι (.ptr b o) v) {l : List AV} {es : Nat} {st : Bool} {old : List Nat} (he : entOf h b = .cells l es st old) :
    ∃ p, ι b = some p ∧ v = .pointer (some ⟨p.blk, p.base + o, none⟩) ∧ CR ι w p l ∧ p.es = es := by
  cases hv with
  | @ptr _ _ q hp =>
    obtain ⟨p, h1, h2⟩ := H.ent b (H.fresh _ _ hp) (by rw [he]; simp)
    rw [h1] at hp
    cases hp
    rw [he] at h2
    exact ⟨_, h1, rfl, h2.1, h2.2⟩
theorem CR.range {p : Pl} {l : List AV} (hC : CR ι w p l) (o n : Nat) (hn : o + n ≤ l.length) : ∃ cs : List Value, cs.length = n ∧ w.rangeAt p.blk (p.base + o) cs ∧ VL ι ((l.drop o).take n) cs := by
  induction n with
  | zero => exact ⟨[], rfl, fun j v h => by simp at h, by simpa using VL.nil⟩
  | succ n ih =>
    obtain ⟨cs, h1, h2, h3⟩ := ih (by omega)
    obtain ⟨v', h4, h5⟩ := hC.val (o + n) l[o + n] (List.getElem?_eq_getElem (by omega))
    refine ⟨cs ++ [v'], by simp [h1], fun j v hj => ?_, ?_⟩
    · rcases Nat.lt_or_ge j n with hlt | hge
      · rw [List.getElem?_append_left (by omega)] at hj
        exact h2 j v hj
      · have hj' := (List.getElem?_eq_some_iff.1 hj).1
        have e : j = n := by simp [h1] at hj'; omega
        subst e
        rw [List.getElem?_append_right (by omega), h1] at hj
        simp at hj
        rw [← hj, show p.base + o + j = p.base + (o + j) by omega]
        exact h4
    · have e : (l.drop o).take (n + 1) = (l.drop o).take n ++ [l[o + n]] := by
        rw [List.take_add_one]
        have : (l.drop o)[n]? = some l[o + n] := by rw [List.getElem?_drop, List.getElem?_eq_getElem (by omega)]
        rw [this]; rfl
      rw [e]
      exact h3.app (.cons h5 .nil)
end
end Go.Tw
set_option linter.unusedVariables false
set_option linter.unusedSimpArgs false
namespace Go.Tw
theorem setCells_size (b : Nat) : ∀ (vs : List Value) (o : Nat) (w : World), (w.setCells b o vs).heap.size = w.heap.size
  | [], _, _ => rfl
  | v :: r, o, w => by rw [World.setCells, setCells_size b r]; simp only [World.setCell, Array.size_modify]
theorem setCells_tape (b : Nat) : ∀ (vs : List Value) (o : Nat) (w : World), (w.setCells b o vs).tape = w.tape
  | [], _, _ => rfl
  | v :: r, o, w => by rw [World.setCells, setCells_tape b r]; rfl
theorem setCell_block {w : World} {b o : Nat} {v : Value} {c : Array Value} {el : TypeId} {fr : Nat × Nat} (h : w.heap[b]? = some (.cells c el fr)) : ∃ c', (w.setCell ⟨b, o, none⟩ v).heap[b]? = some (.cells c' el fr) ∧ c'.size = c.size := by
  refine ⟨c.setIfInBounds o v, ?_, by simp⟩
  have hb := (Array.getElem?_eq_some_iff.1 h).1
  simp only [World.setCell, Array.getElem?_modify, if_true, h]
  simp
theorem setCells_block {b : Nat} {el : TypeId} {fr : Nat × Nat} : ∀ (vs : List Value) (o : Nat) (w : World) (c : Array Value), w.heap[b]? = some (.cells c el fr) → ∃ c', (w.setCells b o vs).heap[b]? = some (.cells c' el fr) ∧ c'.size = c.size
  | [], _, w, c, h => ⟨c, h, rfl⟩
  | v :: r, o, w, c, h => by
    obtain ⟨c1, h1, h2⟩ := setCell_block (o := o) (v := v) h
    obtain ⟨c2, h3, h4⟩ := setCells_block r (o + 1) _ c1 h1
    exact ⟨c2, h3, h4.trans h2⟩
/-- Cells are put from a place on. -/
def lput : List AV → Nat → List AV → List AV
  | l, 0, vs => vs ++ l.drop vs.length
  | [], _ + 1, _ => []
  | x :: l, o + 1, vs => x :: lput l o vs
theorem lput_len : ∀ (l : List AV) (o : Nat) (vs : List AV), o + vs.length ≤ l.length → (lput l o vs).length = l.length
  | l, 0, vs, h => by simp [lput]; omega
  | [], o + 1, vs, h => by simp at h
  | x :: l, o + 1, vs, h => by simp [lput, lput_len l o vs (by simp at h; omega)]
theorem lput_get : ∀ (l : List AV) (o : Nat) (vs : List AV) (i : Nat), o + vs.length ≤ l.length → (lput l o vs)[i]? = if o ≤ i ∧ i < o + vs.length then vs[i - o]? else l[i]?
  | l, 0, vs, i, h => by
    by_cases hi : i < vs.length
    · rw [if_pos ⟨by omega, by omega⟩]; simp [lput, List.getElem?_append_left hi]
    · rw [if_neg (by omega)]
      simp only [lput]
      rw [List.getElem?_append_right (by omega), List.getElem?_drop]
      congr 1; omega
  | [], o + 1, vs, i, h => by simp at h
  | x :: l, o + 1, vs, 0, h => by rw [if_neg (by omega)]; rfl
  | x :: l, o + 1, vs, i + 1, h => by
    show (lput l o vs)[i]? = _
    rw [lput_get l o vs i (by simp at h; omega)]
    by_cases hc : o ≤ i ∧ i < o + vs.length
    · rw [if_pos hc, if_pos (by omega), show i + 1 - (o + 1) = i - o by omega]
    · rw [if_neg hc, if_neg (by omega)]; rfl
noncomputable def killL (h : Hp) (old : List Nat) : Hp := old.foldl (fun h i => setE h i .no) h
theorem kill_ent : ∀ (old : List Nat) (h : Hp) (b : Nat), (entOf (killL h old) b = .no ∨ entOf (killL h old) b = entOf h b) ∧ (b ∈ old → entOf (killL h old) b = .no) ∧ (killL h old).nx = h.nx
  | [], h, b => ⟨.inr rfl, fun h => by simp at h, rfl⟩
  | i :: r, h, b => by
    obtain ⟨h1, h2, h3⟩ := kill_ent r (setE h i .no) b
    have hs : entOf (setE h i .no) b = if pth i = pth b then .no else entOf h b := by
      cases h with | mk t n => exact get_put _ _ _ _ _
    refine ⟨?_, fun hm => ?_, h3.trans (nx_set _ _ _)⟩
    · rcases h1 with h1 | h1
      · exact .inl h1
      · rw [hs] at h1
        split at h1
        · exact .inl h1
        · exact .inr h1
    · rcases List.mem_cons.1 hm with rfl | hm
      · rcases h1 with h1 | h1
        · exact h1
        · rw [hs, if_pos rfl] at h1; exact h1
      · exact h2 hm
section
variable {ι : Io} {w0 : World} {W : Bs} {h : Hp} {w : World}
/-- A store into a row or a variable: shorter rows that may lie in the same block are read no more. -/
theorem HR.store (H : HR ι w0 W h w) {b o : Nat} {p : Pl} (hp : ι b = some p) {l : List AV} {es : Nat} {old : List Nat} (he : entOf h b = .cells l es false old) {vs : List AV} {cs : List Value} (hv : VL ι vs cs) (hfit : o + vs.length ≤ l.length) :
    HR ι w0 W (setE (killL h old) b (.cells (lput l o vs) es false [])) (w.setCells p.blk (p.base + o) cs) := by
  have hbn := H.fresh b p hp
  have hsm := H.small
  have hnx : (killL h old).nx = h.nx := (kill_ent old h 0).2.2
  have hent : ∀ b', entOf (setE (killL h old) b (.cells (lput l o vs) es false [])) b' = if b = b' then .cells (lput l o vs) es false [] else entOf (killL h old) b' := fun b' => ent_set _ b b' _ (by omega)
  obtain ⟨q, hq, hE⟩ := H.ent b hbn (by rw [he]; simp)
  rw [hp] at hq
  cases hq
  rw [he] at hE
  obtain ⟨hC, hes⟩ := hE
  obtain ⟨c, el, fr, hblk, hsz, hfz⟩ := hC.blk
  have hlen := hv.len
  have hfitC := hC.fit
  have hlive : ∀ b', b' ≠ b → entOf (killL h old) b' ≠ .no → entOf (killL h old) b' = entOf h b' ∧ b' ∉ old := fun b' _ hn => by
    obtain ⟨k1, k2, _⟩ := kill_ent old h b'
    exact ⟨k1.resolve_left hn, fun hm => hn (k2 hm)⟩
  have hoth : ∀ b' p', b' ≠ b → entOf (killL h old) b' ≠ .no → ι b' = some p' → p'.blk ≠ p.blk := fun b' p' hb' hn hp' e => by
    obtain ⟨k1, k2⟩ := hlive b' hb' hn
    exact k2 (H.sep b b' p p' l es old (fun e => hb' e.symm) he (by rw [← k1]; exact hn) hp hp' e.symm).1
  have hsame : ∀ k, k ≠ p.blk → (w.setCells p.blk (p.base + o) cs).heap[k]? = w.heap[k]? := fun k hk => by
    rcases Nat.lt_or_ge k w.heap.size with hlt | hge
    · exact World.heap_setCells_other w p.blk _ cs hlt hk
    · rw [Array.getElem?_eq_none (by rw [setCells_size]; omega), Array.getElem?_eq_none hge]
  have hwr := H.wr b p hp (.inl (by rw [he]; rfl))
  refine ⟨fun b' hb' hn => ?_, fun b' p' hp' => by rw [setCells_size]; exact H.dom b' p' hp', fun b' p' hp' => by rw [nx_set, hnx]; exact H.fresh b' p' hp', by rw [nx_set, hnx]; exact hsm, fun b' p' hp' hw' => ?_, ?_, ?_, fun k hk hW => ?_, by rw [setCells_size]; exact H.size, (World.os_setCells _ _ _ _).trans H.os, (setCells_tape _ _ _ _).trans H.tape, (World.output_setCells _ _ _ _).trans H.output, H.nev, H.nsz, H.io, by rw [nx_set, hnx]; exact H.n0⟩
  · rw [hent] at hn ⊢
    by_cases hbb : b = b'
    · subst hbb
      rw [if_pos rfl]
      obtain ⟨c', hb1, hb2⟩ := setCells_block cs (p.base + o) w c hblk
      refine ⟨p, hp, ⟨⟨⟨c', el, fr, hb1, hb2.trans hsz, hfz⟩, by rw [lput_len l o vs hfit]; exact hfitC, fun i v hi => ?_⟩, hes⟩⟩
      rw [lput_get l o vs i hfit] at hi
      split at hi
      · rename_i hc
        obtain ⟨v', h1, h2⟩ := hv.get (i - o) v hi
        have hj : i - o < cs.length := by omega
        refine ⟨v', ?_, h2⟩
        have h3 := World.cell?_setCells_in p.blk cs (p.base + o) w (fun j hj => by
          rw [cell_of_row w p.blk _ c el fr hblk]
          rw [Array.getElem?_eq_getElem (by omega)]; rfl) (i - o) hj
        rw [show p.base + o + (i - o) = p.base + i by omega] at h3
        rw [h3]
        rw [List.getElem?_eq_getElem hj] at h1
        exact h1
      · rename_i hc
        obtain ⟨v', h1, h2⟩ := hC.val i v hi
        refine ⟨v', ?_, h2⟩
        rw [World.cell?_setCells_out p.blk cs (p.base + o) w _ (fun _ _ => by show p.base + i < _ ∨ _ ≤ p.base + i; omega)]
        exact h1
    · rw [if_neg hbb] at hn ⊢
      obtain ⟨k1, k2⟩ := hlive b' (fun e => hbb e.symm) hn
      rw [nx_set, hnx] at hb'
      obtain ⟨p', h1, h2⟩ := H.ent b' hb' (by rw [← k1]; exact hn)
      rw [k1]
      exact ⟨p', h1, h2.mono (.refl _) (hsame _ (hoth b' p' (fun e => hbb e.symm) hn h1))⟩
  · by_cases hbb : b = b'
    · subst hbb
      rw [hp] at hp'
      cases hp'
      exact hwr
    · refine H.wr b' p' hp' (hw'.imp (fun hw' => ?_) id)
      rw [hent, if_neg hbb] at hw'
      rcases (kill_ent old h b').1 with k | k
      · rw [k] at hw'; simp [Ent.wr] at hw'
      · rwa [k] at hw'
  · intro b1 b2 p1 p2 l1 es1 old1 hne e1 e2 hp1 hp2 hblk2
    rw [hent] at e1 e2
    by_cases h1 : b = b1
    · subst h1
      rw [if_pos rfl] at e1
      rw [if_neg hne] at e2
      rw [hp] at hp1
      cases hp1
      exact absurd hblk2.symm (hoth b2 p2 (fun e => hne e.symm) e2 hp2)
    · rw [if_neg h1] at e1
      by_cases h2 : b = b2
      · subst h2
        rw [hp] at hp2
        cases hp2
        exact absurd hblk2 (hoth b1 p1 hne (by rw [e1]; simp) hp1)
      · rw [if_neg h2] at e2
        obtain ⟨k1, _⟩ := hlive b1 (fun e => h1 e.symm) (by rw [e1]; simp)
        obtain ⟨k2, _⟩ := hlive b2 (fun e => h2 e.symm) e2
        rw [k1] at e1
        obtain ⟨a1, a2⟩ := H.sep b1 b2 p1 p2 l1 es1 old1 hne e1 (by rw [← k2]; exact e2) hp1 hp2 hblk2
        rw [hent, if_neg h2, k2]
        exact ⟨a1, a2⟩
  · intro b1 b2 p1 p2 l1 hne e1 e2 hp1 hp2
    rw [hent] at e1 e2
    by_cases h1 : b = b1
    · subst h1; rw [if_pos rfl] at e1; cases e1
    · rw [if_neg h1] at e1
      by_cases h2 : b = b2
      · subst h2
        rw [hp] at hp2
        cases hp2
        exact hoth b1 p1 hne (by rw [e1]; simp) hp1
      · rw [if_neg h2] at e2
        obtain ⟨k1, _⟩ := hlive b1 (fun e => h1 e.symm) (by rw [e1]; simp)
        obtain ⟨k2, _⟩ := hlive b2 (fun e => h2 e.symm) e2
        rw [k1] at e1
        exact H.sepm b1 b2 p1 p2 l1 hne e1 (by rw [← k2]; exact e2) hp1 hp2
  · rw [hsame k (fun e => by rcases hwr with h | h; exact hW (by rw [e]; exact h); omega)]
    exact H.frm k hk hW
end
end Go.Tw
set_option linter.unusedVariables false
set_option linter.unusedSimpArgs false
namespace Go.Tw
section
variable {ι : Io} {w0 : World} {W : Bs} {h : Hp} {w : World}
theorem CR.thaw {p : Pl} {l : List AV} (hC : CR ι w p l) (x : Nat) (hx : x < p.sz) : (w.cell? ⟨p.blk, x, none⟩).isSome = true ∧ w.frozen? ⟨p.blk, x, none⟩ = false := by
  obtain ⟨c, el, fr, hb, hs, hf⟩ := hC.blk
  refine ⟨?_, ?_⟩
  · rw [cell_of_row w p.blk _ c el fr hb, Array.getElem?_eq_getElem (by omega)]; rfl
  · simp only [World.frozen?, hb]
    rcases hf with rfl | hf
    · simp
    · simp; omega
/-- A row that is written no more. -/
theorem HR.stale (H : HR ι w0 W h w) {b : Nat} {l : List AV} {es : Nat} {old : List Nat} (hb : b < h.nx) (he : entOf h b = .cells l es false old) : HR ι w0 W (setE h b (.cells l es true [])) w := by
  have hsm := H.small
  have hent : ∀ b', entOf (setE h b (.cells l es true [])) b' = if b = b' then .cells l es true [] else entOf h b' := fun b' => ent_set _ b b' _ (by omega)
  refine ⟨fun b' hb' hn => ?_, H.dom, fun b' p' hp' => by rw [nx_set]; exact H.fresh b' p' hp', by rw [nx_set]; exact hsm, fun b' p' hp' hw' => ?_, ?_, ?_, H.frm, H.size, H.os, H.tape, H.output, H.nev, H.nsz, H.io, by rw [nx_set]; exact H.n0⟩
  · rw [hent] at hn ⊢
    rw [nx_set] at hb'
    by_cases hbb : b = b'
    · subst hbb
      rw [if_pos rfl]
      obtain ⟨p, h1, h2⟩ := H.ent b hb' (by rw [he]; simp)
      rw [he] at h2
      exact ⟨p, h1, h2⟩
    · rw [if_neg hbb] at hn ⊢
      exact H.ent b' hb' hn
  · refine H.wr b' p' hp' (hw'.imp (fun hw' => ?_) id)
    rw [hent] at hw'
    by_cases hbb : b = b'
    · subst hbb; rw [if_pos rfl] at hw'; simp [Ent.wr] at hw'
    · rwa [if_neg hbb] at hw'
  · intro b1 b2 p1 p2 l1 es1 old1 hne e1 e2 hp1 hp2 hblk
    rw [hent] at e1 e2
    by_cases h1 : b = b1
    · subst h1; rw [if_pos rfl] at e1; cases e1
    · rw [if_neg h1] at e1
      by_cases h2 : b = b2
      · subst h2
        obtain ⟨a1, l', es', old', a2, a3⟩ := H.sep b1 b p1 p2 l1 es1 old1 hne e1 (by rw [he]; simp) hp1 hp2 hblk
        rw [he] at a2
        cases a2
      · rw [if_neg h2] at e2
        rw [hent, if_neg h2]
        exact H.sep b1 b2 p1 p2 l1 es1 old1 hne e1 e2 hp1 hp2 hblk
  · intro b1 b2 p1 p2 l1 hne e1 e2 hp1 hp2
    rw [hent] at e1 e2
    by_cases h1 : b = b1
    · subst h1; rw [if_pos rfl] at e1; cases e1
    · rw [if_neg h1] at e1
      refine H.sepm b1 b2 p1 p2 l1 hne e1 ?_ hp1 hp2
      by_cases h2 : b = b2
      · subst h2; rw [he]; simp
      · rw [if_neg h2] at e2; exact e2
/-- There is room: the new elements lie behind. -/
theorem HR.room (H : HR ι w0 W h w) {b o : Nat} {p : Pl} (hp : ι b = some p) {l : List AV} {es : Nat} {old : List Nat} (he : entOf h b = .cells l es false old) (ho : o ≤ l.length) {vs : List AV} {cs : List Value} (hv : VL ι vs cs) (hfit : p.base + l.length + cs.length ≤ p.sz) (hs : h.nx < 14000000) :
    HR (ι.upd h.nx ⟨p.blk, p.base + o, p.sz, es⟩) w0 W ((setE h b (.cells l es true [])).new (.cells (l.drop o ++ vs) es false (b :: old))) (w.setCells p.blk (p.base + l.length) cs) := by
  have hbn := H.fresh b p hp
  have hsm := H.small
  have hlenv := hv.len
  have hent1 : ∀ b', entOf (setE h b (.cells l es true [])) b' = if b = b' then .cells l es true [] else entOf h b' := fun b' => ent_set _ b b' _ (by omega)
  have hnx1 : (setE h b (.cells l es true [])).nx = h.nx := nx_set _ _ _
  have hent : ∀ b', entOf ((setE h b (.cells l es true [])).new (.cells (l.drop o ++ vs) es false (b :: old))) b' = if h.nx = b' then .cells (l.drop o ++ vs) es false (b :: old) else if b = b' then .cells l es true [] else entOf h b' := fun b' => by
    rw [ent_new _ _ _ (by rw [hnx1]; omega), hnx1, hent1]
  have hle := H.le_upd ⟨p.blk, p.base + o, p.sz, es⟩
  have hι : ∀ b' q, ι.upd h.nx ⟨p.blk, p.base + o, p.sz, es⟩ b' = some q → (b' = h.nx ∧ q = ⟨p.blk, p.base + o, p.sz, es⟩) ∨ (b' ≠ h.nx ∧ ι b' = some q) := fun b' q hq => by
    by_cases hb : b' = h.nx
    · subst hb; rw [Io.upd_same] at hq; cases hq; exact .inl ⟨rfl, rfl⟩
    · rw [Io.upd_other _ _ _ _ hb] at hq; exact .inr ⟨hb, hq⟩
  obtain ⟨q, hq, hE⟩ := H.ent b hbn (by rw [he]; simp)
  rw [hp] at hq
  cases hq
  rw [he] at hE
  obtain ⟨hC, hes⟩ := hE
  obtain ⟨c, el, fr, hblk, hsz, hfz⟩ := hC.blk
  have hdom := H.dom b p hp
  have hsame : ∀ k, k ≠ p.blk → (w.setCells p.blk (p.base + l.length) cs).heap[k]? = w.heap[k]? := fun k hk => by
    rcases Nat.lt_or_ge k w.heap.size with hlt | hge
    · exact World.heap_setCells_other w p.blk _ cs hlt hk
    · rw [Array.getElem?_eq_none (by rw [setCells_size]; omega), Array.getElem?_eq_none hge]
  obtain ⟨c', hb1, hb2⟩ := setCells_block cs (p.base + l.length) w c hblk
  have hold : ∀ x, x < p.base + l.length → (w.setCells p.blk (p.base + l.length) cs).cell? ⟨p.blk, x, none⟩ = w.cell? ⟨p.blk, x, none⟩ := fun x hx =>
    World.cell?_setCells_out p.blk cs (p.base + l.length) w _ (fun _ _ => .inl hx)
  have hsep : ∀ b' p', b' ≠ b → entOf h b' ≠ .no → ι b' = some p' → p.blk = p'.blk → b' ∈ old ∧ ∃ l' es' old', entOf h b' = .cells l' es' true old' ∧ p'.base + l'.length ≤ p.base + l.length := fun b' p' hb' hn hp' e =>
    H.sep b b' p p' l es old (fun e => hb' e.symm) he hn hp hp' e
  have hwr := H.wr b p hp (.inl (by rw [he]; rfl))
  refine ⟨fun b' hb' hn => ?_, fun b' p' hp' => ?_, fun b' p' hp' => ?_, by rw [nx_new, hnx1]; omega, fun b' p' hp' hw' => ?_, ?_, ?_, fun k hk hW => ?_, by rw [setCells_size]; exact H.size, (World.os_setCells _ _ _ _).trans H.os, (setCells_tape _ _ _ _).trans H.tape, (World.output_setCells _ _ _ _).trans H.output, fun b' p' hp' => ?_, H.nsz, fun b' hb' => ?_, by rw [nx_new, hnx1]; have := H.n0; omega⟩
  · rw [hent] at hn ⊢
    rw [nx_new, hnx1] at hb'
    by_cases h1 : h.nx = b'
    · subst h1
      rw [if_pos rfl]
      refine ⟨_, Io.upd_same _ _ _, ⟨⟨⟨c', el, fr, hb1, hb2.trans hsz, hfz⟩, ?_, fun i v hi => ?_⟩, rfl⟩⟩
      · show p.base + o + (l.drop o ++ vs).length ≤ p.sz
        rw [List.length_append, List.length_drop]; omega
      · show ∃ v', (w.setCells p.blk (p.base + l.length) cs).cell? ⟨p.blk, p.base + o + i, none⟩ = some v' ∧ _
        rcases Nat.lt_or_ge i (l.length - o) with hlt | hge
        · rw [List.getElem?_append_left (by rw [List.length_drop]; exact hlt), List.getElem?_drop] at hi
          obtain ⟨v', a1, a2⟩ := hC.val (o + i) v hi
          refine ⟨v', ?_, a2.mono hle⟩
          rw [hold _ (by omega), show p.base + o + i = p.base + (o + i) by omega]
          exact a1
        · rw [List.getElem?_append_right (by rw [List.length_drop]; exact hge), List.length_drop] at hi
          obtain ⟨v', a1, a2⟩ := hv.get _ v hi
          have hj : i - (l.length - o) < cs.length := (List.getElem?_eq_some_iff.1 a1).1
          refine ⟨v', ?_, a2.mono hle⟩
          have h3 := World.cell?_setCells_in p.blk cs (p.base + l.length) w (fun j hj => by
            rw [cell_of_row w p.blk _ c el fr hblk]
            rw [Array.getElem?_eq_getElem (by omega)]; rfl) (i - (l.length - o)) hj
          rw [show p.base + l.length + (i - (l.length - o)) = p.base + o + i by omega] at h3
          rw [h3]
          rw [List.getElem?_eq_getElem hj] at a1
          exact a1
    · rw [if_neg h1] at hn ⊢
      by_cases h2 : b = b'
      · subst h2
        rw [if_pos rfl]
        refine ⟨p, hle _ _ hp, ⟨⟨⟨c', el, fr, hb1, hb2.trans hsz, hfz⟩, hC.fit, fun i v hi => ?_⟩, hes⟩⟩
        obtain ⟨v', a1, a2⟩ := hC.val i v hi
        have hi2 := (List.getElem?_eq_some_iff.1 hi).1
        exact ⟨v', by rw [hold _ (by omega)]; exact a1, a2.mono hle⟩
      · rw [if_neg h2] at hn ⊢
        obtain ⟨p', a1, a2⟩ := H.ent b' (by omega) hn
        refine ⟨p', hle _ _ a1, ?_⟩
        by_cases h3 : p.blk = p'.blk
        · obtain ⟨_, l', es', old', e1, e2⟩ := hsep b' p' (fun e => h2 e.symm) hn a1 h3
          rw [e1] at a2 ⊢
          obtain ⟨a3, a4⟩ := a2
          obtain ⟨c2, el2, fr2, f1, f2, f3⟩ := a3.blk
          rw [← h3, hblk] at f1
          cases f1
          refine ⟨⟨⟨c', el, fr, by rw [← h3]; exact hb1, hb2.trans f2, f3⟩, a3.fit, fun i v hi => ?_⟩, a4⟩
          obtain ⟨v', g1, g2⟩ := a3.val i v hi
          have hi2 := (List.getElem?_eq_some_iff.1 hi).1
          refine ⟨v', ?_, g2.mono hle⟩
          rw [← h3] at g1 ⊢
          rw [hold _ (by omega)]
          exact g1
        · exact a2.mono hle (hsame _ (fun e => h3 e.symm))
  · rcases hι b' p' hp' with ⟨rfl, rfl⟩ | ⟨_, h1⟩
    · rw [setCells_size]; exact hdom
    · rw [setCells_size]; exact H.dom b' p' h1
  · rw [nx_new, hnx1]
    rcases hι b' p' hp' with ⟨rfl, rfl⟩ | ⟨_, h1⟩
    · omega
    · have := H.fresh b' p' h1; omega
  · rcases hι b' p' hp' with ⟨rfl, rfl⟩ | ⟨h0, h1⟩
    · exact hwr
    · refine H.wr b' p' h1 (hw'.imp (fun hw' => ?_) id)
      rw [hent, if_neg (fun e => h0 e.symm)] at hw'
      by_cases h2 : b = b'
      · subst h2; rw [if_pos rfl] at hw'; simp [Ent.wr] at hw'
      · rwa [if_neg h2] at hw'
  · intro b1 b2 p1 p2 l1 es1 old1 hne e1 e2 hp1 hp2 hblk2
    rw [hent] at e1 e2
    rcases hι b1 p1 hp1 with ⟨rfl, rfl⟩ | ⟨n1, q1⟩
    · rw [if_pos rfl] at e1
      cases e1
      rcases hι b2 p2 hp2 with ⟨rfl, rfl⟩ | ⟨n2, q2⟩
      · exact absurd rfl hne
      · rw [if_neg (fun e => n2 e.symm)] at e2
        rw [hent, if_neg (fun e => n2 e.symm)]
        have hL : (l.drop o ++ vs).length = l.length - o + vs.length := by rw [List.length_append, List.length_drop]
        by_cases h2 : b = b2
        · subst h2
          rw [hp] at q2
          cases q2
          rw [if_pos rfl]
          refine ⟨List.mem_cons_self .., l, es, [], rfl, ?_⟩
          show p.base + l.length ≤ p.base + o + (l.drop o ++ vs).length
          omega
        · rw [if_neg h2] at e2 ⊢
          obtain ⟨a1, l', es', old', a2, a3⟩ := hsep b2 p2 (fun e => h2 e.symm) e2 q2 hblk2
          refine ⟨List.mem_cons_of_mem _ a1, l', es', old', a2, ?_⟩
          show p2.base + l'.length ≤ p.base + o + (l.drop o ++ vs).length
          omega
    · rw [if_neg (fun e => n1 e.symm)] at e1
      by_cases h1 : b = b1
      · subst h1; rw [if_pos rfl] at e1; cases e1
      · rw [if_neg h1] at e1
        rcases hι b2 p2 hp2 with ⟨rfl, rfl⟩ | ⟨n2, q2⟩
        · obtain ⟨_, l', es', old', a2, _⟩ := hsep b1 p1 (fun e => h1 e.symm) (by rw [e1]; simp) q1 hblk2.symm
          rw [e1] at a2
          cases a2
        · rw [if_neg (fun e => n2 e.symm)] at e2
          rw [hent, if_neg (fun e => n2 e.symm)]
          by_cases h2 : b = b2
          · subst h2
            obtain ⟨_, l', es', old', a2, _⟩ := H.sep b1 b p1 p2 l1 es1 old1 hne e1 (by rw [he]; simp) q1 q2 hblk2
            rw [he] at a2
            cases a2
          · rw [if_neg h2] at e2 ⊢
            exact H.sep b1 b2 p1 p2 l1 es1 old1 hne e1 e2 q1 q2 hblk2
  · intro b1 b2 p1 p2 l1 hne e1 e2 hp1 hp2
    rw [hent] at e1 e2
    rcases hι b1 p1 hp1 with ⟨rfl, rfl⟩ | ⟨n1, q1⟩
    · rw [if_pos rfl] at e1; cases e1
    · rw [if_neg (fun e => n1 e.symm)] at e1
      by_cases h1 : b = b1
      · subst h1; rw [if_pos rfl] at e1; cases e1
      · rw [if_neg h1] at e1
        rcases hι b2 p2 hp2 with ⟨rfl, rfl⟩ | ⟨n2, q2⟩
        · exact H.sepm b1 b p1 p l1 (fun e => h1 e.symm) e1 (by rw [he]; simp) q1 hp
        · rw [if_neg (fun e => n2 e.symm)] at e2
          refine H.sepm b1 b2 p1 p2 l1 hne e1 ?_ q1 q2
          by_cases h2 : b = b2
          · subst h2; rw [he]; simp
          · rw [if_neg h2] at e2; exact e2
  · rw [hsame k (fun e => by rcases hwr with h | h; exact hW (by rw [e]; exact h); omega)]
    exact H.frm k hk hW
  · rcases hι b' p' hp' with ⟨rfl, rfl⟩ | ⟨_, h1⟩
    · exact H.nev b p hp
    · exact H.nev b' p' h1
  · have := H.n0
    rw [Io.upd_other _ _ _ _ (by omega)]; exact H.io b' hb'
end
end Go.Tw
set_option linter.unusedVariables false
set_option linter.unusedSimpArgs false
namespace Go.Tw
abbrev Fr := T AV
noncomputable def fget (fr : Fr) (n : Nat) : AV := get .und fr (pth n)
noncomputable def setD (nt : Nat) (fr : Fr) (d : Option Nat) (v : AV) : Fr := Option.rec fr (fun d => Bool.rec fr (put .und v fr (pth d)) (Nat.blt d nt)) d
def ofA : Value → AV
  | .int k n => .int k n
  | .bool b => .bool b
  | .string s => .str (s.data.toList.map fun b => b.toNat)
  | .pointer none => .nilp
  | .slice none 0 0 => .nils
  | .nilFunc => .nilf
  | .nilIface => .nili
  | .map none => .nilm
  | _ => .und
def ofV : Value → AV
  | .agg l => .agg (l.toList.map ofA)
  | v => ofA v
theorem ofA_ok (ι : Io) (v : Value) : VR ι (ofA v) v := by
  unfold ofA
  split
  · exact .int _ _
  · exact .bool _
  · exact .str _ rfl
  · exact .nilp
  · exact .nils
  · exact .nilf
  · exact .nili
  · exact .nilm
  · exact .und _
theorem ofAs_ok (ι : Io) : ∀ l : List Value, VL ι (l.map ofA) l
  | [] => .nil
  | v :: l => .cons (ofA_ok ι v) (ofAs_ok ι l)
theorem ofV_ok (ι : Io) (v : Value) : VR ι (ofV v) v := by
  unfold ofV
  split
  · exact .agg (ofAs_ok ι _)
  · exact ofA_ok ι _
noncomputable def opd (ng : Nat) (fr : Fr) (x : Operand) : AV :=
  Operand.rec (fun t => get .und fr (pth t)) (fun v => ofV v) (fun g => Bool.rec .und (.ptr g 0) (Nat.blt g ng)) (fun f => .fn f []) x
/-- A frame's slots. -/
structure FR (ι : Io) (nt : Nat) (fr : Fr) (a : Act) : Prop where
  sz : a.tmps.size = nt
  small : nt < 16000000
  val : ∀ n, VR ι (fget fr n) (a.tmps.getD n undef)
/-- Where the package's variables lie. -/
def Gl (ng : Nat) (ι : Io) : Prop := ∀ g, g < ng → ∃ p, ι g = some p ∧ p.blk = g ∧ p.base = 0
theorem Gl.mono {ng : Nat} {ι κ : Io} (h : Gl ng ι) (hk : ι.le κ) : Gl ng κ := fun g hg => by
  obtain ⟨p, h1, h2⟩ := h g hg
  exact ⟨p, hk _ _ h1, h2⟩
theorem FR.mono {ι κ : Io} {nt : Nat} {fr : Fr} {a : Act} (h : FR ι nt fr a) (hk : ι.le κ) : FR κ nt fr a := ⟨h.sz, h.small, fun n => (h.val n).mono hk⟩
theorem FR.put {ι : Io} {nt : Nat} {fr : Fr} {a : Act} (h : FR ι nt fr a) (d : Option Nat) {v : AV} {v' : Value} (hv : VR ι v v') : FR ι nt (setD nt fr d v) (a.put d v') := by
  cases d with
  | none => exact h
  | some d =>
    refine ⟨by simp [Act.put, h.sz], h.small, fun n => ?_⟩
    have hs := h.sz
    by_cases hd : d < nt
    · have e : setD nt fr (some d) v = Tw.put .und v fr (pth d) := by
        show (Bool.rec (motive := fun _ => Fr) fr (Tw.put .und v fr (pth d)) (Nat.blt d nt)) = _
        have : Nat.blt d nt = true := by rw [Nat.blt_eq]; exact hd
        rw [this]
      rw [e]
      unfold fget
      rw [get_put]
      by_cases hn : d = n
      · subst hn
        rw [if_pos rfl]
        simp only [Act.put, Array.getD_eq_getD_getElem?]
        rw [Array.getElem?_setIfInBounds_self_of_lt (by omega)]
        exact hv
      · rw [if_neg (fun e => hn (pth_inj e (by have := h.small; omega)))]
        simp only [Act.put, Array.getD_eq_getD_getElem?]
        rw [Array.getElem?_setIfInBounds_ne hn]
        have := h.val n
        rwa [Array.getD_eq_getD_getElem?] at this
    · have e : setD nt fr (some d) v = fr := by
        show (Bool.rec (motive := fun _ => Fr) fr (Tw.put .und v fr (pth d)) (Nat.blt d nt)) = _
        have : Nat.blt d nt = false := by rw [← Bool.not_eq_true, Nat.blt_eq]; exact hd
        rw [this]
      rw [e]
      have e2 : (a.put (some d) v').tmps = a.tmps := by
        simp only [Act.put]
        exact Array.setIfInBounds_eq_of_size_le (by omega)
      rw [e2]
      exact h.val n
theorem opd_ok {ι : Io} {ng nt : Nat} {fr : Fr} {a : Act} (h : FR ι nt fr a) (hg : Gl ng ι) (x : Operand) : VR ι (opd ng fr x) (a.eval x) := by
  cases x with
  | tmp t => exact h.val t
  | const v => exact ofV_ok ι v
  | global g =>
    show VR ι (Bool.rec (motive := fun _ => AV) .und (.ptr g 0) (Nat.blt g ng)) (.pointer (some ⟨g, 0, none⟩))
    by_cases hl : g < ng
    · have : Nat.blt g ng = true := by rw [Nat.blt_eq]; exact hl
      rw [this]
      obtain ⟨p, h1, h2, h3⟩ := hg g hl
      have := VR.ptr (o := 0) h1
      rw [h2, h3] at this
      exact this
    · have : Nat.blt g ng = false := by rw [← Bool.not_eq_true, Nat.blt_eq]; exact hl
      rw [this]
      exact .und _
  | func f => exact .fn .nil
/-! what is known of a value tells its form -/
theorem VR.int_inv {ι : Io} {k : IntKind} {n : Int} {v : Value} (h : VR ι (.int k n) v) : v = .int k n := by cases h; rfl
theorem VR.bool_inv {ι : Io} {b : Bool} {v : Value} (h : VR ι (.bool b) v) : v = .bool b := by cases h; rfl
theorem VR.str_inv {ι : Io} {l : List Nat} {v : Value} (h : VR ι (.str l) v) : ∃ s, v = .string s ∧ l = s.data.toList.map UInt8.toNat := by
  cases h with | str s e => exact ⟨s, rfl, e⟩
theorem VR.agg_inv {ι : Io} {l : List AV} {v : Value} (h : VR ι (.agg l) v) : ∃ a : Array Value, v = .agg a ∧ VL ι l a.toList := by
  cases h with | agg e => exact ⟨_, rfl, e⟩
theorem VR.tup_inv {ι : Io} {l : List AV} {v : Value} (h : VR ι (.tup l) v) : ∃ a : Array Value, v = .tuple a ∧ VL ι l a.toList := by
  cases h with | tup e => exact ⟨_, rfl, e⟩
/-- What an operation that looks at no memory does. -/
def Does0 (P : Program) (ι : Io) (s : Sem Value) (v : AV) : Prop := ∀ w, ∃ v', s.run P w = .ok v' w ∧ VR ι v v'
theorem bytes_eq {a b : ByteArray} (h : a.data.toList.map UInt8.toNat = b.data.toList.map UInt8.toNat) : a = b := by
  have e : a.data.toList = b.data.toList := by
    refine List.map_inj_right (f := UInt8.toNat) ?_ |>.1 h
    intro x y hxy
    exact UInt8.toNat_inj.1 hxy
  exact ByteArray.ext (Array.ext' e)
def strEq : List Nat → List Nat → Bool
  | [], [] => true
  | a :: x, b :: y => Nat.beq a b && strEq x y
  | _, _ => false
theorem strEq_iff : ∀ a b : List Nat, strEq a b = true ↔ a = b
  | [], [] => by simp [strEq]
  | a :: x, b :: y => by
    have hb : Nat.beq a b = true ↔ a = b := Iff.of_eq Nat.beq_eq
    rw [strEq, Bool.and_eq_true, hb, strEq_iff x y]; simp
  | [], _ :: _ => by simp [strEq]
  | _ :: _, [] => by simp [strEq]
theorem strEq_eq (a b : ByteArray) : strEq (a.data.toList.map UInt8.toNat) (b.data.toList.map UInt8.toNat) = (a.toList == b.toList) := by
  rw [Bool.eq_iff_iff, strEq_iff, beq_iff_eq, ByteArray.toList_eq, ByteArray.toList_eq]
  refine ⟨fun h => by rw [bytes_eq h], fun h => by rw [h]⟩
end Go.Tw
set_option linter.unusedVariables false
set_option linter.unusedSimpArgs false
namespace Go.Tw
def eq1 (u : Option TypeDesc) (a b : AV) : Option Bool := match u, a, b with
  | some (.int _), .int k a, .int k' b => if k = k' then some (a == b) else none
  | some .string, .str a, .str b => some (strEq a b)
  | some .bool, .bool a, .bool b => some (a == b)
  | _, _, _ => none
def eqFs (P : Program) (l m : List AV) : List Field → Option Bool
  | [] => some true
  | f :: fs => if (f.name ≠ "_") ∧ P.plainKey f.type = true then (match l[f.offset]?, m[f.offset]? with
    | some a, some b => (match eq1 (P.underlying f.type) a b with
      | some true => eqFs P l m fs
      | some false => some false
      | none => none)
    | _, _ => none) else none
def kindOf (P : Program) (t : TypeId) : Nat := match P.underlying t with
  | some .bool => 1
  | some (.pointer _) => 2
  | some (.slice _) => 3
  | some (.map _ _) => 4
  | some (.func _ _ _) => 5
  | some (.interface _) => 6
  | some (.struct _) => 7
  | _ => 0
def eqA (P : Program) (cst : Bool) (t : TypeId) : AV → AV → Option Bool
  | .int k a, .int k' b => if k = k' then some (a == b) else none
  | .str a, .str b => some (strEq a b)
  | .bool a, .bool b => if kindOf P t = 1 then some (a == b) else none
  | .nilp, .nilp => if kindOf P t = 2 then some true else none
  | .nilp, .ptr _ _ => if kindOf P t = 2 then some false else none
  | .ptr _ _, .nilp => if kindOf P t = 2 then some false else none
  | .nils, .nils => if kindOf P t = 3 then some true else none
  | .nils, .sl _ _ _ => if kindOf P t = 3 then some false else none
  | .sl _ _ _, .nils => if kindOf P t = 3 then some false else none
  | .nilm, .nilm => if kindOf P t = 4 then some true else none
  | .nilm, .map _ => if kindOf P t = 4 then some false else none
  | .map _, .nilm => if kindOf P t = 4 then some false else none
  | .nilf, .nilf => if kindOf P t = 5 then some true else none
  | .nilf, .fn _ _ => if kindOf P t = 5 then some false else none
  | .fn _ _, .nilf => if kindOf P t = 5 then some false else none
  | .nili, .nili => if kindOf P t = 6 ∧ cst = true then some true else none
  | .nili, .iface _ _ => if kindOf P t = 6 then some false else none
  | .iface _ _, .nili => if kindOf P t = 6 then some false else none
  | .agg l, .agg m => if kindOf P t = 7 ∧ P.stoodInHeld t = false ∧ P.eqGuardType P.depth t = false then eqFs P l m (P.fieldsOf t).toList else none
  | _, _ => none
section
variable {P : Program} {ι : Io}
theorem eq1_ok {a b : AV} {va vb : Value} {r : Bool} {e : TypeId} (h : eq1 (P.underlying e) a b = some r) (ha : VR ι a va) (hb : VR ι b vb) (d : Nat) (w : World) : (Op.equalIn (d + 1) e va vb).run P w = .ok r w := by
  unfold eq1 at h
  split at h
  · rename_i hu
    cases VR.int_inv ha; cases VR.int_inv hb
    split at h
    · rename_i hk
      subst hk
      cases h
      simp [Op.equalIn, run_underlying hu]
    · cases h
  · rename_i hu
    obtain ⟨s, rfl, rfl⟩ := VR.str_inv ha; obtain ⟨s', rfl, rfl⟩ := VR.str_inv hb
    cases h
    simp [Op.equalIn, run_underlying hu, strEq_eq, beq_toListBytes]
  · rename_i hu
    cases VR.bool_inv ha; cases VR.bool_inv hb
    cases h
    simp [Op.equalIn, run_underlying hu]
  · cases h
theorem eqFs_ok {l m : List AV} {xs ys : Array Value} (hl : VL ι l xs.toList) (hm : VL ι m ys.toList) (d : Nat) (w : World) : ∀ (fs : List Field) (r : Bool), eqFs P l m fs = some r → (Op.eqFields (d + 1) xs ys fs).run P w = .ok r w
  | [], r, h => by cases h; rfl
  | f :: fs, r, h => by
    unfold eqFs at h
    split at h
    · rename_i hc
      obtain ⟨hn, hp⟩ := hc
      split at h
      · rename_i a b ha hb
        obtain ⟨va, h1, h2⟩ := hl.get _ _ ha
        obtain ⟨vb, h3, h4⟩ := hm.get _ _ hb
        have p1 := run_part_plain (P := P) w hp (xs := xs) (off := f.offset) (v := va) (by simpa using h1)
        have p2 := run_part_plain (P := P) w hp (xs := ys) (off := f.offset) (v := vb) (by simpa using h3)
        split at h
        · rename_i he
          have p3 := eq1_ok (P := P) he h2 h4 d w
          simp only [Op.eqFields, hn, ne_eq, not_false_eq_true, if_true, Sem.run_bind, p1, p2, p3, Result.andThen_ok]
          simpa using eqFs_ok hl hm d w fs r h
        · rename_i he
          have p3 := eq1_ok (P := P) he h2 h4 d w
          cases h
          simp only [Op.eqFields, hn, ne_eq, not_false_eq_true, if_true, Sem.run_bind, p1, p2, p3, Result.andThen_ok]
          simp
        · cases h
      · cases h
    · cases h
theorem kind_struct {t : TypeId} (h : kindOf P t = 7) : P.underlying t = some (.struct (P.fieldsOf t)) := by
  unfold kindOf at h
  split at h <;> first
    | (simp at h; done)
    | skip
  rename_i fs hu
  simp [Program.fieldsOf, hu]
theorem VR.form {a : AV} {v : Value} (h : VR ι a v) : True := trivial
theorem eqA_ok' {a b : AV} {va vb : Value} {r : Bool} {t : TypeId} {cst : Bool} (d : Nat) (h : eqA P cst t a b = some r) (ha : VR ι a va) (hb : VR ι b vb) (hn : ∀ k x, a ≠ .int k x) (hs : ∀ x, a ≠ .str x) (w : World) : (Op.equalIn (d + 1 + 1) t va vb).run P w = .ok r w := by
  unfold eqA at h
  split at h
  · exact absurd rfl (hn _ _)
  · exact absurd rfl (hs _)
  all_goals first
    | (cases h; done)
    | skip
  all_goals
    split at h
    · rename_i hk
      first
        | (obtain ⟨k1, k2, k3⟩ := hk
           obtain ⟨xs, rfl, hl⟩ := VR.agg_inv ha
           obtain ⟨ys, rfl, hm⟩ := VR.agg_inv hb
           rw [run_equalIn_struct w (d + 1) t xs ys (kind_struct k1) k2]
           exact eqFs_ok hl hm d w _ r h)
        | (cases ha <;> cases hb <;> cases h <;> unfold kindOf at hk <;> split at hk <;> first
             | (simp at hk; done)
             | (rename_i hu; unfold Op.equalIn; simp only [Sem.run_bind, run_underlying hu, Result.andThen_ok]; rfl))
    · cases h
/-- Two values are compared. -/
theorem eqA_ok {a b : AV} {va vb : Value} {r : Bool} {t : TypeId} {cst : Bool} (h : eqA P cst t a b = some r) (ha : VR ι a va) (hb : VR ι b vb) (hn : ∀ k x, a ≠ .int k x) (hs : ∀ x, a ≠ .str x) (w : World) : (Op.equal t va vb).run P w = .ok r w := eqA_ok' 9998 h ha hb hn hs w
end
end Go.Tw
set_option linter.unusedVariables false
set_option linter.unusedSimpArgs false
namespace Go.Tw
def binI (op : BinOp) (k k' : IntKind) (x y : Int) : Option AV := match op with
  | .shl => if y < 0 then none else some (.int k (k.wrap (x * 2 ^ (min y.toNat k.bits))))
  | .shr => if y < 0 then none else some (.int k (x.fdiv (2 ^ (min y.toNat k.bits))))
  | .add => if k = k' then some (.int k (k.wrap (x + y))) else none
  | .sub => if k = k' then some (.int k (k.wrap (x - y))) else none
  | .mul => if k = k' then some (.int k (k.wrap (x * y))) else none
  | .and => if k = k' then some (.int k (k.wrap (BitVec.ofInt k.bits x &&& BitVec.ofInt k.bits y).toNat)) else none
  | .or => if k = k' then some (.int k (k.wrap (BitVec.ofInt k.bits x ||| BitVec.ofInt k.bits y).toNat)) else none
  | .eql => if k = k' then some (.bool (x == y)) else none
  | .neq => if k = k' then some (.bool (x != y)) else none
  | .lss => if k = k' then some (.bool (decide (x < y))) else none
  | .leq => if k = k' then some (.bool (decide (x ≤ y))) else none
  | .gtr => if k = k' then some (.bool (decide (x > y))) else none
  | .geq => if k = k' then some (.bool (decide (x ≥ y))) else none
  | _ => none
def binS (op : BinOp) (a b : List Nat) : Option AV := match op with
  | .add => if a.length + b.length ≤ 1000000 then some (.str (a ++ b)) else none
  | .eql => some (.bool (strEq a b))
  | .neq => some (.bool (!strEq a b))
  | _ => none
def binE (P : Program) (op : BinOp) (cst : Bool) (t : TypeId) (a b : AV) : Option AV := match op with
  | .eql => (eqA P cst t a b).map .bool
  | .neq => (eqA P cst t a b).map fun r => .bool (!r)
  | _ => none
def binA (P : Program) (op : BinOp) (cst : Bool) (t : TypeId) (a b : AV) : Option AV := match a, b with
  | .int k x, .int k' y => binI op k k' x y
  | .str a, .str b => binS op a b
  | a, b => binE P op cst t a b
def isC : Operand → Bool
  | .const _ => true
  | _ => false
section
variable {P : Program} {ι : Io}
theorem run_guard (op : BinOp) (t : TypeId) (x y : Operand) (va vb : Value) (w : World) (h1 : ∀ (_ : va = .nilIface) (_ : vb = .nilIface), (isC x || isC y) = true) (h2 : ∀ l m, va = .agg l → vb = .agg m → P.eqGuardType P.depth t = false) : (eqGuard op t x y va vb).run P w = .ok () w := by
  unfold eqGuard
  by_cases ho : (match op with | .eql | .neq => true | _ => false) = true
  · cases op <;> first
      | (simp at ho; done)
      | skip
    all_goals
      cases va <;> cases vb <;> first
        | (simp; done)
        | skip
    all_goals first
      | (have hc := h1 rfl rfl
         cases x <;> cases y <;> first
           | (simp [isC] at hc; done)
           | simp)
      | (have hc := h2 _ _ rfl rfl
         simp [hc])
  · cases op <;> first
      | (simp at ho; done)
      | simp
theorem binI_ok {op : BinOp} {k k' : IntKind} {x y : Int} {r : AV} (h : binI op k k' x y = some r) (t : TypeId) (w : World) : ∃ v', (binOp op t (.int k x) (.int k' y)).run P w = .ok v' w ∧ VR ι r v' := by
  cases op <;> simp only [binI] at h <;> first
    | (cases h; done)
    | skip
  case shl =>
    split at h
    · cases h
    · rename_i hy
      cases h
      exact ⟨_, by simp [binOp, Op.shift, hy], .int _ _⟩
  case shr =>
    split at h
    · cases h
    · rename_i hy
      cases h
      exact ⟨_, by simp [binOp, Op.shift, hy], .int _ _⟩
  all_goals
    split at h
    · rename_i hk
      subst hk
      cases h
      refine ⟨_, by simp only [binOp, ne_eq, not_true_eq_false, if_false]; rfl, ?_⟩
      constructor
    · cases h
theorem binS_ok {op : BinOp} {a b : ByteArray} {r : AV} (h : binS op (a.data.toList.map UInt8.toNat) (b.data.toList.map UInt8.toNat) = some r) (t : TypeId) (w : World) : ∃ v', (binOp op t (.string a) (.string b)).run P w = .ok v' w ∧ VR ι r v' := by
  cases op <;> simp only [binS] at h <;> first
    | (cases h; done)
    | skip
  case add =>
    split at h
    · rename_i hl
      cases h
      have hs : ¬ (((a.size + b.size : Nat) : Int) > IntKind.i64.max) := by
        simp only [List.length_map, Array.length_toList] at hl
        have : a.size = a.data.size := rfl
        have : b.size = b.data.size := rfl
        have : IntKind.i64.max = 9223372036854775807 := rfl
        omega
      refine ⟨_, by simp only [binOp, Op.stringOp, if_neg hs]; rfl, .str _ ?_⟩
      rw [ByteArray.data_append, Array.toList_append, List.map_append]
    · cases h
  case eql => cases h; exact ⟨_, by simp only [binOp, Op.stringOp, strEq_eq]; rfl, .bool _⟩
  case neq => cases h; exact ⟨_, by simp only [binOp, Op.stringOp, strEq_eq]; rfl, .bool _⟩
end
end Go.Tw
set_option linter.unusedVariables false
set_option linter.unusedSimpArgs false
namespace Go.Tw
section
variable {P : Program} {ι : Io}
theorem binE_eql {t : TypeId} {a b : AV} {va vb : Value} {cst r : Bool} (h : eqA P cst t a b = some r) (ha : VR ι a va) (hb : VR ι b vb) (hn : ∀ k x, a ≠ .int k x) (hs : ∀ x, a ≠ .str x) (w : World) : (binOp .eql t va vb).run P w = .ok (.bool r) w ∧ (binOp .neq t va vb).run P w = .ok (.bool (!r)) w := by
  have he := eqA_ok (P := P) h ha hb hn hs w
  have key : binOp .eql t va vb = (do pure (.bool (← Op.equal t va vb))) ∧ binOp .neq t va vb = (do pure (.bool (!(← Op.equal t va vb)))) := by
    cases ha <;> first
      | exact ⟨rfl, rfl⟩
      | exact absurd rfl (hn _ _)
      | exact absurd rfl (hs _)
      | (simp [eqA] at h; done)
  rw [key.1, key.2]
  simp [he]
theorem eq_guard {t : TypeId} {a b : AV} {va vb : Value} {cst r : Bool} (op : BinOp) {x y : Operand} (hc : cst = (isC x || isC y)) (h : eqA P cst t a b = some r) (ha : VR ι a va) (hb : VR ι b vb) (w : World) : (eqGuard op t x y va vb).run P w = .ok () w := by
  refine run_guard op t x y va vb w (fun e1 e2 => ?_) (fun l m e1 e2 => ?_)
  · subst e1 e2
    cases ha <;> cases hb <;> simp [eqA] at h
    rw [← hc]; exact h.1.2
  · subst e1 e2
    cases ha <;> cases hb <;> simp [eqA] at h
    exact h.1.2.2
theorem bin_ok {op : BinOp} {t : TypeId} {a b : AV} {va vb : Value} {cst : Bool} {r : AV} {x y : Operand} (h : binA P op cst t a b = some r) (hc : cst = (isC x || isC y)) (ha : VR ι a va) (hb : VR ι b vb) (w : World) :
    ∃ v', (do eqGuard op t x y va vb; binOp op t va vb : Sem Value).run P w = .ok v' w ∧ VR ι r v' := by
  unfold binA at h
  split at h
  · cases VR.int_inv ha
    cases VR.int_inv hb
    obtain ⟨v', h1, h2⟩ := binI_ok (P := P) (ι := ι) h t w
    refine ⟨v', ?_, h2⟩
    rw [Sem.run_bind, run_guard op t x y _ _ w (fun e => by cases e) (fun l m e => by cases e)]
    exact h1
  · obtain ⟨s, rfl, rfl⟩ := VR.str_inv ha
    obtain ⟨s', rfl, rfl⟩ := VR.str_inv hb
    obtain ⟨v', h1, h2⟩ := binS_ok (P := P) (ι := ι) h t w
    refine ⟨v', ?_, h2⟩
    rw [Sem.run_bind, run_guard op t x y _ _ w (fun e => by cases e) (fun l m e => by cases e)]
    exact h1
  · rename_i n1 n2
    have notI : ∀ rr, eqA P cst t a b = some rr → (∀ k x, a ≠ .int k x) ∧ (∀ x, a ≠ .str x) := fun rr hr => by
      refine ⟨fun k x e => ?_, fun x e => ?_⟩
      · subst e
        cases b <;> simp [eqA] at hr
        exact n1 _ _ _ _ rfl rfl
      · subst e
        cases b <;> simp [eqA] at hr
        exact n2 _ _ rfl rfl
    unfold binE at h
    split at h
    · cases hr : eqA P cst t a b with
      | none => rw [hr] at h; simp at h
      | some rr =>
        rw [hr] at h
        simp only [Option.map_some, Option.some.injEq] at h
        subst h
        obtain ⟨m1, m2⟩ := notI rr hr
        refine ⟨_, ?_, .bool rr⟩
        rw [Sem.run_bind, eq_guard .eql hc hr ha hb w]
        exact (binE_eql hr ha hb m1 m2 w).1
    · cases hr : eqA P cst t a b with
      | none => rw [hr] at h; simp at h
      | some rr =>
        rw [hr] at h
        simp only [Option.map_some, Option.some.injEq] at h
        subst h
        obtain ⟨m1, m2⟩ := notI rr hr
        refine ⟨_, ?_, .bool (!rr)⟩
        rw [Sem.run_bind, eq_guard .neq hc hr ha hb w]
        exact (binE_eql hr ha hb m1 m2 w).2
    · cases h
end
end Go.Tw
set_option linter.unusedVariables false
set_option linter.unusedSimpArgs false
namespace Go.Tw
def szO (P : Program) (t : TypeId) : Option Nat := match P.info? t with
  | some i => some i.size
  | none => none
def agO (P : Program) (t : TypeId) : Option Bool := match P.underlying t with
  | some (.struct _) => some true
  | some (.array _ _) => some true
  | some _ => some false
  | none => none
def zeroO (P : Program) (t : TypeId) : Option AV := match P.info? t with
  | some i => (match i.zero with
    | some v => some (ofV v)
    | none => none)
  | none => none
section
variable {P : Program} {ι : Io}
theorem szO_ok {t n : Nat} (h : szO P t = some n) (w : World) : (sizeOf t).run P w = .ok n w := by
  unfold szO at h
  split at h
  · rename_i i hi
    cases h
    simp [sizeOf, typeInfo, hi]
  · cases h
theorem agO_ok {t : Nat} {b : Bool} (h : agO P t = some b) (w : World) : (isAgg t).run P w = .ok b w := by
  unfold agO at h
  split at h <;> first
    | (cases h; done)
    | skip
  all_goals
    rename_i hu
    cases h
    unfold isAgg
    simp only [Sem.run_bind, run_underlying hu, Result.andThen_ok]
  · rfl
  · rfl
  · rename_i d h1 h2
    cases d <;> first
      | rfl
      | exact absurd rfl (h1 _)
      | exact absurd rfl (h2 _ _)
theorem zeroO_ok {t : Nat} {v : AV} (h : zeroO P t = some v) (w : World) : ∃ v', (zeroValue t).run P w = .ok v' w ∧ VR ι v v' := by
  unfold zeroO at h
  split at h
  · rename_i i hi
    split at h
    · rename_i z hz
      cases h
      exact ⟨z, by simp [zeroValue, typeInfo, hi, hz], ofV_ok ι z⟩
    · cases h
  · cases h
def partA (P : Program) (t : TypeId) (l : List AV) (off : Nat) : Option AV := match agO P t with
  | some true => (match szO P t with
    | some n => some (.agg ((l.drop off).take n))
    | none => none)
  | some false => l[off]?
  | none => none
theorem partA_ok {t off : Nat} {l : List AV} {v : AV} {cs : Array Value} (h : partA P t l off = some v) (hl : VL ι l cs.toList) (w : World) : ∃ v', (part t cs off).run P w = .ok v' w ∧ VR ι v v' := by
  unfold partA at h
  split at h
  · rename_i ha
    split at h
    · rename_i n hn
      cases h
      refine ⟨.agg (cs.extract off (off + n)), ?_, .agg ?_⟩
      · unfold part
        simp only [Sem.run_bind, agO_ok ha w, Result.andThen_ok, if_true, szO_ok hn w]
        rfl
      · rw [Array.toList_extract]
        show VL ι _ ((cs.toList.drop off).take (off + n - off))
        rw [show off + n - off = n by omega]
        exact (hl.drop off).take n
    · cases h
  · rename_i ha
    obtain ⟨v', h1, h2⟩ := hl.get _ _ h
    refine ⟨v', ?_, h2⟩
    unfold part
    have h3 : cs[off]? = some v' := by simpa using h1
    simp only [Sem.run_bind, agO_ok ha w, Result.andThen_ok, if_false, h3]
    rfl
  · cases h
def fieldO (P : Program) (t i : Nat) : Option Field := match P.underlying t with
  | some (.struct fs) => fs[i]?
  | _ => none
theorem fieldO_ok {t i : Nat} {f : Field} (h : fieldO P t i = some f) : ∃ fs, P.underlying t = some (.struct fs) ∧ fs[i]? = some f := by
  unfold fieldO at h
  split at h
  · rename_i fs hu; exact ⟨fs, hu, h⟩
  · cases h
def fieldA (P : Program) (t i : Nat) (x : AV) : Option AV := match x, fieldO P t i with
  | .agg l, some f => partA P f.type l f.offset
  | _, _ => none
theorem fieldA_ok {t i : Nat} {x v : AV} {vx : Value} (h : fieldA P t i x = some v) (hx : VR ι x vx) (w : World) : ∃ v', (Instr.field t vx i).run P w = .ok v' w ∧ VR ι v v' := by
  unfold fieldA at h
  split at h
  · rename_i l f hf
    obtain ⟨cs, rfl, hl⟩ := VR.agg_inv hx
    obtain ⟨fs, hu, hg⟩ := fieldO_ok hf
    obtain ⟨v', h1, h2⟩ := partA_ok h hl w
    refine ⟨v', ?_, h2⟩
    unfold Instr.field
    simp only [Sem.run_bind, run_underlying hu, Result.andThen_ok, hg, asAgg, Sem.run_pure]
    exact h1
  · cases h
def fieldAddrA (P : Program) (t i : Nat) (x : AV) : Option AV := match x, fieldO P t i with
  | .ptr b o, some f => (match szO P f.type with
    | some (_ + 1) => some (.ptr b (o + f.offset))
    | _ => none)
  | _, _ => none
theorem fieldAddrA_ok {t i : Nat} {x v : AV} {vx : Value} (h : fieldAddrA P t i x = some v) (hx : VR ι x vx) (w : World) : ∃ v', (Instr.fieldAt t vx i).run P w = .ok v' w ∧ VR ι v v' := by
  unfold fieldAddrA at h
  split at h
  · rename_i b o f hf
    split at h
    · rename_i n hn
      cases h
      cases hx with
      | @ptr _ _ p hp =>
        obtain ⟨fs, hu, hg⟩ := fieldO_ok hf
        refine ⟨.pointer (some ⟨p.blk, p.base + (o + f.offset), none⟩), ?_, .ptr hp⟩
        unfold Instr.fieldAt
        simp only [Sem.run_bind, run_underlying hu, Result.andThen_ok, hg, Instr.sureAddr, Sem.run_pure, fieldPlace, szO_ok hn w, Nat.add_one_ne_zero, if_false, Addr.add_mid]
        rw [show p.base + o + f.offset = p.base + (o + f.offset) by omega]
    · cases h
  · cases h
def indexAddrA (P : Program) (t : Nat) (x i : AV) : Option AV := match x, i with
  | .sl b o n, .int _ j => (match P.underlying t with
    | some (.slice e) => (match szO P e with
      | some s => if 0 ≤ j ∧ j < (n : Int) then some (.ptr b (o + j.toNat * s)) else none
      | none => none)
    | _ => none)
  | .ptr b o, .int _ j => (match P.underlying t with
    | some (.array n e) => (match szO P e with
      | some s => if 0 ≤ j ∧ j < (n : Int) then some (.ptr b (o + j.toNat * s)) else none
      | none => none)
    | _ => none)
  | _, _ => none
theorem indexAddrA_ok {t : Nat} {x i v : AV} {vx vi : Value} (h : indexAddrA P t x i = some v) (hx : VR ι x vx) (hi : VR ι i vi) (w : World) : ∃ v', (Instr.indexAt t vx vi).run P w = .ok v' w ∧ VR ι v v' := by
  unfold indexAddrA at h
  split at h
  · rename_i b o n k j
    split at h
    · rename_i e hu
      split at h
      · rename_i s hs
        split at h
        · rename_i hj
          cases h
          cases VR.int_inv hi
          cases hx with
          | @sl _ _ _ c p hp hn hc =>
            refine ⟨.pointer (some ⟨p.blk, p.base + (o + j.toNat * s), none⟩), ?_, .ptr hp⟩
            unfold Instr.indexAt
            simp only [asIntOf, Sem.run_bind, Sem.run_pure, Result.andThen_ok, run_underlying hu, szO_ok hs w, hj, and_self, if_true, Addr.add_mid]
            rw [show p.base + o + j.toNat * s = p.base + (o + j.toNat * s) by omega]
          | sl0 hp => omega
        · cases h
      · cases h
    · cases h
  · rename_i b o k j
    split at h
    · rename_i n e hu
      split at h
      · rename_i s hs
        split at h
        · rename_i hj
          cases h
          cases VR.int_inv hi
          cases hx with
          | @ptr _ _ p hp =>
            refine ⟨.pointer (some ⟨p.blk, p.base + (o + j.toNat * s), none⟩), ?_, .ptr hp⟩
            unfold Instr.indexAt
            simp only [asIntOf, Sem.run_bind, Sem.run_pure, Result.andThen_ok, run_underlying hu, Instr.sureAddr, szO_ok hs w, hj, and_self, if_true, Addr.add_mid]
            rw [show p.base + o + j.toNat * s = p.base + (o + j.toNat * s) by omega]
        · cases h
      · cases h
    · cases h
  · cases h
end
end Go.Tw
set_option linter.unusedVariables false
set_option linter.unusedSimpArgs false
namespace Go.Tw
section
variable {P : Program} {ι : Io}
def indexO (P : Program) (t : Nat) (x i : AV) : Option AV := match x, i with
  | .str s, .int _ j => (match P.underlying t with
    | some .string => if 0 ≤ j then (match s[j.toNat]? with
      | some b => some (.int .u8 b)
      | none => none) else none
    | _ => none)
  | .agg l, .int _ j => (match P.underlying t with
    | some (.array n e) => (match szO P e with
      | some s => if 0 ≤ j ∧ j < (n : Int) then partA P e l (j.toNat * s) else none
      | none => none)
    | _ => none)
  | _, _ => none
theorem indexO_ok {t : Nat} {x i v : AV} {vx vi : Value} (h : indexO P t x i = some v) (hx : VR ι x vx) (hi : VR ι i vi) (w : World) : ∃ v', (Instr.index t vx vi).run P w = .ok v' w ∧ VR ι v v' := by
  unfold indexO at h
  split at h
  · rename_i s k j
    split at h
    · rename_i hu
      split at h
      · rename_i hj
        split at h
        · rename_i b hb
          cases h
          cases VR.int_inv hi
          obtain ⟨bs, rfl, rfl⟩ := VR.str_inv hx
          rw [List.getElem?_map] at hb
          cases hg : bs.data.toList[j.toNat]? with
          | none => rw [hg] at hb; simp at hb
          | some c =>
            rw [hg] at hb
            simp only [Option.map_some, Option.some.injEq] at hb
            subst hb
            have hg2 : bs[j.toNat]? = some c := by
              have hlt := (List.getElem?_eq_some_iff.1 hg).1
              have hlt2 : j.toNat < bs.size := by simpa using hlt
              rw [getElem?_pos bs j.toNat hlt2]
              have := (List.getElem?_eq_some_iff.1 hg).2
              rw [Option.some.injEq, ← this]
              rfl
            refine ⟨.int .u8 c.toNat, ?_, .int _ _⟩
            unfold Instr.index
            simp only [asIntOf, Sem.run_bind, Sem.run_pure, Result.andThen_ok, run_underlying hu, if_pos hj, hg2]
        · cases h
      · cases h
    · cases h
  · rename_i l k j
    split at h
    · rename_i n e hu
      split at h
      · rename_i s hs
        split at h
        · rename_i hj
          cases VR.int_inv hi
          obtain ⟨cs, rfl, hl⟩ := VR.agg_inv hx
          obtain ⟨v', h1, h2⟩ := partA_ok h hl w
          refine ⟨v', ?_, h2⟩
          unfold Instr.index
          simp only [asIntOf, Sem.run_bind, Sem.run_pure, Result.andThen_ok, run_underlying hu, hj, and_self, if_true, szO_ok hs w]
          exact h1
        · cases h
      · cases h
    · cases h
  · cases h
def unA (op : UnOp) (x : AV) : Option AV := match op, x with
  | .not, .bool b => some (.bool (!b))
  | .neg, .int k n => some (.int k (k.wrap (0 - n)))
  | _, _ => none
theorem unA_ok {op : UnOp} {x v : AV} {vx : Value} (h : unA op x = some v) (hx : VR ι x vx) (w : World) : ∃ v', (Op.unary op vx).run P w = .ok v' w ∧ VR ι v v' := by
  unfold unA at h
  split at h
  · cases VR.bool_inv hx; cases h; exact ⟨_, rfl, .bool _⟩
  · cases VR.int_inv hx; cases h; exact ⟨_, rfl, .int _ _⟩
  · cases h
def extA (x : AV) (i : Nat) : Option AV := match x with
  | .tup l => l[i]?
  | _ => none
theorem extA_ok {i : Nat} {x v : AV} {vx : Value} (h : extA x i = some v) (hx : VR ι x vx) (w : World) : ∃ v', (Instr.extract vx i).run P w = .ok v' w ∧ VR ι v v' := by
  unfold extA at h
  split at h
  · obtain ⟨cs, rfl, hl⟩ := VR.tup_inv hx
    obtain ⟨v', h1, h2⟩ := hl.get _ _ h
    refine ⟨v', ?_, h2⟩
    have h3 : cs[i]? = some v' := by simpa using h1
    unfold Instr.extract
    simp only [h3]
    rfl
  · cases h
def cvA (P : Program) (s d : Nat) (x : AV) : Option AV := match x with
  | .int _ n => (match P.underlying s, P.underlying d with
    | some _, some (.int k) => some (.int k (k.wrap n))
    | _, _ => none)
  | .str l => (match P.underlying s, P.underlying d with
    | some _, some .string => some (.str l)
    | _, _ => none)
  | _ => none
theorem cvA_ok {s d : Nat} {x v : AV} {vx : Value} (h : cvA P s d x = some v) (hx : VR ι x vx) (w : World) : ∃ v', (convert s d vx).run P w = .ok v' w ∧ VR ι v v' := by
  unfold cvA at h
  split at h
  · split at h
    · rename_i k n u kk hs hd
      cases h
      cases VR.int_inv hx
      refine ⟨_, ?_, .int _ _⟩
      unfold convert
      simp only [Sem.run_bind, run_underlying hs, run_underlying hd, Result.andThen_ok]
      rfl
    · cases h
  · split at h
    · rename_i l u hs hd
      cases h
      obtain ⟨bs, rfl, rfl⟩ := VR.str_inv hx
      refine ⟨_, ?_, .str bs rfl⟩
      unfold convert
      simp only [Sem.run_bind, run_underlying hs, run_underlying hd, Result.andThen_ok]
      rfl
    · cases h
  · cases h
def ifA (P : Program) (t : Nat) (x : AV) : Option AV := match P.underlying t with
  | some (.interface _) => none
  | some _ => some (.iface t x)
  | none => none
theorem ifA_ok {t : Nat} {x v : AV} {vx : Value} (h : ifA P t x = some v) (hx : VR ι x vx) (w : World) : ∃ v', (Instr.makeInterface t vx).run P w = .ok v' w ∧ VR ι v v' := by
  unfold ifA at h
  split at h
  · cases h
  · rename_i d hd hu
    cases h
    refine ⟨.iface t vx, ?_, .iface hx⟩
    unfold Instr.makeInterface
    simp only [Sem.run_bind, run_underlying hu, Result.andThen_ok]
    cases d <;> first
      | rfl
      | exact absurd rfl (hd _)
  · cases h
def tasA (P : Program) (t : Nat) (x : AV) : Option AV := match P.underlying t with
  | some (.interface _) => none
  | some _ => (match x, zeroO P t with
    | .iface t' v, some z => some (if t' = t then .tup [v, .bool true] else .tup [z, .bool false])
    | .nili, some z => some (.tup [z, .bool false])
    | _, _ => none)
  | none => none
theorem tasA_ok {t xt : Nat} {x v : AV} {vx : Value} (h : tasA P t x = some v) (hx : VR ι x vx) (w : World) : ∃ v', (Instr.typeAssert vx xt t true).run P w = .ok v' w ∧ VR ι v v' := by
  unfold tasA at h
  split at h
  · cases h
  · rename_i d hd hu
    split at h
    · rename_i t' v1 z hz
      cases h
      obtain ⟨z', h1, h2⟩ := zeroO_ok (ι := ι) hz w
      cases hx with
      | @iface _ _ v' hv =>
        by_cases ht : t' = t
        · subst ht
          refine ⟨.tuple #[v', .bool true], ?_, by rw [if_pos rfl]; exact .tup (.cons hv (.cons (.bool _) .nil))⟩
          unfold Instr.typeAssert
          simp only [Sem.run_bind, run_underlying hu, Result.andThen_ok]
          cases d <;> first
            | exact absurd rfl (hd _)
            | simp
        · refine ⟨.tuple #[z', .bool false], ?_, by rw [if_neg ht]; exact .tup (.cons h2 (.cons (.bool _) .nil))⟩
          unfold Instr.typeAssert
          simp only [Sem.run_bind, run_underlying hu, Result.andThen_ok]
          cases d <;> first
            | exact absurd rfl (hd _)
            | simp [ht, h1]
    · rename_i z hz
      cases h
      obtain ⟨z', h1, h2⟩ := zeroO_ok (ι := ι) hz w
      cases hx
      refine ⟨.tuple #[z', .bool false], ?_, .tup (.cons h2 (.cons (.bool _) .nil))⟩
      unfold Instr.typeAssert
      simp only [Sem.run_bind, run_underlying hu, Result.andThen_ok]
      cases d <;> first
        | exact absurd rfl (hd _)
        | simp [h1]
    · cases h
  · cases h
end
end Go.Tw
set_option linter.unusedVariables false
set_option linter.unusedSimpArgs false
namespace Go.Tw
def dropO : Nat → List Nat → Option (List Nat)
  | 0, l => some l
  | _ + 1, [] => none
  | n + 1, _ :: l => dropO n l
def takeO : Nat → List Nat → Option (List Nat)
  | 0, _ => some []
  | _ + 1, [] => none
  | n + 1, x :: l => (takeO n l).map (x :: ·)
theorem dropO_eq : ∀ (n : Nat) (l r : List Nat), dropO n l = some r → n ≤ l.length ∧ r = l.drop n
  | 0, l, r, h => by cases h; simp
  | n + 1, [], r, h => by simp [dropO] at h
  | n + 1, x :: l, r, h => by
    obtain ⟨h1, h2⟩ := dropO_eq n l r h
    exact ⟨by simpa using h1, by simpa using h2⟩
theorem takeO_eq : ∀ (n : Nat) (l r : List Nat), takeO n l = some r → n ≤ l.length ∧ r = l.take n
  | 0, l, r, h => by cases h; simp
  | n + 1, [], r, h => by simp [takeO] at h
  | n + 1, x :: l, r, h => by
    simp only [takeO, Option.map_eq_some_iff] at h
    obtain ⟨r', h1, rfl⟩ := h
    obtain ⟨h2, h3⟩ := takeO_eq n l r' h1
    exact ⟨by simpa using h2, by simp [h3]⟩
/-- A bound, if it is there. -/
def bdA (o : Option AV) : Option (Option Nat) := match o with
  | none => some none
  | some (.int _ i) => if 0 ≤ i then some (some i.toNat) else none
  | _ => none
inductive OR (ι : Io) : Option AV → Option Value → Prop
  | none : OR ι none none
  | some {v : AV} {v' : Value} (h : VR ι v v') : OR ι (some v) (some v')
section
variable {P : Program} {ι : Io}
theorem bd_ok {o : Option AV} {v : Option Value} {r : Option Nat} (h : bdA o = some r) (ho : OR ι o v) : (r = none ∧ v = none) ∨ ∃ k i, r = some i ∧ v = some (.int k i) := by
  cases ho with
  | none => cases h; exact .inl ⟨rfl, rfl⟩
  | some hv =>
    unfold bdA at h
    split at h
    · rename_i e; cases e
    · rename_i k i e
      cases e
      split at h
      · rename_i hi
        cases h
        cases VR.int_inv hv
        exact .inr ⟨_, i.toNat, rfl, by rw [Int.toNat_of_nonneg hi]⟩
      · cases h
    · cases h
theorem run_sliceBound {k : IntKind} {i y : Nat} (h : i ≤ y) (c : BoundsCode) (w : World) : (Instr.sliceBound (.int k i) y c).run P w = .ok i w := by
  unfold Instr.sliceBound
  have : (0 : Int) ≤ (i : Int) ∧ (i : Int) ≤ (y : Int) := by omega
  simp only [asIntOf, Sem.run_bind, Sem.run_pure, Result.andThen_ok, this, and_self, if_true]
  simp
theorem run_bounds {len cap : Nat} {lo hi mx : Option Value} {l h m : Nat} (isS : Bool)
    (hm : (mx = none ∧ m = cap) ∨ ∃ k, mx = some (.int k m) ∧ m ≤ cap) (hh : (hi = none ∧ mx = none ∧ h = len) ∨ ∃ k, hi = some (.int k h) ∧ h ≤ m) (hl : (lo = none ∧ l = 0) ∨ ∃ k, lo = some (.int k l) ∧ l ≤ h) (w : World) :
    (Instr.sliceBounds isS len cap lo hi mx).run P w = .ok (l, h, m) w := by
  unfold Instr.sliceBounds
  rcases hm with ⟨rfl, rfl⟩ | ⟨k1, rfl, h1⟩ <;> rcases hh with ⟨rfl, e, rfl⟩ | ⟨k2, rfl, h2⟩ <;> rcases hl with ⟨rfl, rfl⟩ | ⟨k3, rfl, h3⟩ <;> first
    | (cases e; done)
    | simp [run_sliceBound, *]
def slStr (P : Program) (t : Nat) (s : List Nat) (lo hi : Option Nat) : Option AV := match P.underlying t with
  | some .string => (match lo, hi with
    | none, none => some (.str s)
    | none, some h => (match takeO h s with
      | some r => some (.str r)
      | none => none)
    | some l, none => (match dropO l s with
      | some r => some (.str r)
      | none => none)
    | some l, some h => if l ≤ h then (match takeO h s with
      | some r => (match dropO l r with
        | some r => some (.str r)
        | none => none)
      | none => none) else none)
  | _ => none
theorem extract_list (s : ByteArray) (l h : Nat) : (s.extract l h).data.toList.map UInt8.toNat = ((s.data.toList.map UInt8.toNat).take h).drop l := by
  rw [ByteArray.data_extract, Array.toList_extract]
  rw [← List.map_take, ← List.map_drop]
  congr 1
  show List.take (h - l) (List.drop l s.data.toList) = _
  rw [List.drop_take]
theorem slStr_ok {t : Nat} {l : List Nat} {lo hi : Option Nat} {v : AV} {vl vh : Option Value} {x : Value} (h : slStr P t l lo hi = some v) (hx : VR ι (.str l) x)
    (hl : (lo = none ∧ vl = none) ∨ ∃ k i, lo = some i ∧ vl = some (.int k i)) (hh : (hi = none ∧ vh = none) ∨ ∃ k i, hi = some i ∧ vh = some (.int k i)) (w : World) :
    ∃ v', (Instr.sliceAt t x vl vh none).run P w = .ok v' w ∧ VR ι v v' := by
  obtain ⟨s, rfl, rfl⟩ := VR.str_inv hx
  have hsz : (s.data.toList.map UInt8.toNat).length = s.size := by simp
  unfold slStr at h
  split at h
  case h_2 => cases h
  rename_i hu
  have key : ∀ (a b : Nat), a ≤ b → b ≤ s.size → ((vl = none ∧ a = 0) ∨ ∃ k, vl = some (.int k a) ∧ a ≤ b) → ((vh = none ∧ b = s.size) ∨ ∃ k, vh = some (.int k b) ∧ b ≤ s.size) → (Instr.sliceAt t (.string s) vl vh none).run P w = .ok (.string (s.extract a b)) w := by
    intro a b hab hb h1 h2
    have hb2 := run_bounds (P := P) (len := s.size) (cap := s.size) (lo := vl) (hi := vh) (mx := none) (l := a) (h := b) (m := s.size) false (.inl ⟨rfl, rfl⟩) (h2.imp (fun h => ⟨h.1, rfl, h.2⟩) id) h1 w
    unfold Instr.sliceAt
    simp only [Sem.run_bind, run_underlying hu, Result.andThen_ok]
    unfold Instr.slice
    simp only [Sem.run_bind, run_underlying hu, Result.andThen_ok, Option.isSome_none, Bool.false_eq_true, if_false, hb2]
    rfl
  split at h
  · cases h
    rcases hl with ⟨_, rfl⟩ | ⟨_, _, e, _⟩
    · rcases hh with ⟨_, rfl⟩ | ⟨_, _, e, _⟩
      · refine ⟨_, key 0 s.size (by omega) (by omega) (.inl ⟨rfl, rfl⟩) (.inl ⟨rfl, rfl⟩), .str _ ?_⟩
        rw [extract_list, ← hsz, List.take_length]; rfl
      · cases e
    · cases e
  · rename_i b
    split at h
    · rename_i r hr
      cases h
      obtain ⟨h1, rfl⟩ := takeO_eq _ _ _ hr
      rcases hl with ⟨_, rfl⟩ | ⟨_, _, e, _⟩
      · rcases hh with ⟨e, _⟩ | ⟨k, i, e, rfl⟩
        · cases e
        · cases e
          refine ⟨_, key 0 b (by omega) (by omega) (.inl ⟨rfl, rfl⟩) (.inr ⟨k, rfl, by omega⟩), .str _ ?_⟩
          rw [extract_list]; rfl
      · cases e
    · cases h
  · rename_i a
    split at h
    · rename_i r hr
      cases h
      obtain ⟨h1, rfl⟩ := dropO_eq _ _ _ hr
      rcases hh with ⟨_, rfl⟩ | ⟨_, _, e, _⟩
      · rcases hl with ⟨e, _⟩ | ⟨k, i, e, rfl⟩
        · cases e
        · cases e
          refine ⟨_, key a s.size (by omega) (by omega) (.inr ⟨k, rfl, by omega⟩) (.inl ⟨rfl, rfl⟩), .str _ ?_⟩
          rw [extract_list, ← hsz, List.take_length]
      · cases e
    · cases h
  · rename_i a b
    split at h
    · rename_i hab
      split at h
      · rename_i r hr
        obtain ⟨h1, rfl⟩ := takeO_eq _ _ _ hr
        split at h
        · rename_i r2 hr2
          cases h
          obtain ⟨h2, rfl⟩ := dropO_eq _ _ _ hr2
          rcases hl with ⟨e, _⟩ | ⟨k, i, e, rfl⟩
          · cases e
          · cases e
            rcases hh with ⟨e, _⟩ | ⟨k2, i2, e, rfl⟩
            · cases e
            · cases e
              refine ⟨_, key a b hab (by omega) (.inr ⟨k, rfl, hab⟩) (.inr ⟨k2, rfl, by omega⟩), .str _ ?_⟩
              rw [extract_list]
        · cases h
      · cases h
    · cases h
end
end Go.Tw
set_option linter.unusedVariables false
set_option linter.unusedSimpArgs false
namespace Go.Tw
def esOf : Ent → Option Nat
  | .cells _ es _ _ => some es
  | _ => none
/-- A part of a row; mx: the new capacity's end. -/
noncomputable def slRow (P : Program) (t : Nat) (hp : Hp) (x : AV) (lo hi mx : Option Nat) : Option AV := match P.underlying t with
  | some (.slice e) => (match x with
    | .sl b o n => (match szO P e, esOf (entOf hp b) with
      | some s, some es => (let l := lo.getD 0; let h := hi.getD n; if s = es ∧ l ≤ h ∧ h ≤ n ∧ (mx = none ∨ (mx = some h ∧ hi ≠ none)) then some (.sl b (o + l * s) (h - l)) else none)
      | _, _ => none)
    | .nils => if lo.getD 0 = 0 ∧ hi.getD 0 = 0 ∧ mx = none ∧ szO P e ≠ none then some .nils else none
    | _ => none)
  | _ => none
section
variable {P : Program} {ι : Io} {w0 : World} {W : Bs} {hp : Hp} {w : World}
theorem slRow_ok (H : HR ι w0 W hp w) {t : Nat} {x v : AV} {lo hi mx : Option Nat} {vl vh vm : Option Value} {vx : Value} (h : slRow P t hp x lo hi mx = some v) (hx : VR ι x vx)
    (hl : (lo = none ∧ vl = none) ∨ ∃ k i, lo = some i ∧ vl = some (.int k i)) (hh : (hi = none ∧ vh = none) ∨ ∃ k i, hi = some i ∧ vh = some (.int k i)) (hm : (mx = none ∧ vm = none) ∨ ∃ k i, mx = some i ∧ vm = some (.int k i)) :
    ∃ v', (Instr.sliceAt t vx vl vh vm).run P w = .ok v' w ∧ VR ι v v' := by
  unfold slRow at h
  split at h
  case h_2 => cases h
  rename_i e hu
  split at h
  · rename_i b o n
    split at h
    · rename_i s es hs hes
      simp only at h
      split at h
      case isFalse => cases h
      rename_i hc
      cases h
      obtain ⟨c1, c2, c3, c4⟩ := hc
      subst c1
      have hlow : (vl = none ∧ lo.getD 0 = 0) ∨ ∃ k, vl = some (.int k ((lo.getD 0 : Nat) : Int)) ∧ lo.getD 0 ≤ hi.getD n := by
        rcases hl with ⟨rfl, rfl⟩ | ⟨k, i, rfl, rfl⟩
        · exact .inl ⟨rfl, rfl⟩
        · exact .inr ⟨k, rfl, c2⟩
      have run1 : ∀ (a : Addr) (c : Nat), n ≤ c → ∃ m, hi.getD n ≤ m ∧ m ≤ c ∧ (Instr.sliceAt t (.slice (some a) n c) vl vh vm).run P w = .ok (.slice (if m = lo.getD 0 then some a else some (a.add (lo.getD 0 * s))) (hi.getD n - lo.getD 0) (m - lo.getD 0)) w := by
        intro a c hnc
        obtain ⟨m, h1, h2, hb⟩ : ∃ m, hi.getD n ≤ m ∧ m ≤ c ∧ (Instr.sliceBounds true n c vl vh vm).run P w = .ok (lo.getD 0, hi.getD n, m) w := by
          rcases c4 with rfl | ⟨rfl, c5⟩
          · rcases hm with ⟨_, rfl⟩ | ⟨_, _, e, _⟩
            · refine ⟨c, by omega, Nat.le_refl _, run_bounds true (.inl ⟨rfl, rfl⟩) ?_ hlow w⟩
              rcases hh with ⟨rfl, rfl⟩ | ⟨k, i, rfl, rfl⟩
              · exact .inl ⟨rfl, rfl, rfl⟩
              · exact .inr ⟨k, rfl, by show i ≤ c; have : i ≤ n := c3; omega⟩
            · cases e
          · rcases hm with ⟨e, _⟩ | ⟨km, im, e, rfl⟩
            · cases e
            · cases e
              refine ⟨hi.getD n, Nat.le_refl _, by omega, run_bounds true (.inr ⟨km, rfl, by omega⟩) ?_ hlow w⟩
              rcases hh with ⟨rfl, rfl⟩ | ⟨k, i, rfl, rfl⟩
              · exact absurd rfl c5
              · exact .inr ⟨k, rfl, Nat.le_refl _⟩
        refine ⟨m, h1, h2, ?_⟩
        unfold Instr.sliceAt
        simp only [Sem.run_bind, run_underlying hu, Result.andThen_ok]
        unfold Instr.slice
        simp only [Sem.run_bind, run_underlying hu, Result.andThen_ok, hb, szO_ok hs w]
        rfl
      cases hx with
      | @sl _ _ _ c p hp1 hn hcap =>
        obtain ⟨m, h1, h2, h3⟩ := run1 ⟨p.blk, p.base + o, none⟩ c hn
        refine ⟨_, h3, ?_⟩
        by_cases hml : m = lo.getD 0
        · rw [if_pos hml, show hi.getD n - lo.getD 0 = 0 by omega, show m - lo.getD 0 = 0 by omega]
          exact .sl0 hp1
        · rw [if_neg hml, Addr.add_mid, show p.base + o + lo.getD 0 * s = p.base + (o + lo.getD 0 * s) by omega]
          refine .sl hp1 (by omega) ?_
          have hes2 : p.es = s := by
            cases he : entOf hp b with
            | no => rw [he] at hes; simp [esOf] at hes
            | map l => rw [he] at hes; simp [esOf] at hes
            | cells l es st old =>
              rw [he] at hes
              simp only [esOf, Option.some.injEq] at hes
              obtain ⟨q, hq, hE⟩ := H.ent b (H.fresh _ _ hp1) (by rw [he]; simp)
              rw [hp1] at hq
              cases hq
              rw [he] at hE
              rw [hE.2, hes]
          rw [hes2] at hcap ⊢
          have : (m - lo.getD 0) * s + lo.getD 0 * s = m * s := by rw [← Nat.add_mul]; congr 1; omega
          have : m * s ≤ c * s := Nat.mul_le_mul_right _ h2
          omega
      | @sl0 _ _ o' p hp1 =>
        obtain ⟨m, h1, h2, h3⟩ := run1 ⟨p.blk, o', none⟩ 0 (Nat.le_refl _)
        refine ⟨_, h3, ?_⟩
        have e0 : hi.getD 0 = 0 := by omega
        have e1 : lo.getD 0 = 0 := by omega
        rw [e1, e0, show m = 0 by omega]
        exact .sl0 hp1
    · cases h
  · split at h
    · rename_i hc
      cases h
      obtain ⟨c1, c2, rfl, c4⟩ := hc
      cases hx
      rcases hm with ⟨_, rfl⟩ | ⟨_, _, e, _⟩
      case inr => cases e
      have hb : (Instr.sliceBounds true 0 0 vl vh none).run P w = .ok (0, 0, 0) w := by
        refine run_bounds true (.inl ⟨rfl, rfl⟩) ?_ ?_ w
        · rcases hh with ⟨rfl, rfl⟩ | ⟨k, i, rfl, rfl⟩
          · exact .inl ⟨rfl, rfl, rfl⟩
          · have : i = 0 := c2
            subst this
            exact .inr ⟨k, rfl, Nat.le_refl _⟩
        · rcases hl with ⟨rfl, rfl⟩ | ⟨k, i, rfl, rfl⟩
          · exact .inl ⟨rfl, rfl⟩
          · have : i = 0 := c1
            subst this
            exact .inr ⟨k, rfl, Nat.le_refl _⟩
      cases hs : szO P e with
      | none => exact absurd hs c4
      | some s =>
        refine ⟨.slice none 0 0, ?_, .nils⟩
        unfold Instr.sliceAt
        simp only [Sem.run_bind, run_underlying hu, Result.andThen_ok]
        unfold Instr.slice
        simp only [Sem.run_bind, run_underlying hu, Result.andThen_ok, hb, szO_ok hs w]
        rfl
    · cases h
  · cases h
end
end Go.Tw
set_option linter.unusedVariables false
set_option linter.unusedSimpArgs false
namespace Go.Tw
theorem fold_cells (off : Nat) : ∀ (l : List Value) (k : Nat) (cells : Array Value), off + k + l.length ≤ cells.size →
    ((l.zipIdx k).foldl (fun cs (c, j) => cs.setIfInBounds (off + j) c) cells).size = cells.size ∧
    ∀ i, ((l.zipIdx k).foldl (fun cs (c, j) => cs.setIfInBounds (off + j) c) cells)[i]? = if off + k ≤ i ∧ i < off + k + l.length then l[i - (off + k)]? else cells[i]?
  | [], k, cells, _ => ⟨rfl, fun i => by simp; intro h1 h2; omega⟩
  | v :: l, k, cells, h => by
    simp only [List.zipIdx_cons, List.foldl_cons]
    simp only [List.length_cons] at h
    obtain ⟨h1, h2⟩ := fold_cells off l (k + 1) (cells.setIfInBounds (off + k) v) (by simp; omega)
    refine ⟨by rw [h1]; simp, fun i => ?_⟩
    rw [h2]
    simp only [List.length_cons]
    by_cases e1 : off + (k + 1) ≤ i ∧ i < off + (k + 1) + l.length
    · rw [if_pos e1, if_pos (by omega)]
      rw [show i - (off + k) = (i - (off + (k + 1))) + 1 by omega]; simp
    · rw [if_neg e1, Array.getElem?_setIfInBounds]
      by_cases e2 : off + k = i
      · subst e2
        rw [if_pos rfl, if_pos (by omega), if_pos (by omega)]; simp
      · rw [if_neg e2, if_neg (by omega)]
theorem fill_cons {place : Nat → Option (Nat × Nat)} {cells : Array Value} {i off size : Nat} {v : Value} {rest : List (Nat × Value)} (hp : place i = some (off, size)) (hs : v.cells.size = size) (hl : off + size ≤ cells.size) :
    ∃ cells', Instr.fill place cells ((i, v) :: rest) = Instr.fill place cells' rest ∧ cells'.size = cells.size ∧
      ∀ k, cells'[k]? = if off ≤ k ∧ k < off + size then v.cells[k - off]? else cells[k]? := by
  obtain ⟨h1, h2⟩ := fold_cells off v.cells.toList 0 cells (by simp; omega)
  refine ⟨v.cells.zipIdx.foldl (fun cs (c, j) => cs.setIfInBounds (off + j) c) cells, ?_, ?_, ?_⟩
  · simp only [Instr.fill, hp]
    have : (decide (v.cells.size ≠ size) || decide (off + v.cells.size > cells.size)) = false := by simp; omega
    rw [if_neg (by rw [this]; simp)]
  · rw [← Array.foldl_toList, Array.toList_zipIdx]; exact h1
  · intro k
    rw [← Array.foldl_toList, Array.toList_zipIdx, h2]
    simp only [Nat.add_zero, Array.length_toList, Array.getElem?_toList, hs]
def isU : AV → Bool
  | .und => true
  | _ => false
/-- Parts are put at their places. -/
def fillA (place : Nat → Option (Nat × Nat)) : List AV → List (Nat × AV) → Option (List AV)
  | l, [] => some l
  | l, (i, v) :: r => match place i with
    | some (off, size) => if (toCells v).length = size ∧ off + size ≤ l.length ∧ isU v = false then fillA place (lput l off (toCells v)) r else none
    | none => none
inductive PR (ι : Io) : List (Nat × AV) → List (Nat × Value) → Prop
  | nil : PR ι [] []
  | cons {i : Nat} {v : AV} {v' : Value} {l : List (Nat × AV)} {l' : List (Nat × Value)} (h : VR ι v v') (hl : PR ι l l') : PR ι ((i, v) :: l) ((i, v') :: l')
section
variable {P : Program} {ι : Io}
theorem cells_rel {v : AV} {v' : Value} (h : VR ι v v') (hu : isU v = false) : VL ι (toCells v) v'.cells.toList := by
  cases h <;> first
    | (simp [isU] at hu; done)
    | (rename_i hl; exact hl)
    | skip
  all_goals first
    | exact .cons (.int _ _) .nil
    | exact .cons (.bool _) .nil
    | exact .cons .nilp .nil
    | exact .cons .nils .nil
    | exact .cons .nilf .nil
    | exact .cons .nili .nil
    | exact .cons .nilm .nil
    | skip
  · rename_i s l h; exact .cons (.str s h) .nil
  · rename_i b o p h; exact .cons (.ptr h) .nil
  · rename_i b o n c p h hn hc; exact .cons (.sl h hn hc) .nil
  · rename_i b o o' p h; exact .cons (.sl0 h) .nil
  · rename_i l a h; exact .cons (.tup h) .nil
  · rename_i f l a h; exact .cons (.fn h) .nil
  · rename_i t v v' h; exact .cons (.iface h) .nil
  · rename_i b p h; exact .cons (.map h) .nil
theorem VL.put {l : List AV} {cs : Array Value} (hl : VL ι l cs.toList) {off : Nat} {vs : List AV} {us : Array Value} (hv : VL ι vs us.toList) (hfit : off + vs.length ≤ l.length) {cs' : Array Value} (h1 : cs'.size = cs.size) (h2 : ∀ k, cs'[k]? = if off ≤ k ∧ k < off + vs.length then us[k - off]? else cs[k]?) : VL ι (lput l off vs) cs'.toList := by
  have e1 := hl.len
  have e2 := hv.len
  simp only [Array.length_toList] at e1 e2
  refine VL.of _ _ (by rw [lput_len _ _ _ hfit]; simp; omega) fun i v v' hi hi' => ?_
  rw [lput_get _ _ _ _ hfit] at hi
  have hi2 : cs'[i]? = some v' := by simpa using hi'
  rw [h2] at hi2
  by_cases hc : off ≤ i ∧ i < off + vs.length
  · rw [if_pos hc] at hi hi2
    obtain ⟨u, h3, h4⟩ := hv.get _ _ hi
    have : us[i - off]? = some u := by simpa using h3
    rw [this] at hi2
    cases hi2
    exact h4
  · rw [if_neg hc] at hi hi2
    obtain ⟨u, h3, h4⟩ := hl.get _ _ hi
    have : cs[i]? = some u := by simpa using h3
    rw [this] at hi2
    cases hi2
    exact h4
theorem fill_ok {place : Nat → Option (Nat × Nat)} {ps : List (Nat × AV)} {ps' : List (Nat × Value)} (hp : PR ι ps ps') : ∀ {l r : List AV} {cs : Array Value}, fillA place l ps = some r → VL ι l cs.toList → ∃ cs', Instr.fill place cs ps' = some cs' ∧ VL ι r cs'.toList ∧ cs'.size = cs.size := by
  induction hp with
  | nil => intro l r cs h hl; cases h; exact ⟨cs, rfl, hl, rfl⟩
  | @cons i v v' ps ps' hv hp ih =>
    intro l r cs h hl
    unfold fillA at h
    split at h
    · rename_i off size hpl
      split at h
      · rename_i hc
        obtain ⟨c1, c2, c3⟩ := hc
        have hcr := cells_rel hv c3
        have e1 := hcr.len
        have e2 := hl.len
        simp only [Array.length_toList] at e1 e2
        obtain ⟨cs', g1, g2, g3⟩ := fill_cons (cells := cs) (rest := ps') hpl (v := v') (by omega) (by omega)
        rw [g1]
        obtain ⟨cs2, k1, k2, k3⟩ := ih h (hl.put hcr (by omega) g2 (fun k => by rw [g3, c1]))
        exact ⟨cs2, k1, k2, k3.trans g2⟩
      · cases h
    · cases h
def placesA (P : Program) : List Field → Option (List (Nat × Nat))
  | [] => some []
  | f :: fs => match szO P f.type, placesA P fs with
    | some s, some r => some ((f.offset, s) :: r)
    | _, _ => none
theorem places_ok (w : World) : ∀ (fs : List Field) (r : List (Nat × Nat)), placesA P fs = some r → (fs.mapM fun f => do pure (f.offset, ← sizeOf f.type) : Sem (List (Nat × Nat))).run P w = .ok r w
  | [], r, h => by cases h; rfl
  | f :: fs, r, h => by
    unfold placesA at h
    split at h
    · rename_i s r' hs hr
      cases h
      have ih := places_ok w fs r' hr
      rw [List.mapM_cons]
      simp only [Sem.run_bind, szO_ok hs w, Result.andThen_ok, Sem.run_pure, ih]
    · cases h
def buildA (P : Program) (t : Nat) (ps : List (Nat × AV)) : Option AV := match zeroO P t, P.underlying t with
  | some z, some (.struct fs) => (match placesA P fs.toList with
    | some pl => if isU z = false then (fillA (fun i => pl[i]?) (toCells z) ps).map .agg else none
    | none => none)
  | some z, some (.array _ e) => (match szO P e with
    | some s => if isU z = false then (fillA (fun i => some (i * s, s)) (toCells z) ps).map .agg else none
    | none => none)
  | _, _ => none
theorem buildA_ok {t : Nat} {ps : List (Nat × AV)} {ps' : Array (Nat × Value)} {v : AV} (h : buildA P t ps = some v) (hp : PR ι ps ps'.toList) (w : World) : ∃ v', (Instr.build t ps').run P w = .ok v' w ∧ VR ι v v' := by
  unfold buildA at h
  split at h
  · rename_i z fs hz hu
    split at h
    · rename_i pl hpl
      split at h
      · rename_i hzu
        simp only [Option.map_eq_some_iff] at h
        obtain ⟨r, h1, rfl⟩ := h
        obtain ⟨z', g1, g2⟩ := zeroO_ok (ι := ι) hz w
        obtain ⟨cs', k1, k2, _⟩ := fill_ok hp h1 (cells_rel g2 hzu)
        refine ⟨.agg cs', ?_, .agg k2⟩
        have hpm : (fs.mapM fun f => do pure (f.offset, ← sizeOf f.type) : Sem (Array (Nat × Nat))).run P w = .ok pl.toArray w := by
          have := places_ok w fs.toList pl hpl
          rw [Array.mapM_eq_mapM_toList]
          simp only [Sem.run_map, this, Result.andThen_ok]
        unfold Instr.build
        simp only [Sem.run_bind, g1, Result.andThen_ok, run_underlying hu, hpm]
        have e : (fun i : Nat => pl.toArray[i]?) = fun i : Nat => pl[i]? := by funext i; simp
        simp only [e, k1]
        rfl
      · cases h
    · cases h
  · rename_i z n e hz hu
    split at h
    · rename_i s hs
      split at h
      · rename_i hzu
        simp only [Option.map_eq_some_iff] at h
        obtain ⟨r, h1, rfl⟩ := h
        obtain ⟨z', g1, g2⟩ := zeroO_ok (ι := ι) hz w
        obtain ⟨cs', k1, k2, _⟩ := fill_ok hp h1 (cells_rel g2 hzu)
        refine ⟨.agg cs', ?_, .agg k2⟩
        unfold Instr.build
        simp only [Sem.run_bind, g1, Result.andThen_ok, run_underlying hu, szO_ok hs w, k1]
        rfl
      · cases h
    · cases h
  · cases h
end
end Go.Tw
set_option linter.unusedVariables false
set_option linter.unusedSimpArgs false
namespace Go.Tw
def loadE (P : Program) (t : Nat) (o : Nat) : Ent → Option AV
  | .cells l _ _ _ => (match agO P t with
    | some true => (match szO P t with
      | some n => if o + n ≤ l.length then some (.agg ((l.drop o).take n)) else none
      | none => none)
    | some false => l[o]?
    | none => none)
  | _ => none
noncomputable def loadV (P : Program) (t : Nat) (hp : Hp) (x : AV) : Option AV := match x with
  | .ptr b o => loadE P t o (entOf hp b)
  | _ => none
def allOne (l : List AV) : Bool := l.all one
noncomputable def storeV (P : Program) (t : Nat) (hp : Hp) (x v : AV) : Option Hp := match x with
  | .ptr b o => (match entOf hp b with
    | .cells l es false old => if szO P t = some (toCells v).length ∧ o + (toCells v).length ≤ l.length ∧ isU v = false ∧ allOne (toCells v) = true then some (setE (killL hp old) b (.cells (lput l o (toCells v)) es false [])) else none
    | _ => none)
  | _ => none
section
variable {P : Program} {ι : Io} {w0 : World} {W : Bs} {hp : Hp} {w : World}
theorem underlying_of_ag {t : Nat} {b : Bool} (h : agO P t = some b) : ∃ d, P.underlying t = some d ∧ (b = true → d.isRow = true) := by
  unfold agO at h
  split at h
  · rename_i fs hu; exact ⟨_, hu, fun _ => rfl⟩
  · rename_i n e hu; exact ⟨_, hu, fun _ => rfl⟩
  · rename_i d h1 h2 hu; cases h; exact ⟨d, hu, fun e => by cases e⟩
  · cases h
theorem load_ok (H : HR ι w0 W hp w) {t : Nat} {x v : AV} {vx : Value} (h : loadV P t hp x = some v) (hx : VR ι x vx) : ∃ v', (Instr.loadAt t vx).run P w = .ok v' w ∧ VR ι v v' := by
  unfold loadV at h
  split at h
  case h_2 => cases h
  rename_i b o
  cases he : entOf hp b with
  | no => rw [he] at h; simp [loadE] at h
  | map l => rw [he] at h; simp [loadE] at h
  | cells l es st old =>
    rw [he] at h
    obtain ⟨p, h1, rfl, hC, _⟩ := H.cells hx he
    unfold loadE at h
    simp only at h
    split at h
    · rename_i ha
      split at h
      · rename_i n hn
        split at h
        · rename_i hfit
          cases h
          obtain ⟨cs, c1, c2, c3⟩ := hC.range o n hfit
          obtain ⟨d, hu, hd⟩ := underlying_of_ag ha
          refine ⟨.agg cs.toArray, run_loadAt_mid w p.blk (p.base + o) t cs d c2 hu (hd rfl) ?_, .agg c3⟩
          unfold szO at hn
          split at hn
          · rename_i i hi; cases hn; rw [hi, c1]; rfl
          · cases hn
        · cases h
      · cases h
    · rename_i ha
      obtain ⟨v', c1, c2⟩ := hC.val o v h
      refine ⟨v', ?_, c2⟩
      unfold Instr.loadAt
      simp only [Instr.sureAddr, Sem.run_bind, Sem.run_pure, Result.andThen_ok]
      unfold loadVar
      simp only [Sem.run_bind, agO_ok ha w, Result.andThen_ok, Bool.false_eq_true, if_false, run_load, c1]
    · cases h
theorem store_ok (H : HR ι w0 W hp w) {t : Nat} {x v : AV} {vx vv : Value} {hp' : Hp} (h : storeV P t hp x v = some hp') (hx : VR ι x vx) (hv : VR ι v vv) : ∃ w', (Instr.storeAt t vx vv).run P w = .ok () w' ∧ HR ι w0 W hp' w' := by
  unfold storeV at h
  split at h
  case h_2 => cases h
  rename_i b o
  split at h
  case h_2 => cases h
  rename_i l es old he
  split at h
  case isFalse => cases h
  rename_i hc
  cases h
  obtain ⟨c1, c2, c3, c4⟩ := hc
  obtain ⟨p, h1, rfl, hC, _⟩ := H.cells hx he
  have hcr := cells_rel hv c3
  have hlen := hcr.len
  refine ⟨_, ?_, H.store h1 he hcr c2⟩
  have hfit := hC.fit
  have hst := run_storeCells_cells (P := P) p.blk (p.base + o) vv.cells.toList 0 w (fun j hj => (hC.thaw _ (by omega)).1) (fun j hj => (hC.thaw _ (by omega)).2) (fun u hu => by
    obtain ⟨i, hi⟩ := List.mem_iff_getElem?.1 hu
    obtain ⟨a, g1, g2⟩ := hcr.get' i u hi
    exact g2.one (List.all_eq_true.1 c4 a (List.mem_of_getElem? g1)))
  unfold Instr.storeAt
  simp only [Instr.sureAddr, Sem.run_bind, Sem.run_pure, Result.andThen_ok]
  unfold storeVar
  have hs : ¬ (vv.cells.size ≠ (toCells v).length) := by rw [hlen]; simp
  simp only [Sem.run_bind, szO_ok c1 w, Result.andThen_ok, if_neg hs, Sem.run_ite]
  rw [Nat.add_zero] at hst
  simpa using hst
/-- A new variable. -/
theorem newVar_ok (H : HR ι w0 W hp w) {v : AV} {vv : Value} (t : TypeId) (hv : VR ι v vv) (hu : isU v = false) (hs : hp.nx < 14000000) :
    (newVar t vv).run P w = .ok ⟨w.heap.size, 0, none⟩ (w.alloc (.cells vv.cells t)) ∧ HR (ι.upd hp.nx ⟨w.heap.size, 0, vv.cells.size, 0⟩) w0 W (hp.new (.cells (toCells v) 0 false [])) (w.alloc (.cells vv.cells t)) := by
  have hcr := cells_rel hv hu
  have hl := hcr.len
  simp only [Array.length_toList] at hl
  refine ⟨rfl, H.newCells vv.cells t 0 (by omega) ?_ hs []⟩
  rw [List.take_of_length_le (by simp; omega)]
  exact hcr
noncomputable def allocV (P : Program) (t : Nat) (hp : Hp) : Option (AV × Hp) := match zeroO P t with
  | some z => if isU z = false ∧ hp.nx < 14000000 then some (.ptr hp.nx 0, hp.new (.cells (toCells z) 0 false [])) else none
  | none => none
theorem alloc_ok (H : HR ι w0 W hp w) {t : Nat} {v : AV} {hp' : Hp} (h : allocV P t hp = some (v, hp')) : ∃ κ v' w', ι.le κ ∧ (Instr.alloc t true (.tuple #[])).run P w = .ok v' w' ∧ VR κ v v' ∧ HR κ w0 W hp' w' := by
  unfold allocV at h
  split at h
  · rename_i z hz
    split at h
    · rename_i hc
      cases h
      obtain ⟨z', g1, g2⟩ := zeroO_ok (ι := ι) hz w
      obtain ⟨k1, k2⟩ := newVar_ok (P := P) H t g2 hc.1 hc.2
      refine ⟨_, .pointer (some ⟨w.heap.size, 0, none⟩), _, H.le_upd _, ?_, .ptr (Io.upd_same _ _ _), k2⟩
      unfold Instr.alloc
      simp only [Sem.run_bind, g1, Result.andThen_ok, k1]
      rfl
    · cases h
  · cases h
noncomputable def boxV (hp : Hp) (x : AV) : Option (AV × Hp) := if isU x = false ∧ hp.nx < 14000000 then some (.ptr hp.nx 0, hp.new (.cells (toCells x) 0 false [])) else none
theorem box_ok (H : HR ι w0 W hp w) (t : TypeId) {x v : AV} {vx : Value} {hp' : Hp} (h : boxV hp x = some (v, hp')) (hx : VR ι x vx) : ∃ κ v' w', ι.le κ ∧ (Instr.box t vx).run P w = .ok v' w' ∧ VR κ v v' ∧ HR κ w0 W hp' w' := by
  unfold boxV at h
  split at h
  · rename_i hc
    cases h
    obtain ⟨k1, k2⟩ := newVar_ok (P := P) H t hx hc.1 hc.2
    refine ⟨_, .pointer (some ⟨w.heap.size, 0, none⟩), _, H.le_upd _, ?_, .ptr (Io.upd_same _ _ _), k2⟩
    unfold Instr.box
    simp only [Sem.run_bind, k1, Result.andThen_ok]
    rfl
  · cases h
/-- A row whose elements are all z. -/
def rowZ (z : List AV) : Nat → List AV
  | 0 => []
  | n + 1 => z ++ rowZ z n
theorem rowZ_len (z : List AV) : ∀ n, (rowZ z n).length = n * z.length
  | 0 => by simp [rowZ]
  | n + 1 => by simp [rowZ, rowZ_len z n, Nat.add_mul]; omega
theorem rowZ_get (z : List AV) : ∀ (n i : Nat), i < n * z.length → (rowZ z n)[i]? = z[i % z.length]?
  | 0, i, h => by simp at h
  | n + 1, i, h => by
    simp only [rowZ]
    by_cases hi : i < z.length
    · rw [List.getElem?_append_left hi, Nat.mod_eq_of_lt hi]
    · rw [List.getElem?_append_right (by omega), rowZ_get z n _ (by rw [Nat.add_mul] at h; omega)]
      congr 1
      rw [← Nat.mod_eq_sub_mod (by omega)]
theorem rowZ_rel {z : List AV} {zc : Array Value} (h : VL ι z zc.toList) (n : Nat) : VL ι (rowZ z n) ((Array.range (n * zc.size)).map (fun i => zc[i % zc.size]!)).toList := by
  have hl := h.len
  simp only [Array.length_toList] at hl
  refine VL.of _ _ (by rw [rowZ_len]; simp [hl]) fun i v v' hi hi' => ?_
  have hlt := (List.getElem?_eq_some_iff.1 hi).1
  rw [rowZ_len] at hlt
  rw [rowZ_get z n i hlt] at hi
  obtain ⟨u, h1, h2⟩ := h.get _ _ hi
  have hlt2 : i < n * zc.size := by rw [← hl]; exact hlt
  have hpos : 0 < zc.size := by
    rcases Nat.eq_zero_or_pos zc.size with h0 | h0
    · rw [h0] at hlt2; simp at hlt2
    · exact h0
  simp only [Array.toList_map, Array.toList_range, List.getElem?_map, List.getElem?_range hlt2, Option.map_some, Option.some.injEq] at hi'
  rw [← hi']
  rw [hl] at h1
  have h3 : zc[i % zc.size]? = some u := by simpa using h1
  have : zc[i % zc.size]! = u := by
    rw [getElem!_def, h3]
  rw [this]
  exact h2
end
end Go.Tw
set_option linter.unusedVariables false
set_option linter.unusedSimpArgs false
namespace Go.Tw
def byO (P : Program) (t : TypeId) : Option Nat := match P.info? t with
  | some i => some i.bytes
  | none => none
noncomputable def bsV (P : Program) (t n : Nat) (ps : List (Nat × AV)) (hp : Hp) : Option (AV × Hp) := match P.underlying t with
  | some (.slice e) => (match szO P e, zeroO P e with
    | some s, some z => if (toCells z).length = s ∧ s ≠ 0 ∧ n * s ≤ 16777216 ∧ isU z = false ∧ hp.nx < 14000000 then (match fillA (fun i => some (i * s, s)) (rowZ (toCells z) n) ps with
      | some r => some (.sl hp.nx 0 n, hp.new (.cells r s false []))
      | none => none) else none
    | _, _ => none)
  | _ => none
noncomputable def msV (P : Program) (t : Nat) (l c : AV) (hp : Hp) : Option (AV × Hp) := match P.underlying t, l, c with
  | some (.slice e), .int _ l, .int _ c => (match szO P e, zeroO P e, byO P e with
    | some s, some z, some by_ => if (toCells z).length = s ∧ s ≠ 0 ∧ 0 ≤ l ∧ l ≤ c ∧ c ≤ 100000 ∧ by_ ≤ 100000 ∧ isU z = false ∧ hp.nx < 14000000 then some (.sl hp.nx 0 l.toNat, hp.new (.cells (rowZ (toCells z) l.toNat) s false [])) else none
    | _, _, _ => none)
  | _, _, _ => none
section
variable {P : Program} {ι : Io} {w0 : World} {W : Bs} {hp : Hp} {w : World}
/-- A slice of a new row. -/
theorem newRow_ok (H : HR ι w0 W hp w) {l : List AV} {c : Array Value} (el : TypeId) {s n cap : Nat} (hl : l.length ≤ c.size) (hv : VL ι l (c.toList.take l.length)) (hn : n ≤ cap) (hc : cap * s ≤ c.size) (hs : hp.nx < 14000000) (old : List Nat := []) (fr : Nat × Nat := (0, 0)) (hf : fz c.size fr := by exact .inl rfl) :
    ∃ κ, ι.le κ ∧ VR κ (.sl hp.nx 0 n) (.slice (some ⟨w.heap.size, 0, none⟩) n cap) ∧ HR κ w0 W (hp.new (.cells l s false old)) (w.alloc (.cells c el fr)) := by
  refine ⟨_, H.le_upd _, ?_, H.newCells c el s hl hv hs old fr hf⟩
  have := VR.sl (o := 0) (n := n) (c := cap) (Io.upd_same ι hp.nx ⟨w.heap.size, 0, c.size, s⟩) hn (by show 0 + 0 + cap * s ≤ c.size; omega)
  exact this
theorem fillA_len {place : Nat → Option (Nat × Nat)} : ∀ (ps : List (Nat × AV)) (l r : List AV), fillA place l ps = some r → r.length = l.length
  | [], l, r, h => by cases h; rfl
  | (i, v) :: ps, l, r, h => by
    unfold fillA at h
    split at h
    · split at h
      · rename_i hc
        rw [fillA_len ps _ r h, lput_len _ _ _ (by omega)]
      · cases h
    · cases h
theorem bs_ok (H : HR ι w0 W hp w) {t n : Nat} {ps : List (Nat × AV)} {ps' : Array (Nat × Value)} {v : AV} {hp' : Hp} (h : bsV P t n ps hp = some (v, hp')) (hps : PR ι ps ps'.toList) : ∃ κ v' w', ι.le κ ∧ (Instr.buildSlice t n ps').run P w = .ok v' w' ∧ VR κ v v' ∧ HR κ w0 W hp' w' := by
  unfold bsV at h
  split at h
  case h_2 => cases h
  rename_i e hu
  split at h
  case h_2 => cases h
  rename_i s z hs hz
  split at h
  case isFalse => cases h
  rename_i hc
  obtain ⟨c1, c2, c3, c4, c5⟩ := hc
  split at h
  case h_2 => cases h
  rename_i r hr
  cases h
  obtain ⟨z', g1, g2⟩ := zeroO_ok (ι := ι) hz w
  have hcr := cells_rel g2 c4
  have hzl := hcr.len
  simp only [Array.length_toList] at hzl
  have hrow := rowZ_rel hcr n
  obtain ⟨cs', k1, k2, k3⟩ := fill_ok hps hr hrow
  have hrl := fillA_len ps _ r hr
  rw [rowZ_len] at hrl
  have hcs : cs'.size = n * s := by rw [k3]; simp; rw [← hzl, c1]
  have hkl := k2.len
  simp only [Array.length_toList] at hkl
  obtain ⟨κ, a1, a2, a3⟩ := newRow_ok H (l := r) (c := cs') e (s := s) (n := n) (cap := n) (by omega) (by rw [List.take_of_length_le (by simp; omega)]; exact k2) (Nat.le_refl _) (by omega) c5
  refine ⟨κ, _, _, a1, ?_, a2, a3⟩
  have hbig : ¬ (n * s > 2 ^ 24) := by omega
  unfold Instr.buildSlice
  simp only [Sem.run_bind, run_underlying hu, Result.andThen_ok, szO_ok hs w, Sem.run_ite, if_neg hbig, Sem.run_pure]
  by_cases h0 : n * s = 0
  · have hn0 : n = 0 := by
      rcases Nat.mul_eq_zero.1 h0 with h | h
      · exact h
      · exact absurd h c2
    subst hn0
    have e1 : ∀ f : Nat → Value, (Array.range 0).map f = #[] := fun f => by simp
    have e2 : (Array.range (0 * z'.cells.size)).map (fun i => z'.cells[i % z'.cells.size]!) = #[] := by simp
    rw [e2] at k1
    simp only [h0, if_true, Result.andThen_ok, e1, k1]
    rfl
  · have e1 : n * s = n * z'.cells.size := by rw [← hzl, c1]
    simp only [if_neg h0, g1, Result.andThen_ok]
    rw [e1]
    simp only [k1]
    rfl
theorem wrap_small {n : Int} (h0 : 0 ≤ n) (h1 : n ≤ 1000000) : IntKind.i64.wrap n = n := by
  simp only [IntKind.wrap, IntKind.bits, IntKind.signed]
  simp
  omega
theorem ms_ok (H : HR ι w0 W hp w) {t : Nat} {l c v : AV} {vl vc : Value} {hp' : Hp} (h : msV P t l c hp = some (v, hp')) (hl : VR ι l vl) (hcp : VR ι c vc) : ∃ κ v' w', ι.le κ ∧ (Instr.makeSlice t vl vc).run P w = .ok v' w' ∧ VR κ v v' ∧ HR κ w0 W hp' w' := by
  unfold msV at h
  split at h
  case h_2 => cases h
  rename_i e kl l kc c hu
  split at h
  case h_2 => cases h
  rename_i s z by_ hs hz hby
  split at h
  case isFalse => cases h
  rename_i hc
  obtain ⟨c1, c2, c3, c4, c5, c6, c7, c8⟩ := hc
  cases h
  cases VR.int_inv hl
  cases VR.int_inv hcp
  obtain ⟨z', g1, g2⟩ := zeroO_ok (ι := ι) hz w
  have hcr := cells_rel g2 c7
  have hzl := hcr.len
  simp only [Array.length_toList] at hzl
  obtain ⟨ln, rfl⟩ := Int.eq_ofNat_of_zero_le c3
  obtain ⟨cn, rfl⟩ := Int.eq_ofNat_of_zero_le (Int.le_trans c3 c4)
  have hlc : ln ≤ cn := by omega
  have hrow := rowZ_rel hcr cn
  have hsz : ((Array.range (cn * z'.cells.size)).map (fun i => z'.cells[i % z'.cells.size]!)).size = cn * s := by simp; rw [← hzl, c1]
  have htake : rowZ (toCells z) ln = (rowZ (toCells z) cn).take (ln * (toCells z).length) := by
    apply List.ext_getElem?
    intro i
    rcases Nat.lt_or_ge i (ln * (toCells z).length) with hlt | hge
    · rw [List.getElem?_take_of_lt hlt, rowZ_get _ _ _ hlt, rowZ_get _ _ _ (Nat.lt_of_lt_of_le hlt (Nat.mul_le_mul_right _ hlc))]
    · rw [List.getElem?_eq_none (by rw [rowZ_len]; exact hge), List.getElem?_eq_none (by rw [List.length_take]; omega)]
  have hle : ln * s ≤ cn * s := Nat.mul_le_mul_right _ hlc
  obtain ⟨κ, a1, a2, a3⟩ := newRow_ok H (l := rowZ (toCells z) ln) (c := (Array.range (cn * z'.cells.size)).map (fun i => z'.cells[i % z'.cells.size]!)) e (s := s) (n := ln) (cap := cn) (by rw [rowZ_len, hsz, c1]; exact hle) (by rw [rowZ_len, htake]; exact hrow.take _) hlc (by omega) c8
  refine ⟨κ, _, _, a1, ?_, a2, a3⟩
  have hi : ∃ i, P.info? e = some i ∧ i.bytes = by_ := by
    unfold byO at hby
    split at hby
    · rename_i i hi; cases hby; exact ⟨i, hi, rfl⟩
    · cases hby
  obtain ⟨i, hi1, rfl⟩ := hi
  have w1 : IntKind.i64.wrap (ln : Int) = ln := wrap_small (by omega) (by omega)
  have w2 : IntKind.i64.wrap (cn : Int) = cn := wrap_small (by omega) (by omega)
  have hb1 : (i.bytes : Int) * (cn : Int) ≤ 100000 * 100000 := Int.mul_le_mul (by omega) (by omega) (by omega) (by omega)
  have hbig : ¬ ((((cn : Int) < 0 ∨ (i.bytes : Int) * (cn : Int) > 2 ^ 48) ∨ (ln : Int) < 0) ∨ (ln : Int) > cn) := by
    have : (2 : Int) ^ 48 = 281474976710656 := by decide
    omega
  have hroom : (askRoom (cn * i.bytes)).run P w = .ok () w := by
    unfold askRoom
    split
    · rfl
    · rfl
  unfold Instr.makeSlice
  simp only [Sem.run_bind, run_underlying hu, Result.andThen_ok, asInt, asIntOf, Sem.run_pure, run_typeInfo w hi1, w1, w2, Sem.run_ite, Bool.or_eq_true, decide_eq_true_eq]
  rw [if_neg hbig]
  simp only [Int.toNat_natCast, Result.andThen_ok, hroom, szO_ok hs w]
  by_cases h0 : cn * s = 0
  · have hn0 : cn = 0 := by
      rcases Nat.mul_eq_zero.1 h0 with h | h
      · exact h
      · exact absurd h c2
    subst hn0
    have e2 : (Array.range (0 * z'.cells.size)).map (fun i => z'.cells[i % z'.cells.size]!) = #[] := by simp
    rw [e2]
    simp only [h0, if_true]
    have e1 : ∀ f : Nat → Value, (Array.range 0).map f = #[] := fun f => by simp
    simp only [e1]
    rfl
  · have e1 : cn * s = cn * z'.cells.size := by rw [← hzl, c1]
    simp only [if_neg h0, g1, Result.andThen_ok]
    rw [e1]
    rfl
end
end Go.Tw
