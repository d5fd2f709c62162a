/-
  An evaluator with a heap, part b: append.
-/
import Derived.Test.YteaaijgkmcjcaaaGreatDoorWa
import Derived.Room.Entries
import Derived.Laws.IdiomStrings
import Derived.WideKeyRuns
import Derived.Orders
import Derived.LoopN
import Derived.Scope
import Derived.Recover
import Derived.RangeFuncLeaves
import Derived.RangeFuncRecord
set_option linter.unusedVariables false
set_option linter.unusedSimpArgs false
namespace Go.Tw
def isSl (P : Program) (t : TypeId) : Bool := match P.underlying t with
  | some (.slice _) => true
  | _ => false
def isSt (P : Program) (t : TypeId) : Bool := match P.underlying t with
  | some .string => true
  | _ => false
/-- What the second argument yields. -/
noncomputable def srcA (P : Program) (s : Nat) (tx : TypeId) (hp : Hp) (x : AV) : Option (Nat × List AV) := match x with
  | .nils => if isSl P tx = true then some (0, []) else none
  | .sl b o n => (match entOf hp b with
    | .cells l es _ _ => if isSl P tx = true ∧ s = es ∧ o + n * s ≤ l.length ∧ allOne ((l.drop o).take (n * s)) = true then some (n, (l.drop o).take (n * s)) else none
    | _ => none)
  | .str l => if isSt P tx = true ∧ s = 1 then some (l.length, l.map fun (b : Nat) => AV.int .u8 b) else none
  | _ => none
noncomputable def appV (P : Program) (t tx : TypeId) (s x : AV) (hp : Hp) : Option (AV × Hp) := match P.underlying t with
  | some (.slice e) => (match szO P e, zeroO P e, byO P e with
    | some es, some z, some by_ => if (toCells z).length = es ∧ isU z = false ∧ by_ ≤ 100000 ∧ hp.nx < 14000000 then (match srcA P es tx hp x with
      | some (0, _) => (match s with
        | .nils => some (s, hp)
        | .sl _ _ _ => some (s, hp)
        | _ => none)
      | some (n + 1, news) => if n < 100000 then (match s with
        | .nils => some (.sl hp.nx 0 (n + 1), hp.new (.cells news es false []))
        | .sl b o m => (match entOf hp b with
          | .cells l es' false old => if es' = es ∧ o + m * es = l.length ∧ m ≤ 100000 then some (.sl hp.nx 0 (m + (n + 1)), (setE hp b (.cells l es true [])).new (.cells (l.drop o ++ news) es false (b :: old))) else none
          | _ => none)
        | _ => none) else none
      | none => none) else none
    | _, _, _ => none)
  | _ => none
section
variable {P : Program} {ι : Io} {w0 : World} {W : Bs} {hp : Hp} {w : World}
theorem isSl_spec {t : TypeId} (h : isSl P t = true) : ∃ e, P.underlying t = some (.slice e) := by
  unfold isSl at h
  split at h
  · exact ⟨_, by assumption⟩
  · cases h
theorem isSt_spec {t : TypeId} (h : isSt P t = true) : P.underlying t = some .string := by
  unfold isSt at h
  split at h
  · assumption
  · cases h
theorem ones_of {l : List AV} {cs : List Value} (h : VL ι l cs) (ho : allOne l = true) : ∀ u ∈ cs, u.oneCell' = true := fun u hu => by
  obtain ⟨i, hi⟩ := List.mem_iff_getElem?.1 hu
  obtain ⟨a, g1, g2⟩ := h.get' i u hi
  exact g2.one (List.all_eq_true.1 ho a (List.mem_of_getElem? g1))
theorem bytes_rel (ι : Io) : ∀ l : List UInt8, VL ι ((l.map UInt8.toNat).map fun (b : Nat) => AV.int .u8 b) (l.map fun b => Value.int .u8 b.toNat)
  | [] => .nil
  | b :: l => .cons (.int _ _) (bytes_rel ι l)
theorem src_ok (H : HR ι w0 W hp w) {s n : Nat} {tx : TypeId} {x : AV} {news : List AV} {vx : Value} (h : srcA P s tx hp x = some (n, news)) (hx : VR ι x vx) : ∃ cs, Src P s tx vx n cs w ∧ VL ι news cs := by
  unfold srcA at h
  split at h
  · split at h
    case isFalse => cases h
    rename_i hc
    cases h
    obtain ⟨e', he⟩ := isSl_spec hc
    cases hx
    exact ⟨[], Src.ofNil w he 0, .nil⟩
  · rename_i b o n'
    split at h
    case h_2 => cases h
    rename_i l es st old he
    split at h
    case isFalse => cases h
    rename_i hc
    cases h
    obtain ⟨c1, rfl, c3, c4⟩ := hc
    obtain ⟨e', hu⟩ := isSl_spec c1
    have main : ∀ p, ι b = some p → CR ι w p l → ∃ cs : List Value, cs.length = n * s ∧ w.rangeAt p.blk (p.base + o) cs ∧ VL ι ((l.drop o).take (n * s)) cs := fun p hp hC => hC.range o (n * s) c3
    cases hx with
    | @sl _ _ _ c p hp hn hcap =>
      obtain ⟨q, h1, h2⟩ := H.ent b (H.fresh _ _ hp) (by rw [he]; simp)
      rw [hp] at h1
      cases h1
      rw [he] at h2
      obtain ⟨cs, g1, g2, g3⟩ := main p hp h2.1
      exact ⟨cs, Src.ofSlice w hu _ _ _ cs g1 (fun j u hj => by rw [Addr.add_mid]; exact g2 j u hj) (ones_of g3 c4), g3⟩
    | @sl0 _ _ o' p hp =>
      refine ⟨[], Src.ofSlice w hu _ _ _ [] (by simp) (fun j u hj => by simp at hj) (fun u hu => by cases hu), ?_⟩
      rw [Nat.zero_mul, List.take_zero]
      exact .nil
  · rename_i l
    split at h
    case isFalse => cases h
    rename_i hc
    cases h
    obtain ⟨c1, rfl⟩ := hc
    obtain ⟨s, rfl, hl⟩ := VR.str_inv hx
    have hlen : l.length = s.size := by rw [hl, List.length_map, Array.length_toList]; rfl
    rw [hlen]
    refine ⟨byteCells s, Src.ofString w (isSt_spec c1) s, ?_⟩
    rw [hl]
    exact bytes_rel ι s.data.toList
  · cases h
theorem firstCells_row {i : Nat} {a : Addr} {n c : Nat} {cs : List Value} (hl : cs.length = n * i) (h : w.rangeAt a.block a.off cs) (ha : a.spot = none) : (Builtin.firstCells i n (.slice (some a) n c)).run P w = .ok cs.toArray w :=
  run_firstCells_some w i n a n c cs hl fun j v hj => by
    obtain ⟨b, o, sp⟩ := a
    cases ha
    rw [Addr.add_mid]; exact h j v hj
end
end Go.Tw
set_option linter.unusedVariables false
set_option linter.unusedSimpArgs false
namespace Go.Tw
section
variable {P : Program} {ι : Io} {w0 : World} {W : Bs} {hp : Hp} {w : World}
theorem info_of {e s by_ : Nat} {z : AV} (h1 : szO P e = some s) (h2 : zeroO P e = some z) (h3 : byO P e = some by_) : ∃ i z', P.info? e = some i ∧ i.size = s ∧ i.bytes = by_ ∧ i.zero = some z' ∧ VR ι z z' := by
  unfold szO at h1
  unfold zeroO at h2
  unfold byO at h3
  split at h1
  case h_2 => cases h1
  rename_i i hi
  cases h1
  rw [hi] at h2 h3
  cases h3
  simp only at h2
  split at h2
  case h_2 => cases h2
  rename_i z' hz
  cases h2
  exact ⟨i, z', hi, rfl, rfl, hz, ofV_ok ι _⟩
/-- A longer row in a new block. -/
theorem grow_ok (H : HR ι w0 W hp w) (t tx ty e : TypeId) (i : TypeInfo) (z' : Value) (hu : P.underlying t = some (.slice e)) (hi : P.info? e = some i) (hz : i.zero = some z') (hzs : z'.cells.size = i.size) (hby : i.bytes ≤ 100000) (hs : hp.nx < 14000000)
    (base : Option Addr) (m c n : Nat) {lo news : List AV} {olds cs : List Value} (hold : ∀ w' : World, w'.heap = w.heap → (Builtin.firstCells i.size m (.slice base m c)).run P w' = .ok olds.toArray w') (hol : olds.length = m * i.size) (hlo : VL ι lo olds) (hm : m ≤ 100000) (hn : n ≤ 100000) (hg : c < m + n) (vx : Value) (hsrc : Src P i.size tx vx n cs w) (hnews : VL ι news cs) (old : List Nat) :
    ∃ κ v' w', ι.le κ ∧ (Builtin.append_ #[t, tx] ty #[.slice base m c, vx]).run P w = .ok v' w' ∧ VR κ (.sl hp.nx 0 (m + n)) v' ∧ HR κ w0 W (hp.new (.cells (lo ++ news) i.size false old)) w' := by
  have hcap : Builtin.nextslicecap (m + n) c * i.bytes ≤ 281474976710656 := by
    have h1 := Room.nextslicecap_le' hg
    have h2 : Builtin.nextslicecap (m + n) c * i.bytes ≤ 400000 * 100000 := Nat.mul_le_mul (by omega) hby
    omega
  have hrun := run_append_grow_src (P := P) w t tx ty e i z' hu hi hz base m c olds (hold w.drew rfl) vx n cs hsrc hg (by omega) hcap
  have hge := grownCap_ge w (m + n) c e
  have hll := hlo.len
  have hnl := hnews.len
  have hcl := hsrc.newsLen
  have hL : (lo ++ news).length = (m + n) * i.size := by rw [List.length_append, hll, hnl, hol, hcl, Nat.add_mul]
  generalize hC : ((olds ++ cs).toArray ++ Builtin.zeroCells z'.cells (grownCap w (m + n) c e - (m + n))) = C at hrun
  have hCs : C.size = grownCap w (m + n) c e * i.size := by
    rw [← hC, Array.size_append, Builtin.zeroCells]
    simp only [List.size_toArray, List.length_append, Array.size_map, Array.size_range, hzs, hol, hcl]
    rw [← Nat.add_mul, ← Nat.add_mul]
    congr 1; omega
  have hle : (m + n) * i.size ≤ grownCap w (m + n) c e * i.size := Nat.mul_le_mul_right _ hge
  obtain ⟨κ, a1, a2, a3⟩ := newRow_ok H.drew (l := lo ++ news) (c := C) e (s := i.size) (n := m + n) (cap := grownCap w (m + n) c e) (by omega) (by
    rw [← hC, Array.toList_append, List.take_append_of_le_length (by simp; omega)]
    rw [List.take_of_length_le (by simp; omega)]
    exact hlo.app hnews) hge (by omega) hs old
  exact ⟨κ, _, _, a1, hrun, a2, a3⟩
theorem app_ok (H : HR ι w0 W hp w) {t tx : TypeId} (ty : TypeId) {s x v : AV} {vs vx : Value} {hp' : Hp} (h : appV P t tx s x hp = some (v, hp')) (hs : VR ι s vs) (hx : VR ι x vx) :
    ∃ κ v' w', ι.le κ ∧ (Builtin.append_ #[t, tx] ty #[vs, vx]).run P w = .ok v' w' ∧ VR κ v v' ∧ HR κ w0 W hp' w' := by
  unfold appV at h
  split at h
  case h_2 => cases h
  rename_i e hu
  split at h
  case h_2 => cases h
  rename_i es z by_ hs1 hz1 hb1
  split at h
  case isFalse => cases h
  rename_i hc
  obtain ⟨c1, c2, c3, c4⟩ := hc
  obtain ⟨i, z', hi, rfl, rfl, hz, hzr⟩ := info_of (ι := ι) hs1 hz1 hb1
  have hzl := (cells_rel hzr c2).len
  simp only [Array.length_toList] at hzl
  split at h
  · rename_i n0 hsrc
    obtain ⟨cs, k1, k2⟩ := src_ok H hsrc hx
    have hcs : cs = [] := List.eq_nil_of_length_eq_zero (by rw [k1.newsLen, Nat.zero_mul])
    subst hcs
    split at h
    · cases h
      cases hs
      exact ⟨ι, _, _, .refl _, run_append_nothing w t tx ty e i hu hi none 0 0 (Nat.le_refl _) vx k1, .nils, H⟩
    · cases h
      have hs' := hs
      cases hs with
      | sl hp hn hcap => exact ⟨ι, _, _, .refl _, run_append_nothing w t tx ty e i hu hi _ _ _ hn vx k1, hs', H⟩
      | sl0 hp => exact ⟨ι, _, _, .refl _, run_append_nothing w t tx ty e i hu hi _ _ _ (Nat.le_refl _) vx k1, hs', H⟩
    · cases h
  · rename_i n news hsrc
    obtain ⟨cs, k1, k2⟩ := src_ok H hsrc hx
    have hnl := k2.len
    have hcl := k1.newsLen
    split at h
    case isFalse => cases h
    rename_i hn
    split at h
    · cases h
      cases hs
      have := grow_ok H t tx ty e i z' hu hi hz (by omega) c3 c4 none 0 0 (n + 1) (lo := []) (news := news) (olds := []) (fun w' _ => run_firstCells_none w' i.size 0 0 0) (by simp) .nil (by omega) (by omega) (by omega) vx k1 k2 []
      simpa using this
    · rename_i b o m
      split at h
      case h_2 => cases h
      rename_i l es' old he
      split at h
      case isFalse => cases h
      rename_i hc2
      obtain ⟨rfl, d2, d3⟩ := hc2
      cases h
      have grow : ∀ (p : Pl) (a : Addr) (c : Nat), ι b = some p → CR ι w p l → (a = ⟨p.blk, p.base + o, none⟩ ∨ m = 0) → c < m + (n + 1) → a.spot = none →
          ∃ κ v' w', ι.le κ ∧ (Builtin.append_ #[t, tx] ty #[.slice (some a) m c, vx]).run P w = .ok v' w' ∧ VR κ (.sl hp.nx 0 (m + (n + 1))) v' ∧ HR κ w0 W ((setE hp b (.cells l i.size true [])).new (.cells (l.drop o ++ news) i.size false (b :: old))) w' := by
        intro p a c hp hC ha hg hsp
        obtain ⟨olds, g1, g2, g3⟩ := hC.range o (m * i.size) (by omega)
        have hlo : VL ι (l.drop o) olds := by
          have : (l.drop o).take (m * i.size) = l.drop o := List.take_of_length_le (by rw [List.length_drop]; omega)
          rw [this] at g3; exact g3
        have := grow_ok (H.stale (H.fresh _ _ hp) he) t tx ty e i z' hu hi hz (by omega) c3 (by rw [nx_set]; exact c4) (some a) m c (n + 1) (fun w' hw' => firstCells_row g1 (fun j v hj => by
          rcases ha with rfl | rfl
          · have := g2 j v hj
            rw [← this]
            exact World.cell?_of_block (a := ⟨p.blk, p.base + o + j, none⟩) (by rw [hw'])
          · have h0 : olds = [] := List.eq_nil_of_length_eq_zero (by rw [g1, Nat.zero_mul])
            rw [h0] at hj
            simp at hj) hsp) g1 hlo d3 (by omega) hg vx k1 k2 (b :: old)
        rw [nx_set] at this
        exact this
      cases hs with
      | @sl _ _ _ c p hpp hm hcap =>
        obtain ⟨q, h1, h2⟩ := H.ent b (H.fresh _ _ hpp) (by rw [he]; simp)
        rw [hpp] at h1
        cases h1
        rw [he] at h2
        obtain ⟨hC, hes⟩ := h2
        rw [hes] at hcap
        rcases Nat.lt_or_ge c (m + (n + 1)) with hlt | hge
        · exact grow p _ c hpp hC (.inl rfl) hlt rfl
        · have hle : (m + (n + 1)) * i.size ≤ c * i.size := Nat.mul_le_mul_right _ hge
          rw [Nat.add_mul] at hle
          have hcl' : cs.length = (n + 1) * i.size := hcl
          have hfitC := hC.fit
          have hth : ∀ j, j < cs.length → (w.cell? ⟨p.blk, p.base + o + m * i.size + j, none⟩).isSome = true ∧ w.frozen? ⟨p.blk, p.base + o + m * i.size + j, none⟩ = false := fun j hj => hC.thaw _ (by omega)
          have hrun := run_append_room_src (P := P) w t tx ty e i hu hi p.blk (p.base + o) m c vx (n + 1) cs k1 hge (fun j hj => (hth j hj).1) (fun j hj => (hth j hj).2)
          have hroom := H.room hpp he (o := o) (by omega) k2 (by omega) c4
          rw [show p.base + l.length = p.base + o + m * i.size by omega] at hroom
          refine ⟨_, _, _, H.le_upd _, hrun, ?_, hroom⟩
          have := VR.sl (o := 0) (n := m + (n + 1)) (c := c) (Io.upd_same ι hp.nx ⟨p.blk, p.base + o, p.sz, i.size⟩) hge (by show p.base + o + 0 + c * i.size ≤ p.sz; omega)
          exact this
      | @sl0 _ _ o' p hpp =>
        obtain ⟨q, h1, h2⟩ := H.ent b (H.fresh _ _ hpp) (by rw [he]; simp)
        rw [hpp] at h1
        cases h1
        rw [he] at h2
        exact grow p _ 0 hpp h2.1 (.inr rfl) (by omega) rfl
    · cases h
  · cases h
end
end Go.Tw
set_option linter.unusedVariables false
set_option linter.unusedSimpArgs false
namespace Go.Tw
def bytesA : List AV → Option (List Nat)
  | [] => some []
  | .int .u8 k :: r => if 0 ≤ k ∧ k < 256 then (match bytesA r with
    | some l => some (k.toNat :: l)
    | none => none) else none
  | _ => none
def u8Of (P : Program) (t : TypeId) : Option TypeId := match P.underlying t with
  | some (.slice e) => (match P.underlying e with
    | some (.int .u8) => some e
    | _ => none)
  | _ => none
noncomputable def cvV (P : Program) (s d : Nat) (x : AV) (hp : Hp) : Option (AV × Hp) := match cvA P s d x with
  | some v => some (v, hp)
  | none => (match x with
    | .nils => if isSt P d = true ∧ u8Of P s ≠ none then some (.str [], hp) else none
    | .sl b o n => (match entOf hp b with
      | .cells l _ _ _ => if isSt P d = true ∧ u8Of P s ≠ none ∧ o + n ≤ l.length then (match bytesA ((l.drop o).take n) with
        | some r => some (.str r, hp)
        | none => none) else none
      | _ => none)
    | .str l => (match u8Of P d with
      | some _ => if isSt P s = true ∧ hp.nx < 14000000 then some (.sl hp.nx 0 l.length, hp.new (.cells (l.map fun (b : Nat) => AV.int .u8 b) 1 false [])) else none
      | none => none)
    | _ => none)
section
variable {P : Program} {ι : Io} {w0 : World} {W : Bs} {hp : Hp} {w : World}
theorem u8Of_spec {t e : TypeId} (h : u8Of P t = some e) : P.underlying t = some (.slice e) ∧ P.underlying e = some (.int .u8) := by
  unfold u8Of at h
  split at h
  · split at h
    · cases h; exact ⟨by assumption, by assumption⟩
    · cases h
  · cases h
theorem bytesA_spec : ∀ (l : List AV) (ns : List Nat) (cs : List Value), bytesA l = some ns → VL ι l cs → ∃ bs : List UInt8, ns = bs.map UInt8.toNat ∧ cs = bs.map fun b => Value.int .u8 b.toNat
  | [], ns, cs, h, hl => by cases h; cases hl; exact ⟨[], rfl, rfl⟩
  | v :: r, ns, cs, h, hl => by
    cases hl with
    | @cons _ v' _ cs' hv hr =>
      unfold bytesA at h
      split at h
      · rename_i e; cases e
      · rename_i k r' e
        cases e
        split at h
        case isFalse => cases h
        rename_i hk
        split at h
        case h_2 => cases h
        rename_i m hm
        cases h
        obtain ⟨bs, h1, h2⟩ := bytesA_spec r m cs' hm hr
        cases VR.int_inv hv
        obtain ⟨n, rfl⟩ := Int.eq_ofNat_of_zero_le hk.1
        have hb : (UInt8.ofNat n).toNat = n := by rw [UInt8.toNat_ofNat']; omega
        refine ⟨UInt8.ofNat n :: bs, ?_, ?_⟩
        · rw [List.map_cons, hb, h1, Int.toNat_natCast]
        · rw [List.map_cons, hb, h2]
      · cases h
theorem toList_map_size (s : ByteArray) : (s.data.toList.map UInt8.toNat).length = s.size := by rw [List.length_map, Array.length_toList]; rfl
theorem cv_ok (H : HR ι w0 W hp w) {s d : TypeId} {x v : AV} {vx : Value} {hp' : Hp} (h : cvV P s d x hp = some (v, hp')) (hx : VR ι x vx) :
    ∃ κ v' w', ι.le κ ∧ (convert s d vx).run P w = .ok v' w' ∧ VR κ v v' ∧ HR κ w0 W hp' w' := by
  unfold cvV at h
  split at h
  · rename_i v1 hv
    cases h
    obtain ⟨v', h1, h2⟩ := cvA_ok hv hx w
    exact ⟨ι, v', w, .refl _, h1, h2, H⟩
  rename_i hcv
  clear hcv
  split at h
  · split at h
    case isFalse => cases h
    rename_i hc
    cases h
    cases he : u8Of P s with
    | none => exact absurd he hc.2
    | some e =>
      obtain ⟨h1, h2⟩ := u8Of_spec he
      cases hx
      refine ⟨ι, .string .empty, w, .refl _, ?_, .str _ rfl, H⟩
      rw [run_convert_bytes_string w s d e none 0 0 h1 h2 (isSt_spec hc.1)]
      rfl
  · rename_i b o n
    split at h
    case h_2 => cases h
    rename_i l es st old hen
    split at h
    case isFalse => cases h
    rename_i hc
    obtain ⟨c1, c2, c3⟩ := hc
    split at h
    case h_2 => cases h
    rename_i r hr
    cases h
    cases he : u8Of P s with
    | none => exact absurd he c2
    | some e =>
      obtain ⟨h1, h2⟩ := u8Of_spec he
      have hd := isSt_spec c1
      have main : ∀ (p : Pl) (a : Addr) (c : Nat), ι b = some p → (a = ⟨p.blk, p.base + o, none⟩ ∨ n = 0) → a.spot = none → ∃ κ v' w', ι.le κ ∧ (convert s d (.slice (some a) n c)).run P w = .ok v' w' ∧ VR κ (.str r) v' ∧ HR κ w0 W hp w' := by
        intro p a c hp' ha hsp
        obtain ⟨q, g1, g2⟩ := H.ent b (H.fresh _ _ hp') (by rw [hen]; simp)
        rw [hp'] at g1
        cases g1
        rw [hen] at g2
        obtain ⟨cs, k1, k2, k3⟩ := g2.1.range o n c3
        obtain ⟨bs, m1, m2⟩ := bytesA_spec _ _ _ hr k3
        have hn : bs.length = n := by rw [m2, List.length_map] at k1; exact k1
        subst hn
        refine ⟨ι, .string ⟨bs.toArray⟩, w, .refl _, ?_, ?_, H⟩
        · refine run_convert_bytes_back w s d e a c bs h1 h2 hd fun j hj => ?_
          rcases ha with rfl | h0
          · rw [Addr.add_mid]
            refine k2 j _ ?_
            rw [m2, List.getElem?_map, List.getElem?_eq_getElem hj]
            rfl
          · omega
        · refine .str _ ?_
          rw [m1]
      cases hx with
      | sl hp hn hcap => exact main _ _ _ hp (.inl rfl) rfl
      | sl0 hp => exact main _ _ _ hp (.inr rfl) rfl
  · rename_i l
    split at h
    case h_2 => cases h
    rename_i e he
    split at h
    case isFalse => cases h
    rename_i hc
    cases h
    obtain ⟨h1, h2⟩ := u8Of_spec he
    obtain ⟨bs, rfl, rfl⟩ := VR.str_inv hx
    have hrun := run_bytes_of_string (P := P) w s d e bs (isSt_spec hc.1) h1 h2
    have hge := grownCap_ge w bs.size 0 e
    have hC : (bytesRow bs (grownCap w bs.size 0 e)).size = grownCap w bs.size 0 e := by
      unfold bytesRow
      simp
      have : bs.data.size = bs.size := rfl
      omega
    have hL : ((bs.data.toList.map UInt8.toNat).map fun (b : Nat) => AV.int .u8 b).length = bs.size := by rw [List.length_map, toList_map_size]
    obtain ⟨κ, a1, a2, a3⟩ := newRow_ok H.drew (l := (bs.data.toList.map UInt8.toNat).map fun (b : Nat) => AV.int .u8 b) (c := bytesRow bs (grownCap w bs.size 0 e)) e (s := 1) (n := bs.size) (cap := grownCap w bs.size 0 e) (by omega) (by
      rw [hL]
      have : (bytesRow bs (grownCap w bs.size 0 e)).toList.take bs.size = bs.data.toList.map fun b => Value.int .u8 b.toNat := by
        unfold bytesRow
        rw [Array.toList_append, List.take_append_of_le_length (by simp), List.take_of_length_le (by simp), Array.toList_map]
      rw [this]
      exact bytes_rel ι _) hge (by omega) hc.2 [] ((bytesRow bs (grownCap w bs.size 0 e)).size, (bytesRow bs (grownCap w bs.size 0 e)).size + 1) (.inr (Nat.le_refl _))
    rw [toList_map_size]
    exact ⟨κ, _, _, a1, hrun, a2, a3⟩
  · cases h
end
end Go.Tw
set_option linter.unusedVariables false
set_option linter.unusedSimpArgs false
namespace Go.Tw
def keyFs (P : Program) (l : List AV) : List Field → Bool
  | [] => true
  | f :: fs => (f.name != "_") && P.plainKey f.type && (match l[f.offset]? with
    | some a => (match eq1 (P.underlying f.type) a a with
      | some _ => true
      | none => false)
    | none => false) && keyFs P l fs
def keyT (P : Program) (kt : TypeId) (k : AV) : Option Bool := match P.underlying kt, k with
  | some (.int _), .int _ _ => some true
  | some .string, .str _ => some true
  | some (.struct fs), .agg l => if keyFs P l fs.toList = true then some false else none
  | _, _ => none
def eqK (P : Program) (kt : TypeId) (k a : AV) : Option Bool := match k, a with
  | .int kk x, .int kk' y => if kk = kk' then some (x == y) else none
  | .str x, .str y => some (strEq x y)
  | .agg x, .agg y => eqA P false kt (.agg x) (.agg y)
  | _, _ => none
def findA (P : Program) (kt : TypeId) (k : AV) : List (AV × AV) → Nat → Option (Option (Nat × AV))
  | [], _ => some none
  | e :: r, i => match eqK P kt k e.1 with
    | some true => some (some (i, e.2))
    | some false => findA P kt k r (i + 1)
    | none => none
section
variable {P : Program} {ι : Io} {w0 : World} {W : Bs} {hp : Hp} {w : World}
theorem run_forIn_yield {α : Type} (g : α → PUnit → Sem (ForInStep PUnit)) : ∀ (l : List α), (∀ x ∈ l, (g x ⟨⟩).run P w = .ok (.yield ⟨⟩) w) → (forIn l PUnit.unit g).run P w = .ok ⟨⟩ w
  | [], _ => by simp [Sem.run_pure]
  | x :: l, h => by
    rw [List.forIn_cons]
    simp only [Sem.run_bind, h x (List.mem_cons_self ..), Result.andThen_ok]
    exact run_forIn_yield g l fun y hy => h y (List.mem_cons_of_mem _ hy)
theorem keyFs_mem {l : List AV} : ∀ (fs : List Field), keyFs P l fs = true → ∀ f ∈ fs, f.name ≠ "_" ∧ P.plainKey f.type = true ∧ ∃ a r, l[f.offset]? = some a ∧ eq1 (P.underlying f.type) a a = some r
  | [], _, f, hf => by cases hf
  | f' :: fs, h, f, hf => by
    unfold keyFs at h
    simp only [Bool.and_eq_true] at h
    obtain ⟨⟨⟨h1, h2⟩, h3⟩, h4⟩ := h
    rcases List.mem_cons.1 hf with rfl | hf
    · refine ⟨by simpa using h1, h2, ?_⟩
      split at h3
      · rename_i a ha
        split at h3
        · rename_i r hr
          exact ⟨a, r, ha, hr⟩
        · cases h3
      · cases h3
    · exact keyFs_mem fs h4 f hf
theorem check_plain {e : TypeId} {a b : AV} {va : Value} {r : Bool} (h : eq1 (P.underlying e) a b = some r) (ha : VR ι a va) (em : Bool) (n : Nat) : (Instr.checkKey em (n + 1) e va).run P w = .ok () w := by
  unfold eq1 at h
  unfold Instr.checkKey
  split at h
  · rename_i hu
    cases VR.int_inv ha
    simp only [Sem.run_bind, run_underlying hu, Result.andThen_ok]
    rfl
  · rename_i hu
    obtain ⟨s, rfl, _⟩ := VR.str_inv ha
    simp only [Sem.run_bind, run_underlying hu, Result.andThen_ok]
    rfl
  · rename_i hu
    cases VR.bool_inv ha
    simp only [Sem.run_bind, run_underlying hu, Result.andThen_ok]
    rfl
  · cases h
theorem check_ok {kt : TypeId} {k : AV} {vk : Value} {r : Bool} (h : keyT P kt k = some r) (hk : VR ι k vk) (em : Bool) : (Instr.checkKey em 10000 kt vk).run P w = .ok () w := by
  unfold keyT at h
  split at h
  · rename_i hu
    cases VR.int_inv hk
    unfold Instr.checkKey
    simp only [Sem.run_bind, run_underlying hu, Result.andThen_ok]
    rfl
  · rename_i hu
    obtain ⟨s, rfl, _⟩ := VR.str_inv hk
    unfold Instr.checkKey
    simp only [Sem.run_bind, run_underlying hu, Result.andThen_ok]
    rfl
  · rename_i fs l hu
    split at h
    case isFalse => cases h
    rename_i hc
    obtain ⟨cs, rfl, hl⟩ := VR.agg_inv hk
    unfold Instr.checkKey
    simp only [Sem.run_bind, run_underlying hu, Result.andThen_ok]
    rw [← Array.forIn_toList]
    rw [run_forIn_yield]
    · rfl
    · intro f hf
      obtain ⟨h1, h2, a, r, h3, h4⟩ := keyFs_mem _ hc f hf
      obtain ⟨va, g1, g2⟩ := hl.get _ _ h3
      simp only [Sem.run_bind, Sem.run_ite, if_pos h1, run_part_plain w h2 (show cs[f.offset]? = some va by simpa using g1), Result.andThen_ok, check_plain h4 g2 em, Sem.run_pure]
  · cases h
theorem bytes_beq_strEq (a b : ByteArray) : (a == b) = strEq (a.data.toList.map UInt8.toNat) (b.data.toList.map UInt8.toNat) := by
  rw [Bool.eq_iff_iff, MapKept.bytes_beq, strEq_iff]
  exact ⟨fun h => by rw [h], bytes_eq⟩
/-- Entries and their keys. -/
def EL (ι : Io) (l : List (AV × AV)) (es : List MapEntry) : Prop := l.length = es.length ∧ ∀ (i : Nat) (x : AV × AV), l[i]? = some x → ∃ e, es[i]? = some e ∧ VR ι x.1 e.key ∧ VR ι x.2 e.val
theorem EL.tail {x : AV × AV} {l : List (AV × AV)} {es : List MapEntry} (h : EL ι (x :: l) es) : ∃ e es', es = e :: es' ∧ VR ι x.1 e.key ∧ VR ι x.2 e.val ∧ EL ι l es' := by
  obtain ⟨h1, h2⟩ := h
  cases es with
  | nil => simp at h1
  | cons e es =>
    obtain ⟨e', g1, g2, g3⟩ := h2 0 x rfl
    cases g1
    exact ⟨e, es, rfl, g2, g3, by simpa using h1, fun i y hy => by simpa using h2 (i + 1) y (by simpa using hy)⟩
theorem find_now {kt : TypeId} {k : AV} {vk : Value} {d : TypeDesc} (hu : P.underlying kt = some d) (ht : keyT P kt k = some true) (hk : VR ι k vk) : ∀ (l : List (AV × AV)) (es : List MapEntry) (i : Nat) (r : Option (Nat × AV)), findA P kt k l i = some r → EL ι l es →
    (r = none ∧ Instr.findNow d vk es i = some none) ∨ ∃ j v e, r = some (i + j, v) ∧ es[j]? = some e ∧ VR ι v e.val ∧ Instr.findNow d vk es i = some (some (i + j, e.val))
  | [], es, i, r, h, hl => by
    cases h
    have : es = [] := List.eq_nil_of_length_eq_zero hl.1.symm
    subst this
    exact .inl ⟨rfl, rfl⟩
  | x :: l, es, i, r, h, hl => by
    obtain ⟨e, es', rfl, h1, h2, h3⟩ := hl.tail
    have hs : ∀ b, eqK P kt k x.1 = some b → Instr.sameNow d vk e.key = some b := by
      intro b hb
      unfold keyT at ht
      rw [hu] at ht
      split at ht
      · rename_i e1
        cases e1
        unfold eqK at hb
        split at hb
        · rename_i heq _ ; cases heq
          rename_i heq
          rw [heq] at h1
          cases VR.int_inv hk
          rw [VR.int_inv h1]
          split at hb
          · rename_i hkk
            cases hb
            simp only [Instr.sameNow, hkk, if_true]
          · cases hb
        · rename_i heq _; cases heq
        · rename_i heq _; cases heq
        · cases hb
      · rename_i e1
        cases e1
        unfold eqK at hb
        split at hb
        · rename_i heq _; cases heq
        · rename_i heq _; cases heq
          rename_i heq
          rw [heq] at h1
          obtain ⟨s1, rfl, rfl⟩ := VR.str_inv hk
          obtain ⟨s2, h4, rfl⟩ := VR.str_inv h1
          rw [h4]
          cases hb
          simp only [Instr.sameNow, bytes_beq_strEq]
        · rename_i heq _; cases heq
        · cases hb
      · split at ht <;> cases ht
      · cases ht
    unfold findA at h
    split at h
    · rename_i hb
      cases h
      refine .inr ⟨0, x.2, e, rfl, rfl, h2, ?_⟩
      simp only [Instr.findNow, hs _ hb]
      rfl
    · rename_i hb
      rcases find_now hu ht hk l es' (i + 1) r h h3 with ⟨g1, g2⟩ | ⟨j, v, e', g1, g2, g3, g4⟩
      · exact .inl ⟨g1, by simp only [Instr.findNow, hs _ hb, g2]⟩
      · refine .inr ⟨j + 1, v, e', by rw [g1]; congr 2; omega, by simpa using g2, g3, ?_⟩
        simp only [Instr.findNow, hs _ hb, g4]
        congr 3; omega
    · cases h
theorem find_asking {kt : TypeId} {k : AV} {vk : Value} (ht : keyT P kt k = some false) (hk : VR ι k vk) : ∀ (l : List (AV × AV)) (es : List MapEntry) (i : Nat) (r : Option (Nat × AV)), findA P kt k l i = some r → EL ι l es →
    (r = none ∧ (Instr.findAsking kt vk es i).run P w = .ok none w) ∨ ∃ j v e, r = some (i + j, v) ∧ es[j]? = some e ∧ VR ι v e.val ∧ (Instr.findAsking kt vk es i).run P w = .ok (some (i + j, e.val)) w
  | [], es, i, r, h, hl => by
    cases h
    have : es = [] := List.eq_nil_of_length_eq_zero hl.1.symm
    subst this
    exact .inl ⟨rfl, rfl⟩
  | x :: l, es, i, r, h, hl => by
    obtain ⟨e, es', rfl, h1, h2, h3⟩ := hl.tail
    have hs : ∀ b, eqK P kt k x.1 = some b → (Op.equal kt vk e.key).run P w = .ok b w := by
      intro b hb
      unfold keyT at ht
      split at ht
      · cases ht
      · cases ht
      · unfold eqK at hb
        split at hb
        · rename_i heq _; cases heq
        · rename_i heq _; cases heq
        · rename_i heqk heqa
          cases heqk
          rw [heqa] at h1
          exact eqA_ok hb hk h1 (fun _ _ h => by cases h) (fun _ h => by cases h) w
        · cases hb
      · cases ht
    unfold findA at h
    split at h
    · rename_i hb
      cases h
      refine .inr ⟨0, x.2, e, rfl, rfl, h2, ?_⟩
      simp only [Instr.findAsking, Sem.run_bind, hs _ hb, Result.andThen_ok, if_true]
      rfl
    · rename_i hb
      rcases find_asking ht hk l es' (i + 1) r h h3 with ⟨g1, g2⟩ | ⟨j, v, e', g1, g2, g3, g4⟩
      · exact .inl ⟨g1, by simp only [Instr.findAsking, Sem.run_bind, hs _ hb, Result.andThen_ok, Bool.false_eq_true, if_false, g2]⟩
      · refine .inr ⟨j + 1, v, e', by rw [g1]; congr 2; omega, by simpa using g2, g3, ?_⟩
        simp only [Instr.findAsking, Sem.run_bind, hs _ hb, Result.andThen_ok, Bool.false_eq_true, if_false, g4]
        congr 3; omega
    · cases h
theorem find_ok {kt : TypeId} {k : AV} {vk : Value} {b : Bool} (ht : keyT P kt k = some b) (hk : VR ι k vk) {l : List (AV × AV)} {es : List MapEntry} {r : Option (Nat × AV)} (h : findA P kt k l 0 = some r) (hl : EL ι l es) :
    (r = none ∧ (Instr.findKey kt vk es).run P w = .ok none w) ∨ ∃ j v e, r = some (j, v) ∧ es[j]? = some e ∧ VR ι v e.val ∧ (Instr.findKey kt vk es).run P w = .ok (some (j, e.val)) w := by
  cases b with
  | true =>
    cases hu : P.underlying kt with
    | none => unfold keyT at ht; rw [hu] at ht; cases ht
    | some d =>
      rcases find_now hu ht hk l es 0 r h hl with ⟨g1, g2⟩ | ⟨j, v, e, g1, g2, g3, g4⟩
      · exact .inl ⟨g1, MapKept.run_findKey hu g2⟩
      · rw [Nat.zero_add] at g1 g4
        exact .inr ⟨j, v, e, g1, g2, g3, MapKept.run_findKey hu g4⟩
  | false =>
    have hw : (match P.underlying kt with | some (.array _ _) | some (.struct _) => true | _ => false) = true := by
      unfold keyT at ht
      split at ht
      · cases ht
      · cases ht
      · rename_i hu; rw [hu]
      · cases ht
    rcases find_asking (w := w) ht hk l es 0 r h hl with ⟨g1, g2⟩ | ⟨j, v, e, g1, g2, g3, g4⟩
    · exact .inl ⟨g1, by rw [run_findKey_eq w hw]; exact g2⟩
    · rw [Nat.zero_add] at g1 g4
      exact .inr ⟨j, v, e, g1, g2, g3, by rw [run_findKey_eq w hw]; exact g4⟩
end
end Go.Tw
set_option linter.unusedVariables false
set_option linter.unusedSimpArgs false
namespace Go.Tw
def k1 : AV → AV → Bool
  | .int k a, .int k' b => decide (k = k') && decide (a = b)
  | .str a, .str b => strEq a b
  | .bool a, .bool b => decide (a = b)
  | _, _ => false
def k1s : List AV → List AV → Bool
  | [], [] => true
  | a :: l, b :: m => k1 a b && k1s l m
  | _, _ => false
def kSame : AV → AV → Bool
  | .agg l, .agg m => k1s l m
  | a, b => k1 a b
noncomputable def mapE (hp : Hp) (m : AV) : Option (List (AV × AV)) := match m with
  | .nilm => some []
  | .map b => (match entOf hp b with
    | .map l _ => some l
    | _ => none)
  | _ => none
noncomputable def lookV (P : Program) (t : Nat) (m k : AV) (ok : Bool) (hp : Hp) : Option AV := match P.underlying t with
  | some (.map kt et) => (match keyT P kt k, zeroO P et, mapE hp m with
    | some _, some z, some l => (match findA P kt k l 0 with
      | some (some (_, v)) => some (bif ok then .tup [v, .bool true] else v)
      | some none => some (bif ok then .tup [z, .bool false] else z)
      | none => none)
    | _, _, _ => none)
  | _ => none
noncomputable def updV (P : Program) (t : Nat) (m k v : AV) (hp : Hp) : Option Hp := match P.underlying t, m with
  | some (.map kt _), .map b => (match keyT P kt k, entOf hp b with
    | some _, .map l false => (match findA P kt k l 0 with
      | some (some (i, _)) => (match l[i]? with
        | some x => if kSame x.1 k = true then some (setE hp b (.map (l.set i (k, v)) false)) else none
        | none => none)
      | some none => some (setE hp b (.map (l ++ [(k, v)]) false))
      | none => none)
    | _, _ => none)
  | _, _ => none
noncomputable def mkMapV (P : Program) (t : Nat) (r : Option AV) (hp : Hp) : Option (AV × Hp) := match P.underlying t, r with
  | some (.map _ _), none => if hp.nx < 14000000 then some (.map hp.nx, hp.new (.map [] false)) else none
  | some (.map _ _), some (.int _ _) => if hp.nx < 14000000 then some (.map hp.nx, hp.new (.map [] false)) else none
  | _, _ => none
noncomputable def lenV (P : Program) (t : Nat) (hp : Hp) (x : AV) : Option AV := match P.underlying t, x with
  | some .string, .str l => some (.int .i64 l.length)
  | some (.slice _), .nils => some (.int .i64 0)
  | some (.slice _), .sl _ _ n => some (.int .i64 n)
  | some (.map _ _), m => (match mapE hp m with
    | some l => some (.int .i64 l.length)
    | none => none)
  | _, _ => none
section
variable {P : Program} {ι : Io} {w0 : World} {W : Bs} {hp : Hp} {w : World}
theorem k1_spec {a b : AV} (h : k1 a b = true) : a = b := by
  unfold k1 at h
  split at h
  · simp only [Bool.and_eq_true, decide_eq_true_eq] at h; rw [h.1, h.2]
  · rw [strEq_iff] at h; rw [h]
  · simp only [decide_eq_true_eq] at h; rw [h]
  · cases h
theorem k1s_spec : ∀ (l m : List AV), k1s l m = true → l = m
  | [], [], _ => rfl
  | a :: l, b :: m, h => by
    unfold k1s at h
    rw [Bool.and_eq_true] at h
    rw [k1_spec h.1, k1s_spec l m h.2]
  | [], _ :: _, h => by cases h
  | _ :: _, [], h => by cases h
theorem kSame_spec {a b : AV} (h : kSame a b = true) : a = b := by
  unfold kSame at h
  split at h
  · rw [k1s_spec _ _ h]
  · exact k1_spec h
theorem EL.of {l : List (AV × AV)} {es : Array MapEntry} (h : l.length = es.size ∧ ∀ (i : Nat) (x : AV × AV), l[i]? = some x → ∃ e, es[i]? = some e ∧ VR ι x.1 e.key ∧ VR ι x.2 e.val) : EL ι l es.toList :=
  ⟨by rw [h.1]; simp, fun i x hx => by obtain ⟨e, a, b⟩ := h.2 i x hx; exact ⟨e, by simpa using a, b⟩⟩
theorem HR.mapAt (H : HR ι w0 W hp w) {b : Nat} {p : Pl} (hb : ι b = some p) {l : List (AV × AV)} {st : Bool} (he : entOf hp b = .map l st) : ∃ es clock, w.heap[p.blk]? = some (.map es clock) ∧ EL ι l es.toList := by
  obtain ⟨q, h1, h2⟩ := H.ent b (H.fresh _ _ hb) (by rw [he]; simp)
  rw [hb] at h1
  cases h1
  rw [he] at h2
  obtain ⟨es, clock, h3, h4, h5⟩ := h2
  exact ⟨es, clock, h3, EL.of ⟨h4, h5⟩⟩
/-- The entries behind a map value. -/
theorem mapE_ok (H : HR ι w0 W hp w) {m : AV} {vm : Value} {l : List (AV × AV)} (h : mapE hp m = some l) (hm : VR ι m vm) : (vm = .map none ∧ l = []) ∨ ∃ r es clock, vm = .map (some r) ∧ w.heap[r]? = some (.map es clock) ∧ EL ι l es.toList := by
  unfold mapE at h
  split at h
  · cases h; cases hm; exact .inl ⟨rfl, rfl⟩
  · rename_i b
    split at h
    case h_2 => cases h
    rename_i l' st he
    cases h
    cases hm with
    | map hb =>
      obtain ⟨es, clock, h1, h2⟩ := H.mapAt hb he
      exact .inr ⟨_, es, clock, rfl, h1, h2⟩
  · cases h
theorem look_ok (H : HR ι w0 W hp w) {t : Nat} {m k v : AV} {vm vk : Value} {ok : Bool} (h : lookV P t m k ok hp = some v) (hm : VR ι m vm) (hk : VR ι k vk) : ∃ v', (Instr.lookup t vm vk ok).run P w = .ok v' w ∧ VR ι v v' := by
  unfold lookV at h
  split at h
  case h_2 => cases h
  rename_i kt et hu
  split at h
  case h_2 => cases h
  rename_i kb z l hkt hz hl
  obtain ⟨z', z1, z2⟩ := zeroO_ok (ι := ι) hz w
  have main : ∀ (es : Array MapEntry), EL ι l es.toList → (∃ i x v', (Instr.findKey kt vk es.toList).run P w = .ok (some (i, x)) w ∧ v' = (if ok then Value.tuple #[x, .bool true] else x) ∧ VR ι v v') ∨ (∃ v', (Instr.findKey kt vk es.toList).run P w = .ok none w ∧ v' = (if ok then Value.tuple #[z', .bool false] else z') ∧ VR ι v v') := by
    intro es hE
    split at h
    · rename_i i v0 hf
      cases h
      rcases find_ok (w := w) hkt hk hf hE with ⟨e, _⟩ | ⟨j, v1, e, g1, g2, g3, g4⟩
      · cases e
      · cases g1
        refine .inl ⟨_, _, _, g4, rfl, ?_⟩
        cases ok with
        | true => exact .tup (.cons g3 (.cons (.bool _) .nil))
        | false => exact g3
    · rename_i hf
      cases h
      rcases find_ok (w := w) hkt hk hf hE with ⟨_, g4⟩ | ⟨j, v1, e, g1, _⟩
      · refine .inr ⟨_, g4, rfl, ?_⟩
        cases ok with
        | true => exact .tup (.cons z2 (.cons (.bool _) .nil))
        | false => exact z2
      · cases g1
    · cases h
  unfold Instr.lookup
  rcases mapE_ok H hl hm with ⟨rfl, rfl⟩ | ⟨r, es, clock, rfl, hb, hE⟩
  · rcases main #[] ⟨rfl, fun i x hx => by simp at hx⟩ with ⟨i, x, v', h1, rfl, h2⟩ | ⟨v', h1, rfl, h2⟩
    · exact ⟨_, by simp only [Sem.run_bind, run_underlying hu, Result.andThen_ok, Sem.run_pure, check_ok (w := w) hkt hk, h1], h2⟩
    · exact ⟨_, by simp only [Sem.run_bind, run_underlying hu, Result.andThen_ok, Sem.run_pure, check_ok (w := w) hkt hk, h1, z1], h2⟩
  · rcases main es hE with ⟨i, x, v', h1, rfl, h2⟩ | ⟨v', h1, rfl, h2⟩
    · exact ⟨_, by simp only [Sem.run_bind, run_underlying hu, Result.andThen_ok, Sem.run_pure, MapKept.run_getObj_map hb, check_ok (w := w) hkt hk, h1], h2⟩
    · exact ⟨_, by simp only [Sem.run_bind, run_underlying hu, Result.andThen_ok, Sem.run_pure, MapKept.run_getObj_map hb, check_ok (w := w) hkt hk, h1, z1], h2⟩
/-- A map in its block. -/
theorem HR.setMap (H : HR ι w0 W hp w) {b : Nat} {p : Pl} (hb : ι b = some p) {l l' : List (AV × AV)} (he : entOf hp b = .map l false) {es es' : Array MapEntry} {clock clock' : Nat} (hw : w.heap[p.blk]? = some (.map es clock)) (hE : EL ι l' es'.toList) :
    HR ι w0 W (setE hp b (.map l' false)) { w with heap := w.heap.setIfInBounds p.blk (.map es' clock') } := by
  have hsm := H.small
  have hent : ∀ b', entOf (setE hp b (.map l' false)) b' = if b = b' then .map l' false else entOf hp b' := fun b' => ent_set hp b b' _ (by have := H.fresh b p hb; omega)
  obtain ⟨s1, s2⟩ := MapKept.heap_set (o' := .map es' clock') hw
  have hwr := H.wr b p hb (.inl (by rw [he]; rfl))
  refine ⟨fun b' hb' hn => ?_, fun b' q hq => by show q.blk < (w.heap.setIfInBounds p.blk _).size; rw [Array.size_setIfInBounds]; exact H.dom b' q hq, fun b' q hq => by rw [nx_set]; exact H.fresh b' q hq, by rw [nx_set]; exact hsm, fun b' q hq hw' => ?_, ?_, ?_, fun c hc hW => ?_, by show _ ≤ (w.heap.setIfInBounds p.blk _).size; rw [Array.size_setIfInBounds]; exact H.size, H.os, H.tape, H.output, H.nev, H.nsz, H.io, by rw [nx_set]; exact H.n0⟩
  · rw [hent] at hn ⊢
    rw [nx_set] at hb'
    by_cases hbb : b = b'
    · subst hbb
      rw [if_pos rfl]
      exact ⟨p, hb, es', clock', s1, by simpa using hE.1, fun i x hx => by obtain ⟨e, a, c⟩ := hE.2 i x hx; exact ⟨e, by simpa using a, c⟩⟩
    · rw [if_neg hbb] at hn ⊢
      obtain ⟨q, g1, g2⟩ := H.ent b' hb' hn
      exact ⟨q, g1, g2.mono (.refl _) (s2 _ fun e => H.sepm b b' p q l hbb he hn hb g1 e.symm)⟩
  · refine H.wr b' q hq (hw'.imp (fun hw' => ?_) id)
    rw [hent] at hw'
    by_cases hbb : b = b'
    · subst hbb; rw [he]; rfl
    · rwa [if_neg hbb] at hw'
  · intro b1 b2 p1 p2 l1 es1 old1 hne e1 e2 hp1 hp2 hblk
    rw [hent] at e1 e2
    by_cases h1 : b = b1
    · subst h1; rw [if_pos rfl] at e1; cases e1
    · rw [if_neg h1] at e1
      by_cases h2 : b = b2
      · subst h2
        obtain ⟨_, l2, es2, old2, k, _⟩ := H.sep b1 b p1 p2 l1 es1 old1 hne e1 (by rw [he]; simp) hp1 hp2 hblk
        rw [he] at k; cases k
      · rw [if_neg h2] at e2
        rw [hent, if_neg h2]
        exact H.sep b1 b2 p1 p2 l1 es1 old1 hne e1 e2 hp1 hp2 hblk
  · intro b1 b2 p1 p2 l1 hne e1 e2 hp1 hp2
    rw [hent] at e1 e2
    have e1' : ∃ l0, entOf hp b1 = .map l0 false := by
      by_cases h1 : b = b1
      · subst h1; exact ⟨l, he⟩
      · rw [if_neg h1] at e1; exact ⟨_, e1⟩
    obtain ⟨l0, e1'⟩ := e1'
    refine H.sepm b1 b2 p1 p2 l0 hne e1' ?_ hp1 hp2
    by_cases h2 : b = b2
    · subst h2; rw [he]; simp
    · rw [if_neg h2] at e2; exact e2
  · show (w.heap.setIfInBounds p.blk _)[c]? = _
    rw [s2 c (fun e => by rcases hwr with h | h; exact hW (by rw [e]; exact h); omega)]
    exact H.frm c hc hW
theorem HR.draws (H : HR ι w0 W hp w) (n : Nat) : HR ι w0 W hp { w with drawn := n } :=
  ⟨fun b hb hn => by obtain ⟨p, h1, h2⟩ := H.ent b hb hn; exact ⟨p, h1, h2.mono (.refl _) rfl⟩, H.dom, H.fresh, H.small, H.wr, H.sep, H.sepm, H.frm, H.size, H.os, H.tape, H.output, H.nev, H.nsz, H.io, H.n0⟩
theorem stays (P : Program) (w : World) (old new : Value) : ∃ k n, (Instr.keyThatStays old new).run P w = .ok k { w with drawn := n } ∧ (k = new ∨ k = old) := by
  unfold Instr.keyThatStays
  by_cases h : Instr.sameBits 10000 old new = true
  · exact ⟨new, w.drawn, by simp [h], .inl rfl⟩
  · simp only [h, Bool.false_eq_true, if_false, Sem.run_bind]
    have hc : ∀ c, ∃ x n, (choose c).run P w = .ok x { w with drawn := n } := fun c => by
      simp only [choose, Sem.run]
      split <;> exact ⟨_, _, rfl⟩
    generalize hr : Sem.run P (choose _) w = r
    obtain ⟨x, n, hx⟩ : ∃ x n, r = .ok x { w with drawn := n } := by rw [← hr]; exact hc _
    subst hx
    simp only [Result.andThen_ok, Sem.run_pure]
    exact ⟨_, n, rfl, by split <;> simp⟩
end
end Go.Tw
set_option linter.unusedVariables false
set_option linter.unusedSimpArgs false
namespace Go.Tw
section
variable {P : Program} {ι : Io} {w0 : World} {W : Bs} {hp : Hp} {w : World}
theorem upd_ok (H : HR ι w0 W hp w) {t : Nat} {m k v : AV} {vm vk vv : Value} {hp' : Hp} (h : updV P t m k v hp = some hp') (hm : VR ι m vm) (hk : VR ι k vk) (hv : VR ι v vv) : ∃ w', (Instr.mapUpdate t vm vk vv).run P w = .ok () w' ∧ HR ι w0 W hp' w' := by
  unfold updV at h
  split at h
  case h_2 => cases h
  rename_i kt et b hu
  split at h
  case h_2 => cases h
  rename_i kb l hkt he
  cases hm with
  | @map _ p hb =>
  obtain ⟨es, clock, hw, hE⟩ := H.mapAt hb he
  have hck := check_ok (w := w) hkt hk false
  unfold Instr.mapUpdate
  split at h
  · rename_i i v0 hf
    split at h
    case h_2 => cases h
    rename_i x hx
    split at h
    case isFalse => cases h
    rename_i hsame
    cases h
    have hxk := kSame_spec hsame
    rcases find_ok (w := w) hkt hk hf hE with ⟨e, _⟩ | ⟨j, v1, e, g1, g2, g3, g4⟩
    · cases e
    · cases g1
      have g2' : es[i]? = some e := by simpa using g2
      obtain ⟨e', k1, k2, k3⟩ := hE.2 i x hx
      rw [g2] at k1
      cases k1
      obtain ⟨kk, n, h1, h2⟩ := stays P w e.key vk
      have hkk : VR ι k kk := by
        rcases h2 with rfl | rfl
        · exact hk
        · rw [← hxk]; exact k2
      refine ⟨{ w with drawn := n, heap := w.heap.setIfInBounds p.blk (.map (es.modify i fun e => { e with key := kk, val := vv }) clock) }, ?_, ?_⟩
      · simp only [Sem.run_bind, run_underlying hu, Result.andThen_ok, MapKept.run_getObj_map hw, hck, g4, g2', Option.map_some, Option.getD_some, h1]
        exact MapKept.run_setObj_map (w := { w with drawn := n }) _ hw
      · refine (H.draws n).setMap (w := { w with drawn := n }) hb he hw (EL.of ⟨by simpa using hE.1, fun j y hy => ?_⟩)
        rw [Array.getElem?_modify]
        by_cases hij : i = j
        · subst hij
          rw [List.getElem?_set_self (by exact (List.getElem?_eq_some_iff.1 hx).1)] at hy
          cases hy
          exact ⟨_, by rw [if_pos rfl, g2']; rfl, hkk, hv⟩
        · rw [List.getElem?_set_ne hij] at hy
          obtain ⟨e2, a1, a2⟩ := hE.2 j y hy
          exact ⟨e2, by rw [if_neg hij]; simpa using a1, a2⟩
  · rename_i hf
    cases h
    rcases find_ok (w := w) hkt hk hf hE with ⟨_, g4⟩ | ⟨j, v1, e, g1, _⟩
    · refine ⟨{ w with heap := w.heap.setIfInBounds p.blk (.map (es.push { key := vk, val := vv, born := clock }) (clock + 1)) }, ?_, ?_⟩
      · simp only [Sem.run_bind, run_underlying hu, Result.andThen_ok, MapKept.run_getObj_map hw, hck, g4]
        exact MapKept.run_setObj_map _ hw
      · have hl : l.length = es.size := by simpa using hE.1
        refine H.setMap hb he hw (EL.of ⟨by simp [hl], fun j y hy => ?_⟩)
        rcases Nat.lt_or_ge j l.length with hlt | hge
        · rw [List.getElem?_append_left hlt] at hy
          obtain ⟨e2, a1, a2⟩ := hE.2 j y hy
          exact ⟨e2, by rw [Array.getElem?_push_lt (by omega)]; simpa [Array.getElem?_eq_getElem (show j < es.size by omega)] using a1, a2⟩
        · rw [List.getElem?_append_right hge] at hy
          have h0 : j - l.length = 0 := by
            have := (List.getElem?_eq_some_iff.1 hy).1
            simp at this; omega
          rw [h0] at hy
          cases hy
          exact ⟨{ key := vk, val := vv, born := clock }, by rw [show j = es.size by omega, Array.getElem?_push_size], hk, hv⟩
    · cases g1
  · cases h
theorem newMap_ok (H : HR ι w0 W hp w) (hs : hp.nx < 14000000) : ∃ κ v' w', ι.le κ ∧ (do pure (Value.map (some (← newObj (.map #[] 0)))) : Sem Value).run P w = .ok v' w' ∧ VR κ (.map hp.nx) v' ∧ HR κ w0 W (hp.new (.map [] false)) w' := by
  have hn := H.new (.map #[] 0) ⟨w.heap.size, 0, 0, 0⟩ (.map [] false) rfl ⟨#[], 0, heap_alloc_new w _, rfl, fun i x hx => by simp at hx⟩ hs
  exact ⟨_, .map (some w.heap.size), w.alloc (.map #[] 0), H.le_upd _, rfl, .map (Io.upd_same ι hp.nx ⟨w.heap.size, 0, 0, 0⟩), hn⟩
theorem mkMap_ok (H : HR ι w0 W hp w) {t : Nat} {r : Option AV} {vr : Option Value} {v : AV} {hp' : Hp} (h : mkMapV P t r hp = some (v, hp')) (hr : (r = none ∧ vr = none) ∨ ∃ a va, r = some a ∧ vr = some va ∧ VR ι a va) :
    ∃ κ v' w', ι.le κ ∧ (Instr.makeMap t vr).run P w = .ok v' w' ∧ VR κ v v' ∧ HR κ w0 W hp' w' := by
  unfold mkMapV at h
  split at h
  · split at h
    case isFalse => cases h
    rename_i hs
    cases h
    rcases hr with ⟨_, rfl⟩ | ⟨_, _, e, _⟩
    · obtain ⟨κ, v', w', h1, h2, h3, h4⟩ := newMap_ok (P := P) H hs
      exact ⟨κ, v', w', h1, by unfold Instr.makeMap; exact h2, h3, h4⟩
    · cases e
  · rename_i hu
    split at h
    case isFalse => cases h
    rename_i hs
    cases h
    rcases hr with ⟨e, _⟩ | ⟨a, va, e, rfl, ha⟩
    · cases e
    · cases e
      cases VR.int_inv ha
      obtain ⟨κ, v', w', h1, h2, h3, h4⟩ := newMap_ok (P := P) H hs
      refine ⟨κ, v', w', h1, ?_, h3, h4⟩
      unfold Instr.makeMap
      simp only [Sem.run_bind, run_underlying hu, Result.andThen_ok, asInt, asIntOf, Sem.run_pure] at h2 ⊢
      exact h2
  · cases h
theorem len_ok (H : HR ι w0 W hp w) {t : Nat} {x v : AV} {vx : Value} {ty : TypeId} (h : lenV P t hp x = some v) (hx : VR ι x vx) : ∃ v', (Builtin.len_ #[t] ty #[vx]).run P w = .ok v' w ∧ VR ι v v' := by
  unfold lenV at h
  have h0 : (#[t] : Array TypeId)[0]? = some t := rfl
  have h1 : (#[vx] : Array Value)[0]? = some vx := rfl
  unfold Builtin.len_
  simp only [h0, h1]
  split at h
  · rename_i l hu
    cases h
    obtain ⟨s, rfl, rfl⟩ := VR.str_inv hx
    refine ⟨_, by simp only [Sem.run_bind, run_underlying hu, Result.andThen_ok]; rfl, ?_⟩
    rw [toList_map_size]
    exact .int _ _
  · rename_i hu
    cases h
    cases hx
    exact ⟨_, by simp only [Sem.run_bind, run_underlying hu, Result.andThen_ok]; rfl, .int _ _⟩
  · rename_i b o n hu
    cases h
    cases hx with
    | sl _ _ _ => exact ⟨_, by simp only [Sem.run_bind, run_underlying hu, Result.andThen_ok]; rfl, .int _ _⟩
    | sl0 _ => exact ⟨_, by simp only [Sem.run_bind, run_underlying hu, Result.andThen_ok]; rfl, .int _ _⟩
  · rename_i hu
    split at h
    case h_2 => cases h
    rename_i l hl
    cases h
    rcases mapE_ok H hl hx with ⟨rfl, rfl⟩ | ⟨r, es, clock, rfl, hb, hE⟩
    · exact ⟨_, by simp only [Sem.run_bind, run_underlying hu, Result.andThen_ok]; rfl, .int _ _⟩
    · refine ⟨goInt es.size, by simp only [Sem.run_bind, run_underlying hu, Result.andThen_ok, MapKept.run_getObj_map hb, Sem.run_pure], ?_⟩
      have : l.length = es.size := by simpa using hE.1
      rw [this]
      exact .int _ _
  · cases h
end
end Go.Tw
set_option linter.unusedVariables false
set_option linter.unusedSimpArgs false
namespace Go.Tw
noncomputable def opds (ng : Nat) (fr : Fr) : List Operand → List AV
  | [] => []
  | x :: l => opd ng fr x :: opds ng fr l
noncomputable def prts (ng : Nat) (fr : Fr) : List (Nat × Operand) → List (Nat × AV)
  | [] => []
  | (i, x) :: l => (i, opd ng fr x) :: prts ng fr l
noncomputable def opdO (ng : Nat) (fr : Fr) : Option Operand → Option AV
  | none => none
  | some x => some (opd ng fr x)
def mmA (mx : Bool) : List AV → Option AV
  | [.int k a, .int _ b] => some (.int k (bif mx then (if b > a then b else a) else (if b < a then b else a)))
  | _ => none
def pickA (c a b : AV) : Option AV := match c with
  | .bool c => some (bif c then a else b)
  | _ => none
def nilA (x : AV) : Option AV := match x with
  | .ptr b o => some (.ptr b o)
  | .iface t v => some (.iface t v)
  | .fn f l => some (.fn f l)
  | _ => none
noncomputable def sliceV (P : Program) (t : Nat) (hp : Hp) (x : AV) (lo hi mx : Option AV) : Option AV := match bdA lo, bdA hi, bdA mx with
  | some l, some h, some m => (match x with
    | .str s => (match m with
      | none => slStr P t s l h
      | some _ => none)
    | x => slRow P t hp x l h m)
  | _, _, _ => none
def same (hp : Hp) : Option AV → Option (AV × Hp)
  | some v => some (v, hp)
  | none => none
def skp : Option Hp → Option (AV × Hp)
  | some hp => some (.und, hp)
  | none => none
noncomputable def builtA (P : Program) (b : Builtin) (ts : List TypeId) (as : List AV) (hp : Hp) : Option (AV × Hp) := match b, ts, as with
  | .append, [t, tx], [s, x] => appV P t tx s x hp
  | .len, [t], [x] => same hp (lenV P t hp x)
  | .min, _, as => same hp (mmA false as)
  | .max, _, as => same hp (mmA true as)
  | _, _, _ => none
noncomputable def pop (P : Program) (ng : Nat) (o : Op) (fr : Fr) (hp : Hp) : Option (AV × Hp) := match o with
  | .move x => some (opd ng fr x, hp)
  | .assign x => some (opd ng fr x, hp)
  | .pick c a b => same hp (pickA (opd ng fr c) (opd ng fr a) (opd ng fr b))
  | .alloc t => allocV P t hp
  | .box _ x => boxV hp (opd ng fr x)
  | .build t ps => same hp (buildA P t (prts ng fr ps.toList))
  | .buildSlice t n ps => bsV P t n (prts ng fr ps.toList) hp
  | .load t x => same hp (loadV P t hp (opd ng fr x))
  | .store t x v => skp (storeV P t hp (opd ng fr x) (opd ng fr v))
  | .nilCheck x => same hp (nilA (opd ng fr x))
  | .binOp op t x y _ => same hp (binA P op (isC x || isC y) t (opd ng fr x) (opd ng fr y))
  | .unOp op _ x => same hp (unA op (opd ng fr x))
  | .convert s d x => cvV P s d (opd ng fr x) hp
  | .makeInterface t x => same hp (ifA P t (opd ng fr x))
  | .makeFunc (.func f) first cs => (match first.toList with
    | [] => some (.fn f (opds ng fr cs.toList), hp)
    | _ => none)
  | .makeMap t r => mkMapV P t (opdO ng fr r) hp
  | .makeSlice t l c => msV P t (opd ng fr l) (opd ng fr c) hp
  | .slice t x lo hi mx => same hp (sliceV P t hp (opd ng fr x) (opdO ng fr lo) (opdO ng fr hi) (opdO ng fr mx))
  | .fieldAddr t x i => same hp (fieldAddrA P t i (opd ng fr x))
  | .field t x i => same hp (fieldA P t i (opd ng fr x))
  | .indexAddr t x i => same hp (indexAddrA P t (opd ng fr x) (opd ng fr i))
  | .index t x i => same hp (indexO P t (opd ng fr x) (opd ng fr i))
  | .lookup t m k ok => same hp (lookV P t (opd ng fr m) (opd ng fr k) ok hp)
  | .mapUpdate t m k v => skp (updV P t (opd ng fr m) (opd ng fr k) (opd ng fr v) hp)
  | .insert t m k v => skp (updV P t (opd ng fr m) (opd ng fr k) (opd ng fr v) hp)
  | .typeAssert x _ t true => same hp (tasA P t (opd ng fr x))
  | .extract x i => same hp (extA (opd ng fr x) i)
  | .call c => (match c.callee with
    | .builtin b => builtA P b c.argTypes.toList (opds ng fr c.args.toList) hp
    | _ => none)
  | _ => none
section
variable {P : Program} {ι : Io} {w0 : World} {W : Bs} {hp : Hp} {w : World} {ng nt : Nat} {fr : Fr} {a : Act}
theorem opds_ok (F : FR ι nt fr a) (G : Gl ng ι) : ∀ l : List Operand, VL ι (opds ng fr l) (l.map a.eval)
  | [] => .nil
  | x :: l => .cons (opd_ok F G x) (opds_ok F G l)
theorem prts_ok (F : FR ι nt fr a) (G : Gl ng ι) : ∀ l : List (Nat × Operand), PR ι (prts ng fr l) (l.map fun (i, x) => (i, a.eval x))
  | [] => .nil
  | (i, x) :: l => .cons (opd_ok F G x) (prts_ok F G l)
theorem prts_ok' (F : FR ι nt fr a) (G : Gl ng ι) (ps : Array (Nat × Operand)) : PR ι (prts ng fr ps.toList) (ps.map fun (i, x) => (i, a.eval x)).toList := by
  rw [Array.toList_map]
  exact prts_ok F G _
theorem opdO_ok (F : FR ι nt fr a) (G : Gl ng ι) (o : Option Operand) : OR ι (opdO ng fr o) (o.map a.eval) := by
  cases o with
  | none => exact .none
  | some x => exact .some (opd_ok F G x)
theorem pickA_ok {c x y v : AV} {vc vx vy : Value} (h : pickA c x y = some v) (hc : VR ι c vc) (hx : VR ι x vx) (hy : VR ι y vy) : ∃ v', (do pure (if ← asBool vc then vx else vy) : Sem Value).run P w = .ok v' w ∧ VR ι v v' := by
  unfold pickA at h
  split at h
  · rename_i c'
    cases h
    cases VR.bool_inv hc
    cases c' with
    | true => exact ⟨vx, rfl, hx⟩
    | false => exact ⟨vy, rfl, hy⟩
  · cases h
theorem nilA_ok {x v : AV} {vx : Value} (h : nilA x = some v) (hx : VR ι x vx) : VR ι v vx ∧ vx ≠ .pointer none ∧ vx ≠ .nilIface ∧ vx ≠ .nilFunc ∧ (∀ n f c, vx ≠ .func (.method n) f c) := by
  unfold nilA at h
  split at h <;> first | (cases h; done) | skip
  all_goals
    cases h
    refine ⟨hx, ?_⟩
    cases hx
    simp
theorem mm_ok {mx : Bool} {as : List AV} {v : AV} {vs : Array Value} (h : mmA mx as = some v) (ha : VL ι as vs.toList) (ts : Array TypeId) (ty : TypeId) : ∃ v', (bif mx then Builtin.max_ ts ty vs else Builtin.min_ ts ty vs).run P w = .ok v' w ∧ VR ι v v' := by
  unfold mmA at h
  split at h
  · rename_i k x k' y
    cases h
    have hv : ∃ v1 v2, vs.toList = [v1, v2] ∧ VR ι (.int k x) v1 ∧ VR ι (.int k' y) v2 := by
      generalize vs.toList = l at ha
      cases ha with
      | cons h1 h2 => cases h2 with
        | cons h2 h3 => cases h3; exact ⟨_, _, rfl, h1, h2⟩
    obtain ⟨v1, v2, e, h1, h2⟩ := hv
    cases VR.int_inv h1
    cases VR.int_inv h2
    cases mx with
    | true =>
      refine ⟨.int k (if y > x then y else x), ?_, .int _ _⟩
      show (Builtin.max_ ts ty vs).run P w = _
      unfold Builtin.max_
      rw [e]
      simp [List.foldlM, Builtin.max2]
    | false =>
      refine ⟨.int k (if y < x then y else x), ?_, .int _ _⟩
      show (Builtin.min_ ts ty vs).run P w = _
      unfold Builtin.min_
      rw [e]
      simp [List.foldlM, Builtin.min2]
  · cases h
theorem slice_ok (H : HR ι w0 W hp w) {t : Nat} {x v : AV} {lo hi mx : Option AV} {vx : Value} {vl vh vm : Option Value} (h : sliceV P t hp x lo hi mx = some v) (hx : VR ι x vx) (hl : OR ι lo vl) (hh : OR ι hi vh) (hm : OR ι mx vm) : ∃ v', (Instr.sliceAt t vx vl vh vm).run P w = .ok v' w ∧ VR ι v v' := by
  unfold sliceV at h
  split at h
  case h_2 => cases h
  rename_i l h' m e1 e2 e3
  have b1 := bd_ok e1 hl
  have b2 := bd_ok e2 hh
  have b3 := bd_ok e3 hm
  split at h
  · split at h
    case h_2 => cases h
    rcases b3 with ⟨_, rfl⟩ | ⟨_, _, e, _⟩
    · exact slStr_ok h hx b1 b2 w
    · cases e
  · exact slRow_ok H h hx b1 b2 b3
end
end Go.Tw
set_option linter.unusedVariables false
set_option linter.unusedSimpArgs false
namespace Go.Tw
/-- What an operation that calls nobody leaves. -/
def NR (ι : Io) (v : AV) (nx : Next) : Prop := (nx = .skip ∧ v = .und) ∨ ∃ v', nx = .value v' ∧ VR ι v v'
section
variable {P : Program} {ι : Io} {w0 : World} {W : Bs} {hp : Hp} {w : World} {ng nt : Nat} {fr : Fr} {a : Act}
/-- What it leaves, and the world behind it. -/
def Lv (P : Program) (ι : Io) (w0 : World) (W : Bs) (s : Sem Next) (w : World) (v : AV) (hp' : Hp) : Prop := ∃ κ nx w', ι.le κ ∧ s.run P w = .ok nx w' ∧ NR κ v nx ∧ HR κ w0 W hp' w'
theorem Lv.val {s : Sem Value} {v : AV} {hp' : Hp} (h : ∃ κ v' w', ι.le κ ∧ s.run P w = .ok v' w' ∧ VR κ v v' ∧ HR κ w0 W hp' w') : Lv P ι w0 W (do pure (.value (← s))) w v hp' := by
  obtain ⟨κ, v', w', h1, h2, h3, h4⟩ := h
  refine ⟨κ, .value v', w', h1, ?_, .inr ⟨v', rfl, h3⟩, h4⟩
  simp only [Sem.run_bind, h2, Result.andThen_ok, Sem.run_pure]
theorem Lv.same {s : Sem Value} {r : Option AV} {v : AV} {hp' : Hp} (H : HR ι w0 W hp w) (h : Tw.same hp r = some (v, hp')) (hs : ∀ v, r = some v → ∃ v', s.run P w = .ok v' w ∧ VR ι v v') : Lv P ι w0 W (do pure (.value (← s))) w v hp' := by
  unfold Tw.same at h
  split at h
  · cases h
    obtain ⟨v', h1, h2⟩ := hs _ rfl
    exact Lv.val ⟨ι, v', w, .refl _, h1, h2, H⟩
  · cases h
theorem Lv.skp {s : Sem Unit} {r : Option Hp} {v : AV} {hp' : Hp} (h : Tw.skp r = some (v, hp')) (hs : ∀ hp', r = some hp' → ∃ w', s.run P w = .ok () w' ∧ HR ι w0 W hp' w') : Lv P ι w0 W (do s; pure .skip) w v hp' := by
  unfold Tw.skp at h
  split at h
  · cases h
    obtain ⟨w', h1, h2⟩ := hs _ rfl
    refine ⟨ι, .skip, w', .refl _, ?_, .inl ⟨rfl, rfl⟩, h2⟩
    simp only [Sem.run_bind, h1, Result.andThen_ok, Sem.run_pure]
  · cases h
theorem Lv.pure {v : AV} {v' : Value} (H : HR ι w0 W hp w) (hv : VR ι v v') : Lv P ι w0 W (pure (.value v')) w v hp := ⟨ι, _, w, .refl _, rfl, .inr ⟨v', rfl, hv⟩, H⟩
theorem two {α : Type} {l : Array α} {x y : α} (h : l.toList = [x, y]) : l = #[x, y] := Array.ext' h
theorem onel {α : Type} {l : Array α} {x : α} (h : l.toList = [x]) : l = #[x] := Array.ext' h
theorem builtA_ok (H : HR ι w0 W hp w) {b : Builtin} {ts : Array TypeId} {as : List AV} {vs : Array Value} {v : AV} {hp' : Hp} (h : builtA P b ts.toList as hp = some (v, hp')) (hv : VL ι as vs.toList) (ty : TypeId) (cs : Array Bool) :
    Lv P ι w0 W (builtin b ts ty cs vs) w v hp' := by
  unfold builtA at h
  split at h
  · rename_i t tx s x e
    rw [two e]
    have hvs : ∃ v1 v2, vs.toList = [v1, v2] ∧ VR ι s v1 ∧ VR ι x v2 := by
      generalize vs.toList = l at hv
      cases hv with
      | cons h1 h2 => cases h2 with
        | cons h2 h3 => cases h3; exact ⟨_, _, rfl, h1, h2⟩
    obtain ⟨v1, v2, e2, h1, h2⟩ := hvs
    rw [two e2]
    exact Lv.val (app_ok H ty h h1 h2)
  · rename_i t x e
    rw [onel e]
    have hvs : ∃ v1, vs.toList = [v1] ∧ VR ι x v1 := by
      generalize vs.toList = l at hv
      cases hv with
      | cons h1 h2 => cases h2; exact ⟨_, rfl, h1⟩
    obtain ⟨v1, e2, h1⟩ := hvs
    rw [onel e2]
    exact Lv.same H h fun v hr => len_ok H hr h1
  · exact Lv.same H h fun v hr => mm_ok (mx := false) hr hv ts ty
  · exact Lv.same H h fun v hr => mm_ok (mx := true) hr hv ts ty
  · cases h
theorem pop_ok (F : FR ι nt fr a) (G : Gl ng ι) (H : HR ι w0 W hp w) {o : Oper} {v : AV} {hp' : Hp} (h : pop P ng o.op fr hp = some (v, hp')) : Lv P ι w0 W (execOp a.eval o) w v hp' := by
  have E := opd_ok F G
  obtain ⟨dst, op, ty, pos, after, guard⟩ := o
  unfold pop at h
  unfold execOp
  cases op <;> simp only at h ⊢
  case move x => cases h; exact Lv.pure H (E x)
  case assign x => cases h; exact Lv.pure H (E x)
  case pick c x y =>
    unfold Tw.same at h
    split at h
    · rename_i hr
      cases h
      obtain ⟨v', h1, h2⟩ := pickA_ok (P := P) (w := w) hr (E c) (E x) (E y)
      refine ⟨ι, .value v', w, .refl _, ?_, .inr ⟨v', rfl, h2⟩, H⟩
      simp only [Sem.run_bind, Sem.run_pure] at h1 ⊢
      cases hb : (asBool (a.eval c)).run P w with
      | ok b w1 => rw [hb] at h1; simp only [Result.andThen_ok] at h1 ⊢; cases h1; rfl
      | halt x w1 => rw [hb] at h1; cases h1
    · cases h
  case alloc t => exact Lv.val (alloc_ok H h)
  case box t x => exact Lv.val (box_ok H t h (E x))
  case build t ps => exact Lv.same H h fun v hr => buildA_ok hr (prts_ok' F G ps) w
  case buildSlice t n ps => exact Lv.val (bs_ok H h (prts_ok' F G ps))
  case load t x => exact Lv.same H h fun v hr => load_ok H hr (E x)
  case store t x y => exact Lv.skp h fun hp' hr => store_ok H hr (E x) (E y)
  case nilCheck x =>
    unfold Tw.same at h
    split at h
    · rename_i hr
      cases h
      obtain ⟨h1, h2, h3, h4, h5⟩ := nilA_ok hr (E x)
      refine ⟨ι, .value (a.eval x), w, .refl _, ?_, .inr ⟨_, rfl, h1⟩, H⟩
      generalize a.eval x = vx at h2 h3 h4 h5
      cases vx <;> first
        | rfl
        | exact absurd rfl h3
        | exact absurd rfl h4
        | skip
      case pointer p => cases p with
        | none => exact absurd rfl h2
        | some p => rfl
      case func f x y => cases f <;> first | rfl | exact absurd rfl (h5 _ _ _)
    · cases h
  case binOp op t x y ty => exact Lv.same H h fun v hr => bin_ok hr rfl (E x) (E y) w
  case unOp op t x => exact Lv.same H h fun v hr => unA_ok hr (E x) w
  case convert s d x => exact Lv.val (cv_ok H h (E x))
  case makeInterface t x => exact Lv.same H h fun v hr => ifA_ok hr (E x) w
  case makeFunc f first cs =>
    cases f <;> simp only at h <;> first | (cases h; done) | skip
    split at h
    · rename_i e
      cases h
      have e1 : first = #[] := Array.ext' e
      subst e1
      refine Lv.val ⟨ι, _, w, .refl _, rfl, ?_, H⟩
      have := VR.fn (f := ‹FuncId›) (a := cs.map a.eval) (l := opds ng fr cs.toList) (ι := ι) (by rw [Array.toList_map]; exact opds_ok F G _)
      simpa using this
    · cases h
  case makeMap t r =>
    refine Lv.val (mkMap_ok H h ?_)
    cases r with
    | none => exact .inl ⟨rfl, rfl⟩
    | some x => exact .inr ⟨_, _, rfl, rfl, E x⟩
  case makeSlice t l c => exact Lv.val (ms_ok H h (E l) (E c))
  case slice t x lo hi mx => exact Lv.same H h fun v hr => slice_ok H hr (E x) (opdO_ok F G lo) (opdO_ok F G hi) (opdO_ok F G mx)
  case fieldAddr t x i => exact Lv.same H h fun v hr => fieldAddrA_ok hr (E x) w
  case field t x i => exact Lv.same H h fun v hr => fieldA_ok hr (E x) w
  case indexAddr t x i => exact Lv.same H h fun v hr => indexAddrA_ok hr (E x) (E i) w
  case index t x i => exact Lv.same H h fun v hr => indexO_ok hr (E x) (E i) w
  case lookup t m k ok => exact Lv.same H h fun v hr => look_ok H hr (E m) (E k)
  case mapUpdate t m k v => exact Lv.skp h fun hp' hr => upd_ok H hr (E m) (E k) (E v)
  case insert t m k v => exact Lv.skp h fun hp' hr => upd_ok H hr (E m) (E k) (E v)
  case typeAssert x xt t ok =>
    cases ok with
    | false => cases h
    | true => exact Lv.same H h fun v hr => tasA_ok hr (E x) w
  case extract x i => exact Lv.same H h fun v hr => extA_ok hr (E x) w
  case call c =>
    obtain ⟨callee, args, ts⟩ := c
    cases callee <;> simp only at h <;> first | (cases h; done) | skip
    rename_i b
    have := builtA_ok (vs := args.map a.eval) H h (by rw [Array.toList_map]; exact opds_ok F G _) ty (args.map fun | .const _ => true | _ => false)
    obtain ⟨κ, nx, w', h1, h2, h3⟩ := this
    refine ⟨κ, nx, w', h1, ?_, h3⟩
    simp only [resolve, Sem.run_bind, Sem.run_pure, Result.andThen_ok, invoke]
    exact h2
  all_goals (cases h; done)
end
end Go.Tw
set_option linter.unusedVariables false
set_option linter.unusedSimpArgs false
namespace Go.Tw
abbrev KF := Fr → List AV → Hp → Bool
abbrev KV := AV → Hp → Bool
abbrev CallT := Nat → List AV → Hp → KV → KV → Bool
/-- Is the operation carried out? -/
noncomputable def wantA (ops : Array Oper) (fr : Fr) (o : Oper) : Option Bool := match o.guard with
  | none => some true
  | some (j, want) => (match (ops[j]?).bind (·.dst) with
    | none => some false
    | some d => (match fget fr d with
      | .bool b => some (b == want)
      | .tup _ => some false
      | _ => none))
section
variable (P : Program) (ng nt : Nat) (call : CallT)
noncomputable def xop (o : Op) (fr : Fr) (df : List AV) (hp : Hp) (k : AV → List AV → Hp → Bool) (pn : KV) : Bool := match o with
  | .call c => (match c.callee with
    | .value f => (match opd ng fr f with
      | .fn g caps => call g (opds ng fr c.args.toList ++ caps) hp (fun v hp => k v df hp) pn
      | _ => false)
    | .builtin b => (match builtA P b c.argTypes.toList (opds ng fr c.args.toList) hp with
      | some (v, hp) => k v df hp
      | none => false)
    | _ => false)
  | .defer c => (match c.callee, c.args.toList with
    | .value f, [] => (match opd ng fr f with
      | .fn g caps => k .und (.fn g caps :: df) hp
      | _ => false)
    | _, _ => false)
  | .panic x => (match opd ng fr x with
    | .iface t v => pn (.iface t v) hp
    | _ => false)
  | o => (match pop P ng o fr hp with
    | some (v, hp) => k v df hp
    | none => false)
noncomputable def regL (ops : Array Oper) (pn : Fr → List AV → KV) (l : List Oper) : Fr → List AV → Hp → KF → Bool :=
  List.rec (motive := fun _ => Fr → List AV → Hp → KF → Bool) (fun fr df hp k => k fr df hp)
    (fun o _ ih fr df hp k => match wantA ops fr o with
      | some true => xop P ng call o.op fr df hp (fun v df hp => ih (setD nt fr o.dst v) df hp k) (pn fr df)
      | some false => ih (setD nt fr o.dst (.tup [])) df hp k
      | none => false) l
noncomputable def lpN (n : Nat) (b : Fr → List AV → Hp → KF → (Nat → KF) → KF → Bool) : Fr → List AV → Hp → (Nat → KF) → KF → Bool :=
  Nat.rec (motive := fun _ => Fr → List AV → Hp → (Nat → KF) → KF → Bool) (fun _ _ _ _ _ => false) (fun _ ih fr df hp x r => b fr df hp (fun fr df hp => ih fr df hp x r) x r) n
/-- drw: a region that draws its order; rng: a range over a function. -/
noncomputable def runC (rng : Operand → Array Tmp → Code → Code → Fr → List AV → Hp → KF → Bool) (drw : Nat → Array Oper → Fr → List AV → Hp → KF → (Fr → List AV → KV) → Bool) (pn : Fr → List AV → KV) (c : Code) : Fr → List AV → Hp → KF → (Nat → KF) → KF → Bool :=
  Code.rec (motive := fun _ => Fr → List AV → Hp → KF → (Nat → KF) → KF → Bool)
    (fun fr df hp k _ _ => k fr df hp)
    (fun id ops draw fr df hp k _ _ => Bool.rec (regL P ng nt call ops pn ops.toList fr df hp k) (drw id ops fr df hp k pn) draw)
    (fun _ _ iha ihb fr df hp k x r => iha fr df hp (fun fr df hp => ihb fr df hp k x r) x r)
    (fun c _ _ iha ihb fr df hp k x r => match opd ng fr c with
      | .bool b => Bool.rec (ihb fr df hp k x r) (iha fr df hp k x r) b
      | _ => false)
    (fun id _ ih fr df hp k x r => ih fr df hp k (fun i fr df hp => Bool.rec (x i fr df hp) (k fr df hp) (Nat.beq i id)) r)
    (fun _ ih fr df hp _ x r => lpN 100000 ih fr df hp x r)
    (fun g ps asg body _ _ fr df hp k _ _ => rng g ps asg body fr df hp k)
    (fun id fr df hp _ x _ => x id fr df hp)
    (fun _ ih fr df hp k x r => ih fr df hp k x r)
    (fun _ fr df hp k _ _ => k fr df hp)
    (fun _ _ _ _ _ _ _ => false)
    (fun fr df hp _ _ r => r fr df hp)
    (fun _ _ _ _ _ _ _ => false) c
end
noncomputable def initF : List AV → Nat → Fr → Fr
  | [], _, fr => fr
  | v :: l, n, fr => initF l (n + 1) (put .und v fr (pth n))
noncomputable def resL (P : Program) (fr : Fr) (hp : Hp) : List ResultVar → Option (List AV)
  | [] => some []
  | .tmp t :: r => (match resL P fr hp r with
    | some l => some (fget fr t :: l)
    | none => none)
  | .cell a t :: r => (match loadV P t hp (fget fr a), resL P fr hp r with
    | some v, some l => some (v :: l)
    | _, _ => none)
noncomputable def resA (P : Program) (fr : Fr) (hp : Hp) (rs : List ResultVar) : Option AV := match resL P fr hp rs with
  | some [v] => some v
  | some l => some (.tup l)
  | none => none
section
variable (P : Program) (ng : Nat) (rg : Nat → Bool) (rng : Nat → CallT → Nat → Operand → Array Tmp → Code → Code → Fr → List AV → Hp → KF → Bool) (drw : Nat → CallT → Nat → Nat → Array Oper → Fr → List AV → Hp → KF → (Fr → List AV → KV) → Bool)
/-- A deferred call, of a function that recovers first. -/
noncomputable def dfr (call : CallT) (g : Nat) (caps : List AV) (pv : Option AV) (hp : Hp) (k : Hp → Bool) : Bool := match P.funcs[g]? with
  | some fn => (match fn.body with
    | some (.seq (.region _ ops false) rest) => (match ops.toList with
      | o :: os => (match o.op, o.guard with
        | .call ⟨.builtin .recover, _, _⟩, none => Nat.ble caps.length fn.ntmps && Nat.blt fn.ntmps 16000000 && regL P ng fn.ntmps call ops (fun _ _ _ _ => false) os (setD fn.ntmps (initF caps 0 .lf) o.dst (pv.getD .nili)) [] hp fun fr df hp =>
            runC P ng fn.ntmps call (rng g call fn.ntmps) (drw g call fn.ntmps) (fun _ _ _ _ => false) rest fr df hp (fun fr df hp => match df, resA P fr hp fn.results.toList with
              | [], some _ => k hp
              | _, _ => false) (fun _ _ _ _ => false) (fun fr df hp => match df, resA P fr hp fn.results.toList with
              | [], some _ => k hp
              | _, _ => false)
        | _, _ => false)
      | [] => false)
    | _ => false)
  | none => false
/-- Behind a body: what was deferred, then the results. m: a function that ranges over functions. -/
noncomputable def leaveA (m : Bool) (call : CallT) (rs : List ResultVar) (fr : Fr) (df : List AV) (hp : Hp) (pv : Option AV) (k pn : KV) : Bool := match df with
  | [] => (match pv with
    | some v => pn v hp
    | none => (match resA P fr hp rs with
      | some v => k v hp
      | none => false))
  | [.fn g caps] => (match m with
    | false => dfr P ng rng drw call g caps pv hp fun hp => (match resA P fr hp rs with
      | some v => k v hp
      | none => false)
    | true => false)
  | [.nilm] => (match m, pv with
    | true, none => (match resA P fr hp rs with
      | some v => k v hp
      | none => false)
    | _, _ => false)
  | _ => false
/-- orc: what is known of a call. -/
noncomputable def callN (orc : Nat → List AV → Hp → Option (AV × Hp)) (n : Nat) : CallT :=
  Nat.rec (motive := fun _ => CallT) (fun _ _ _ _ _ => false)
    (fun _ ih f as hp k pn => match orc f as hp with
      | some (v, hp) => k v hp
      | none => (match P.funcs[f]? with
        | some fn => (match fn.body with
          | some c => Nat.ble as.length fn.ntmps && Nat.blt fn.ntmps 16000000 && runC P ng fn.ntmps ih (rng f ih fn.ntmps) (drw f ih fn.ntmps) (fun fr df v hp => leaveA P ng rng drw (rg f) ih fn.results.toList fr df hp (some v) k pn) c (initF as 0 .lf) [] hp
              (fun fr df hp => leaveA P ng rng drw (rg f) ih fn.results.toList fr df hp none k pn) (fun _ _ _ _ => false) (fun fr df hp => leaveA P ng rng drw (rg f) ih fn.results.toList fr df hp none k pn)
          | none => false)
        | none => false)) n
end
end Go.Tw
set_option linter.unusedVariables false
set_option linter.unusedSimpArgs false
namespace Go.Tw
/-- What is deferred; at the bottom the block of a range's deferred calls, if there is one. -/
inductive DR (ι : Io) : Option Nat → List AV → List Deferred → Prop
  | nil : DR ι none [] []
  | mark {D : Nat} : DR ι (some D) [.nilm] [{ target := .collected D, args := #[] }]
  | cons {mk : Option Nat} {g : Nat} {caps : List AV} {cs : Array Value} {df : List AV} {ds : List Deferred} (h : VL ι caps cs.toList) (hd : DR ι mk df ds) : DR ι mk (.fn g caps :: df) ({ target := .fn (.func g) cs, args := #[] } :: ds)
theorem DR.mono {ι κ : Io} (hk : ι.le κ) : ∀ {mk : Option Nat} {df : List AV} {ds : List Deferred}, DR ι mk df ds → DR κ mk df ds
  | _, _, _, .nil => .nil
  | _, _, _, .mark => .mark
  | _, _, _, .cons h hd => .cons (VL.mono hk h) (hd.mono hk)
/-- What is known in the midst of a function. -/
structure SR (ι0 : Io) (w0 : World) (B : Bs) (ng nt : Nat) (ι : Io) (fr : Fr) (df : List AV) (hp : Hp) (a : Act) (w : World) : Prop where
  le : ι0.le ι
  fr : FR ι nt fr a
  df : DR ι B.mark df a.defers
  gl : Gl ng ι
  hr : HR ι w0 B hp w
/-- What is known behind a call. -/
def CQ (w0 : World) (B : Bs) (ι : Io) (k pn : KV) : Ending → World → Prop
  | .returned v, w => ∃ κ av hp, ι.le κ ∧ VR κ av v ∧ HR κ w0 B hp w ∧ k av hp = true
  | .panicked ch, w => ∃ κ av vv hp, ι.le κ ∧ ch = [{ v := vv, recovered := false }] ∧ VR κ av vv ∧ HR κ w0 B hp w ∧ pn av hp = true
  | .outgrown, _ => False
def CallOk (P : Program) (ng : Nat) (call : CallT) : Prop := ∀ w0 B f as hp k pn, call f as hp k pn = true → ∀ ι args w, VL ι as args.toList → Gl ng ι → HR ι w0 B hp w →
  (callFunc f args).run P w = .ok (.enter f args) w ∧ Calls P f args w (CQ w0 B ι k pn)
section
variable {P : Program} {ι0 ι : Io} {w0 : World} {B : Bs} {ng nt : Nat} {fr : Fr} {df : List AV} {hp : Hp} {a : Act} {w : World} {call : CallT}
theorem VR.fn_inv {f : Nat} {l : List AV} {v : Value} (h : VR ι (.fn f l) v) : ∃ cs : Array Value, v = .func (.func f) #[] cs ∧ VL ι l cs.toList := by
  cases h with | fn e => exact ⟨_, rfl, e⟩
theorem SR.put (S : SR ι0 w0 B ng nt ι fr df hp a w) {κ : Io} (hk : ι.le κ) (d : Option Nat) {v : AV} {v' : Value} (hv : VR κ v v') {hp' : Hp} {w' : World} (H : HR κ w0 B hp' w') : SR ι0 w0 B ng nt κ (setD nt fr d v) df hp' (a.put d v') w' := by
  refine ⟨S.le.trans hk, (S.fr.mono hk).put d hv, ?_, S.gl.mono hk, H⟩
  have := S.df.mono hk
  cases d <;> exact this
theorem xop_ok (hC : CallOk P ng call) (S : SR ι0 w0 B ng nt ι fr df hp a w) {o : Oper} {k : AV → List AV → Hp → Bool} {pn : KV} (h : xop P ng call o.op fr df hp k pn = true) {next : Act → World → Prop} {Q : Exit → Act → World → Prop}
    (hk : ∀ κ v df' hp' a' w', SR ι0 w0 B ng nt κ (setD nt fr o.dst v) df' hp' a' w' → k v df' hp' = true → next a' w')
    (hpn : ∀ κ v vv hp' w', SR ι0 w0 B ng nt κ fr df hp' a w' → VR κ v vv → pn v hp' = true → Q (.panic [{ v := vv, recovered := false }]) a w') : o.wp P a w next Q := by
  have E := opd_ok S.fr S.gl
  have plain : ∀ v hp', pop P ng o.op fr hp = some (v, hp') → k v df hp' = true → o.wp P a w next Q := by
    intro v hp' hpop hkk
    obtain ⟨κ, nx, w', h1, h2, h3, h4⟩ := pop_ok S.fr S.gl S.hr hpop
    unfold Oper.wp
    rw [h2]
    rcases h3 with ⟨rfl, rfl⟩ | ⟨v', rfl, hv⟩
    · rw [Oper.upon_skip]
      exact hk κ _ _ _ _ _ (S.put h1 o.dst (.und _) h4) hkk
    · rw [Oper.upon_value]
      exact hk κ _ _ _ _ _ (S.put h1 o.dst hv h4) hkk
  unfold xop at h
  split at h
  · rename_i c hop
    split at h
    · rename_i f hcal
      split at h
      · rename_i g caps hf
        have hE := E f
        rw [hf] at hE
        obtain ⟨cs, e1, e2⟩ := hE.fn_inv
        have hargs : VL ι (opds ng fr c.args.toList ++ caps) (c.args.map a.eval ++ cs).toList := by
          rw [Array.toList_append, Array.toList_map]
          exact (opds_ok S.fr S.gl _).app e2
        obtain ⟨g1, g2⟩ := hC w0 B _ _ _ _ _ h ι _ w hargs S.gl S.hr
        unfold Oper.wp
        have hrun : (execOp a.eval o).run P w = .ok (.enter g (c.args.map a.eval ++ cs)) w := by
          unfold execOp
          simp only [hop, resolve, hcal, e1, Deferred.ofValue, Sem.run_bind, Sem.run_pure, Result.andThen_ok, invoke, Array.empty_append]
          exact g1
        rw [hrun, Oper.upon_enter]
        refine g2.mono fun e w' hq => ?_
        cases e with
        | returned v =>
          obtain ⟨κ, av, hp', h1, h2, h3, h4⟩ := hq
          exact hk κ _ _ _ _ _ (S.put h1 o.dst h2 h3) h4
        | panicked ch =>
          obtain ⟨κ, av, vv, hp', h1, rfl, h2, h3, h4⟩ := hq
          exact hpn κ _ _ _ _ ⟨S.le.trans h1, S.fr.mono h1, S.df.mono h1, S.gl.mono h1, h3⟩ h2 h4
        | outgrown => exact hq.elim
      · cases h
    · rename_i b hcal
      split at h
      · rename_i v hp' hb
        refine plain v hp' ?_ h
        rw [hop]
        unfold pop
        simp only [hcal]
        exact hb
      · cases h
    · cases h
  · rename_i c hop
    split at h
    · rename_i f hcal hargs
      split at h
      · rename_i g caps hf
        have hE := E f
        rw [hf] at hE
        obtain ⟨cs, e1, e2⟩ := hE.fn_inv
        have ha : c.args = #[] := Array.ext' hargs
        unfold Oper.wp
        have hrun : (execOp a.eval o).run P w = .ok (.defer { target := .fn (.func g) cs, args := #[] }) w := by
          unfold execOp
          simp only [hop, resolve, hcal, e1, Deferred.ofValue, ha, Sem.run_bind, Sem.run_pure, Result.andThen_ok]
          simp
        rw [hrun, Oper.upon_defer]
        refine hk ι _ _ _ _ _ ?_ h
        have S' : SR ι0 w0 B ng nt ι fr (.fn g caps :: df) hp { a with defers := { target := .fn (.func g) cs, args := #[] } :: a.defers } w := ⟨S.le, ⟨S.fr.sz, S.fr.small, S.fr.val⟩, .cons e2 S.df, S.gl, S.hr⟩
        exact S'.put (.refl _) o.dst (.und _) S.hr
      · cases h
    · cases h
  · rename_i x hop
    split at h
    · rename_i t v hx
      have hE := E x
      rw [hx] at hE
      cases hv : a.eval x with
      | iface t' v' =>
        rw [hv] at hE
        unfold Oper.wp
        have hrun : (execOp a.eval o).run P w = .halt (.panic (.iface t' v')) w := by
          unfold execOp
          simp only [hop, hv, Instr.panic, goPanic, Sem.run_bind]
          rfl
        rw [hrun, Oper.upon_panic]
        exact hpn ι _ _ _ _ S hE h
      | _ => rw [hv] at hE; cases hE
    · cases h
  · rename_i o' n1 n2 n3
    split at h
    · rename_i v hp' hpop
      exact plain v hp' hpop h
    · cases h
/-- Carried out or not. -/
theorem want_ok (S : FR ι nt fr a) {ops : Array Oper} {o : Oper} {b : Bool} (h : wantA ops fr o = some b) : Region.wanted o (yielded ops a.tmps) = b := by
  unfold wantA at h
  unfold Region.wanted
  split at h
  · rename_i hg
    cases h
    rw [hg]
  · rename_i j want hg
    rw [hg]
    simp only
    unfold yielded
    split at h
    · rename_i hd
      cases h
      rw [hd]
      cases want <;> rfl
    · rename_i d hd
      rw [hd]
      simp only [Option.bind_some]
      have hv := S.val d
      rw [Array.getD_eq_getD_getElem?] at hv
      split at h
      · rename_i b' hb
        cases h
        rw [hb] at hv
        cases ht : a.tmps[d]? with
        | none =>
          rw [ht] at hv
          have := VR.bool_inv hv
          cases this
        | some x =>
          rw [ht] at hv
          have := VR.bool_inv hv
          simp only [Option.getD_some] at this
          subst this
          simp only
          cases b' <;> cases want <;> rfl
      · rename_i l hb
        cases h
        rw [hb] at hv
        cases ht : a.tmps[d]? with
        | none => cases want <;> rfl
        | some x =>
          rw [ht] at hv
          obtain ⟨cs, h1, _⟩ := VR.tup_inv hv
          simp only [Option.getD_some] at h1
          subst h1
          cases want <;> rfl
      · cases h
theorem undef_tup (ι : Io) : VR ι (.tup []) undef := .tup .nil
theorem regL_ok (hC : CallOk P ng call) {ops : Array Oper} {pn : Fr → List AV → KV} {k : KF} {Q : Exit → Act → World → Prop}
    (hk : ∀ ι fr df hp a w, SR ι0 w0 B ng nt ι fr df hp a w → k fr df hp = true → Q .normal a w)
    (hpn : ∀ ι fr df hp a w v vv, SR ι0 w0 B ng nt ι fr df hp a w → VR ι v vv → pn fr df v hp = true → Q (.panic [{ v := vv, recovered := false }]) a w) :
    ∀ (l : List Oper) (i : Nat) (ι : Io) (fr : Fr) (df : List AV) (hp : Hp) (a : Act) (w : World), ops.toList.drop i = l → SR ι0 w0 B ng nt ι fr df hp a w → regL P ng nt call ops pn l fr df hp k = true → wpOps P ops Q (List.range' i l.length) a w
  | [], i, ι, fr, df, hp, a, w, hl, S, h => hk ι fr df hp a w S h
  | o :: l, i, ι, fr, df, hp, a, w, hl, S, h => by
    have ho : ops[i]? = some o := by
      have : (ops.toList.drop i)[0]? = some o := by rw [hl]; rfl
      rw [List.getElem?_drop] at this
      simpa using this
    have hl' : ops.toList.drop (i + 1) = l := by
      rw [← List.drop_drop, hl]; rfl
    show wpOps P ops Q (i :: List.range' (i + 1) l.length) a w
    rw [wpOps_cons]
    unfold wpOp
    rw [ho]
    simp only
    have h' : (match wantA ops fr o with
      | some true => xop P ng call o.op fr df hp (fun v df hp => regL P ng nt call ops pn l (setD nt fr o.dst v) df hp k) (pn fr df)
      | some false => regL P ng nt call ops pn l (setD nt fr o.dst (.tup [])) df hp k
      | none => false) = true := h
    split at h'
    · rename_i hw
      rw [want_ok S.fr hw, if_pos rfl]
      refine .inl (xop_ok hC S h' (fun κ v df' hp' a' w' S' hk' => ?_) (fun κ v vv hp' w' S' hv hp'' => hpn κ fr df hp' a w' v vv S' hv hp''))
      exact regL_ok hC hk hpn l (i + 1) κ _ df' hp' a' w' hl' S' hk'
    · rename_i hw
      rw [want_ok S.fr hw, if_neg (by simp)]
      exact regL_ok hC hk hpn l (i + 1) ι _ df hp _ w hl' (S.put (.refl _) o.dst (undef_tup ι) S.hr) h'
    · cases h'
end
end Go.Tw
set_option linter.unusedVariables false
set_option linter.unusedSimpArgs false
namespace Go.Tw
section
variable {P : Program} {ι0 : Io} {w0 : World} {B : Bs} {ng nt : Nat} {call : CallT}
/-- Known, and what comes behind is true. -/
def Aft (ι0 : Io) (w0 : World) (B : Bs) (ng nt : Nat) (k : KF) (a : Act) (w : World) : Prop := ∃ ι fr df hp, SR ι0 w0 B ng nt ι fr df hp a w ∧ k fr df hp = true
def PQ (ι0 : Io) (w0 : World) (B : Bs) (ng nt : Nat) (k : KF) (x : Nat → KF) (r : KF) (pn : Fr → List AV → KV) : Exit → Act → World → Prop
  | .normal, a, w => Aft ι0 w0 B ng nt k a w
  | .exit i, a, w => Aft ι0 w0 B ng nt (x i) a w
  | .ret, a, w => Aft ι0 w0 B ng nt r a w
  | .panic ch, a, w => ∃ ι fr df hp v vv, SR ι0 w0 B ng nt ι fr df hp a w ∧ ch = [{ v := vv, recovered := false }] ∧ VR ι v vv ∧ pn fr df v hp = true
  | _, _, _ => False
/-- A region that draws its order. -/
def DrwOk (P : Program) (ng nt : Nat) (drw : Nat → Array Oper → Fr → List AV → Hp → KF → (Fr → List AV → KV) → Bool) (id : Nat) (ops : Array Oper) : Prop :=
  ∀ w0 B ι0 ι fr df hp a w k pn, drw id ops fr df hp k pn = true → SR ι0 w0 B ng nt ι fr df hp a w → (Code.region id ops true).wp P (PQ ι0 w0 B ng nt k (fun _ _ _ _ => false) (fun _ _ _ => false) pn) a w
/-- The blocks that may change. -/
def WOf (ι : Io) (hc : Hp) (c : Nat) : Prop := ∃ b p, ι b = some p ∧ (entOf hc b).wr = true ∧ p.blk = c
/-- Where the rest is looked at from: behind a range over a function the block of its deferred calls is hidden. -/
inductive Mk (w0 : World) (B : Bs) : World → Bs → Prop
  | no (h : B.mark = none) : Mk w0 B w0 B
  | one {ι1 : Io} {h1 : Hp} {w1 : World} {D : Nat} (h : B.mark = none) (H : HR ι1 w0 B h1 w1) (h0 : w0.heap.size ≤ D) (hD : w1.heap[D]? = some (.deferred (some []))) (hn : ∀ b p, ι1 b = some p → p.blk ≠ D) : Mk w0 B w1 { W := WOf ι1 h1, N := fun c => B.N c ∨ c = D, n0 := h1.nx, ι0 := ι1, mark := some D }
def PQM (ι0 : Io) (w0 : World) (B : Bs) (ng nt : Nat) (k : KF) (x : Nat → KF) (r : KF) (pn : Fr → List AV → KV) (e : Exit) (a : Act) (w : World) : Prop := ∃ wb Bb, Mk w0 B wb Bb ∧ PQ ι0 wb Bb ng nt k x r pn e a w
/-- A range over a function. -/
def RngOk (P : Program) (ng nt : Nat) (rng : Operand → Array Tmp → Code → Code → Fr → List AV → Hp → KF → Bool) (g : Operand) (ps : Array Tmp) (asg body : Code) : Prop :=
  (∀ fr df hp k, rng g ps asg body fr df hp k = true → df = []) ∧
  ∀ w0 B ι0 ι fr df hp a w k, B.mark = none → rng g ps asg body fr df hp k = true → SR ι0 w0 B ng nt ι fr df hp a w → (Code.rangeFunc g ps asg body).wp P (PQM ι0 w0 B ng nt k (fun _ _ _ _ => false) (fun _ _ _ => false) (fun _ _ _ _ => false)) a w
/-- Every region of a code that draws is answered, every range over a function, too. -/
def CodeOk (P : Program) (ng nt : Nat) (rng : Operand → Array Tmp → Code → Code → Fr → List AV → Hp → KF → Bool) (drw : Nat → Array Oper → Fr → List AV → Hp → KF → (Fr → List AV → KV) → Bool) : Code → Prop
  | .region id ops true => DrwOk P ng nt drw id ops
  | .seq a b => CodeOk P ng nt rng drw a ∧ CodeOk P ng nt rng drw b
  | .cond _ a b => CodeOk P ng nt rng drw a ∧ CodeOk P ng nt rng drw b
  | .block _ b => CodeOk P ng nt rng drw b
  | .loop b => CodeOk P ng nt rng drw b
  | .scope b => CodeOk P ng nt rng drw b
  | .rangeFunc g ps asg b => RngOk P ng nt rng g ps asg b
  | _ => True
theorem code_ok {rng : Operand → Array Tmp → Code → Code → Fr → List AV → Hp → KF → Bool} {drw : Nat → Array Oper → Fr → List AV → Hp → KF → (Fr → List AV → KV) → Bool} (hC : CallOk P ng call) {pn : Fr → List AV → KV} : ∀ (c : Code), CodeOk P ng nt rng drw c → ∀ (k : KF) (x : Nat → KF) (r : KF) (ι : Io) (fr : Fr) (df : List AV) (hp : Hp) (a : Act) (w wb : World) (Bb : Bs), Mk w0 B wb Bb →
    SR ι0 wb Bb ng nt ι fr df hp a w → runC P ng nt call rng drw pn c fr df hp k x r = true → c.wp P (PQM ι0 w0 B ng nt k x r pn) a w := by
  intro c
  induction c with
  | skip => exact fun _ k x r ι fr df hp a w wb Bb hM S h => wp_skip ⟨wb, Bb, hM, ι, fr, df, hp, S, h⟩
  | region id ops draw =>
    intro ho k x r ι fr df hp a w wb Bb hM S h
    cases draw with
    | false =>
      have h' : regL P ng nt call ops pn ops.toList fr df hp k = true := h
      refine wp_region ?_
      have := regL_ok (Q := PQM ι0 w0 B ng nt k x r pn) hC (fun ι fr df hp a w S h => ⟨wb, Bb, hM, ι, fr, df, hp, S, h⟩) (fun ι fr df hp a w v vv S hv h => ⟨wb, Bb, hM, ι, fr, df, hp, v, vv, S, rfl, hv, h⟩) ops.toList 0 ι fr df hp a w (by simp) S h'
      rw [List.range_eq_range']
      simpa using this
    | true =>
      refine wp_mono (ho wb Bb ι0 ι fr df hp a w k pn h S) fun e a w hq => ?_
      cases e with
      | normal => exact ⟨wb, Bb, hM, hq⟩
      | exit i => obtain ⟨_, _, _, _, _, e⟩ := hq; cases e
      | ret => obtain ⟨_, _, _, _, _, e⟩ := hq; cases e
      | panic ch => exact ⟨wb, Bb, hM, hq⟩
      | goto l => exact hq.elim
      | outgrown => exact hq.elim
  | seq c d ihc ihd =>
    intro ho k x r ι fr df hp a w wb Bb hM S h
    refine wp_seq (wp_mono (ihc ho.1 _ x r ι fr df hp a w wb Bb hM S h) fun e a w hq => ?_)
    cases e with
    | normal =>
      obtain ⟨wb', Bb', hM', ι', fr', df', hp', S', h'⟩ := hq
      exact ihd ho.2 k x r ι' fr' df' hp' a w wb' Bb' hM' S' h'
    | exit i => exact hq
    | ret => exact hq
    | panic ch => exact hq
    | goto l => exact hq
    | outgrown => exact hq
  | cond c t e iht ihe =>
    intro ho k x r ι fr df hp a w wb Bb hM S h
    have h' : (match opd ng fr c with
      | .bool b => Bool.rec (runC P ng nt call rng drw pn e fr df hp k x r) (runC P ng nt call rng drw pn t fr df hp k x r) b
      | _ => false) = true := h
    have hE := opd_ok S.fr S.gl c
    split at h'
    · rename_i b hb
      rw [hb] at hE
      cases b with
      | true => exact wp_cond_true (VR.bool_inv hE) (iht ho.1 k x r ι fr df hp a w wb Bb hM S h')
      | false => exact wp_cond_false (VR.bool_inv hE) (ihe ho.2 k x r ι fr df hp a w wb Bb hM S h')
    · cases h'
  | block id c ih =>
    intro ho k x r ι fr df hp a w wb Bb hM S h
    refine wp_block (wp_mono (ih ho k _ r ι fr df hp a w wb Bb hM S h) fun e a w hq => ?_)
    cases e with
    | normal => exact hq
    | exit i =>
      obtain ⟨wb', Bb', hM', ι', fr', df', hp', S', h'⟩ := hq
      replace h' : Bool.rec (motive := fun _ => Bool) (x i fr' df' hp') (k fr' df' hp') (Nat.beq i id) = true := h'
      show if i = id then _ else _
      by_cases hi : i = id
      · rw [if_pos hi]
        have : Nat.beq i id = true := by rw [Nat.beq_eq]; exact hi
        rw [this] at h'
        exact ⟨wb', Bb', hM', ι', fr', df', hp', S', h'⟩
      · rw [if_neg hi]
        have : Nat.beq i id = false := by rw [← Bool.not_eq_true, Nat.beq_eq]; exact hi
        rw [this] at h'
        exact ⟨wb', Bb', hM', ι', fr', df', hp', S', h'⟩
    | ret => exact hq
    | panic ch => exact hq
    | goto l => exact hq
    | outgrown => exact hq
  | loop c ih =>
    intro ho k x r ι fr df hp a w wb Bb hM S h
    have key : ∀ (n : Nat) (ι : Io) (fr : Fr) (df : List AV) (hp : Hp) (a : Act) (w wb : World) (Bb : Bs), Mk w0 B wb Bb → SR ι0 wb Bb ng nt ι fr df hp a w → lpN n (runC P ng nt call rng drw pn c) fr df hp x r = true → Code.rounds P c (PQM ι0 w0 B ng nt k x r pn) n a w := by
      intro n
      induction n with
      | zero => intro ι fr df hp a w wb Bb hM S h; cases h
      | succ n ihn =>
        intro ι fr df hp a w wb Bb hM S h
        rw [rounds_succ]
        refine wp_mono (ih ho (fun fr df hp => lpN n (runC P ng nt call rng drw pn c) fr df hp x r) x r ι fr df hp a w wb Bb hM S h) fun e a w hq => ?_
        cases e with
        | normal =>
          obtain ⟨wb', Bb', hM', ι', fr', df', hp', S', h'⟩ := hq
          exact ihn ι' fr' df' hp' a w wb' Bb' hM' S' h'
        | exit i => exact hq
        | ret => exact hq
        | panic ch => exact hq
        | goto l => exact hq
        | outgrown => exact hq
    exact wp_loop_rounds 100000 (key 100000 ι fr df hp a w wb Bb hM S h)
  | rangeFunc g ps d b _ _ =>
    intro ho k x r ι fr df hp a w wb Bb hM S h
    have h' : rng g ps d b fr df hp k = true := h
    have hdf := ho.1 fr df hp k h'
    subst hdf
    cases hM with
    | no hB =>
      refine wp_mono (ho.2 w0 B ι0 ι fr [] hp a w k hB h' S) fun e a w hq => ?_
      obtain ⟨wb', Bb', hM', hq⟩ := hq
      cases e with
      | normal => exact ⟨wb', Bb', hM', hq⟩
      | exit i => obtain ⟨_, _, _, _, _, e⟩ := hq; cases e
      | ret => obtain ⟨_, _, _, _, _, e⟩ := hq; cases e
      | panic ch => obtain ⟨_, _, _, _, _, _, _, _, _, e⟩ := hq; cases e
      | goto l => exact hq.elim
      | outgrown => exact hq.elim
    | one _ _ _ _ _ =>
      have := S.df
      generalize a.defers = ds at this
      cases this
  | exit id => exact fun _ k x r ι fr df hp a w wb Bb hM S h => wp_exit ⟨wb, Bb, hM, ι, fr, df, hp, S, h⟩
  | scope c ih =>
    intro ho k x r ι fr df hp a w wb Bb hM S h
    refine wp_scope_straight (wp_mono (ih ho k x r ι fr df hp a w wb Bb hM S h) fun e a w hq => ?_)
    cases e <;> first | exact hq | exact hq.elim | (obtain ⟨_, _, _, hq⟩ := hq; exact hq.elim)
  | label l => exact fun _ k x r ι fr df hp a w wb Bb hM S h => wp_label ⟨wb, Bb, hM, ι, fr, df, hp, S, h⟩
  | goto l => intro ho k x r ι fr df hp a w wb Bb hM S h; cases h
  | ret => exact fun _ k x r ι fr df hp a w wb Bb hM S h => wp_ret ⟨wb, Bb, hM, ι, fr, df, hp, S, h⟩
  | refuse s => intro ho k x r ι fr df hp a w wb Bb hM S h; cases h
end
end Go.Tw
set_option linter.unusedVariables false
set_option linter.unusedSimpArgs false
namespace Go.Tw
section
variable {P : Program} {ι0 ι : Io} {w0 : World} {B : Bs} {ng nt : Nat} {fr : Fr} {df : List AV} {hp : Hp} {a : Act} {w : World} {call : CallT}
theorem init_get : ∀ (as : List AV) (n : Nat) (fr : Fr) (i : Nat), n + as.length ≤ 16000000 → fget (initF as n fr) i = if n ≤ i ∧ i < n + as.length then as.getD (i - n) .und else fget fr i
  | [], n, fr, i, h => by rw [if_neg (by simp only [List.length_nil]; omega)]; rfl
  | v :: l, n, fr, i, h => by
    simp only [List.length_cons] at h
    show fget (initF l (n + 1) (put .und v fr (pth n))) i = _
    rw [init_get l (n + 1) _ i (by omega)]
    by_cases h1 : n + 1 ≤ i ∧ i < n + 1 + l.length
    · rw [if_pos h1, if_pos (by simp; omega), show i - n = i - (n + 1) + 1 by omega]
      rfl
    · rw [if_neg h1]
      unfold fget
      rw [get_put]
      by_cases h2 : n = i
      · subst h2
        rw [if_pos rfl, if_pos (by simp), Nat.sub_self]
        rfl
      · rw [if_neg (fun e => h2 (pth_inj e (by omega))), if_neg (by simp; omega)]
theorem init_ok {as : List AV} {args : Array Value} (h : VL ι as args.toList) (hl : as.length ≤ nt) (hs : nt < 16000000) : FR ι nt (initF as 0 .lf) { tmps := args ++ Array.replicate (nt - args.size) undef, defers := [] } := by
  have hlen := h.len
  simp only [Array.length_toList] at hlen
  refine ⟨by simp; omega, hs, fun n => ?_⟩
  rw [init_get as 0 .lf n (by omega)]
  by_cases hn : 0 ≤ n ∧ n < 0 + as.length
  · rw [if_pos hn]
    obtain ⟨v', h1, h2⟩ := h.get n as[n] (List.getElem?_eq_getElem (by omega))
    have e1 : as.getD (n - 0) .und = as[n] := by simp [List.getD, List.getElem?_eq_getElem (show n < as.length by omega)]
    have e2 : (args ++ Array.replicate (nt - args.size) undef).getD n undef = v' := by
      rw [Array.getD_eq_getD_getElem?, Array.getElem?_append_left (by omega)]
      have : args[n]? = some v' := by simpa using h1
      rw [this]; rfl
    show VR ι _ ((args ++ Array.replicate (nt - args.size) undef).getD n undef)
    rw [e1, e2]
    exact h2
  · rw [if_neg hn]
    have : fget (.lf : Fr) n = .und := get_lf _ _
    rw [this]
    exact .und _
def resVar (tm : Array Value) : ResultVar → Sem Value
  | .tmp t => pure (tm.getD t undef)
  | .cell a t => do loadVar t (← asAddr (tm.getD a undef))
theorem results_eq (fn : Func) (tm : Array Value) : results fn tm = (do let vs ← fn.results.mapM (resVar tm); pure (if h : vs.size = 1 then vs[0] else .tuple vs)) := by
  unfold results
  congr 1
theorem resL_ok (F : FR ι nt fr a) (H : HR ι w0 B hp w) : ∀ (rs : List ResultVar) (l : List AV), resL P fr hp rs = some l → ∃ vs : List Value, (rs.mapM (resVar a.tmps)).run P w = .ok vs w ∧ VL ι l vs
  | [], l, h => by cases h; exact ⟨[], by simp, .nil⟩
  | .tmp t :: r, l, h => by
    unfold resL at h
    split at h
    case h_2 => cases h
    rename_i l' hl
    cases h
    obtain ⟨vs, h1, h2⟩ := resL_ok F H r l' hl
    exact ⟨a.tmps.getD t undef :: vs, by simp only [List.mapM_cons, resVar, Sem.run_bind, Sem.run_pure, Result.andThen_ok, h1], .cons (F.val t) h2⟩
  | .cell x t :: r, l, h => by
    unfold resL at h
    split at h
    case h_2 => cases h
    rename_i v l' hv hl
    cases h
    obtain ⟨vs, h1, h2⟩ := resL_ok F H r l' hl
    obtain ⟨v', h3, h4⟩ := load_ok H hv (F.val x)
    refine ⟨v' :: vs, ?_, .cons h4 h2⟩
    have h5 : (resVar a.tmps (.cell x t)).run P w = .ok v' w := by
      show (do loadVar t (← asAddr (a.tmps.getD x undef)) : Sem Value).run P w = .ok v' w
      unfold Instr.loadAt at h3
      generalize a.tmps.getD x undef = va at h3 ⊢
      cases va <;> first
        | (cases h3; done)
        | skip
      rename_i p
      cases p with
      | none => cases h3
      | some p => exact h3
    simp only [List.mapM_cons, Sem.run_bind, h5, Result.andThen_ok, h1, Sem.run_pure]
theorem res_ok (F : FR ι nt fr a) (H : HR ι w0 B hp w) {fn : Func} {v : AV} (h : resA P fr hp fn.results.toList = some v) : ∃ v', (results fn a.tmps).run P w = .ok v' w ∧ VR ι v v' := by
  unfold resA at h
  have key : ∀ l, resL P fr hp fn.results.toList = some l → ∃ vs : List Value, VL ι l vs ∧ (results fn a.tmps).run P w = .ok (if h : vs.length = 1 then vs[0] else .tuple vs.toArray) w := by
    intro l hl
    obtain ⟨vs, h1, h2⟩ := resL_ok F H _ _ hl
    refine ⟨vs, h2, ?_⟩
    rw [results_eq]
    simp only [Array.mapM_eq_mapM_toList, Sem.run_bind, Sem.run_map, h1, Result.andThen_ok, Sem.run_pure]
    rfl
  split at h
  · rename_i v1 hl
    cases h
    obtain ⟨vs, h1, h2⟩ := key _ hl
    cases h1 with
    | cons h3 h4 => cases h4; exact ⟨_, h2, h3⟩
  · rename_i l hne hl
    cases h
    obtain ⟨vs, h1, h2⟩ := key _ hl
    have hlen := h1.len
    rw [dif_neg (fun e => by
      obtain ⟨x, hx⟩ := List.length_eq_one_iff.1 (show l.length = 1 by omega)
      exact hne x hx)] at h2
    exact ⟨_, h2, .tup h1⟩
  · cases h
theorem wpOpsS_of {ops : Array Oper} {Q : Exit → Act → List Frame → World → Prop} {cs : List Frame} (hQ : ∀ a w, ¬ Q .outgrown a cs w) : ∀ (l : List Nat) (a : Act) (w : World), wpOps P ops (fun e a w => Q e a cs w) l a w → wpOpsS P ops Q l a cs w
  | [], a, w, h => h
  | i :: l, a, w, h => by
    simp only [wpOps, wpOpsS] at h ⊢
    split
    · rename_i ho
      rw [ho] at h
      exact wpOpsS_of hQ l a w h
    · rename_i o ho
      rw [ho] at h
      simp only at h
      split
      · rename_i hw
        rw [if_pos hw] at h
        rcases h with h | ⟨_, a', w', h⟩
        · have h' : o.wp P a w (fun a' w' => wpOpsS P ops Q l a' cs w') (fun e a' w' => Q e a' cs w') := Oper.wp_mono (fun a w h => wpOpsS_of hQ l a w h) h
          split
          · rename_i w' hr
            unfold Oper.wp at h'
            rw [hr] at h'
            exact h'.elim
          · exact h'
        · exact absurd h (hQ a' w')
      · rename_i hw
        rw [if_neg hw] at h
        exact wpOpsS_of hQ l _ w h
/-- A world in which some blocks are hidden. -/
theorem HR.hide {h : Hp} (H : HR ι w0 B h w) (X : Nat → Prop) (mk : Option Nat) (hX : ∀ c, X c → c < w.heap.size ∧ ∀ b p, ι b = some p → p.blk ≠ c) : HR ι w { W := WOf ι h, N := fun c => B.N c ∨ X c, n0 := h.nx, ι0 := ι, mark := mk } h w := by
  refine ⟨H.ent, H.dom, H.fresh, H.small, fun b p hb hw => ?_, H.sep, H.sepm, fun _ _ _ => rfl, Nat.le_refl _, rfl, rfl, rfl, fun b p hb hc => ?_, fun c hc => ?_, fun _ _ => rfl, Nat.le_refl _⟩
  · rcases hw with hw | hw
    · exact .inl ⟨b, p, hb, hw, rfl⟩
    · have := H.fresh b p hb
      exact absurd hw (by show ¬ h.nx ≤ b; omega)
  · rcases hc with hc | hc
    · exact H.nev b p hb hc
    · exact (hX _ hc).2 b p hb rfl
  · rcases hc with hc | hc
    · have := H.nsz c hc; have := H.size; omega
    · exact (hX c hc).1
theorem HR.back {κ : Io} {h h3 : Hp} {w' : World} (H : HR ι w0 B h w) {X : Nat → Prop} {mk : Option Nat} (hk : ι.le κ) (H' : HR κ w { W := WOf ι h, N := fun c => B.N c ∨ X c, n0 := h.nx, ι0 := ι, mark := mk } h3 w') : HR κ w0 B h3 w' := by
  have hsz := H.size
  have hsz' : w.heap.size ≤ w'.heap.size := H'.size
  have hW0 : ∀ c, WOf ι h c → B.W c ∨ w0.heap.size ≤ c := by
    rintro c ⟨b, p, h1, h2, rfl⟩
    exact H.wr b p h1 (.inl h2)
  refine ⟨H'.ent, H'.dom, H'.fresh, H'.small, fun b p hb hw => ?_, H'.sep, H'.sepm, fun c hc hW => ?_, by omega, H'.os.trans H.os, H'.tape.trans H.tape, H'.output.trans H.output, fun b p hb hc => H'.nev b p hb (.inl hc), H.nsz, fun b hb => ?_, ?_⟩
  · have hin : WOf ι h p.blk ∨ w.heap.size ≤ p.blk → B.W p.blk ∨ w0.heap.size ≤ p.blk := fun hq => by
      rcases hq with hq | hq
      · exact hW0 _ hq
      · exact .inr (by omega)
    rcases hw with hw | hw
    · exact hin (H'.wr b p hb (.inl hw))
    · rcases Nat.lt_or_ge b h.nx with hbn | hbn
      · rw [H'.io b hbn] at hb
        exact H.wr b p hb (.inr hw)
      · exact hin (H'.wr b p hb (.inr hbn))
  · rw [H'.frm c (by omega) (fun h => by rcases hW0 c h with h | h; exact hW h; omega)]
    exact H.frm c hc hW
  · rw [H'.io b (by show b < h.nx; have := H.n0; omega)]
    exact H.io b hb
  · have h1 : h.nx ≤ h3.nx := H'.n0
    have := H.n0
    omega
theorem HR.kept {κ : Io} {h h3 : Hp} {w' : World} {N : Nat → Prop} {mk : Option Nat} {n0 : Nat} {ι0 : Io} (H' : HR κ w { W := WOf ι h, N := N, n0 := n0, ι0 := ι0, mark := mk } h3 w') {c : Nat} (hc : c < w.heap.size) (hn : ∀ b p, ι b = some p → p.blk ≠ c) : w'.heap[c]? = w.heap[c]? := by
  refine H'.frm c hc ?_
  rintro ⟨b, p, h1, _, h2⟩
  exact hn b p h1 h2
/-- A block that nobody sees is another one. -/
theorem HR.other {h : Hp} (H : HR ι w0 B h w) {c : Nat} (o : Obj) (hc : w0.heap.size ≤ c) (hn : ∀ b p, ι b = some p → p.blk ≠ c) : HR ι w0 B h { w with heap := w.heap.setIfInBounds c o } := by
  have hsame : ∀ k, k ≠ c → ({ w with heap := w.heap.setIfInBounds c o } : World).heap[k]? = w.heap[k]? := fun k hk => Array.getElem?_setIfInBounds_ne (Ne.symm hk)
  have hs : ({ w with heap := w.heap.setIfInBounds c o } : World).heap.size = w.heap.size := Array.size_setIfInBounds ..
  refine ⟨fun b hb hne => ?_, fun b p hb => by rw [hs]; exact H.dom b p hb, H.fresh, H.small, H.wr, H.sep, H.sepm, fun k hk hW => ?_, by rw [hs]; exact H.size, H.os, H.tape, H.output, H.nev, H.nsz, H.io, H.n0⟩
  · obtain ⟨p, h1, h2⟩ := H.ent b hb hne
    exact ⟨p, h1, h2.mono (.refl _) (hsame _ (hn b p h1))⟩
  · rw [hsame k (by omega)]
    exact H.frm k hk hW
theorem HR.mark {h : Hp} (H : HR ι w0 B h w) (m : Option Nat) : HR ι w0 { B with mark := m } h w := ⟨H.ent, H.dom, H.fresh, H.small, H.wr, H.sep, H.sepm, H.frm, H.size, H.os, H.tape, H.output, H.nev, H.nsz, H.io, H.n0⟩
/-- Where the panic goes on, and how. -/
inductive UM (ι : Io) : Option AV → FrameMode → Prop
  | ret : UM ι none .returning
  | pan {v : AV} {vv : Value} (h : VR ι v vv) : UM ι (some v) (.panicking [{ v := vv, recovered := false }])
end
end Go.Tw
set_option linter.unusedVariables false
set_option linter.unusedSimpArgs false
namespace Go.Tw
section
variable {P : Program} {ι : Io} {w0 : World} {B : Bs} {ng : Nat} {hp : Hp} {w : World} {call : CallT} {rg : Nat → Bool} {rng : Nat → CallT → Nat → Operand → Array Tmp → Code → Code → Fr → List AV → Hp → KF → Bool} {drw : Nat → CallT → Nat → Nat → Array Oper → Fr → List AV → Hp → KF → (Fr → List AV → KV) → Bool}
/-- Every region of the program that draws is answered. -/
def DrwAll (P : Program) (ng : Nat) (rng : Nat → CallT → Nat → Operand → Array Tmp → Code → Code → Fr → List AV → Hp → KF → Bool) (drw : Nat → CallT → Nat → Nat → Array Oper → Fr → List AV → Hp → KF → (Fr → List AV → KV) → Bool) : Prop :=
  ∀ (f : Nat) (fn : Func) (c : Code) (call : CallT), P.funcs[f]? = some fn → fn.body = some c → CallOk P ng call → CodeOk P ng fn.ntmps (rng f call fn.ntmps) (drw f call fn.ntmps) c
def Named (P : Program) : Prop := ∀ (f : Nat) (fn : Func), P.funcs[f]? = some fn → (fn.name == "runtime.NumGoroutine") = false
theorem enter_ok (hN : Named P) {f : Nat} {fn : Func} {c : Code} (hf : P.funcs[f]? = some fn) (hb : fn.body = some c) (args : Array Value) (w : World) : (callFunc f args).run P w = .ok (.enter f args) w := by
  have h1 : fn.name ≠ "runtime.NumGoroutine" := by simpa using hN f fn hf
  simp [callFunc, hf, h1, hb]
/-- Nothing is deferred: nothing is hidden. -/
theorem Mk.plain {w0 wb : World} {B Bb : Bs} {ι : Io} {ds : List Deferred} (h : Mk w0 B wb Bb) (hd : DR ι Bb.mark [] ds) : wb = w0 ∧ Bb = B := by
  cases h with
  | no _ => exact ⟨rfl, rfl⟩
  | one _ _ _ _ _ => cases hd
theorem Mk.none {w0 wb : World} {B Bb : Bs} (h : Mk w0 B wb Bb) (hd : Bb.mark = none) : wb = w0 ∧ Bb = B := by
  cases h with
  | no _ => exact ⟨rfl, rfl⟩
  | one _ _ _ _ _ => cases hd
theorem Mk.mk {w0 wb : World} {B Bb : Bs} (h : Mk w0 B wb Bb) : B.mark = .none := by
  cases h <;> assumption
theorem dfr_ok (hN : Named P) (hC : CallOk P ng call) (hD : DrwAll P ng rng drw) {g : Nat} {caps : List AV} {pv : Option AV} {k : Hp → Bool} (hB : B.mark = none) (h : dfr P ng rng drw call g caps pv hp k = true) {cs : Array Value} (hv : VL ι caps cs.toList) (G : Gl ng ι) (H : HR ι w0 B hp w) {u : FrameMode} (hu : UM ι pv u) :
    (callFunc g cs).run P w = .ok (.enter g cs) w ∧ CallsD P g cs u w (fun e u' w' => (∃ v, e = .returned v) ∧ settle u' = .returning ∧ ∃ κ hp', ι.le κ ∧ HR κ w0 B hp' w' ∧ k hp' = true) := by
  unfold dfr at h
  split at h
  case h_2 => cases h
  rename_i fn hf
  split at h
  case h_2 => cases h
  rename_i id ops rest hb
  split at h
  case h_2 => cases h
  rename_i o os hops
  split at h
  case h_2 => cases h
  rename_i bargs bts hop hgd
  simp only [Bool.and_eq_true] at h
  obtain ⟨⟨h1, h2⟩, h3⟩ := h
  have hle : caps.length ≤ fn.ntmps := Nat.le_of_ble_eq_true h1
  have hlt : fn.ntmps < 16000000 := by rwa [Nat.blt_eq] at h2
  refine ⟨enter_ok hN hf hb cs w, callsD_of_wpS hf hb fun c₀ csx hc0 => ?_⟩
  have hcode := hD g fn _ call hf hb hC
  have F0 := init_ok hv hle hlt
  have S0 : SR ι w0 B ng fn.ntmps ι (initF caps 0 .lf) [] hp { tmps := cs ++ Array.replicate (fn.ntmps - cs.size) undef, defers := [] } w := ⟨.refl _, F0, by rw [hB]; exact .nil, G, H⟩
  generalize ({ tmps := cs ++ Array.replicate (fn.ntmps - cs.size) undef, defers := [] } : Act) = a0 at S0
  -- behind the recovery
  have body : ∀ (v : AV) (v' : Value) (u' : FrameMode), VR ι v v' → settle u' = .returning → v = pv.getD .nili →
      wpOpsS P ops (Exit.thenS (rest.wpS P (bodyPostS P fn c₀ csx fun e u' w' => (∃ v, e = .returned v) ∧ settle u' = .returning ∧ ∃ κ hp', ι.le κ ∧ HR κ w0 B hp' w' ∧ k hp' = true)) (bodyPostS P fn c₀ csx fun e u' w' => (∃ v, e = .returned v) ∧ settle u' = .returning ∧ ∃ κ hp', ι.le κ ∧ HR κ w0 B hp' w' ∧ k hp' = true)) (List.range' 1 os.length) (a0.put o.dst v') ({ c₀ with mode := u' } :: csx) w := by
    intro v v' u' hvv hset hpv
    subst hpv
    have fin : ∀ a w wb Bb, Mk w0 B wb Bb → Aft ι wb Bb ng fn.ntmps (fun fr df hp => match df, resA P fr hp fn.results.toList with
        | [], some _ => k hp
        | _, _ => false) a w → a.defers = [] ∧ ∃ u'', (({ c₀ with mode := u' } : Frame) :: csx) = ({ c₀ with mode := u'' } : Frame) :: csx ∧ ∃ v, (results fn a.tmps).run P w = .ok v w ∧ (∃ v1, Ending.returned v = .returned v1) ∧ settle u'' = .returning ∧ ∃ κ hp', ι.le κ ∧ HR κ w0 B hp' w ∧ k hp' = true := by
      rintro a w wb Bb hM ⟨κ, fr, df, hp', S, hk⟩
      dsimp only at hk
      split at hk
      · rename_i v1 hres
        obtain ⟨vr, r1, r2⟩ := res_ok S.fr S.hr hres
        obtain ⟨rfl, rfl⟩ := hM.plain S.df
        refine ⟨?_, u', rfl, vr, r1, ⟨_, rfl⟩, hset, κ, hp', S.le, S.hr, hk⟩
        have := S.df
        generalize a.defers = ds at this
        generalize Bb.mark = mm at this
        cases this
        rfl
      · cases hk
    have S1 := S0.put (.refl _) o.dst hvv H
    refine wpOpsS_of (Q := Exit.thenS (rest.wpS P (bodyPostS P fn c₀ csx fun e u' w' => (∃ v, e = .returned v) ∧ settle u' = .returning ∧ ∃ κ hp', ι.le κ ∧ HR κ w0 B hp' w' ∧ k hp' = true)) (bodyPostS P fn c₀ csx fun e u' w' => (∃ v, e = .returned v) ∧ settle u' = .returning ∧ ∃ κ hp', ι.le κ ∧ HR κ w0 B hp' w' ∧ k hp' = true)) ?_ _ _ _ ?_
    · rintro a w ⟨u'', ⟨_, e⟩, _⟩
      cases e
    · refine regL_ok (ι0 := ι) (nt := fn.ntmps) hC ?_ ?_ os 1 ι _ [] hp _ w (by rw [hops]; rfl) S1 h3
      · intro ι1 fr1 df1 hp1 a1 w1 S2 h4
        refine wpS_of_wp (wp_mono (code_ok hC rest hcode.2 _ _ _ ι1 fr1 df1 hp1 a1 w1 w0 B (.no hB) S2 h4) fun e a w hq => ?_)
        obtain ⟨wb, Bb, hM, hq⟩ := hq
        cases e with
        | normal => exact fin a w wb Bb hM hq
        | ret => exact fin a w wb Bb hM hq
        | exit i => obtain ⟨_, _, _, _, _, e⟩ := hq; cases e
        | panic ch => obtain ⟨_, _, _, _, _, _, _, _, _, e⟩ := hq; cases e
        | goto l => exact hq.elim
        | outgrown => exact hq.elim
      · intro ι1 fr1 df1 hp1 a1 w1 v1 vv1 _ _ e
        cases e
  refine wpS_seq (wpS_region ?_)
  have hsz : ops.size = os.length + 1 := by rw [← Array.length_toList, hops]; rfl
  rw [List.range_eq_range', hsz]
  show wpOpsS P ops _ (0 :: List.range' 1 os.length) _ _ _
  have ho : ops[0]? = some o := by
    have : ops.toList[0]? = some o := by rw [hops]; rfl
    simpa using this
  have hw : Region.wanted o (yielded ops a0.tmps) = true := by
    unfold Region.wanted
    rw [hgd]
  have hrun : (execOp a0.eval o).run P w = .ok .recover w := by
    unfold execOp
    simp only [hop, resolve, Sem.run_bind, Sem.run_pure, Result.andThen_ok, invoke, builtin]
  unfold wpOpsS
  rw [ho]
  simp only [hw, if_true, hrun]
  cases hu with
  | ret =>
    have hrec : recoverD (c₀ :: csx) = none := by
      simp only [recoverD, hc0]
    rw [hrec]
    simp only
    have hsame : (c₀ : Frame) = { c₀ with mode := .returning } := by rw [← hc0]
    have := body .nili .nilIface .returning .nili rfl rfl
    rw [← hsame] at this
    exact this
  | @pan v vv hvv =>
    have hrec : recoverD (c₀ :: csx) = some (vv, { c₀ with mode := .panicking [{ v := vv, recovered := true }] } :: csx) := by
      simp only [recoverD, hc0]
    rw [hrec]
    simp only
    exact body v vv (.panicking [{ v := vv, recovered := true }]) hvv rfl rfl
theorem leave_ok (hN : Named P) (hC : CallOk P ng call) (hD : DrwAll P ng rng drw) {nt : Nat} {ι0 : Io} {fr : Fr} {df : List AV} {a : Act} {wb : World} {Bb : Bs} (hM : Mk w0 B wb Bb) (S : SR ι0 wb Bb ng nt ι fr df hp a w) {fn : Func} {pv : Option AV} {u : FrameMode} (hu : UM ι pv u) {k pn : KV} (h : leaveA P ng rng drw false call fn.results.toList fr df hp pv k pn = true) :
    Leaves P fn a.tmps (CQ w0 B ι0 k pn) a.defers u w := by
  have hdf := S.df
  unfold leaveA at h
  split at h
  · obtain ⟨rfl, rfl⟩ := hM.plain hdf
    generalize a.defers = ds at hdf
    generalize Bb.mark = mm at hdf
    cases hdf
    split at h
    · rename_i v
      cases hu with
      | pan hv => exact ⟨ι, v, _, hp, S.le, rfl, hv, S.hr, h⟩
    · cases hu
      split at h
      · rename_i v hres
        obtain ⟨v', r1, r2⟩ := res_ok S.fr S.hr hres
        exact ⟨v', r1, ι, v, hp, S.le, r2, S.hr, h⟩
      · cases h
  · rename_i g caps
    have hmk : Bb.mark = none := by
      generalize a.defers = ds at hdf
      generalize Bb.mark = mm at hdf
      cases hdf with
      | cons _ hnil => cases hnil; rfl
    obtain ⟨rfl, rfl⟩ := hM.none hmk
    generalize a.defers = ds at hdf
    rw [hmk] at hdf
    cases hdf with
    | @cons _ _ _ cs _ ds' hcs hnil =>
      cases hnil
      obtain ⟨h1, h2⟩ := dfr_ok hN hC hD hmk h hcs S.gl S.hr hu
      refine leaves_cons (by cases hu <;> simp) (f := g) (args := cs) ?_ (h2.mono fun e u' w' hq => ?_)
      · simp only [invoke, Array.empty_append]
        exact h1
      · obtain ⟨⟨v, rfl⟩, hset, κ, hp', hle, H', hk⟩ := hq
        simp only
        rw [hset]
        split at hk
        · rename_i v1 hres
          obtain ⟨v', r1, r2⟩ := res_ok (S.fr.mono hle) H' hres
          exact ⟨v', r1, κ, v1, hp', S.le.trans hle, r2, H', hk⟩
        · cases hk
  · cases h
  · cases h
/-- Of a function that ranges over functions. -/
theorem leaveM_ok {nt : Nat} {ι0 : Io} {fr : Fr} {df : List AV} {a : Act} {wb : World} {Bb : Bs} (hM : Mk w0 B wb Bb) (S : SR ι0 wb Bb ng nt ι fr df hp a w) {fn : Func} {pv : Option AV} {u : FrameMode} (hu : UM ι pv u) {k pn : KV} (h : leaveA P ng rng drw true call fn.results.toList fr df hp pv k pn = true) :
    LeavesInM Fence.wide 0 P fn a.tmps (CQ w0 B ι0 k pn) a.defers u w := by
  have hdf := S.df
  unfold leaveA at h
  split at h
  · obtain ⟨rfl, rfl⟩ := hM.plain hdf
    generalize a.defers = ds at hdf
    generalize Bb.mark = mm at hdf
    cases hdf
    split at h
    · rename_i v
      cases hu with
      | pan hv => exact ⟨ι, v, _, hp, S.le, rfl, hv, S.hr, h⟩
    · cases hu
      split at h
      · rename_i v hres
        obtain ⟨v', r1, r2⟩ := res_ok S.fr S.hr hres
        exact ⟨v', r1, ι, v, hp, S.le, r2, S.hr, h⟩
      · cases h
  · cases h
  · cases hu with
    | pan _ => cases h
    | ret =>
      simp only at h
      split at h
      case h_2 => cases h
      rename_i v hres
      have Sf := S.fr
      have Sh := S.hr
      have Sl := S.le
      cases hM with
      | no hB =>
        rw [hB] at hdf
        generalize a.defers = ds at hdf
        cases hdf
      | @one ι1 h1 w1 D hB H h0 hD hn =>
        replace hdf : DR ι (some D) [.nilm] a.defers := hdf
        generalize a.defers = ds at hdf
        cases hdf
        have hDl : D < wb.heap.size := (Array.getElem?_eq_some_iff.1 hD).1
        have hle : ι1.le ι := fun b p hb => by
          have := Sh.io b (H.fresh b p hb)
          rw [this]; exact hb
        have hDw : w.heap[D]? = some (.deferred (some [])) := (Sh.kept hDl hn).trans hD
        have Hb := HR.back H (X := fun c => c = D) hle Sh
        have hn' : ∀ b p, ι b = some p → p.blk ≠ D := fun b p hb e => Sh.nev b p hb (.inr e)
        have Ho := Hb.other (.deferred none) h0 hn'
        obtain ⟨v', r1, r2⟩ := res_ok Sf Ho hres
        exact ⟨by simp, .inl ⟨D, _, rfl, run_takeDeferred hDw, v', r1, ι, v, hp, Sl, r2, Ho, h⟩⟩
  · cases h
/-- What is known of a call is so. -/
def OrcOk (P : Program) (ng : Nat) (orc : Nat → List AV → Hp → Option (AV × Hp)) : Prop := ∀ w0 B f as hp v hp', orc f as hp = some (v, hp') → ∀ ι args w, VL ι as args.toList → Gl ng ι → HR ι w0 B hp w →
  (callFunc f args).run P w = .ok (.enter f args) w ∧ Calls P f args w fun e w' => ∃ κ v', ι.le κ ∧ e = .returned v' ∧ VR κ v v' ∧ HR κ w0 B hp' w'
/-- Every call. -/
theorem call_ok (hN : Named P) (hD : DrwAll P ng rng drw) {orc : Nat → List AV → Hp → Option (AV × Hp)} (hO : OrcOk P ng orc) : ∀ n, CallOk P ng (callN P ng rg rng drw orc n) := by
  intro n
  induction n with
  | zero => intro w0 B f as hp k pn h; cases h
  | succ n ih =>
    intro w0 B f as hp k pn h ι args w hv G H
    have h' : (match orc f as hp with
      | some (v, hp) => k v hp
      | none => (match P.funcs[f]? with
        | some fn => (match fn.body with
          | some c => Nat.ble as.length fn.ntmps && Nat.blt fn.ntmps 16000000 && runC P ng fn.ntmps (callN P ng rg rng drw orc n) (rng f (callN P ng rg rng drw orc n) fn.ntmps) (drw f (callN P ng rg rng drw orc n) fn.ntmps) (fun fr df v hp => leaveA P ng rng drw (rg f) (callN P ng rg rng drw orc n) fn.results.toList fr df hp (some v) k pn) c (initF as 0 .lf) [] hp
              (fun fr df hp => leaveA P ng rng drw (rg f) (callN P ng rg rng drw orc n) fn.results.toList fr df hp none k pn) (fun _ _ _ _ => false) (fun fr df hp => leaveA P ng rng drw (rg f) (callN P ng rg rng drw orc n) fn.results.toList fr df hp none k pn)
          | none => false)
        | none => false)) = true := h
    clear h
    split at h'
    · rename_i v hp' ho
      obtain ⟨h1, h2⟩ := hO w0 B f as hp v hp' ho ι args w hv G H
      refine ⟨h1, h2.mono fun e w' hq => ?_⟩
      obtain ⟨κ, v', a1, rfl, a2, a3⟩ := hq
      exact ⟨κ, v, hp', a1, a2, a3, h'⟩
    split at h'
    case h_2 => cases h'
    rename_i fn hf
    split at h'
    case h_2 => cases h'
    rename_i c hb
    simp only [Bool.and_eq_true] at h'
    obtain ⟨⟨h1, h2⟩, h3⟩ := h'
    have hle : as.length ≤ fn.ntmps := Nat.le_of_ble_eq_true h1
    have hlt : fn.ntmps < 16000000 := by rwa [Nat.blt_eq] at h2
    have hCQ : ∀ e w, CQ w0 { B with mark := none } ι k pn e w → CQ w0 B ι k pn e w := by
      intro e w hq
      cases e with
      | returned v => obtain ⟨κ, av, hp, a1, a2, a3, a4⟩ := hq; exact ⟨κ, av, hp, a1, a2, a3.mark B.mark, a4⟩
      | panicked ch => obtain ⟨κ, av, vv, hp, a1, a2, a3, a4, a5⟩ := hq; exact ⟨κ, av, vv, hp, a1, a2, a3, a4.mark B.mark, a5⟩
      | outgrown => exact hq
    refine ⟨enter_ok hN hf hb args w, Calls.mono ?_ hCQ⟩
    have S0 : SR ι w0 { B with mark := none } ng fn.ntmps ι (initF as 0 .lf) [] hp { tmps := args ++ Array.replicate (fn.ntmps - args.size) undef, defers := [] } w := ⟨.refl _, init_ok hv hle hlt, .nil, G, H.mark none⟩
    have hcode := hD f fn c (callN P ng rg rng drw orc n) hf hb ih
    have hwp := code_ok ih c hcode _ _ _ ι _ [] hp _ w w0 { B with mark := none } (.no rfl) S0 h3
    cases hrg : rg f with
    | false =>
      rw [hrg] at hwp
      refine calls_of_wp_defers hf hb (wp_mono hwp fun e a w hq => ?_)
      obtain ⟨wb, Bb, hM, hq⟩ := hq
      cases e with
      | normal => obtain ⟨κ, fr, df, hp', S, hk⟩ := hq; exact leave_ok hN ih hD hM S .ret hk
      | ret => obtain ⟨κ, fr, df, hp', S, hk⟩ := hq; exact leave_ok hN ih hD hM S .ret hk
      | exit i => obtain ⟨_, _, _, _, _, e⟩ := hq; cases e
      | panic ch => obtain ⟨κ, fr, df, hp', v, vv, S, rfl, hv', hk⟩ := hq; exact leave_ok hN ih hD hM S (.pan hv') hk
      | goto l => exact hq.elim
      | outgrown => exact hq.elim
    | true =>
      rw [hrg] at hwp
      refine callsIn_wide.1 (callsIn_of_wp_marks (n := 0) hf hb trivial (wpIn_wide.2 (wp_mono hwp fun e a w hq => ?_)))
      obtain ⟨wb, Bb, hM, hq⟩ := hq
      cases e with
      | normal => obtain ⟨κ, fr, df, hp', S, hk⟩ := hq; exact leaveM_ok hM S .ret hk
      | ret => obtain ⟨κ, fr, df, hp', S, hk⟩ := hq; exact leaveM_ok hM S .ret hk
      | exit i => obtain ⟨_, _, _, _, _, e⟩ := hq; cases e
      | panic ch => obtain ⟨κ, fr, df, hp', v, vv, S, rfl, hv', hk⟩ := hq; exact leaveM_ok hM S (.pan hv') hk
      | goto l => exact hq.elim
      | outgrown => exact hq.elim
end
end Go.Tw
