import Derived.Test.YtfbaogfcpldlnaaWa
import Derived.Test.YtfbaogfcpldlnaaGc
import Derived.Test.YtfbaogfcpldlnaaWb
import Derived.Deep.AppendLies
set_option linter.unusedVariables false
set_option linter.unusedSimpArgs false
set_option linter.unusedSimpArgs false
open Go Go.Ev Go.RowKit
namespace Go.Proofs.Ytfbaogfcpldlnaa
abbrev strV (s : Str) : Value := .string ⟨s.toArray⟩
def MetR (B : Nat) (w : World) (mv : Value) (met : List Str) : Prop := ∃ om capm, mv = .slice om met.length capm ∧ w.ownsRow B 9 1 mv met.length (met.map strV)
theorem MetR.congr {B : Nat} {w w' : World} {mv : Value} {met : List Str} (h : MetR B w mv met) (hb : ∀ k, mv.ownBlock = some k → w'.heap[k]? = w.heap[k]?) : MetR B w' mv met := by
 obtain ⟨om, capm, h1, h2⟩ := h
 exact ⟨om, capm, h1, own_congr h2 hb⟩
theorem MetR.lt {B : Nat} {w : World} {mv : Value} {met : List Str} (h : MetR B w mv met) {k : Nat} (hk : mv.ownBlock = some k) : B ≤ k ∧ k < w.heap.size := by
 obtain ⟨om, capm, h1, h2⟩ := h
 exact h2.lt k hk
theorem rv_aggL' {M : Mem} {B : BM} {cs : List PV} {vs : Array Value} (h : Rv M B (.agg cs) (.agg vs)) : RvL M B cs vs.toList := by
 obtain ⟨l, e, hl⟩ := rv_agg h
 cases e
 exact hl
structure GR (e : GEnv) (B ga : Nat) (mv : Value) (M : Mem) (w : World) (gs : List GGroup) (met : List Str) (h0 h1 h2 h3 h4 h5 h6 : Value) (oa : Option Addr) (cap : Nat) (vs : List Value) : Prop where
 le : B ≤ w.heap.size
 cons : Cons M w
 bga : B ≤ ga
 ne : ∀ k, mv.ownBlock = some k → k ≠ ga
 row : w.heap[ga]? = some (.cells #[h0, h1, h2, h3, h4, h5, h6, mv, .slice oa gs.length cap] 89 (0, 0))
 rs : Rv M noB (.agg [(.slice (List.map encDef e.s.defs) [] false), (.str e.s.query), (.str e.s.mutation)]) (.agg #[h0, h1, h2])
 rd : Rv M noB (.agg [(.slice (List.map encOp e.d.ops) [] false), (.slice (List.map encFrag e.d.frags) [] false)]) (.agg #[h3, h4])
 re : Rv M noB (.slice (List.map encMember e.env) [] false) h5
 rt : Rv M noB (.str e.typ) h6
 len : vs.length = gs.length
 own : w.ownsRow B 50 2 (.slice oa gs.length cap) gs.length (flatG (zipG gs vs))
 sub : ∀ (i : Nat) (g : GGroup) (v : Value), gs[i]? = some g → vs[i]? = some v → GRow M B w g.sels v
 apart : ∀ (i j : Nat) (v v' : Value) (k : Nat), i ≠ j → vs[i]? = some v → vs[j]? = some v' → v.ownBlock = some k → v'.ownBlock ≠ some k
 off : ∀ (i : Nat) (v : Value) (k : Nat), vs[i]? = some v → v.ownBlock = some k → k ≠ ga ∧ mv.ownBlock ≠ some k ∧ (Value.slice oa gs.length cap).ownBlock ≠ some k
 offo : ∀ k, (Value.slice oa gs.length cap).ownBlock = some k → k ≠ ga ∧ mv.ownBlock ≠ some k
 met : MetR B w mv met
 fga : ∀ i, M ga i = none
 fgm : ∀ k, mv.ownBlock = some k → ∀ i, M k i = none
 fo : ∀ k, (Value.slice oa gs.length cap).ownBlock = some k → ∀ i, M k i = none
 fv : ∀ (i : Nat) (v : Value) (k : Nat), vs[i]? = some v → v.ownBlock = some k → ∀ i, M k i = none
theorem GR.at {e : GEnv} {B ga : Nat} {mv : Value} {M : Mem} {w : World} {gs : List GGroup} {met : List Str} {h0 h1 h2 h3 h4 h5 h6 : Value} {oa : Option Addr} {cap : Nat} {vs : List Value} (h : GR e B ga mv M w gs met h0 h1 h2 h3 h4 h5 h6 oa cap vs) {i : Nat} {v : Value} (hv : vs[i]? = some v) : ∃ g, gs[i]? = some g ∧ GRow M B w g.sels v := by
 have hi : i < gs.length := by rw [← h.len]; exact (List.getElem?_eq_some_iff.1 hv).1
 exact ⟨gs[i], List.getElem?_eq_getElem hi, h.sub i _ v (List.getElem?_eq_getElem hi) hv⟩
theorem GR.quiet {e : GEnv} {B ga : Nat} {mv : Value} {M M' : Mem} {w w' : World} {gs : List GGroup} {met : List Str} {h0 h1 h2 h3 h4 h5 h6 : Value} {oa : Option Addr} {cap : Nat} {vs : List Value} (h : GR e B ga mv M w gs met h0 h1 h2 h3 h4 h5 h6 oa cap vs) (q : Quiet M w M' w') (hc : Cons M' w') : GR e B ga mv M' w' gs met h0 h1 h2 h3 h4 h5 h6 oa cap vs := by
 have lga : ga < w.heap.size := (Array.getElem?_eq_some_iff.1 h.row).1
 have lv : ∀ (i : Nat) (v : Value) (k : Nat), vs[i]? = some v → v.ownBlock = some k → k < w.heap.size := by
  intro i v k hv hk
  obtain ⟨g, h1, h2⟩ := h.at hv
  exact (h2.lt k hk).2
 exact ⟨Nat.le_trans h.le q.size, hc, h.bga, h.ne, (q.old ga lga).1.trans h.row, h.rs.mono q.mem (fun _ _ _ h => h), h.rd.mono q.mem (fun _ _ _ h => h), h.re.mono q.mem (fun _ _ _ h => h), h.rt.mono q.mem (fun _ _ _ h => h), h.len,
  own_congr h.own (fun k hk => (q.old k (h.own.lt k hk).2).1), fun i g v hg hv => (h.sub i g v hg hv).congr q.mem (fun k hk => (q.old k (lv i v k hv hk)).1), h.apart, h.off, h.offo, h.met.congr (fun k hk => (q.old k (h.met.lt hk).2).1),
  fun i => ((q.old ga lga).2 i).trans (h.fga i), fun k hk i => ((q.old k (h.met.lt hk).2).2 i).trans (h.fgm k hk i), fun k hk i => ((q.old k (h.own.lt k hk).2).2 i).trans (h.fo k hk i), fun i v k hv hk j => ((q.old k (lv i v k hv hk)).2 j).trans (h.fv i v k hv hk j)⟩
theorem GR.old {e : GEnv} {B ga : Nat} {mv : Value} {M : Mem} {w w2 w' : World} {gs : List GGroup} {met : List Str} {h0 h1 h2 h3 h4 h5 h6 : Value} {g : Nat} {cap : Nat} {vs : List Value} {idx m g2 cap1 cap2 : Nat} {oa2 : Option Addr} {ys : List Value} {G : GGroup} {x : GSel} {c3 c4 c6 : Value}
  (h : GR e B ga mv M w gs met h0 h1 h2 h3 h4 h5 h6 (some ⟨g, 0, none⟩) cap vs) (hw2 : Below w.heap.size w w2) (hG : gs[idx]? = some G) (hv : vs[idx]? = some (.slice oa2 m cap1)) (hm : G.sels.length = m) (hys : SelRow M G.sels ys) (hx : CV M x c3 c4 c6)
  (hF : FTail B w2 g idx (.slice oa2 m cap1) m ys x c3 c4 c6 w' g2 cap2) :
  GR e B ga mv M w' (gs.set idx ⟨G.key, G.sels ++ [x]⟩) met h0 h1 h2 h3 h4 h5 h6 (some ⟨g, 0, none⟩) cap (vs.set idx (.slice (some ⟨g2, 0, none⟩) (m + 1) cap2)) ∧ Below B w w' := by
 have lga : ga < w.heap.size := (Array.getElem?_eq_some_iff.1 h.row).1
 have hgo : (Value.slice (some ⟨g, 0, none⟩) gs.length cap).ownBlock = some g := rfl
 have lg := h.own.lt g hgo
 obtain ⟨hoga, hogm⟩ := h.offo g hgo
 have hil : idx < gs.length := (List.getElem?_eq_some_iff.1 hG).1
 have hivl : idx < vs.length := by rw [h.len]; exact hil
 -- what is not written stays
 have stay : ∀ k, k < w.heap.size → k ≠ g → (Value.slice oa2 m cap1).ownBlock ≠ some k → w'.heap[k]? = w.heap[k]? := by
  intro k hk h1 h2
  exact (hF.old k (Nat.lt_of_lt_of_le hk hw2.size) h1 (fun e => h2 e.symm)).trans (hw2.block k hk)
 have hsz : w.heap.size ≤ w'.heap.size := Nat.le_trans hw2.size hF.size
 have hsvo : ∀ k, (Value.slice oa2 m cap1).ownBlock = some k → k ≠ ga ∧ mv.ownBlock ≠ some k ∧ k ≠ g ∧ B ≤ k ∧ k < w.heap.size := by
  intro k hk
  obtain ⟨a1, a2, a3⟩ := h.off idx _ k hv hk
  obtain ⟨g', _, hr⟩ := h.at hv
  have := hr.lt k hk
  exact ⟨a1, a2, fun e => a3 (by rw [e]; rfl), this.1, this.2⟩
 have hg2 : (g2 ≠ ga ∧ mv.ownBlock ≠ some g2 ∧ g2 ≠ g ∧ B ≤ g2) ∧ (∀ i, M g2 i = none) ∧ ∀ (j : Nat) (v : Value), j ≠ idx → vs[j]? = some v → v.ownBlock ≠ some g2 := by
  rcases hF.new with hn | hn
  ·obtain ⟨a1, a2, a3, a4, _⟩ := hsvo g2 hn
   exact ⟨⟨a1, a2, a3, a4⟩, h.fv idx _ g2 hv hn, fun j v hj hjv => h.apart idx j _ _ g2 (Ne.symm hj) hv hjv hn⟩
  ·have hlt : w.heap.size ≤ g2 := Nat.le_trans hw2.size hn
   have hle := h.le
   refine ⟨⟨by omega, fun hk => by have := (h.met.lt hk).2; omega, by omega, by omega⟩, fun i => cons_lt h.cons hlt i, fun j v hj hjv hk => ?_⟩
   obtain ⟨g', _, hr⟩ := h.at hjv
   have := hr.lt g2 hk
   omega
 obtain ⟨⟨n1, n2, n3, n4⟩, hfree, hother⟩ := hg2
 have hset : ∀ (i : Nat) (v : Value), (vs.set idx (.slice (some ⟨g2, 0, none⟩) (m + 1) cap2))[i]? = some v → (i = idx ∧ v = .slice (some ⟨g2, 0, none⟩) (m + 1) cap2) ∨ (i ≠ idx ∧ vs[i]? = some v) := by
  intro i v hiv
  by_cases e : i = idx
  ·subst e
   rw [List.getElem?_set_self hivl] at hiv
   cases hiv
   exact .inl ⟨rfl, rfl⟩
  ·rw [List.getElem?_set_ne (Ne.symm e)] at hiv
   exact .inr ⟨e, hiv⟩
 have hown : w'.ownsRow B 50 2 (.slice (some ⟨g, 0, none⟩) gs.length cap) gs.length (flatG (zipG (gs.set idx ⟨G.key, G.sels ++ [x]⟩) (vs.set idx (.slice (some ⟨g2, 0, none⟩) (m + 1) cap2)))) := by
  have o2 : w2.ownsRow B 50 2 (.slice (some ⟨g, 0, none⟩) gs.length cap) gs.length (flatG (zipG gs vs)) := own_congr h.own (fun k hk => hw2.block k (h.own.lt k hk).2)
  have o3 := own_setCell o2 (idx * 2 + 1) (.slice (some ⟨g2, 0, none⟩) (m + 1) cap2) (by rw [flatG_len, zipG_len _ _ h.len]; omega)
  rw [flat_set gs vs idx G ⟨G.key, G.sels ++ [x]⟩ undef _ h.len hG rfl]
  exact own_congr o3 (fun k hk => by cases hk; exact hF.row)
 refine ⟨⟨Nat.le_trans h.le hsz, ?_, h.bga, h.ne, ?_, h.rs, h.rd, h.re, h.rt, by simp [h.len], by simpa only [List.length_set] using hown, ?_, ?_, ?_, ?_, ?_, h.fga, h.fgm, ?_, ?_⟩, ?_⟩
 ·refine cons_kept h.cons fun k hk ⟨i, hi⟩ => stay k hk ?_ ?_
  ·rintro rfl; exact hi (h.fo _ hgo i)
  ·intro hk2; exact hi (h.fv idx _ k hv hk2 i)
 ·rw [stay ga lga (Ne.symm hoga) (fun e => (hsvo ga e).1 rfl), List.length_set]; exact h.row
 ·intro i g' v hg' hiv
  rcases hset i v hiv with ⟨rfl, rfl⟩ | ⟨hne, hiv'⟩
  ·rw [List.getElem?_set_self hil] at hg'
   cases hg'
   refine ⟨some ⟨g2, 0, none⟩, cap2, ys ++ xCells x c3 c4 c6, by simp [hm], ?_, hys.snoc hx⟩
   have := hF.own
   simpa [hm] using this
  ·rw [List.getElem?_set_ne (Ne.symm hne)] at hg'
   have hr := h.sub i g' v hg' hiv'
   refine hr.congr (fun _ _ _ h => h) fun k hk => stay k (hr.lt k hk).2 ?_ ?_
   ·rintro rfl; exact (h.off i v _ hiv' hk).2.2 hgo
   ·exact h.apart i idx v _ k hne hiv' hv hk
 ·intro i j v v' k hij hiv hjv hk
  rcases hset i v hiv with ⟨rfl, rfl⟩ | ⟨hne, hiv'⟩
  ·rcases hset j v' hjv with ⟨rfl, rfl⟩ | ⟨hne', hjv'⟩
   ·exact absurd rfl hij
   ·simp only [Value.ownBlock, Option.some.injEq] at hk
    subst hk
    exact hother j v' hne' hjv'
  ·rcases hset j v' hjv with ⟨rfl, rfl⟩ | ⟨hne', hjv'⟩
   ·intro hk'
    simp only [Value.ownBlock, Option.some.injEq] at hk'
    subst hk'
    exact hother i v hne hiv' hk
   ·exact h.apart i j v v' k hij hiv' hjv' hk
 ·intro i v k hiv hk
  rw [List.length_set]
  rcases hset i v hiv with ⟨rfl, rfl⟩ | ⟨hne, hiv'⟩
  ·simp only [Value.ownBlock, Option.some.injEq] at hk ⊢
   subst hk
   exact ⟨n1, n2, fun e => n3 (Option.some.inj e).symm⟩
  ·exact h.off i v k hiv' hk
 ·rw [List.length_set]; exact h.offo
 ·exact h.met.congr (fun k hk => stay k (h.met.lt hk).2 (fun e => hogm (by rw [← e]; exact hk)) (fun e => (hsvo k e).2.1 hk))
 ·rw [List.length_set]; exact h.fo
 ·intro i v k hiv hk
  rcases hset i v hiv with ⟨rfl, rfl⟩ | ⟨hne, hiv'⟩
  ·simp only [Value.ownBlock, Option.some.injEq] at hk
   subst hk
   exact hfree
  ·exact h.fv i v k hiv' hk
 ·refine ⟨hF.os.trans hw2.os, hF.tape.trans hw2.tape, hF.output.trans hw2.output, hsz, fun k hk => stay k (Nat.lt_of_lt_of_le hk h.le) ?_ ?_⟩
  ·have := lg.1; omega
  ·intro e; have := (hsvo k e).2.2.2.1; omega
theorem GR.new {e : GEnv} {B ga : Nat} {mv : Value} {M : Mem} {w w3 : World} {gs : List GGroup} {met : List Str} {h0 h1 h2 h3 h4 h5 h6 : Value} {oa : Option Addr} {cap g cap3 b : Nat} {vs : List Value} {key : Str} {x : GSel} {c3 c4 c6 : Value}
  (h : GR e B ga mv M w gs met h0 h1 h2 h3 h4 h5 h6 oa cap vs) (hx : CV M x c3 c4 c6) (hown : w3.ownsRow B 50 2 (.slice (some ⟨g, 0, none⟩) (gs.length + 1) cap3) (gs.length + 1) (flatG (zipG gs vs) ++ [.string ⟨key.toArray⟩, .slice (some ⟨b, 0, none⟩) 1 1]))
  (hb : w3.ownsRow B 41 7 (.slice (some ⟨b, 0, none⟩) 1 1) 1 (xCells x c3 c4 c6)) (hbn : w.heap.size ≤ b) (hbg : b ≠ g)
  (hat : (Value.slice oa gs.length cap).ownBlock = some g ∨ w.heap.size ≤ g) (hsz : w.heap.size ≤ w3.heap.size) (hos : w3.os = w.os) (htp : w3.tape = w.tape) (hou : w3.output = w.output) (hkeep : ∀ k, k < w.heap.size → some k ≠ (Value.slice oa gs.length cap).ownBlock → w3.heap[k]? = w.heap[k]?) :
  GR e B ga mv M (w3.setCell ⟨ga, 8, none⟩ (.slice (some ⟨g, 0, none⟩) (gs.length + 1) cap3)) (gs ++ [⟨key, [x]⟩]) met h0 h1 h2 h3 h4 h5 h6 (some ⟨g, 0, none⟩) cap3 (vs ++ [.slice (some ⟨b, 0, none⟩) 1 1]) ∧ Below B w (w3.setCell ⟨ga, 8, none⟩ (.slice (some ⟨g, 0, none⟩) (gs.length + 1) cap3)) := by
 have lga : ga < w.heap.size := (Array.getElem?_eq_some_iff.1 h.row).1
 obtain ⟨w', hw'⟩ : ∃ w', w' = w3.setCell ⟨ga, 8, none⟩ (.slice (some ⟨g, 0, none⟩) (gs.length + 1) cap3) := ⟨_, rfl⟩
 have hs : ∀ k, k ≠ ga → w'.heap[k]? = w3.heap[k]? := fun k hk => by rw [hw']; exact Below.heap_setCell _ _ _ _ hk
 have hz : w'.heap.size = w3.heap.size := by rw [hw']; simp [World.setCell]
 have stay : ∀ k, k < w.heap.size → k ≠ ga → (Value.slice oa gs.length cap).ownBlock ≠ some k → w'.heap[k]? = w.heap[k]? := fun k hk h1 h2 => (hs k h1).trans (hkeep k hk (fun e => h2 e.symm))
 have hga3 : w3.heap[ga]? = w.heap[ga]? := hkeep ga lga (fun e => (h.offo ga e.symm).1 rfl)
 have hle := h.le
 have hfr : ∀ k, w.heap.size ≤ k → k ≠ ga ∧ mv.ownBlock ≠ some k ∧ B ≤ k ∧ (∀ i, M k i = none) ∧ ∀ (i : Nat) (v : Value), vs[i]? = some v → v.ownBlock ≠ some k := by
  intro k hn
  refine ⟨by omega, fun hk => by have := (h.met.lt hk).2; omega, by omega, fun i => cons_lt h.cons hn i, fun i v hv hk => ?_⟩
  obtain ⟨g', _, hr⟩ := h.at hv
  have := hr.lt k hk
  omega
 have hgg : g ≠ ga ∧ mv.ownBlock ≠ some g ∧ B ≤ g ∧ (∀ i, M g i = none) ∧ ∀ (i : Nat) (v : Value), vs[i]? = some v → v.ownBlock ≠ some g := by
  rcases hat with hn | hn
  ·have := h.offo g hn
   exact ⟨this.1, this.2, (h.own.lt g hn).1, h.fo g hn, fun i v hv hk => (h.off i v g hv hk).2.2 hn⟩
  ·exact hfr g hn
 obtain ⟨q1, q2, q3, q4, q5⟩ := hgg
 obtain ⟨p1, p2, p3, p4, p5⟩ := hfr b hbn
 have hlen : (gs ++ [(⟨key, [x]⟩ : GGroup)]).length = gs.length + 1 := by simp
 have happ : ∀ (i : Nat) (v : Value), (vs ++ [Value.slice (some ⟨b, 0, none⟩) 1 1])[i]? = some v → (i = gs.length ∧ v = .slice (some ⟨b, 0, none⟩) 1 1) ∨ (i < gs.length ∧ vs[i]? = some v) := by
  intro i v hv
  rcases Nat.lt_or_ge i vs.length with hi | hi
  ·rw [List.getElem?_append_left hi] at hv
   exact .inr ⟨by rw [← h.len]; exact hi, hv⟩
  ·rw [List.getElem?_append_right hi] at hv
   have h0 : i - vs.length = 0 := by
    rcases Nat.eq_zero_or_pos (i - vs.length) with h0 | h0
    ·exact h0
    ·rw [List.getElem?_eq_none (by simp; omega)] at hv; cases hv
   rw [h0] at hv
   cases hv
   exact .inl ⟨by have := h.len; omega, rfl⟩
 rw [← hw']
 refine ⟨⟨by rw [hz]; exact Nat.le_trans h.le hsz, ?_, h.bga, h.ne, ?_, h.rs, h.rd, h.re, h.rt, by simp [h.len], ?_, ?_, ?_, ?_, ?_, ?_, h.fga, h.fgm, ?_, ?_⟩, ?_⟩
 ·refine cons_kept h.cons fun k hk ⟨i, hi⟩ => stay k hk ?_ ?_
  ·rintro rfl; exact hi (h.fga i)
  ·intro hk2; exact hi (h.fo k hk2 i)
 ·rw [hlen, hw']
  simp [World.setCell, Array.getElem?_modify, hga3, h.row]
 ·rw [hlen, zipG_app _ _ _ _ h.len, flatG_app]
  refine own_congr hown fun k hk => ?_
  cases hk
  exact hs g q1
 ·intro i g' v hg' hv
  rcases happ i v hv with ⟨rfl, rfl⟩ | ⟨hi, hv'⟩
  ·rw [List.getElem?_append_right (Nat.le_refl _), Nat.sub_self] at hg'
   cases hg'
   refine ⟨some ⟨b, 0, none⟩, 1, xCells x c3 c4 c6, rfl, own_congr hb (fun k hk => by cases hk; exact hs b p1), ?_⟩
   have := SelRow.nil (M := M)
   exact this.snoc hx
  ·rw [List.getElem?_append_left hi] at hg'
   have hr := h.sub i g' v hg' hv'
   exact hr.congr (fun _ _ _ h => h) fun k hk => stay k (hr.lt k hk).2 (h.off i v k hv' hk).1 (h.off i v k hv' hk).2.2
 ·intro i j v v' k hij hv hv' hk
  rcases happ i v hv with ⟨rfl, rfl⟩ | ⟨hi, hv1⟩
  ·cases hk
   rcases happ j v' hv' with ⟨rfl, rfl⟩ | ⟨hj, hv2⟩
   ·exact absurd rfl hij
   ·exact p5 j v' hv2
  ·rcases happ j v' hv' with ⟨rfl, rfl⟩ | ⟨hj, hv2⟩
   ·intro hk2
    cases hk2
    exact p5 i v hv1 hk
   ·exact h.apart i j v v' k hij hv1 hv2 hk
 ·intro i v k hv hk
  rcases happ i v hv with ⟨rfl, rfl⟩ | ⟨hi, hv1⟩
  ·cases hk
   exact ⟨p1, p2, fun e' => hbg (by cases e'; rfl)⟩
  ·obtain ⟨a1, a2, a3⟩ := h.off i v k hv1 hk
   refine ⟨a1, a2, fun e' => ?_⟩
   simp only [Value.ownBlock, Option.some.injEq] at e'
   subst e'
   exact q5 i v hv1 hk
 ·intro k hk
  simp only [Value.ownBlock, Option.some.injEq] at hk
  subst hk
  exact ⟨q1, q2⟩
 ·exact h.met.congr (fun k hk => stay k (h.met.lt hk).2 (h.ne k hk) (fun e' => (h.offo k e').2 hk))
 ·intro k hk
  simp only [Value.ownBlock, Option.some.injEq] at hk
  subst hk
  exact q4
 ·intro i v k hv hk
  rcases happ i v hv with ⟨rfl, rfl⟩ | ⟨hi, hv1⟩
  ·cases hk
   exact p4
  ·exact h.fv i v k hv1 hk
 ·refine ⟨by rw [hw']; exact hos, by rw [hw']; exact htp, by rw [hw']; exact hou, by rw [hz]; exact hsz, fun k hk => stay k (Nat.lt_of_lt_of_le hk h.le) ?_ ?_⟩
  ·have := h.bga; omega
  ·intro e'
   have := (h.own.lt k e').1
   omega
theorem GR.meet {e : GEnv} {B ga : Nat} {mv : Value} {M : Mem} {w w3 : World} {gs : List GGroup} {met : List Str} {h0 h1 h2 h3 h4 h5 h6 : Value} {oa : Option Addr} {cap g cap3 : Nat} {vs : List Value} {s : Str}
  (h : GR e B ga mv M w gs met h0 h1 h2 h3 h4 h5 h6 oa cap vs) (hown : w3.ownsRow B 9 1 (.slice (some ⟨g, 0, none⟩) (met.length + 1) cap3) (met.length + 1) (met.map strV ++ [strV s]))
  (hat : mv.ownBlock = some g ∨ w.heap.size ≤ g) (hsz : w.heap.size ≤ w3.heap.size) (hos : w3.os = w.os) (htp : w3.tape = w.tape) (hou : w3.output = w.output) (hkeep : ∀ k, k < w.heap.size → some k ≠ mv.ownBlock → w3.heap[k]? = w.heap[k]?) :
  GR e B ga (.slice (some ⟨g, 0, none⟩) (met.length + 1) cap3) M (w3.setCell ⟨ga, 7, none⟩ (.slice (some ⟨g, 0, none⟩) (met.length + 1) cap3)) gs (met ++ [s]) h0 h1 h2 h3 h4 h5 h6 oa cap vs ∧ Below B w (w3.setCell ⟨ga, 7, none⟩ (.slice (some ⟨g, 0, none⟩) (met.length + 1) cap3)) := by
 have lga : ga < w.heap.size := (Array.getElem?_eq_some_iff.1 h.row).1
 obtain ⟨w', hw'⟩ : ∃ w', w' = w3.setCell ⟨ga, 7, none⟩ (.slice (some ⟨g, 0, none⟩) (met.length + 1) cap3) := ⟨_, rfl⟩
 have hs : ∀ k, k ≠ ga → w'.heap[k]? = w3.heap[k]? := fun k hk => by rw [hw']; exact Below.heap_setCell _ _ _ _ hk
 have hz : w'.heap.size = w3.heap.size := by rw [hw']; simp [World.setCell]
 have stay : ∀ k, k < w.heap.size → k ≠ ga → mv.ownBlock ≠ some k → w'.heap[k]? = w.heap[k]? := fun k hk h1 h2 => (hs k h1).trans (hkeep k hk (fun e => h2 e.symm))
 have hga3 : w3.heap[ga]? = w.heap[ga]? := hkeep ga lga (fun e => h.ne ga e.symm rfl)
 have hle := h.le
 have hgg : g ≠ ga ∧ (Value.slice oa gs.length cap).ownBlock ≠ some g ∧ B ≤ g ∧ (∀ i, M g i = none) ∧ ∀ (i : Nat) (v : Value), vs[i]? = some v → v.ownBlock ≠ some g := by
  rcases hat with hn | hn
  ·exact ⟨h.ne g hn, fun hk => (h.offo g hk).2 hn, (h.met.lt hn).1, h.fgm g hn, fun i v hv hk => (h.off i v g hv hk).2.1 hn⟩
  ·refine ⟨by omega, fun hk => by have := (h.own.lt g hk).2; omega, by omega, fun i => cons_lt h.cons hn i, fun i v hv hk => ?_⟩
   obtain ⟨g', _, hr⟩ := h.at hv
   have := hr.lt g hk
   omega
 obtain ⟨q1, q2, q3, q4, q5⟩ := hgg
 have hlen : (met ++ [s]).length = met.length + 1 := by simp
 rw [← hw']
 refine ⟨⟨by rw [hz]; exact Nat.le_trans h.le hsz, ?_, h.bga, fun k hk => by cases hk; exact q1, ?_, h.rs, h.rd, h.re, h.rt, h.len, ?_, ?_, h.apart, ?_, ?_, ⟨some ⟨g, 0, none⟩, cap3, by rw [hlen], ?_⟩, h.fga, fun k hk => by cases hk; exact q4, h.fo, h.fv⟩, ?_⟩
 ·refine cons_kept h.cons fun k hk ⟨i, hi⟩ => stay k hk ?_ ?_
  ·rintro rfl; exact hi (h.fga i)
  ·intro hk2; exact hi (h.fgm k hk2 i)
 ·rw [hw']
  simp [World.setCell, Array.getElem?_modify, hga3, h.row]
 ·exact own_congr h.own fun k hk => stay k (h.own.lt k hk).2 (h.offo k hk).1 (h.offo k hk).2
 ·intro i g' v hg' hv
  have hr := h.sub i g' v hg' hv
  exact hr.congr (fun _ _ _ h => h) fun k hk => stay k (hr.lt k hk).2 (h.off i v k hv hk).1 (h.off i v k hv hk).2.1
 ·intro i v k hv hk
  obtain ⟨a1, a2, a3⟩ := h.off i v k hv hk
  exact ⟨a1, fun e' => by cases e'; exact q5 i v hv hk, a3⟩
 ·intro k hk
  exact ⟨(h.offo k hk).1, fun e' => by cases e'; exact q2 hk⟩
 ·rw [hlen, List.map_append]
  refine own_congr hown fun k hk => ?_
  cases hk
  exact hs g q1
 ·refine ⟨by rw [hw']; exact hos, by rw [hw']; exact htp, by rw [hw']; exact hou, by rw [hz]; exact hsz, fun k hk => stay k (Nat.lt_of_lt_of_le hk h.le) ?_ ?_⟩
  ·have := h.bga; omega
  ·intro e'
   have := (h.met.lt e').1
   omega
def GRh (e : GEnv) (B ga : Nat) (M : Mem) (w : World) (st : GSt) : Prop :=
 (∀ g ∈ st.1, g.sels ≠ []) ∧ ∃ mv h0 h1 h2 h3 h4 h5 h6 oa cap vs, GR e B ga mv M w st.1 st.2 h0 h1 h2 h3 h4 h5 h6 oa cap vs
theorem GR.heads {e : GEnv} {B ga : Nat} {mv : Value} {M : Mem} {w : World} {gs : List GGroup} {met : List Str} {h0 h1 h2 h3 h4 h5 h6 : Value} {oa : Option Addr} {cap : Nat} {vs : List Value} (h : GR e B ga mv M w gs met h0 h1 h2 h3 h4 h5 h6 oa cap vs) :
  (∃ a l k, h0 = .slice a l k) ∧ h1 = .string ⟨e.s.query.toArray⟩ ∧ h2 = .string ⟨e.s.mutation.toArray⟩ ∧ (∃ a l k, h3 = .slice a l k) ∧ (∃ a l k, h4 = .slice a l k) ∧ (∃ a l k, h5 = .slice a l k) ∧ h6 = .string ⟨e.typ.toArray⟩ ∧ ∃ om capm, mv = .slice om met.length capm := by
 have h1 := rv_aggL' h.rs
 have h2 := rv_aggL' h.rd
 cases h1 with | cons q0 h1 =>
 cases h1 with | cons q1 h1 =>
 cases h1 with | cons q2 h1 =>
 cases h2 with | cons r0 h2 =>
 cases h2 with | cons r1 h2 =>
 have ht := h.rt
 obtain ⟨om, capm, hm, _⟩ := h.met
 refine ⟨isSlice q0, ?_, ?_, isSlice r0, isSlice r1, isSlice h.re, ?_, om, capm, hm⟩
 ·cases q1; rfl
 ·cases q2; rfl
 ·cases ht; rfl
theorem GR.cells {e : GEnv} {B ga : Nat} {mv : Value} {M : Mem} {w : World} {gs : List GGroup} {met : List Str} {h0 h1 h2 h3 h4 h5 h6 : Value} {oa : Option Addr} {cap : Nat} {vs : List Value} (h : GR e B ga mv M w gs met h0 h1 h2 h3 h4 h5 h6 oa cap vs) :
  w.cell? ⟨ga, 0, none⟩ = some h0 ∧ w.cell? ⟨ga, 1, none⟩ = some h1 ∧ w.cell? ⟨ga, 2, none⟩ = some h2 ∧ w.cell? ⟨ga, 3, none⟩ = some h3 ∧ w.cell? ⟨ga, 4, none⟩ = some h4 ∧ w.cell? ⟨ga, 5, none⟩ = some h5 ∧ w.cell? ⟨ga, 6, none⟩ = some h6 ∧ w.cell? ⟨ga, 7, none⟩ = some mv ∧ w.cell? ⟨ga, 8, none⟩ = some (.slice oa gs.length cap) ∧ ga < w.heap.size := by
 have hr := h.row
 refine ⟨?_, ?_, ?_, ?_, ?_, ?_, ?_, ?_, ?_, (Array.getElem?_eq_some_iff.1 hr).1⟩ <;> (rw [cell_of_row w ga _ _ _ _ hr]; rfl)
open Go Go.Ev
theorem rFrag_ok (d : GDoc) (n : Str) (hl : Sm d.frags) : seineref13_Frag d n = some (gFrag d n) := by
 have key := loop_find (b := seineref13_Frag_l1T d n) d.frags (fun m => if m.name == n then some (Sum.inr (m.name, m.on_, m.dirs, m.sels)) else none) (.inl ()) hl
  (by simp [seineref13_Frag_l1T])
  (by
   intro k x hm e1 e2 e3
   simp only [seineref13_Frag_l1T, e1, cnd_t, e2, bnd_s, e3]
   cases x.name == n <;> rfl)
 have hf := find_some d.frags (fun m => m.name == n) (fun m => (Sum.inr (m.name, m.on_, m.dirs, m.sels) : Unit ⊕ (Str × Str × (List GDir) × (List GSel))))
 rw [hf] at key
 unfold gFrag
 cases hh : d.frags.find? (fun m => m.name == n) with
 | none =>
  rw [hh] at key
  exact seineref13_Frag_run (by simp only [seineref13_Frag_B, key, bnd_s]; rfl)
 | some m =>
  rw [hh] at key
  exact seineref13_Frag_run (by simp only [seineref13_Frag_B, key, bnd_s]; rfl)
theorem rApplies_ok (s : GSchema) (typ on0 : Str) (h : SOk s) : seineref23_Applies s typ on0 = some (gApplies s typ on0) := by
 apply seineref23_Applies_run
 unfold seineref23_Applies_B gApplies
 cases h1 : on0 == ([] : Str)
 ·cases h2 : on0 == typ
  ·have hl := possD_len s on0 h
   rw [gPoss_eq] at hl
   simp only [cnd, seineref9_Possible_ok s on0 h, gPoss_eq, bnd, seineref1_Has_ok (gPoss s on0) typ (show (gPoss s on0).length < _ by omega), Bool.false_or]
  ·rfl
 ·rfl
theorem rGet_ok (n : Str) (l : List GMember) (hl : Sm l) : ∃ b, seineref1_Get n l = some (gGet n l, b) := by
 have key := loop_find (b := seineref1_Get_l1T n l) l (fun m => if m.name == n then some (Sum.inr (m.v.kind, m.v.n, m.v.s, m.v.l, m.v.m)) else none) (.inl ()) hl
  (by simp [seineref1_Get_l1T])
  (by
   intro k x hm e1 e2 e3
   simp only [seineref1_Get_l1T, e1, cnd_t, e2, bnd_s, e3]
   cases x.name == n <;> rfl)
 have hf := find_some l (fun m => m.name == n) (fun m => (Sum.inr (m.v.kind, m.v.n, m.v.s, m.v.l, m.v.m) : Unit ⊕ (Int × Int × Str × (List GValue) × (List GMember))))
 rw [hf] at key
 unfold gGet
 cases hh : l.find? (fun m => m.name == n) with
 | none =>
  rw [hh] at key
  exact ⟨false, seineref1_Get_run (by simp only [seineref1_Get_B, key, bnd_s]; rfl)⟩
 | some m =>
  rw [hh] at key
  refine ⟨true, seineref1_Get_run (by simp only [seineref1_Get_B, key, bnd_s]; rw [show m.v = ⟨m.v.kind, m.v.n, m.v.s, m.v.l, m.v.m⟩ by cases m.v; rfl]; rfl)⟩
theorem rYes_ok (env : List GMember) (d : GDir) (he : Sm env) (hd : Sm d.args) : seineref23_truth env d = some (gYes env d) := by
 apply seineref23_truth_run
 obtain ⟨b1, h1⟩ := rGet_ok [105, 102] d.args hd
 unfold seineref23_truth_B gYes
 simp only [h1, bnd_s]
 cases h8 : (gGet [105, 102] d.args).kind == 8
 ·simp only [cnd_f, cond_false]
  cases (gGet [105, 102] d.args).kind == 1 <;> rfl
 ·obtain ⟨b2, h2⟩ := rGet_ok (gGet [105, 102] d.args).s env he
  simp only [cnd_t, cond_true, h2, bnd_s]
  cases (gGet (gGet [105, 102] d.args).s env).kind == 1 <;> rfl
def holdsL (env : List GMember) : Bool → Bool → List GDir → Bool
 | _, _, [] => true
 | sk, inc, d :: l =>
  bif d.name == [115, 107, 105, 112] && !sk && gYes env d then false
  else bif d.name == [105, 110, 99, 108, 117, 100, 101] && !inc && !gYes env d then false
  else holdsL env (sk || d.name == [115, 107, 105, 112]) (inc || d.name == [105, 110, 99, 108, 117, 100, 101]) l
theorem gFirst_cons (env : List GMember) (n : Str) (d : GDir) (l : List GDir) : gFirst env n (d :: l) = bif d.name == n then (true, gYes env d) else gFirst env n l := by
 unfold gFirst
 rw [List.find?_cons]
 cases d.name == n <;> rfl
theorem holdsL_eq (env : List GMember) : ∀ (l : List GDir) (sk inc : Bool), holdsL env sk inc l = ((sk || !(gFirst env [115, 107, 105, 112] l).2) && (inc || (!(gFirst env [105, 110, 99, 108, 117, 100, 101] l).1 || (gFirst env [105, 110, 99, 108, 117, 100, 101] l).2)))
 | [], sk, inc => by cases sk <;> cases inc <;> rfl
 | d :: l, sk, inc => by
  have ih := holdsL_eq env l
  simp only [holdsL, ih, gFirst_cons]
  generalize gFirst env [115, 107, 105, 112] l = p
  generalize gFirst env [105, 110, 99, 108, 117, 100, 101] l = q
  obtain ⟨p1, p2⟩ := p
  obtain ⟨q1, q2⟩ := q
  cases h1 : d.name == [115, 107, 105, 112]
  ·cases h2 : d.name == [105, 110, 99, 108, 117, 100, 101] <;> cases gYes env d <;> cases sk <;> cases inc <;> cases p2 <;> cases q1 <;> cases q2 <;> rfl
  ·have h2 : (d.name == [105, 110, 99, 108, 117, 100, 101]) = false := by rw [eq_of_beq h1]; rfl
   rw [h2]
   cases gYes env d <;> cases sk <;> cases inc <;> cases p2 <;> cases q1 <;> cases q2 <;> rfl
theorem holdsL_ok (env : List GMember) (l : List GDir) : holdsL env false false l = gHolds env l := by
 rw [holdsL_eq]
 unfold gHolds
 simp
theorem rHolds_ok (env : List GMember) (l : List GDir) (he : Sm env) (hl : Sm l) (hd : ∀ d ∈ l, Sm d.args) : seineref23_Holds env l = some (gHolds env l) := by
 apply seineref23_Holds_run
 have key := loop_list (b := seineref23_Holds_l1T env l) l (fun k (a : Bool × Bool) => (a.1, a.2, (k : Int))) (fun r a => (bif holdsL env a.1 a.2 r then Sum.inl () else Sum.inr () : Unit ⊕ Unit)) (fun _ _ => True) hl
  (by intro a _; simp [seineref23_Holds_l1T, holdsL])
  (by
   intro k x r a hm hk hdr h1 h2 h3 _
   obtain ⟨sk, inc⟩ := a
   have hy := rYes_ok env x he (hd x hm)
   simp only [seineref23_Holds_l1T, h1, cnd_t, h2, bnd_s, h3, hy, holdsL]
   cases q1 : x.name == [115, 107, 105, 112]
   ·cases q2 : x.name == [105, 110, 99, 108, 117, 100, 101]
    ·simp only [cnd_f, Bool.false_and, cond_false, Bool.or_false]
     exact .inr ⟨(sk, inc), rfl, trivial, rfl⟩
    ·cases inc
     ·cases gYes env x
      ·exact .inl rfl
      ·simp only [cnd_t, cnd_f, Bool.false_and, cond_false, Bool.or_false, Bool.not_false, Bool.not_true, Bool.and_false, Bool.or_true]
       exact .inr ⟨(sk, true), rfl, trivial, rfl⟩
     ·simp only [cnd_t, cnd_f, Bool.false_and, cond_false, Bool.or_false, Bool.not_true, Bool.and_false, Bool.or_true, Bool.true_or]
      exact .inr ⟨(sk, true), rfl, trivial, rfl⟩
   ·have q2 : (x.name == [105, 110, 99, 108, 117, 100, 101]) = false := by rw [eq_of_beq q1]; rfl
    rw [q2]
    cases sk
    ·cases gYes env x
     ·simp only [cnd_t, cnd_f, Bool.not_false, Bool.and_false, Bool.false_and, cond_false, Bool.false_or, Bool.or_false, Bool.or_true]
      exact .inr ⟨(true, inc), rfl, trivial, rfl⟩
     ·exact .inl rfl
    ·simp only [cnd_f, Bool.not_true, Bool.and_false, Bool.false_and, cond_false, Bool.true_or, Bool.or_false]
     exact .inr ⟨(true, inc), rfl, trivial, rfl⟩) (s := (false, false, 0)) (a := (false, false)) rfl trivial
 simp only [seineref23_Holds_B, key, bnd_s, holdsL_ok]
 cases gHolds env l <;> rfl
def stepR (e : GEnv) (rec : List GSel → GSt → Option GSt) (x : GSel) (st : GSt) : Option GSt :=
 bif gHolds e.env x.dirs then
 bif x.kind == 0 then some (putG st.1 (gKey x) x, st.2)
 else bif x.kind == 2 then
 bif gApplies e.s e.typ x.on_ then rec x.sels st else some st
 else bif x.kind == 1 then
 bif st.2.contains x.name || !(gFrag e.d x.name).2 then some st
 else bif gApplies e.s e.typ (gFrag e.d x.name).1.on_ then rec (gFrag e.d x.name).1.sels (st.1, st.2 ++ [x.name])
 else some (st.1, st.2 ++ [x.name])
 else some st
 else some st
def thrR (e : GEnv) : Nat → List GSel → GSt → Option GSt
 | 0, _, _ => none
 | _ + 1, [], st => some st
 | n + 1, x :: l, st => bnd (stepR e (thrR e n) x st) fun st => thrR e n l st
def MetRel (e : GEnv) (a b : List Str) : Prop := ∀ n, (gFrag e.d n).2 = true → a.contains n = b.contains n
theorem MetRel.app {e : GEnv} {a b : List Str} (h : MetRel e a b) (n : Str) : MetRel e (a ++ [n]) (b ++ [n]) := fun m hm => by rw [contains_app, contains_app, h m hm]
theorem MetRel.skip {e : GEnv} {a b : List Str} (h : MetRel e a b) {n : Str} (hn : (gFrag e.d n).2 = false) : MetRel e (a ++ [n]) b := fun m hm => by
 rw [contains_app, h m hm]
 have : (m == n) = false := by
  rw [Bool.eq_false_iff]
  intro hb
  rw [eq_of_beq hb] at hm
  rw [hm] at hn; cases hn
 rw [this, Bool.or_false]
theorem thr_R (e : GEnv) : ∀ (n : Nat) (l : List GSel) (gs : List GGroup) (a b : List Str), MetRel e a b → ∀ (gs' : List GGroup) (a' : List Str), thr e n l (gs, a) = some (gs', a') → ∃ b', thrR e n l (gs, b) = some (gs', b') ∧ MetRel e a' b'
 | 0, l, gs, a, b, _, gs', a', h => by simp [thr] at h
 | n + 1, [], gs, a, b, hr, gs', a', h => by simp only [thr, Option.some.injEq] at h; cases h; exact ⟨b, rfl, hr⟩
 | n + 1, x :: l, gs, a, b, hr, gs', a', h => by
  simp only [thr] at h
  obtain ⟨⟨g1, a1⟩, h1, h2⟩ := Ev.bnd_some h
  have step : ∃ b1, stepR e (thrR e n) x (gs, b) = some (g1, b1) ∧ MetRel e a1 b1 := by
   unfold stepG at h1
   unfold stepR
   cases q1 : gHolds e.env x.dirs <;> rw [q1] at h1
   ·cases h1; exact ⟨b, rfl, hr⟩
   simp only [cond_true] at h1 ⊢
   cases q2 : x.kind == 0 <;> rw [q2] at h1
   ·simp only [cond_false] at h1 ⊢
    cases q3 : x.kind == 1 <;> rw [q3] at h1
    ·simp only [cond_false] at h1 ⊢
     cases q4 : x.kind == 2 <;> rw [q4] at h1
     ·cases h1; exact ⟨b, rfl, hr⟩
     ·simp only [cond_true] at h1 ⊢
      cases q5 : gApplies e.s e.typ x.on_ <;> rw [q5] at h1
      ·cases h1; exact ⟨b, rfl, hr⟩
      ·exact thr_R e n _ _ _ _ hr _ _ h1
    ·have q4 : (x.kind == 2) = false := by rw [eq_of_beq q3]; rfl
     simp only [cond_true, q4, cond_false] at h1 ⊢
     cases q6 : (gFrag e.d x.name).2 <;> rw [q6] at h1
     ·simp only [Bool.false_and, cond_false, Bool.not_false, Bool.or_true, cond_true] at h1 ⊢
      cases q7 : a.contains x.name <;> rw [q7] at h1
      ·cases h1; exact ⟨b, rfl, hr.skip q6⟩
      ·cases h1; exact ⟨b, rfl, hr⟩
     ·simp only [Bool.true_and, Bool.not_true, Bool.or_false, ← hr x.name q6] at h1 ⊢
      cases q7 : a.contains x.name <;> rw [q7] at h1
      ·simp only [cond_false] at h1 ⊢
       cases q5 : gApplies e.s e.typ (gFrag e.d x.name).1.on_ <;> rw [q5] at h1
       ·cases h1; exact ⟨_, rfl, hr.app _⟩
       ·exact thr_R e n _ _ _ _ (hr.app _) _ _ h1
      ·cases h1; exact ⟨b, rfl, hr⟩
   ·cases h1; exact ⟨b, rfl, hr⟩
  obtain ⟨b1, h3, h4⟩ := step
  obtain ⟨b', h5, h6⟩ := thr_R e n l _ _ _ h4 _ _ h2
  exact ⟨b', by simp only [thrR, h3, bnd]; exact h5, h6⟩
theorem stepR_mono {e : GEnv} {r r' : List GSel → GSt → Option GSt} (h : ∀ l st s, r l st = some s → r' l st = some s) {x : GSel} {st s : GSt} (hs : stepR e r x st = some s) : stepR e r' x st = some s := by
 unfold stepR at hs ⊢
 cases h1 : gHolds e.env x.dirs <;> rw [h1] at hs
 ·exact hs
 cases h2 : x.kind == 0 <;> rw [h2] at hs
 ·cases h3 : x.kind == 2 <;> rw [h3] at hs
  ·cases h4 : x.kind == 1 <;> rw [h4] at hs
   ·exact hs
   ·cases h6 : st.2.contains x.name || !(gFrag e.d x.name).2 <;> rw [h6] at hs
    ·cases h5 : gApplies e.s e.typ (gFrag e.d x.name).1.on_ <;> rw [h5] at hs
     ·exact hs
     ·exact h _ _ _ hs
    ·exact hs
  ·cases h5 : gApplies e.s e.typ x.on_ <;> rw [h5] at hs
   ·exact hs
   ·exact h _ _ _ hs
 ·exact hs
theorem thrR_succ (e : GEnv) : ∀ (n : Nat) (l : List GSel) (st s : GSt), thrR e n l st = some s → thrR e (n + 1) l st = some s
 | 0, l, st, s, h => by simp [thrR] at h
 | n + 1, [], st, s, h => by simpa [thrR] using h
 | n + 1, x :: l, st, s, h => by
  simp only [thrR] at h
  obtain ⟨s1, h1, h2⟩ := Ev.bnd_some h
  have e1 := stepR_mono (thrR_succ e n) h1
  show bnd (stepR e (thrR e (n + 1)) x st) (fun st => thrR e (n + 1) l st) = some s
  rw [e1]
  exact thrR_succ e n l s1 s h2
theorem thrR_le (e : GEnv) {n m : Nat} (h : n ≤ m) {l : List GSel} {st s : GSt} (ht : thrR e n l st = some s) : thrR e m l st = some s := by
 induction h with
 | refl => exact ht
 | step _ ih => exact thrR_succ e _ _ _ _ ih
open Go Go.Ev Go.RowKit
set_option maxRecDepth 100000 in
theorem rfrag_call (d : GDoc) (n : Str) (hl : Sm d.frags) {M : Mem} {w : World} (h3 h4 : Value) (hc : Cons M w) (hd : Rv M noB (.agg [(.slice (List.map encOp d.ops) [] false), (.slice (List.map encFrag d.frags) [] false)]) (.agg #[h3, h4])) :
  Calls Try.prog 72 #[.agg #[h3, h4], .string ⟨n.toArray⟩] w fun e w' => ∃ a2 l2 p2 a3 l3 p3 M', e = .returned (.tuple #[.agg #[.string ⟨(gFrag d n).1.name.toArray⟩, .string ⟨(gFrag d n).1.on_.toArray⟩, .slice a2 l2 p2, .slice a3 l3 p3], .bool (gFrag d n).2]) ∧ Rv M' noB (.slice (List.map encSel (gFrag d n).1.sels) [] false) (.slice a3 l3 p3) ∧ Cons M' w' ∧ Quiet M w M' w' := by
 have key := quiet_call pokX xok (seineref13_Frag_spec (rFrag_ok d n hl)) (M := M) (w := w) (vals := #[.agg #[h3, h4], .string ⟨n.toArray⟩]) rfl hc ⟨rfl, fun i p hp => by
  match i, hp with
  | 0, hp => cases hp; exact ⟨hd, noOwn_of_plain rfl⟩
  | 1, hp => cases hp; exact ⟨.str n, noOwn_of_plain rfl⟩
  | i + 2, hp => simp at hp⟩
 refine key.mono ?_
 rintro e w' ⟨v, M', rfl, hv, hc', hq⟩
 obtain ⟨l, rfl, hl⟩ := rv_tuple hv
 cases hl with | cons r0 hl =>
 cases hl with | cons r1 hl =>
 cases hl
 cases r1
 obtain ⟨l, rfl, hl⟩ := rv_agg (cs := [.str (gFrag d n).1.name, .str (gFrag d n).1.on_, .slice (List.map encDir (gFrag d n).1.dirs) [] false, .slice (List.map encSel (gFrag d n).1.sels) [] false]) r0
 cases hl with | cons q0 hl =>
 cases hl with | cons q1 hl =>
 cases hl with | cons q2 hl =>
 cases hl with | cons q3 hl =>
 cases hl
 cases q0
 cases q1
 obtain ⟨a2, l2, p2, rfl⟩ := isSlice q2
 obtain ⟨a3, l3, p3, rfl⟩ := isSlice q3
 exact ⟨_, _, _, _, _, _, M', rfl, q3, hc', hq⟩
set_option maxRecDepth 100000 in
theorem rapplies_call (s : GSchema) (typ on0 : Str) (hs : SOk s) {M : Mem} {w : World} (h0 h1 h2 : Value) (hc : Cons M w) (hr : Rv M noB (.agg [(.slice (List.map encDef s.defs) [] false), (.str s.query), (.str s.mutation)]) (.agg #[h0, h1, h2])) :
  Calls Try.prog 26 #[.agg #[h0, h1, h2], .string ⟨typ.toArray⟩, .string ⟨on0.toArray⟩] w fun e w' => ∃ M', e = .returned (.bool (gApplies s typ on0)) ∧ Cons M' w' ∧ Quiet M w M' w' := by
 have key := quiet_call pokX xok (seineref23_Applies_spec (rApplies_ok s typ on0 hs)) (M := M) (w := w) (vals := #[.agg #[h0, h1, h2], .string ⟨typ.toArray⟩, .string ⟨on0.toArray⟩]) rfl hc ⟨rfl, fun i p hp => by
  match i, hp with
  | 0, hp => cases hp; exact ⟨hr, noOwn_of_plain rfl⟩
  | 1, hp => cases hp; exact ⟨.str typ, noOwn_of_plain rfl⟩
  | 2, hp => cases hp; exact ⟨.str on0, noOwn_of_plain rfl⟩
  | i + 3, hp => simp at hp⟩
 refine key.mono ?_
 rintro e w' ⟨v, M', rfl, hv, hc', hq⟩
 cases hv
 exact ⟨M', rfl, hc', hq⟩
set_option maxRecDepth 100000 in
theorem rholds_call (env : List GMember) (l : List GDir) (he : Sm env) (hl : Sm l) (hd : ∀ d ∈ l, Sm d.args) {M : Mem} {w : World} (h5 c4 : Value) (hc : Cons M w) (h5r : Rv M noB (.slice (List.map encMember env) [] false) h5) (h4r : Rv M noB (.slice (List.map encDir l) [] false) c4) :
  Calls Try.prog 16 #[h5, c4] w fun e w' => ∃ M', e = .returned (.bool (gHolds env l)) ∧ Cons M' w' ∧ Quiet M w M' w' := by
 have key := quiet_call pokX xok (seineref23_Holds_spec (rHolds_ok env l he hl hd)) (M := M) (w := w) (vals := #[h5, c4]) rfl hc ⟨rfl, fun i p hp => by
  match i, hp with
  | 0, hp => cases hp; exact ⟨h5r, noOwn_of_plain rfl⟩
  | 1, hp => cases hp; exact ⟨h4r, noOwn_of_plain rfl⟩
  | i + 2, hp => simp at hp⟩
 refine key.mono ?_
 rintro e w' ⟨v, M', rfl, hv, hc', hq⟩
 cases hv
 exact ⟨M', rfl, hc', hq⟩
set_option maxRecDepth 100000 in
theorem rhas_call {B : Nat} {M : Mem} {w : World} {mv : Value} {met : List Str} (h : MetR B w mv met) (hc : Cons M w) (hl : Sm met) (n : Str) :
  Calls Try.prog 48 #[mv, .string ⟨n.toArray⟩] w fun e w' => e = .returned (.bool (met.contains n)) ∧ Below w.heap.size w w' := by
 obtain ⟨om, capm, rfl, ho⟩ := h
 have hv : Rv (frzM B M w) noB (.slice (List.map PV.str met) [] false) (.slice om met.length capm) := by
  refine own_frz ho (Nat.le_refl _) _ (by simp) ?_ ?_
  ·intro p hp
   obtain ⟨x, _, rfl⟩ := List.mem_map.1 hp
   exact ⟨rfl, rfl, rfl, by decide⟩
  ·intro i p j c hp hcc
   rw [List.getElem?_map] at hp
   cases hx : met[i]? with
   | none => rw [hx] at hp; simp at hp
   | some x =>
    rw [hx] at hp
    simp only [Option.map_some, Option.some.injEq] at hp
    subst hp
    match j, hcc with
    | 0, hcc => cases hcc; exact ⟨strV x, by rw [Nat.mul_one, Nat.add_zero, List.getElem?_map, hx]; rfl, .str _⟩
    | j + 1, hcc => simp [PV.cells] at hcc
 have key := quiet_call pokX xok (seineref1_Has_spec (seineref1_Has_ok met n hl)) (M := frzM B M w) (w := w) (vals := #[.slice om met.length capm, .string ⟨n.toArray⟩]) rfl (frzM_cons hc) ⟨rfl, fun i p hp => by
  match i, hp with
  | 0, hp => cases hp; exact ⟨hv, noOwn_of_plain rfl⟩
  | 1, hp => cases hp; exact ⟨.str n, noOwn_of_plain rfl⟩
  | i + 2, hp => simp at hp⟩
 refine key.mono ?_
 rintro e w' ⟨v, M', rfl, hv, hc', hq⟩
 cases hv
 exact ⟨rfl, hq.os, hq.tape, hq.output, hq.size, fun k hk => (hq.old k hk).1⟩
theorem GRh.quiet {e : GEnv} {B ga : Nat} {M M' : Mem} {w w' : World} {st : GSt} (h : GRh e B ga M w st) (q : Quiet M w M' w') (hc : Cons M' w') : GRh e B ga M' w' st := by
 obtain ⟨hn, mv, h0, h1, h2, h3, h4, h5, h6, oa, cap, vs, h⟩ := h
 exact ⟨hn, _, _, _, _, _, _, _, _, _, _, _, h.quiet q hc⟩
noncomputable def blkC : Code → Code | .block _ c => c | c => c
noncomputable def loopC : Code → Code | .loop c => c | c => c
noncomputable def thenC : Code → Code | .cond _ a _ => a | c => c
noncomputable def tail71 : Code := match Try.f71.body with | some c => thenC (sndC (blkC (fstC (sndC (loopC (blkC (sndC (fstC (dropSeq 2 c))))))))) | none => .skip
noncomputable def reg71 : Code := fstC (fstC tail71)
noncomputable def cond71 : Code := sndC (fstC tail71)
set_option maxHeartbeats 8000000 in
set_option maxRecDepth 100000 in
theorem add_tail (fn : Func) (hres : ∀ (a : Act) (w : World), (results fn a.tmps).run Try.prog w = .ok (.tuple #[]) w) (Q : Ending → World → Prop) (K4 Kl K10 : Act → World → Prop) (B n cap idx m : Nat) (oa2 : Option Addr) (cap1 : Nat) (ys : List Value) (x : GSel) (c3 c4 c6 : Value) (ga g xb : Nat) (w4 : World) (hB4 : B ≤ w4.heap.size) (hm : m ≤ 1073741824) (hin : (idx : Int) < (n : Int))
  (hs3 : ∃ a l k, c3 = .slice a l k) (hs4 : ∃ a l k, c4 = .slice a l k) (hs6 : ∃ a l k, c6 = .slice a l k)
  (h4o : w4.cell? ⟨ga, 8, none⟩ = some (.slice (some ⟨g, 0, none⟩) n cap)) (h41 : w4.cell? ⟨g, idx * 2 + 1, none⟩ = some (.slice oa2 m cap1)) (h4f : w4.frozen? ⟨g, idx * 2 + 1, none⟩ = false)
  (hx4 : XAt w4 xb x c3 c4 c6) (hsv : w4.ownsRow B 41 7 (.slice oa2 m cap1) m ys) (hsvg : ∀ k, (Value.slice oa2 m cap1).ownBlock = some k → k ≠ g ∧ k ≠ ga ∧ k ≠ xb) (hgga : g ≠ ga)
  (hQ : ∀ w' g2 cap2, FTail B w4 g idx (.slice oa2 m cap1) m ys x c3 c4 c6 w' g2 cap2 → Q (.returned (.tuple #[])) w')
  (u1 u2 u4 u6 u7 u8 u9 u10 u11 u12 u13 u14 u15 u16 u17 u18 u19 u20 u21 u22 u23 u24 u25 u26 u27 u28 u29 u30 u31 u32 u33 u34 u35 u36 u37 u38 u39 u40 u41 u42 u43 u44 u45 u46 u47 u48 u49 u50 u51 u52 u53 u54 u55 u56 u57 u58 u59 u60 u61 u62 u63 u64 u65 u66 u67 u68 u69 u70 u71 u72 u73 u74 : Value)
  (K Kr : Act → World → Prop) (hKr : ∀ a w, Code.wp Try.prog Code.ret (Exit.inBlock 1 (Exit.then K4 (Exit.then Kl (Exit.inBlock 0 (Exit.then K10 (bodyPost Try.prog fn Q)))))) a w → Kr a w) (hK : ∀ a w, Code.wp Try.prog cond71 (Exit.then Kr (Exit.inBlock 1 (Exit.then K4 (Exit.then Kl (Exit.inBlock 0 (Exit.then K10 (bodyPost Try.prog fn Q))))))) a w → K a w) :
  Code.wp Try.prog reg71 (Exit.then K (Exit.then Kr (Exit.inBlock 1 (Exit.then K4 (Exit.then Kl (Exit.inBlock 0 (Exit.then K10 (bodyPost Try.prog fn Q)))))))) ⟨#[.pointer (some ⟨ga, 0, none⟩), u1, u2, .pointer (some ⟨xb, 0, none⟩), u4, .int .i64 idx, u6, u7, u8, u9, u10, u11, u12, u13, u14, u15, u16, u17, u18, u19, u20, u21, u22, u23, u24, u25, u26, u27, u28, u29, u30, u31, u32, u33, u34, u35, u36, u37, u38, u39, u40, u41, u42, u43, u44, u45, u46, u47, u48, u49, u50, u51, u52, u53, u54, u55, u56, u57, u58, u59, u60, u61, u62, u63, u64, u65, u66, u67, u68, u69, u70, u71, u72, u73, u74], []⟩ w4 := by
 obtain ⟨a3, l3, p3, rfl⟩ := hs3
 obtain ⟨a4, l4, p4, rfl⟩ := hs4
 obtain ⟨a6, l6, p6, rfl⟩ := hs6
 have h1c : ∀ u ∈ xCells x (.slice a3 l3 p3) (.slice a4 l4 p4) (.slice a6 l6 p6), u.oneCell' = true := by
  intro u hu
  simp only [List.mem_cons, List.not_mem_nil, or_false] at hu
  rcases hu with rfl | rfl | rfl | rfl | rfl | rfl | rfl <;> rfl
 obtain ⟨i1, gi, gz0, gz1, gz2⟩ := info_parts Try.info41
 have hg4 : g < w4.heap.size := World.block_lt_of_cell? w4 _ h41
 have hga4 : ga < w4.heap.size := World.block_lt_of_cell? w4 _ h4o
 have hx4l : xb < w4.heap.size := lt_of_block hx4
 obtain ⟨q0, q1, q2, q3, q4, q5, q6⟩ := hx4.cells
 have hnew4 : ∀ (b : Value) (zs : Array Value), ∀ j u, zs.toList[j]? = some u → ((w4.alloc (.cells #[b] 4)).alloc (.cells zs 41)).cell? ((⟨w4.heap.size + 1, 0, none⟩ : Addr).add j) = some u := by
  intro b zs
  have := World.news_of_block (cs := zs) (heap_alloc_new (w4.alloc (.cells #[b] 4)) (.cells zs 41))
  have e : (w4.alloc (.cells #[b] 4)).heap.size = w4.heap.size + 1 := by simp
  rw [e] at this; exact this
 have hB6 : ∀ o p : Obj, B ≤ ((w4.alloc o).alloc p).heap.size := fun o p => by simp; omega
 have hbelow : ∀ o p : Obj, Below w4.heap.size w4 (((w4.alloc o).alloc p).drew.drew) := fun o p => (((Below.refl _ _).alloc (Nat.le_refl _) o).alloc (by simp) p).drew.drew
 have hz1c : ∀ u ∈ ([.int .i64 0, .string ByteArray.empty, .string ByteArray.empty, .slice none 0 0, .slice none 0 0, .string ByteArray.empty, .slice none 0 0] : List Value), u.oneCell' = true := by
  intro u hu
  simp only [List.mem_cons, List.not_mem_nil, or_false] at hu
  rcases hu with rfl | rfl | rfl | rfl | rfl | rfl | rfl <;> rfl
 have hown6 : ∀ o p : Obj, ((w4.alloc o).alloc p).ownsRow B 41 7 (.slice oa2 m cap1) m ys := fun o p => (hsv.alloc o).alloc p
 have keep5 : ∀ (o p : Obj) (w5 : World), ((w4.alloc o).alloc p).drew.drew.grownBy w5 (Value.slice oa2 m cap1).ownBlock →
   w5.cell? ⟨ga, 8, none⟩ = some (.slice (some ⟨g, 0, none⟩) n cap) ∧ w5.cell? ⟨g, idx * 2 + 1, none⟩ = some (.slice oa2 m cap1) ∧ w5.frozen? ⟨g, idx * 2 + 1, none⟩ = false ∧ XAt w5 xb x (.slice a3 l3 p3) (.slice a4 l4 p4) (.slice a6 l6 p6) := by
  intro o p w5 hg5
  have s1 : ∀ k, k < w4.heap.size → k < ((w4.alloc o).alloc p).heap.size := fun k hk => by simp; omega
  have e1 := hg5.block ga (s1 ga hga4) (fun e => (hsvg ga e.symm).2.1 rfl)
  have e2 := hg5.block g (s1 g hg4) (fun e => (hsvg g e.symm).1 rfl)
  have e3 := hg5.block xb (s1 xb hx4l) (fun e => (hsvg xb e.symm).2.2 rfl)
  exact ⟨(World.cell?_of_block e1).trans (cell_al _ (cell_al _ h4o)), (World.cell?_of_block e2).trans (cell_al _ (cell_al _ h41)), (World.frozen?_of_block e2).trans (frz_al _ (by simp; omega) (frz_al _ hg4 h4f)), e3.trans (heap_al _ (heap_al _ hx4))⟩
 unfold cond71 tail71 at hK
 unfold reg71 tail71
 simp only [Try.f71, dropSeq, fstC, sndC, blkC, loopC, thenC] at hK ⊢
 go_region
 ·go_wp2
  go_region_law (refine step_append_lies _ rfl (.tmp 56) (.tmp 58) 30 rfl B 41 i1 _ 7 128 Try.underlying30 gi gz0 gz1 gz2 rfl (by decide) (.slice oa2 m cap1) m ys rfl (hown6 _ _) ⟨w4.heap.size + 1, 0, none⟩ 1 1 (xCells x (.slice a3 l3 p3) (.slice a4 l4 p4) (.slice a6 l6 p6)) rfl rfl (hnew4 _ #[.int .i64 x.kind, .string ⟨x.alias.toArray⟩, .string ⟨x.name.toArray⟩, .slice a3 l3 p3, .slice a4 l4 p4, .string ⟨x.on_.toArray⟩, .slice a6 l6 p6]) h1c (by decide) (by unfold maxLen; omega) (by omega) (hB6 _ _) _ rfl ?_; intro g2 cap2 w5 hown5 hgrow5 hat5 hlt5; obtain ⟨k1, k2, k3, k4⟩ := keep5 _ _ w5 hgrow5)
  all_goals
   refine hKr _ _ ?_
   go_wp2
   exact bodyPost_ret (hres _ _) rfl (hQ _ _ _ (ftail_plain (hbelow _ _) hB4 hown5 hgrow5 hat5 hg4 (fun k hk => (hsvg k hk).1)))
 ·have hmm : (m : Int) < (m : Int) + 1 := by omega
  have hyl : ys.length = m * 7 := hsv.1
  go_wp2
  go_region_law (refine step_append_lies _ rfl (.tmp 36) (.tmp 39) 30 rfl B 41 i1 _ 7 128 Try.underlying30 gi gz0 gz1 gz2 rfl (by decide) (.slice oa2 m cap1) m ys rfl (hown6 _ _) ⟨w4.heap.size + 1, 0, none⟩ 1 1 [.int .i64 0, .string ByteArray.empty, .string ByteArray.empty, .slice none 0 0, .slice none 0 0, .string ByteArray.empty, .slice none 0 0] rfl rfl (hnew4 _ #[.int .i64 0, .string ByteArray.empty, .string ByteArray.empty, .slice none 0 0, .slice none 0 0, .string ByteArray.empty, .slice none 0 0]) hz1c (by decide) (by unfold maxLen; omega) (by omega) (hB6 _ _) _ rfl ?_; intro g2 cap2 w5 hown5 hgrow5 hat5 hlt5; obtain ⟨k1, k2, k3, k4⟩ := keep5 _ _ w5 hgrow5; obtain ⟨y0, y1, y2, y3, y4, y5, y6⟩ := k4.cells)
  all_goals
   have hne2 : g2 ≠ g := by
    rcases hat5 with h | h
    ·exact (hsvg _ h).1
    ·have h' : g2 = ((w4.alloc (.cells #[.bool true] 4)).alloc (.cells #[.int .i64 0, .string ByteArray.empty, .string ByteArray.empty, .slice none 0 0, .slice none 0 0, .string ByteArray.empty, .slice none 0 0] 41)).heap.size := h
     simp at h'; omega
   have own6 := ownsRow_setCell_other hown5 (a := ⟨g, idx * 2 + 1, none⟩) (by simpa [Value.ownBlock] using hne2) (.slice (some ⟨g2, 0, none⟩) (m + 1) cap2)
   obtain ⟨w6, hw6⟩ : ∃ w6, w6 = w5.setCell ⟨g, idx * 2 + 1, none⟩ (.slice (some ⟨g2, 0, none⟩) (m + 1) cap2) := ⟨_, rfl⟩
   rw [← hw6] at own6 ⊢
   replace hw6 : Hid (w6 = w5.setCell ⟨g, idx * 2 + 1, none⟩ (.slice (some ⟨g2, 0, none⟩) (m + 1) cap2)) := hw6
   have zc : ∀ (j : Nat) (v : Value), ([.int .i64 0, .string ByteArray.empty, .string ByteArray.empty, .slice none 0 0, .slice none 0 0, .string ByteArray.empty, .slice none 0 0] : List Value)[j]? = some v → w6.cell? ⟨g2, m * 7 + j, none⟩ = some v ∧ w6.frozen? ⟨g2, m * 7 + j, none⟩ = false := by
    intro j v hj
    obtain ⟨g', e, _, h1, h2⟩ := own_cell own6 (j := m * 7 + j) (u := v) (by rw [List.getElem?_append_right (by omega), hyl, show m * 7 + j - m * 7 = j by omega]; exact hj)
    cases e
    exact ⟨h1, h2⟩
   obtain ⟨z0, f0⟩ := zc 0 _ rfl
   obtain ⟨z1, f1⟩ := zc 1 _ rfl
   obtain ⟨z2, f2⟩ := zc 2 _ rfl
   obtain ⟨z3, f3⟩ := zc 3 _ rfl
   obtain ⟨z4, f4⟩ := zc 4 _ rfl
   obtain ⟨z5, f5⟩ := zc 5 _ rfl
   obtain ⟨z6, f6⟩ := zc 6 _ rfl
   simp only [Nat.add_zero] at z0 f0
   clear zc k1 k2 k3 k4 y0 y1 y2 y3 y4 y5 y6
   refine ‹∀ (a : Act) (w : World), Code.wp Try.prog (Code.region 8 _ _) _ a w → _› _ _ ?_
   go_wp2
   exact bodyPost_ret (hres _ _) rfl (hQ _ _ _ (ftail_zero (hbelow _ _) hB4 hyl hown5 hgrow5 hat5 hg4 (fun k hk => (hsvg k hk).1) hw6.out))
set_option maxHeartbeats 4000000 in
set_option maxRecDepth 100000 in
theorem rkey_walk (x : GSel) (c3 c4 c6 : Value) (w : World) :
  Calls Try.prog 31 #[.agg #[.int .i64 x.kind, .string ⟨x.alias.toArray⟩, .string ⟨x.name.toArray⟩, c3, c4, .string ⟨x.on_.toArray⟩, c6]] w fun e w' => Below w.heap.size w w' ∧ e = .returned (.string ⟨(gKey x).toArray⟩) := by
 go_enter Try.func31, Try.ntmps31
 go_wp2
 ·have h1 : (x.kind != 0) = true := by assumption
  go_ret
  exact ⟨(Below.refl _ _).alloc (Nat.le_refl _) _, by unfold gKey; rw [h1]; rfl⟩
 ·have h1 : (x.kind != 0) = false := by assumption
  have h2 : (!List.isEmpty x.alias) = true := by assumption
  go_ret
  refine ⟨(Below.refl _ _).alloc (Nat.le_refl _) _, ?_⟩
  have h3 : (!(x.alias == [])) = true := by cases hx : x.alias <;> simp_all
  unfold gKey; rw [h1, h3]; rfl
 ·have h1 : (x.kind != 0) = false := by assumption
  have h2 : (!List.isEmpty x.alias) = false := by assumption
  go_ret
  refine ⟨(Below.refl _ _).alloc (Nat.le_refl _) _, ?_⟩
  have h3 : (!(x.alias == [])) = false := by cases hx : x.alias <;> simp_all
  unfold gKey; rw [h1, h3]; rfl
def RNew (B n cap : Nat) (oa : Option Addr) (gs : List (ByteArray × Value)) (x : GSel) (c3 c4 c6 : Value) (ga : Nat) (w w' : World) : Prop :=
 ∃ (w3 : World) (g cap3 b : Nat), w3.ownsRow B 50 2 (.slice (some ⟨g, 0, none⟩) (n + 1) cap3) (n + 1) (flatG gs ++ [.string ⟨(gKey x).toArray⟩, .slice (some ⟨b, 0, none⟩) 1 1]) ∧ w3.ownsRow B 41 7 (.slice (some ⟨b, 0, none⟩) 1 1) 1 (xCells x c3 c4 c6) ∧ w.heap.size ≤ b ∧ b ≠ g ∧
 ((Value.slice oa n cap).ownBlock = some g ∨ w.heap.size ≤ g) ∧ w.heap.size ≤ w3.heap.size ∧ w3.os = w.os ∧ w3.tape = w.tape ∧ w3.output = w.output ∧ (∀ k, k < w.heap.size → some k ≠ (Value.slice oa n cap).ownBlock → w3.heap[k]? = w.heap[k]?) ∧
 w' = w3.setCell ⟨ga, 8, none⟩ (.slice (some ⟨g, 0, none⟩) (n + 1) cap3)
set_option maxHeartbeats 8000000 in
set_option maxRecDepth 100000 in
theorem add_walk (B n cap : Nat) (oa : Option Addr) (gs : List (ByteArray × Value)) (x : GSel) (c3 c4 c6 : Value) (ga : Nat) (h0 h1 h2 h3 h4 h5 h6 mv : Value) (w : World) (hB : B ≤ w.heap.size) (hn : n ≤ 1073741824)
  (hs3 : ∃ a l k, c3 = .slice a l k) (hs4 : ∃ a l k, c4 = .slice a l k) (hs6 : ∃ a l k, c6 = .slice a l k)
  (hout : w.ownsRow B 50 2 (.slice oa n cap) n (flatG gs)) (hoga : ∀ k, (Value.slice oa n cap).ownBlock = some k → k ≠ ga)
  (hsub : ∀ (i : Nat) (kk : ByteArray) (v : Value), gs[i]? = some (kk, v) → ∃ oa2 m cap1 ys, v = .slice oa2 m cap1 ∧ m ≤ 1073741824 ∧ w.ownsRow B 41 7 v m ys ∧ ∀ k, v.ownBlock = some k → (Value.slice oa n cap).ownBlock ≠ some k ∧ k ≠ ga)
  (hga : w.heap[ga]? = some (.cells #[h0, h1, h2, h3, h4, h5, h6, mv, .slice oa n cap] 89 (0, 0))) :
  Calls Try.prog 71 #[.pointer (some ⟨ga, 0, none⟩), .agg #[.int .i64 x.kind, .string ⟨x.alias.toArray⟩, .string ⟨x.name.toArray⟩, c3, c4, .string ⟨x.on_.toArray⟩, c6]] w fun e w' =>
   e = .returned (.tuple #[]) ∧ ((idxOf gs ⟨(gKey x).toArray⟩ = -1 ∧ RNew B n cap oa gs x c3 c4 c6 ga w w') ∨
    ∃ (idx g : Nat) (kk : ByteArray) (oa2 : Option Addr) (m cap1 : Nat) (ys : List Value) (w2 : World) (g2 cap2 : Nat), idxOf gs ⟨(gKey x).toArray⟩ = idx ∧ oa = some ⟨g, 0, none⟩ ∧ gs[idx]? = some (kk, .slice oa2 m cap1) ∧ w.ownsRow B 41 7 (.slice oa2 m cap1) m ys ∧ Below w.heap.size w w2 ∧ FTail B w2 g idx (.slice oa2 m cap1) m ys x c3 c4 c6 w' g2 cap2) := by
 have hlt : ga < w.heap.size := (Array.getElem?_eq_some_iff.1 hga).1
 have hcg : ∀ w1 : World, w1.heap[ga]? = w.heap[ga]? → w1.cell? ⟨ga, 8, none⟩ = some (.slice oa n cap) ∧ w1.frozen? ⟨ga, 8, none⟩ = false := by
  intro w1 hb
  have hb2 := hb.trans hga
  refine ⟨by rw [cell_of_row w1 ga 8 _ _ _ hb2]; rfl, by simp [World.frozen?, hb2]⟩
 have hkept : ∀ w1, Below w.heap.size w w1 → w1.ownsRow B 50 2 (.slice oa n cap) n (flatG gs) := fun w1 hb => hout.kept (w' := w1) (row := none) ⟨hb.os, hb.tape, hb.output, hb.size, fun k hk _ => hb.block k hk⟩ (by cases oa <;> simp [Value.ownBlock])
 have hgl : gs.length = n := by have := hout.1; rw [flatG_len] at this; omega
 obtain ⟨a3, l3, p3, rfl⟩ := hs3
 obtain ⟨a4, l4, p4, rfl⟩ := hs4
 obtain ⟨a6, l6, p6, rfl⟩ := hs6
 have hgat : n ≠ 0 → ∃ g, oa = some ⟨g, 0, none⟩ := by
  intro h0
  cases gs with
  | nil => simp at hgl; omega
  | cons g0 gs0 =>
   obtain ⟨g, e1, _, _, _⟩ := own_cell hout (j := 0) (u := .string g0.1) rfl
   exact ⟨g, e1⟩
 replace hsub := (id hsub : Hid _)
 go_enter Try.func71, Try.ntmps71
 go_wp2_with (go_at_call 31; refine (rkey_walk x _ _ _ _).mono ?_; rintro e w1 ⟨hb1, rfl⟩; have hbw1 := ((Below.refl w.heap.size w).alloc (Nat.le_refl _) _).trans (hb1.mono (by simp)); have hx1 : XAt w1 w.heap.size x (.slice a3 l3 p3) (.slice a4 l4 p4) (.slice a6 l6 p6) := (hb1.block w.heap.size (by simp)).trans (heap_alloc_new w _))
 rename_i K10 hK10
 replace hK10 := (id hK10 : Hid _)
 have fin : Hid (∀ (v1 v2 v5 v6 v7 v8 v9 v10 v11 v12 v13 v14 v15 v16 v17 v18 v19 v20 v21 v22 v23 v24 v25 v26 v27 v28 v29 v30 v31 v32 v33 v34 v35 v36 v37 v38 v39 v40 v41 v42 v43 v44 v45 v46 v47 v48 v49 v50 v51 v52 v53 v54 v55 v56 v57 v58 v59 v60 v61 v62 v63 v64 v65 v66 v67 v68 v69 v70 v71 v72 v73 v74 : Value), idxOf gs ⟨(gKey x).toArray⟩ = -1 → K10 ⟨#[.pointer (some ⟨ga, 0, none⟩), v1, v2, .pointer (some ⟨w.heap.size, 0, none⟩), .string ⟨(gKey x).toArray⟩, v5, v6, v7, v8, v9, v10, v11, v12, v13, v14, v15, v16, v17, v18, v19, v20, v21, v22, v23, v24, v25, v26, v27, v28, v29, v30, v31, v32, v33, v34, v35, v36, v37, v38, v39, v40, v41, v42, v43, v44, v45, v46, v47, v48, v49, v50, v51, v52, v53, v54, v55, v56, v57, v58, v59, v60, v61, v62, v63, v64, v65, v66, v67, v68, v69, v70, v71, v72, v73, v74], []⟩ w1) := by
  intro v1 v2 v5 v6 v7 v8 v9 v10 v11 v12 v13 v14 v15 v16 v17 v18 v19 v20 v21 v22 v23 v24 v25 v26 v27 v28 v29 v30 v31 v32 v33 v34 v35 v36 v37 v38 v39 v40 v41 v42 v43 v44 v45 v46 v47 v48 v49 v50 v51 v52 v53 v54 v55 v56 v57 v58 v59 v60 v61 v62 v63 v64 v65 v66 v67 v68 v69 v70 v71 v72 v73 v74 hidx
  refine hK10.out _ _ ?_
  have hsz1 := hbw1.size
  have hg8 := (hcg w1 (hbw1.block ga hlt)).1
  have hlt1 : ga < w1.heap.size := Nat.lt_of_lt_of_le hlt hsz1
  have hne0 : some ga ≠ (Value.slice oa n cap).ownBlock := fun e => hoga ga e.symm rfl
  obtain ⟨q0, q1, q2, q3, q4, q5, q6⟩ := hx1.cells
  obtain ⟨i0, hi, hz0, hz1, hz2⟩ := info_parts Try.info50
  have hbb : Below w.heap.size w ((w1.alloc (.cells #[.int .i64 x.kind, .string ⟨x.alias.toArray⟩, .string ⟨x.name.toArray⟩, .slice a3 l3 p3, .slice a4 l4 p4, .string ⟨x.on_.toArray⟩, .slice a6 l6 p6] 41)).alloc (.cells #[.string ⟨(gKey x).toArray⟩, .slice (some ⟨w1.heap.size, 0, none⟩) 1 1] 50)) := (hbw1.alloc hsz1 _).alloc (by simp; omega) _
  have hown2 : ((w1.alloc (.cells #[.int .i64 x.kind, .string ⟨x.alias.toArray⟩, .string ⟨x.name.toArray⟩, .slice a3 l3 p3, .slice a4 l4 p4, .string ⟨x.on_.toArray⟩, .slice a6 l6 p6] 41)).alloc (.cells #[.string ⟨(gKey x).toArray⟩, .slice (some ⟨w1.heap.size, 0, none⟩) 1 1] 50)).ownsRow B 50 2 (.slice oa n cap) n (flatG gs) := ((hkept w1 hbw1).alloc _).alloc _
  have hga2 : ((w1.alloc (.cells #[.int .i64 x.kind, .string ⟨x.alias.toArray⟩, .string ⟨x.name.toArray⟩, .slice a3 l3 p3, .slice a4 l4 p4, .string ⟨x.on_.toArray⟩, .slice a6 l6 p6] 41)).alloc (.cells #[.string ⟨(gKey x).toArray⟩, .slice (some ⟨w1.heap.size, 0, none⟩) 1 1] 50)).heap[ga]? = w.heap[ga]? := (heap_alloc_old _ _ (by simp; omega)).trans ((heap_alloc_old w1 _ hlt1).trans (hbw1.block ga hlt))
  have hnews : ∀ (j : Nat) (u : Value), ([.string ⟨(gKey x).toArray⟩, .slice (some ⟨w1.heap.size, 0, none⟩) 1 1] : List Value)[j]? = some u → ((w1.alloc (.cells #[.int .i64 x.kind, .string ⟨x.alias.toArray⟩, .string ⟨x.name.toArray⟩, .slice a3 l3 p3, .slice a4 l4 p4, .string ⟨x.on_.toArray⟩, .slice a6 l6 p6] 41)).alloc (.cells #[.string ⟨(gKey x).toArray⟩, .slice (some ⟨w1.heap.size, 0, none⟩) 1 1] 50)).cell? ((⟨w1.heap.size + 1, 0, none⟩ : Addr).add j) = some u := by
   have := World.news_of_block (cs := #[.string ⟨(gKey x).toArray⟩, .slice (some ⟨w1.heap.size, 0, none⟩) 1 1]) (heap_alloc_new (w1.alloc (.cells #[.int .i64 x.kind, .string ⟨x.alias.toArray⟩, .string ⟨x.name.toArray⟩, .slice a3 l3 p3, .slice a4 l4 p4, .string ⟨x.on_.toArray⟩, .slice a6 l6 p6] 41)) (.cells #[.string ⟨(gKey x).toArray⟩, .slice (some ⟨w1.heap.size, 0, none⟩) 1 1] 50))
   have e : (w1.alloc (.cells #[.int .i64 x.kind, .string ⟨x.alias.toArray⟩, .string ⟨x.name.toArray⟩, .slice a3 l3 p3, .slice a4 l4 p4, .string ⟨x.on_.toArray⟩, .slice a6 l6 p6] 41)).heap.size = w1.heap.size + 1 := by simp
   rw [e] at this; exact this
  have hb2 : ((w1.alloc (.cells #[.int .i64 x.kind, .string ⟨x.alias.toArray⟩, .string ⟨x.name.toArray⟩, .slice a3 l3 p3, .slice a4 l4 p4, .string ⟨x.on_.toArray⟩, .slice a6 l6 p6] 41)).alloc (.cells #[.string ⟨(gKey x).toArray⟩, .slice (some ⟨w1.heap.size, 0, none⟩) 1 1] 50)).heap[w1.heap.size]? = some (.cells #[.int .i64 x.kind, .string ⟨x.alias.toArray⟩, .string ⟨x.name.toArray⟩, .slice a3 l3 p3, .slice a4 l4 p4, .string ⟨x.on_.toArray⟩, .slice a6 l6 p6] 41 (0, 0)) := (heap_alloc_old _ _ (by simp)).trans (heap_alloc_new w1 _)
  have hsz2 : ((w1.alloc (.cells #[.int .i64 x.kind, .string ⟨x.alias.toArray⟩, .string ⟨x.name.toArray⟩, .slice a3 l3 p3, .slice a4 l4 p4, .string ⟨x.on_.toArray⟩, .slice a6 l6 p6] 41)).alloc (.cells #[.string ⟨(gKey x).toArray⟩, .slice (some ⟨w1.heap.size, 0, none⟩) 1 1] 50)).heap.size = w1.heap.size + 2 := by simp
  go_region_law (refine step_append_lies _ rfl (.tmp 66) (.tmp 71) 44 rfl B 50 i0 _ 2 40 Try.underlying44 hi hz0 hz1 hz2 rfl (by decide) (.slice oa n cap) n (flatG gs) rfl hown2 ⟨w1.heap.size + 1, 0, none⟩ 1 1 [.string ⟨(gKey x).toArray⟩, .slice (some ⟨w1.heap.size, 0, none⟩) 1 1] rfl rfl hnews (by intro u hu; simp at hu; rcases hu with rfl | rfl <;> rfl) (by decide) (by unfold maxLen; omega) (by omega) (by show B ≤ ((w1.alloc (.cells #[.int .i64 x.kind, .string ⟨x.alias.toArray⟩, .string ⟨x.name.toArray⟩, .slice a3 l3 p3, .slice a4 l4 p4, .string ⟨x.on_.toArray⟩, .slice a6 l6 p6] 41)).alloc (.cells #[.string ⟨(gKey x).toArray⟩, .slice (some ⟨w1.heap.size, 0, none⟩) 1 1] 50)).heap.size; omega) _ rfl ?_; intro g cap3 w3 hown3 hgrow3 hat3 hlt3; have hga3 : w3.heap[ga]? = w.heap[ga]? := (hgrow3.block ga (by show ga < ((w1.alloc (.cells #[.int .i64 x.kind, .string ⟨x.alias.toArray⟩, .string ⟨x.name.toArray⟩, .slice a3 l3 p3, .slice a4 l4 p4, .string ⟨x.on_.toArray⟩, .slice a6 l6 p6] 41)).alloc (.cells #[.string ⟨(gKey x).toArray⟩, .slice (some ⟨w1.heap.size, 0, none⟩) 1 1] 50)).heap.size; omega) hne0).trans hga2; have hg83 := (hcg w3 hga3).1; have hg83f := (hcg w3 hga3).2)
  all_goals
   have hat4 : (Value.slice oa n cap).ownBlock = some g ∨ g = w1.heap.size + 2 := by
    rcases hat3 with h | h
    ·exact .inl h
    ·exact .inr (Eq.trans h hsz2)
   have hbo : some w1.heap.size ≠ (Value.slice oa n cap).ownBlock := fun e => by have := (hout.lt _ e.symm).2; omega
   have hb3 : w3.heap[w1.heap.size]? = some (.cells #[.int .i64 x.kind, .string ⟨x.alias.toArray⟩, .string ⟨x.name.toArray⟩, .slice a3 l3 p3, .slice a4 l4 p4, .string ⟨x.on_.toArray⟩, .slice a6 l6 p6] 41 (0, 0)) := (hgrow3.block w1.heap.size (by show w1.heap.size < ((w1.alloc (.cells #[.int .i64 x.kind, .string ⟨x.alias.toArray⟩, .string ⟨x.name.toArray⟩, .slice a3 l3 p3, .slice a4 l4 p4, .string ⟨x.on_.toArray⟩, .slice a6 l6 p6] 41)).alloc (.cells #[.string ⟨(gKey x).toArray⟩, .slice (some ⟨w1.heap.size, 0, none⟩) 1 1] 50)).heap.size; omega) hbo).trans hb2
   refine bodyPost_end (results_none (by rfl) _ _ _) rfl ⟨rfl, .inl ⟨hidx, w3, g, cap3, w1.heap.size, hown3, ⟨rfl, .inr ⟨w1.heap.size, 1, #[.int .i64 x.kind, .string ⟨x.alias.toArray⟩, .string ⟨x.name.toArray⟩, .slice a3 l3 p3, .slice a4 l4 p4, .string ⟨x.on_.toArray⟩, .slice a6 l6 p6], rfl, Nat.le_trans hB hsz1, hb3, Nat.le_refl _, by decide, by simp, rfl⟩⟩, hsz1, ?_, ?_, Nat.le_trans hbb.size hgrow3.size, hgrow3.os.trans hbb.os, hgrow3.tape.trans hbb.tape, hgrow3.output.trans hbb.output, fun k hk hks => (hgrow3.block k (Nat.lt_of_lt_of_le hk hbb.size) hks).trans (hbb.block k hk), rfl⟩⟩
   ·rcases hat4 with h | h
    ·have := (hout.lt _ h).2; omega
    ·omega
   ·rcases hat4 with h | h
    ·exact .inl h
    ·right; omega
 by_cases h0 : n = 0
 ·subst h0
  have hg7 := (hcg w1 (hbw1.block ga hlt)).1
  have hgs : gs = [] := List.eq_nil_of_length_eq_zero hgl
  refine wp_loop_rounds 1 ?_; rw [rounds_succ]; go_wp2
  exact fin.out _ _ _ _ _ _ _ _ _ _ _ _ _ _ _ _ _ _ _ _ _ _ _ _ _ _ _ _ _ _ _ _ _ _ _ _ _ _ _ _ _ _ _ _ _ _ _ _ _ _ _ _ _ _ _ _ _ _ _ _ _ _ _ _ _ _ _ _ _ _ _ _ (by rw [hgs]; rfl)
 obtain ⟨g, rfl⟩ := hgat h0
 have hg7 := (hcg w1 (hbw1.block ga hlt)).1
 have hown1 := hkept w1 hbw1
 have hgatk : ∀ k, ∃ kk vv, k < n → gs[k]? = some (kk, vv) ∧ w1.cell? ⟨g, k * 2, none⟩ = some (.string kk) ∧ w1.cell? ⟨g, k * 2 + 1, none⟩ = some vv ∧ w1.frozen? ⟨g, k * 2 + 1, none⟩ = false := by
  intro k
  by_cases hk : k < n
  ·have hx := List.getElem?_eq_getElem (l := gs) (i := k) (by omega)
   obtain ⟨f1, f2⟩ := flatG_at gs k _ _ hx
   obtain ⟨g', e1, _, c1, _⟩ := own_cell hown1 f1
   cases e1
   obtain ⟨g', e1, _, c2, z2⟩ := own_cell hown1 f2
   cases e1
   rw [Nat.mul_comm] at c1 c2 z2
   exact ⟨_, _, fun _ => ⟨hx, c1, c2, z2⟩⟩
  ·exact ⟨ByteArray.empty, undef, fun h => absurd h hk⟩
 go_loop [5] (fun t5 => ∃ k : Nat, k ≤ n ∧ t5 = .int .i64 k ∧ ∀ (j : Nat) (g : ByteArray × Value), j < k → gs[j]? = some g → (g.1.toList == gKey x) = false) (fun t5 => n - (intOf t5).toNat)
 case atStart => exact ⟨0, Nat.zero_le _, rfl, fun j g hj => absurd hj (Nat.not_lt_zero _)⟩
 case round =>
  obtain ⟨k, hkn, rfl, hno⟩ := hrel
  obtain ⟨kk, vv, hkv⟩ := hgatk k
  have hc1 : k < n → w1.cell? ⟨g, k * 2, none⟩ = some (.string kk) := fun h => (hkv h).2.1
  go_wp2
  ·rename_i hlt0 hb0 K4 hK4 Kr hKr K hK hw0
   have hb : (kk.toList == gKey x) = true := by assumption
   obtain ⟨hat, _, h41, h4f⟩ := hkv hlt0
   obtain ⟨oa2, m, cap1, ys, rfl, hm, hys, hoff⟩ := hsub.out k kk vv hat
   have hidx := idxOf_found ⟨(gKey x).toArray⟩ gs k (kk, _) (fun j g hj hg => by simpa using hno j g hj hg) hat (by simpa using hb)
   have hys1 := hys.kept (w' := w1) (row := none) ⟨hbw1.os, hbw1.tape, hbw1.output, hbw1.size, fun k hk _ => hbw1.block k hk⟩ (by cases oa2 <;> simp [Value.ownBlock])
   exact add_tail Try.f71 (fun a w => results_none (by rfl) _ _ _) _ _ _ _ B n cap k m oa2 cap1 ys x _ _ _ ga g w.heap.size w1 (Nat.le_trans hB hbw1.size) hm (by omega) ⟨_, _, _, rfl⟩ ⟨_, _, _, rfl⟩ ⟨_, _, _, rfl⟩ hg7 h41 h4f hx1 hys1 (fun j hj => ⟨fun e => (hoff j hj).1 (by rw [e]; rfl), (hoff j hj).2, by have := (hys.lt j hj).2; omega⟩) (hoga g rfl)
    (fun w' g2 cap2 hF => ⟨rfl, .inr ⟨k, g, kk, oa2, m, cap1, ys, w1, g2, cap2, hidx, rfl, hat, hys, hbw1, hF⟩⟩) _ _ _ _ _ _ _ _ _ _ _ _ _ _ _ _ _ _ _ _ _ _ _ _ _ _ _ _ _ _ _ _ _ _ _ _ _ _ _ _ _ _ _ _ _ _ _ _ _ _ _ _ _ _ _ _ _ _ _ _ _ _ _ _ _ _ _ _ _ _ _ _ _ _ hKr hK
  ·have hlt0 : k < n := by assumption
   have hb : (kk.toList == gKey x) = false := by assumption
   refine ⟨⟨k + 1, by omega, by go_num, fun j g hj hg => ?_⟩, by simp [intOf]; omega⟩
   rcases Nat.lt_or_ge j k with h | h
   ·exact hno j g h hg
   ·obtain rfl : j = k := by omega
    rw [(hkv hlt0).1] at hg
    cases hg
    exact hb
  ·have hge : ¬ k < n := by assumption
   exact fin.out _ _ _ _ _ _ _ _ _ _ _ _ _ _ _ _ _ _ _ _ _ _ _ _ _ _ _ _ _ _ _ _ _ _ _ _ _ _ _ _ _ _ _ _ _ _ _ _ _ _ _ _ _ _ _ _ _ _ _ _ _ _ _ _ _ _ _ _ _ _ _ _ (idxOf_none _ _ fun j g hj hg => by simpa using hno j g (by omega) hg)
theorem radd_walk {e : GEnv} {B ga : Nat} {M : Mem} {w : World} {st : GSt} (h : GRh e B ga M w st) (x : GSel) (c3 c4 c6 : Value) (hx : CV M x c3 c4 c6) (hb : tot st.1 ≤ 1073741824) :
  Calls Try.prog 71 #[.pointer (some ⟨ga, 0, none⟩), .agg #[.int .i64 x.kind, .string ⟨x.alias.toArray⟩, .string ⟨x.name.toArray⟩, c3, c4, .string ⟨x.on_.toArray⟩, c6]] w fun er w' =>
   er = .returned (.tuple #[]) ∧ GRh e B ga M w' (putG st.1 (gKey x) x, st.2) ∧ From B M w M w' := by
 obtain ⟨hne, mv, h0, h1, h2, h3, h4, h5, h6, oa, cap, vs, h⟩ := h
 obtain ⟨gs, met⟩ := st
 simp only at hne h hb ⊢
 have hn : gs.length ≤ 1073741824 := Nat.le_trans (tot_le gs hne) hb
 have hs3 := isSlice hx.r3
 have hs4 := isSlice hx.r4
 have hs6 := isSlice hx.r6
 have hput : ∀ g ∈ putG gs (gKey x) x, g.sels ≠ [] := by
  intro g hg
  rcases put_mem _ _ _ _ hg with h1 | ⟨_, s, h2, _⟩
  ·exact hne g h1
  ·rw [h2]; simp
 have hsub : ∀ (i : Nat) (kk : ByteArray) (v : Value), (zipG gs vs)[i]? = some (kk, v) → ∃ oa2 m cap1 ys, v = .slice oa2 m cap1 ∧ m ≤ 1073741824 ∧ w.ownsRow B 41 7 v m ys ∧ ∀ k, v.ownBlock = some k → (Value.slice oa gs.length cap).ownBlock ≠ some k ∧ k ≠ ga := by
  intro i kk v hat
  have hi : i < gs.length := by rw [← zipG_len gs vs h.len]; exact (List.getElem?_eq_some_iff.1 hat).1
  have hv := List.getElem?_eq_getElem (l := vs) (i := i) (by rw [h.len]; exact hi)
  have hg := List.getElem?_eq_getElem (l := gs) (i := i) hi
  have e := zipG_at gs vs i _ _ hg hv
  rw [hat] at e
  cases e
  obtain ⟨oa2, cap1, ys, h1, h2, h3⟩ := h.sub i _ _ hg hv
  refine ⟨oa2, _, cap1, ys, h1, Nat.le_trans (tot_mem gs _ (List.mem_of_getElem? hg)) hb, h2, fun k hk => ?_⟩
  obtain ⟨a1, a2, a3⟩ := h.off i _ k hv hk
  exact ⟨a3, a1⟩
 refine (add_walk B gs.length cap oa (zipG gs vs) x c3 c4 c6 ga h0 h1 h2 h3 h4 h5 h6 mv w h.le hn hs3 hs4 hs6 h.own (fun k hk => (h.offo k hk).1) hsub h.row).mono ?_
 rintro er w' ⟨rfl, ⟨hi, w3, g, cap3, b, k1, k2, k3, k4, k5, k6, k7, k8, k9, k10, rfl⟩ | ⟨idx, g, kk, oa2, m, cap1, ys, w2, g2, cap2, hi, rfl, hat, hys, hw2, hF⟩⟩
 ·rcases putG_idx (gKey x) x gs vs h.len with ⟨_, hp⟩ | ⟨idx, G, hi', _, _⟩
  ·obtain ⟨ho, hbo⟩ := h.new (key := gKey x) hx k1 k2 k3 k4 k5 k6 k7 k8 k9 k10
   rw [← hp] at ho
   exact ⟨rfl, ⟨hput, _, _, _, _, _, _, _, _, _, _, _, ho⟩, .of_below hbo⟩
  ·rw [hi] at hi'; omega
 ·rcases putG_idx (gKey x) x gs vs h.len with ⟨hi', _⟩ | ⟨idx', G, hi', hG, hp⟩
  ·rw [hi] at hi'; omega
  ·have : idx = idx' := by rw [hi] at hi'; omega
   subst this
   have hil : idx < vs.length := by rw [h.len]; exact (List.getElem?_eq_some_iff.1 hG).1
   have hv := List.getElem?_eq_getElem hil
   have e := zipG_at gs vs idx _ _ hG hv
   rw [hat] at e
   simp only [Option.some.injEq, Prod.mk.injEq] at e
   rw [← e.2] at hv
   obtain ⟨oa3, cap4, ys', e1, e2, e3⟩ := h.sub idx G _ hG hv
   cases e1
   have hye : ys = ys' := by
    rcases hys.2 with ⟨z1, z2⟩ | ⟨g', cap', cur, z1, _, z2, _, _, _, z3⟩
    ·have l1 := hys.1
     have l2 := e2.1
     rw [z2, Nat.zero_mul] at l1 l2
     rw [List.length_eq_zero_iff.1 l1, List.length_eq_zero_iff.1 l2]
    ·rcases e2.2 with ⟨y1, y2⟩ | ⟨g'', cap'', cur', y1, _, y2, _, _, _, y3⟩
     ·rw [y1] at z1; cases z1
     ·rw [z1] at y1
      cases y1
      rw [z2] at y2
      cases y2
      rw [← z3, ← y3]
   subst hye
   obtain ⟨ho, hbo⟩ := h.old hw2 hG hv rfl e3 hx hF
   rw [← hp] at ho
   exact ⟨rfl, ⟨hput, _, _, _, _, _, _, _, _, _, _, _, ho⟩, .of_below hbo⟩
end Go.Proofs.Ytfbaogfcpldlnaa
