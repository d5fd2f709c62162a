import Derived.Test.YtfbaogfcpldlnaaWa
import Derived.BigRegion
import Derived.Deep.RegionWith
import Derived.Test.YtfbaogfcpldlnaaGc
import Derived.Test.YtfbaogfcpldlnaaEd
set_option linter.unusedVariables false
set_option linter.unusedSimpArgs false
set_option linter.unusedSimpArgs false
open Go Go.Ev Go.RowKit
namespace Go.Proofs.Ytfbaogfcpldlnaa
noncomputable def tail70 : Code := match Try.f70.body with | some c => dropSeq 3 c | none => .skip
noncomputable def reg70 : Code := fstC tail70
noncomputable def cond70 : Code := sndC tail70
set_option maxHeartbeats 8000000 in
set_option maxRecDepth 100000 in
theorem cond70_walk (Q : Ending → World → Prop) (ga fb : Nat) (b : Bool) (a3 : Option Addr) (l3 p3 : Nat) (w4 : World) (hc3 : w4.cell? ⟨fb, 3, none⟩ = some (.slice a3 l3 p3))
  (h0 : b = false → Q (.returned (.tuple #[])) w4) (h1 : b = true → Calls Try.prog 40 #[.pointer (some ⟨ga, 0, none⟩), .slice a3 l3 p3] w4 fun e w' => e = .returned (.tuple #[]) ∧ Q e w')
  (u1 u2 u3 u5 u6 u7 u8 u9 u10 u11 u12 u13 u14 u15 u16 u17 u18 u19 u20 u21 u22 u23 u24 u25 u26 u27 u28 u29 u30 u31 u32 u33 u34 u35 u36 u37 u38 u40 u41 u42 u43 : Value) :
  Code.wp Try.prog cond70 (bodyPost Try.prog Try.f70 Q) ⟨#[.pointer (some ⟨ga, 0, none⟩), u1, u2, u3, .pointer (some ⟨fb, 0, none⟩), u5, u6, u7, u8, u9, u10, u11, u12, u13, u14, u15, u16, u17, u18, u19, u20, u21, u22, u23, u24, u25, u26, u27, u28, u29, u30, u31, u32, u33, u34, u35, u36, u37, u38, .bool b, u40, u41, u42, u43], []⟩ w4 := by
 obtain ⟨fn, hfn⟩ : ∃ fn, fn = Try.f70 := ⟨_, rfl⟩
 have hres : ∀ (a : Act) (w : World), (results fn a.tmps).run Try.prog w = .ok (.tuple #[]) w := by exact fun a w => results_none (by rw [hfn]; rfl) _ _ _
 rw [← hfn]
 clear hfn
 unfold cond70 tail70
 simp only [Try.f70, dropSeq, fstC, sndC]
 cases b
 ·specialize h0 rfl
  clear h1
  go_wp2
  exact bodyPost_end (hres _ _) rfl h0
 ·specialize h1 rfl
  clear h0
  go_wp2_with (go_at_call 40; refine h1.mono ?_; rintro e' w1 ⟨rfl, hq⟩)
  exact bodyPost_end (hres _ _) rfl hq
set_option maxHeartbeats 8000000 in
set_option maxRecDepth 100000 in
theorem reg70_walk (Q : Ending → World → Prop) (ga fb : Nat) (ok ap : Bool) (a0 : Option Addr) (l0 p0 : Nat) (s1 s2 s6 o : ByteArray) (w3 : World) (P : World → Prop)
  (r0 : w3.cell? ⟨ga, 0, none⟩ = some (.slice a0 l0 p0)) (r1 : w3.cell? ⟨ga, 1, none⟩ = some (.string s1)) (r2 : w3.cell? ⟨ga, 2, none⟩ = some (.string s2)) (r6 : w3.cell? ⟨ga, 6, none⟩ = some (.string s6)) (f1 : w3.cell? ⟨fb, 1, none⟩ = some (.string o))
  (hcall : Calls Try.prog 22 #[.agg #[.slice a0 l0 p0, .string s1, .string s2], .string s6, .string o] w3.drew fun e w' => e = .returned (.bool ap) ∧ P w')
  (K : Act → World → Prop) (hK : ∀ a w, Code.wp Try.prog cond70 (bodyPost Try.prog Try.f70 Q) a w → K a w)
  (hF : ∀ w' (b : Bool) u1 u2 u3 u5 u6 u7 u8 u9 u10 u11 u12 u13 u14 u15 u16 u17 u18 u19 u20 u21 u22 u23 u24 u25 u26 u27 u28 u29 u30 u31 u32 u33 u34 u35 u36 u37 u38 u40 u41 u42 u43, (ok = false ∧ b = false ∧ w' = w3.drew) ∨ (ok = true ∧ b = ap ∧ P w') →
   Code.wp Try.prog cond70 (bodyPost Try.prog Try.f70 Q) ⟨#[.pointer (some ⟨ga, 0, none⟩), u1, u2, u3, .pointer (some ⟨fb, 0, none⟩), u5, u6, u7, u8, u9, u10, u11, u12, u13, u14, u15, u16, u17, u18, u19, u20, u21, u22, u23, u24, u25, u26, u27, u28, u29, u30, u31, u32, u33, u34, u35, u36, u37, u38, .bool b, u40, u41, u42, u43], []⟩ w')
  (u1 u2 u3 u6 u7 u8 u9 u10 u11 u12 u13 u14 u15 u16 u17 u18 u19 u20 u21 u22 u23 u24 u25 u26 u27 u28 u29 u30 u31 u32 u33 u34 u35 u36 u37 u38 u39 u40 u41 u42 u43 : Value) :
  Code.wp Try.prog reg70 (Exit.then K (bodyPost Try.prog Try.f70 Q)) ⟨#[.pointer (some ⟨ga, 0, none⟩), u1, u2, u3, .pointer (some ⟨fb, 0, none⟩), .bool ok, u6, u7, u8, u9, u10, u11, u12, u13, u14, u15, u16, u17, u18, u19, u20, u21, u22, u23, u24, u25, u26, u27, u28, u29, u30, u31, u32, u33, u34, u35, u36, u37, u38, u39, u40, u41, u42, u43], []⟩ w3 := by
 obtain ⟨fn, hfn⟩ : ∃ fn, fn = Try.f70 := ⟨_, rfl⟩
 rw [← hfn] at hK hF ⊢
 clear hfn
 replace hF := (id hF : Hid _)
 replace hK := (id hK : Hid _)
 unfold reg70 tail70
 simp only [Try.f70, dropSeq, fstC]
 cases ok
 ·clear hcall
  go_region
  all_goals exact hK.out _ _ (hF.out _ false _ _ _ _ _ _ _ _ _ _ _ _ _ _ _ _ _ _ _ _ _ _ _ _ _ _ _ _ _ _ _ _ _ _ _ _ _ _ _ _ _ (.inl ⟨rfl, rfl, rfl⟩))
 ·go_region_with (go_at_call 22; refine hcall.mono ?_; rintro e' w4 ⟨rfl, hP⟩)
  all_goals exact hK.out _ _ (hF.out _ ap _ _ _ _ _ _ _ _ _ _ _ _ _ _ _ _ _ _ _ _ _ _ _ _ _ _ _ _ _ _ _ _ _ _ _ _ _ _ _ _ _ (.inr ⟨by trivial, rfl, hP⟩))
open Go Go.Ev Go.RowKit
set_option maxHeartbeats 8000000 in
set_option maxRecDepth 100000 in
theorem spread_walk {e : GEnv} {B ga gm : Nat} {M : Mem} {w : World} {st s' : GSt} (h : GSh e B ga gm M w st) (name : Str) (hname : name.length ≤ maxLen) (hfr : Sm e.d.frags) (hsok : SOk e.s) (hmet : st.2.length < maxLen)
  (R : List GSel → GSt → Option GSt)
  (hR : ∀ (l : List GSel) (s1 s2 : GSt) (M1 : Mem) (w1 : World) (c : Value), R l s1 = some s2 → GSh e B ga gm M1 w1 s1 → Rv M1 noB (.slice (List.map encSel l) [] false) c → (l = (gFrag e.d name).1.sels ∧ s1 = (st.1, st.2 ++ [name]) ∧ st.2.contains name = false ∧ (gFrag e.d name).2 = true) →
   Calls Try.prog 40 #[.pointer (some ⟨ga, 0, none⟩), c] w1 fun er w' => er = .returned (.tuple #[]) ∧ ∃ M', GSh e B ga gm M' w' s2 ∧ From B M1 w1 M' w')
  (hs : (bif st.2.contains name then some st else bif (gFrag e.d name).2 && gApplies e.s e.typ (gFrag e.d name).1.on_ then R (gFrag e.d name).1.sels (st.1, st.2 ++ [name]) else some (st.1, st.2 ++ [name])) = some s') :
  Calls Try.prog 70 #[.pointer (some ⟨ga, 0, none⟩), .string ⟨name.toArray⟩] w fun er w' =>
   er = .returned (.tuple #[]) ∧ ∃ M', GSh e B ga gm M' w' s' ∧ From B M w M' w' := by
 obtain ⟨hne, h0, h1, h2, h3, h4, h5, h6, oa, cap, vs, hg⟩ := h
 obtain ⟨⟨a0, l0, p0, rfl⟩, rfl, rfl, ⟨b3, m3, n3, rfl⟩, ⟨b4, m4, n4, rfl⟩, ⟨b5, m5, n5, rfl⟩, rfl⟩ := hg.heads
 obtain ⟨k0, k1, k2, k3, k4, k5, k6, k8, klt⟩ := hg.cells
 have hcall := frag_call e.d name hfr _ _ hg.cons hg.rd
 obtain ⟨F, ok, hfr'⟩ : ∃ F ok, gFrag e.d name = (F, ok) := ⟨_, _, rfl⟩
 rw [hfr'] at hcall hs hR
 simp only at hcall hs hR
 clear hfr'
 replace hR := (id hR : Hid _)
 replace hs := (id hs : Hid _)
 clear k0 k1 k2 k5 k6
 go_enter Try.func70, Try.ntmps70
 go_wp2_with (first
  | (go_at_call 23; refine hcall.mono ?_; rintro e' w1 ⟨a2, l2, p2, a3, l3, p3, M1, rfl, hv1, hc1, hq1⟩; clear hcall; have hg1 := hg.quiet hq1 hc1; obtain ⟨q0, q1, q2, q3, q4, q5, q6, q8, qlt⟩ := hg1.cells; clear q0 q1 q2 q3 q4 q5 q6 k3 k4 k8; have hlook : ∀ o, (Instr.lookup 82 (.map (some gm)) (.string ⟨name.toArray⟩) false).run Try.prog (w1.alloc o) = .ok (.bool (st.2.contains name)) (w1.alloc o) := fun o => (hg1.met.congr (heap_alloc_old w1 o hg1.met.lt)).lookup Try.u82 (Try.z4 _) name hname)
  | (at_mapUpdate; have hg2 := hg1.quiet (quiet_below ((Below.refl _ _).alloc (Nat.le_refl _) (.cells #[.string ⟨F.name.toArray⟩, .string ⟨F.on_.toArray⟩, .slice a2 l2 p2, .slice a3 l3 p3] 60))) (cons_below hg1.cons ((Below.refl _ _).alloc (Nat.le_refl _) (.cells #[.string ⟨F.name.toArray⟩, .string ⟨F.on_.toArray⟩, .slice a2 l2 p2, .slice a3 l3 p3] 60))); refine wpList_met rfl _ _ _ 82 rfl Try.u82 gm st.2 rfl hg2.met hmet name hname rfl rfl rfl ?_; intro w3 hm3 hgrow3; have hg3 := hg2.meet hm3 hgrow3; clear hlook))
 ·have hc : st.2.contains name = true := by
   have : name ∈ st.2 := by assumption
   exact List.contains_iff_mem.2 this
  have hs := hs.out
  rw [hc] at hs
  cases hs
  have hb : Below w1.heap.size w1 (w1.alloc (.cells #[.string ⟨F.name.toArray⟩, .string ⟨F.on_.toArray⟩, .slice a2 l2 p2, .slice a3 l3 p3] 60)) := (Below.refl _ _).alloc (Nat.le_refl _) _
  refine bodyPost_ret (results_none (by rfl) _ _ _) rfl ?_
  refine ⟨rfl, M1, ⟨hne, _, _, _, _, _, _, _, _, _, _, hg1.quiet (quiet_below hb) (cons_below hc1 hb)⟩, (From.of_quiet hq1 hg.le).trans (.of_below (hb.mono hg1.le))⟩
 ·have hc : st.2.contains name = false := by
   have : name ∉ st.2 := by assumption
   rw [Bool.eq_false_iff]; exact fun h => this (List.contains_iff_mem.1 h)
  have hs := hs.out
  rw [hc] at hs
  simp only [cond_false] at hs
  have hR := hR.out
  have hK := ‹∀ (a : Act) (w : World), Code.wp Try.prog _ _ a w → _›
  obtain ⟨hg3, hbm⟩ := hg3
  have hb1 : Below w1.heap.size w1 (w1.alloc (.cells #[.string ⟨F.name.toArray⟩, .string ⟨F.on_.toArray⟩, .slice a2 l2 p2, .slice a3 l3 p3] 60)) := (Below.refl _ _).alloc (Nat.le_refl _) _
  have hfrom : From B M w M1 w3 := (From.of_quiet hq1 hg.le).trans ((From.of_below (hb1.mono hg1.le)).trans (.of_below hbm))
  obtain ⟨r0, r1, r2, r3, r4, r5, r6, r8, rlt⟩ := hg3.cells
  have hw3f : w3.heap[w1.heap.size]? = some (.cells #[.string ⟨F.name.toArray⟩, .string ⟨F.on_.toArray⟩, .slice a2 l2 p2, .slice a3 l3 p3] 60 (0, 0)) := (hgrow3.block w1.heap.size (by simp) (by have := hg1.met.lt; simp; omega)).trans (heap_alloc_new w1 _)
  have f1 : w3.cell? ⟨w1.heap.size, 1, none⟩ = some (.string ⟨F.on_.toArray⟩) := by rw [cell_of_row w3 _ _ _ _ _ hw3f]; rfl
  have hd3 : Below w3.heap.size w3 w3.drew := (Below.refl w3.heap.size w3).drew
  have hg3d := hg3.quiet (quiet_below hd3) (cons_below hg3.cons hd3)
  have hlt3 : w1.heap.size < w3.heap.size := (Array.getElem?_eq_some_iff.1 hw3f).1
  refine reg70_walk _ ga w1.heap.size ok (gApplies e.s e.typ F.on_) a0 l0 p0 _ _ _ _ w3 (fun w' => ∃ M4, Cons M4 w' ∧ Quiet M1 w3.drew M4 w') r0 r1 r2 r6 f1 ((applies_call e.s e.typ F.on_ hsok _ _ _ hg3d.cons hg3d.rs).mono ?_) _ hK ?_ _ _ _ _ _ _ _ _ _ _ _ _ _ _ _ _ _ _ _ _ _ _ _ _ _ _ _ _ _ _ _ _ _ _ _ _ _ _ _ _ _
  ·rintro e' w4 ⟨M4, rfl, h1, h2⟩
   exact ⟨rfl, M4, h1, h2⟩
  ·intro w' b u1 u2 u3 u5 u6 u7 u8 u9 u10 u11 u12 u13 u14 u15 u16 u17 u18 u19 u20 u21 u22 u23 u24 u25 u26 u27 u28 u29 u30 u31 u32 u33 u34 u35 u36 u37 u38 u40 u41 u42 u43 hor
   have hM : ∃ M4, Cons M4 w' ∧ Quiet M1 w3.drew M4 w' ∧ b = (ok && gApplies e.s e.typ F.on_) := by
    rcases hor with ⟨rfl, rfl, rfl⟩ | ⟨rfl, rfl, M4, h1, h2⟩
    ·exact ⟨M1, hg3d.cons, Quiet.refl _ _, rfl⟩
    ·exact ⟨M4, h1, h2, rfl⟩
   obtain ⟨M4, hc4, hq4, hb⟩ := hM
   have hg4 := hg3d.quiet hq4 hc4
   have hfrom4 : From B M w M4 w' := (hfrom.trans (.of_below (hd3.mono hg3.le))).trans (From.of_quiet hq4 hg3d.le)
   have hc3 : w'.cell? ⟨w1.heap.size, 3, none⟩ = some (.slice a3 l3 p3) := by
    rw [cell_of_row w' _ _ _ _ _ ((hq4.old w1.heap.size (show w1.heap.size < w3.drew.heap.size from hlt3)).1.trans ((hd3.block _ hlt3).trans hw3f))]; rfl
   refine cond70_walk _ ga w1.heap.size b a3 l3 p3 w' hc3 ?_ ?_ _ _ _ _ _ _ _ _ _ _ _ _ _ _ _ _ _ _ _ _ _ _ _ _ _ _ _ _ _ _ _ _ _ _ _ _ _ _ _ _ _
   ·intro hbf
    rw [← hb, hbf] at hs
    cases hs
    exact ⟨rfl, M4, ⟨hne, _, _, _, _, _, _, _, _, _, _, hg4⟩, hfrom4⟩
   ·intro hbt
    rw [← hb, hbt] at hs
    have hok : ok = true := by
     have h3 := hb.symm.trans hbt
     rw [Bool.and_eq_true] at h3
     exact h3.1
    refine (hR F.sels (st.1, st.2 ++ [name]) s' M4 w' _ hs ⟨hne, _, _, _, _, _, _, _, _, _, _, hg4⟩ ((hv1.mono hq4.mem (fun _ _ _ h => h))) ⟨rfl, rfl, hc, hok⟩).mono ?_
    rintro er w'' ⟨rfl, M5, h5, h6⟩
    exact ⟨rfl, rfl, M5, h5, hfrom4.trans h6⟩
theorem sel_slice {M : Mem} {w : World} {l : List GSel} {c : Value} (hc : Cons M w) (h : Rv M noB (.slice (List.map encSel l) [] false) c) :
  ∃ oa cap, c = .slice oa l.length cap ∧ l.length ≤ cap ∧ (l ≠ [] → ∃ blk off, oa = some ⟨blk, off, none⟩) ∧ ∀ (blk off : Nat), oa = some ⟨blk, off, none⟩ → ∀ (k : Nat) (x : GSel), l[k]? = some x → ∃ c3 c4 c6, CV M x c3 c4 c6 ∧ ∀ (j : Nat) (v : Value), (xCells x c3 c4 c6)[j]? = some v → M blk (off + k * 7 + j) = some v := by
 generalize hes : List.map encSel l = es at h
 cases h with
 | nil o =>
  have : l = [] := by simpa using hes
  subst this
  exact ⟨none, 0, rfl, Nat.le_refl _, fun h => absurd rfl h, fun _ _ h => by simp at h⟩
 | slice es' bs o a cap s f ha hcp ho hel hm hr =>
  have hl : es.length = l.length := by rw [← hes]; simp
  have hle : l.length ≤ cap := by simp at hcp; omega
  refine ⟨some a, cap, by rw [hl], hle, fun hne => ⟨a.block, a.off, by
   have := ha (by have := List.length_pos_iff.2 hne; omega)
   obtain ⟨b, o, s⟩ := a; simp only at this; rw [this]⟩, fun blk off hoa k x hx => ?_⟩
  cases hoa
  have hx' : (es ++ [])[k]? = some (encSel x) := by rw [List.append_nil, ← hes, List.getElem?_map, hx]; rfl
  have hs : s = 7 := by
   have := hel k _ hx'
   obtain ⟨_, _, h3, _⟩ := this
   rw [encSel_eq] at h3
   exact h3.symm
  subst hs
  have hk : k < l.length := (List.getElem?_eq_some_iff.1 hx).1
  have hR : RvL M noB (encSel x).cells [f k 0, f k 1, f k 2, f k 3, f k 4, f k 5, f k 6] := by
   refine rvl_of _ _ (by rw [encSel_eq]; rfl) fun i c v h1 h2 => ?_
   have hi : i < 7 := by have := (List.getElem?_eq_some_iff.1 h2).1; simpa using this
   have := hr k _ i c hx' h1
   match i, hi, h2 with
   | 0, _, h2 => cases h2; exact this
   | 1, _, h2 => cases h2; exact this
   | 2, _, h2 => cases h2; exact this
   | 3, _, h2 => cases h2; exact this
   | 4, _, h2 => cases h2; exact this
   | 5, _, h2 => cases h2; exact this
   | 6, _, h2 => cases h2; exact this
  obtain ⟨c3, c4, c6, e, hcv⟩ := rv_selL hR
  refine ⟨c3, c4, c6, hcv, fun j v hv => ?_⟩
  rw [← e] at hv
  have hj : j < 7 := by have := (List.getElem?_eq_some_iff.1 hv).1; simpa using this
  have := hm k _ j hx' hj
  match j, hj, hv with
  | 0, _, hv => cases hv; exact this
  | 1, _, hv => cases hv; exact this
  | 2, _, hv => cases hv; exact this
  | 3, _, hv => cases hv; exact this
  | 4, _, hv => cases hv; exact this
  | 5, _, hv => cases hv; exact this
  | 6, _, hv => cases hv; exact this
theorem cell_of_mem {M : Mem} {w : World} (hc : Cons M w) {b i : Nat} {v : Value} (h : M b i = some v) : w.cell? ⟨b, i, none⟩ = some v := by
 obtain ⟨arr, T, fz, h1, h2⟩ := hc b i v h
 rw [cell_of_row w b _ _ _ _ h1]; exact h2
theorem noGoto_normal {Q : Exit → Act → World → Prop} {a : Act} {w : World} : Exit.noGoto Q .normal a w = Q .normal a w := rfl
def pot (e : GEnv) (st : GSt) : Nat := tot st.1 + unmet e.d.frags st.2 + st.2.length
theorem pot_met {e : GEnv} {gs : List GGroup} {met : List Str} {n : Str} (hm : met.contains n = false) (hf : (gFrag e.d n).2 = true) : pot e (gs, met ++ [n]) + bkSels (gFrag e.d n).1.sels ≤ pot e (gs, met) := by
 unfold gFrag at hf ⊢
 cases hff : e.d.frags.find? (fun f => f.name == n) with
 | none => rw [hff] at hf; simp at hf
 | some f =>
  have := unmet_mem hm hff
  have := bkF_sels f
  simp only [pot, List.length_append, List.length_cons, List.length_nil]; omega
theorem pot_met' {e : GEnv} {gs : List GGroup} {met : List Str} (n : Str) : pot e (gs, met ++ [n]) ≤ pot e (gs, met) + 1 := by
 have := unmet_le n met e.d.frags
 simp only [pot, List.length_append, List.length_cons, List.length_nil]; omega
theorem step_pot {e : GEnv} {r : List GSel → GSt → Option GSt} (hr : ∀ l st s, r l st = some s → pot e s ≤ pot e st + bkSels l) {x : GSel} {st s : GSt} (h : stepG e r x st = some s) : pot e s ≤ pot e st + bkSel x := by
 have hx := bkS_sels x
 unfold stepG at h
 cases h1 : gHolds e.env x.dirs <;> rw [h1] at h
 ·cases h; omega
 cases h2 : x.kind == 0 <;> rw [h2] at h
 ·cases h3 : x.kind == 1 <;> rw [h3] at h
  ·cases h4 : x.kind == 2 <;> rw [h4] at h
   ·cases h; omega
   ·cases h5 : gApplies e.s e.typ x.on_ <;> rw [h5] at h
    ·cases h; omega
    ·have := hr _ _ _ h; omega
  ·cases h4 : st.2.contains x.name <;> rw [h4] at h
   ·cases h5 : (gFrag e.d x.name).2 && gApplies e.s e.typ (gFrag e.d x.name).1.on_ <;> rw [h5] at h
    ·cases h
     have h6 : pot e (st.1, st.2 ++ [x.name]) ≤ pot e st + 1 := pot_met' (e := e) (gs := st.1) (met := st.2) x.name
     omega
    ·have h6 := hr _ _ _ h
     rw [Bool.and_eq_true] at h5
     have := pot_met (e := e) (gs := st.1) h4 h5.1
     have e' : pot e (st.1, st.2) = pot e st := rfl
     omega
   ·cases h; omega
 ·cases h
  simp only [pot, tot_put]
  omega
theorem thr_pot (e : GEnv) : ∀ (n : Nat) (l : List GSel) (st s : GSt), thr e n l st = some s → pot e s ≤ pot e st + bkSels l
 | 0, _, _, _, h => by simp [thr] at h
 | n + 1, [], st, s, h => by simp only [thr, Option.some.injEq] at h; subst h; omega
 | n + 1, x :: l, st, s, h => by
  simp only [thr] at h
  obtain ⟨s1, h1, h2⟩ := Ev.bnd_some h
  have := step_pot (thr_pot e n) h1
  have := thr_pot e n l s1 s h2
  rw [bkS_cons]; omega
set_option maxHeartbeats 8000000 in
set_option maxRecDepth 100000 in
theorem through_step {e : GEnv} {B ga gm C : Nat} (n : Nat) (ih : ∀ (l : List GSel) (st s' : GSt) (M : Mem) (w : World) (c : Value), thr e n l st = some s' → GSh e B ga gm M w st → Rv M noB (.slice (List.map encSel l) [] false) c → bkSels l ≤ C → pot e st + bkSels l ≤ C →
      Calls Try.prog 40 #[.pointer (some ⟨ga, 0, none⟩), c] w fun er w' => er = .returned (.tuple #[]) ∧ ∃ M', GSh e B ga gm M' w' s' ∧ From B M w M' w')
    (hfr : Sm e.d.frags) (hsok : SOk e.s) (henv : Sm e.env) (hdoc : ∀ n, bkSels (gFrag e.d n).1.sels ≤ C)
    (l : List GSel) (st s' : GSt) (M : Mem) (w : World) (c : Value) (h : thr e (n + 1) l st = some s') (hg : GSh e B ga gm M w st) (hc : Rv M noB (.slice (List.map encSel l) [] false) c) (hl : bkSels l ≤ C) (hp : pot e st + bkSels l ≤ C) (hC : C ≤ 536870912) :
    Calls Try.prog 40 #[.pointer (some ⟨ga, 0, none⟩), c] w fun er w' => er = .returned (.tuple #[]) ∧ ∃ M', GSh e B ga gm M' w' s' ∧ From B M w M' w' := by
  obtain ⟨oa, cap, rfl, hcap, hne, hat⟩ := sel_slice (by obtain ⟨_, _, _, _, _, _, _, _, _, _, _, hg⟩ := hg; exact hg.cons) hc
  obtain ⟨N, hN⟩ : ∃ N, l.length = N := ⟨_, rfl⟩
  rw [hN] at hcap ⊢
  by_cases h0 : l = []
  · subst h0
    simp at hN
    subst hN
    simp only [thr, Option.some.injEq] at h
    subst h
    clear hat hne hc ih
    go_enter Try.func40, Try.ntmps40
    go_wp2
    go_step3
    go_wp2
    go_step3
    go_wp2
    refine wp_loop_rounds 1 ?_; rw [rounds_succ]; go_wp2
    rw [noGoto_normal]
    exact bodyPost_end (results_none (by rfl) _ _ _) rfl ⟨rfl, M, hg, From.refl _ _ _⟩
  obtain ⟨blk, off, rfl⟩ := hne h0
  have hat := hat blk off rfl
  have hNb : N ≤ 536870912 := by have := bkSels_len l; omega
  have hxat : ∀ (k : Nat), ∃ x a3 l3 p3 a4 l4 p4 a6 l6 p6, k < N → l[k]? = some x ∧ CV M x (.slice a3 l3 p3) (.slice a4 l4 p4) (.slice a6 l6 p6) ∧ ∀ (j : Nat) (v : Value), (xCells x (.slice a3 l3 p3) (.slice a4 l4 p4) (.slice a6 l6 p6))[j]? = some v → M blk (off + k * 7 + j) = some v := by
    intro k
    by_cases hk : k < N
    · have hx := List.getElem?_eq_getElem (l := l) (i := k) (by omega)
      obtain ⟨c3, c4, c6, h1, h2⟩ := hat k _ hx
      obtain ⟨a3, l3, p3, rfl⟩ := isSlice h1.r3
      obtain ⟨a4, l4, p4, rfl⟩ := isSlice h1.r4
      obtain ⟨a6, l6, p6, rfl⟩ := isSlice h1.r6
      exact ⟨_, a3, l3, p3, a4, l4, p4, a6, l6, p6, fun _ => ⟨hx, h1, h2⟩⟩
    · exact ⟨⟨0, [], [], [], [], [], []⟩, none, 0, 0, none, 0, 0, none, 0, 0, fun h => absurd h hk⟩
  clear hat hne
  replace ih := (id ih : Hid _)
  replace hdoc := (id hdoc : Hid _)
  go_enter Try.func40, Try.ntmps40
  go_wp2
  go_step3
  go_wp2
  go_step3
  go_wp2
  go_loopw [8] (fun t8 wr => ∃ (k m : Nat) (st1 : GSt) (M1 : Mem), k ≤ N ∧ t8 = .int .i64 k ∧ m ≤ n + 1 ∧ thr e m (l.drop k) st1 = some s' ∧ GSh e B ga gm M1 wr st1 ∧ From B M w M1 wr ∧ pot e st1 + bkSels (l.drop k) ≤ C) (fun t8 _ => N - (intOf t8).toNat)
  case atStart => exact ⟨0, n + 1, st, M, Nat.zero_le _, rfl, Nat.le_refl _, h, hg, From.refl _ _ _, hp⟩
  case round =>
    obtain ⟨k, m, st1, M1, hkN, rfl, hmn, hthr, ⟨hne1, h0, h1, h2, h3, h4, h5, h6, oa1, cap1, vs1, hG⟩, hfrom, hpt⟩ := hrel
    obtain ⟨x, a3, l3, p3, a4, l4, p4, a6, l6, p6, hx⟩ := hxat k
    obtain ⟨⟨a0, l0, p0, rfl⟩, rfl, rfl, ⟨b3, m3, n3, rfl⟩, ⟨b4, m4, n4, rfl⟩, ⟨b5, m5, n5, rfl⟩, rfl⟩ := hG.heads
    have hxc : k < N → ∀ (j : Nat) (v : Value), (xCells x (.slice a3 l3 p3) (.slice a4 l4 p4) (.slice a6 l6 p6))[j]? = some v → wr.cell? ⟨blk, off + k * 7 + j, none⟩ = some v := fun hk j v hv => cell_of_mem hG.cons (hfrom.mem _ _ _ ((hx hk).2.2 j v hv))
    have x0 : k < N → wr.cell? ⟨blk, off + k * 7, none⟩ = some (.int .i64 x.kind) := fun hk => hxc hk 0 _ rfl
    have x1 : k < N → wr.cell? ⟨blk, off + k * 7 + 1, none⟩ = some (.string ⟨x.alias.toArray⟩) := fun hk => hxc hk 1 _ rfl
    have x2 : k < N → wr.cell? ⟨blk, off + k * 7 + 2, none⟩ = some (.string ⟨x.name.toArray⟩) := fun hk => hxc hk 2 _ rfl
    have x3 : k < N → wr.cell? ⟨blk, off + k * 7 + 3, none⟩ = some (.slice a3 l3 p3) := fun hk => hxc hk 3 _ rfl
    have x4 : k < N → wr.cell? ⟨blk, off + k * 7 + 4, none⟩ = some (.slice a4 l4 p4) := fun hk => hxc hk 4 _ rfl
    have x5 : k < N → wr.cell? ⟨blk, off + k * 7 + 5, none⟩ = some (.string ⟨x.on_.toArray⟩) := fun hk => hxc hk 5 _ rfl
    have x6 : k < N → wr.cell? ⟨blk, off + k * 7 + 6, none⟩ = some (.slice a6 l6 p6) := fun hk => hxc hk 6 _ rfl
    clear hxc
    replace hxat := (id hxat : Hid _)
    go_wp2
    · rename_i hlt K2 hK2 K1 hK1 K0 hK0
      replace hK2 := (id hK2 : Hid _)
      replace hK1 := (id hK1 : Hid _)
      replace hK0 := (id hK0 : Hid _)
      clear x0 x1 x2 x3 x4 x5 x6
      obtain ⟨hx, hCV, _⟩ := hx hlt
      have hdrop : l.drop k = x :: l.drop (k + 1) := by
        rw [List.drop_eq_getElem_cons (by omega)]
        congr 1
        have := List.getElem?_eq_getElem (l := l) (i := k) (by omega)
        rw [hx] at this
        exact (Option.some.inj this).symm
      rw [hdrop] at hthr hpt
      rw [bkS_cons] at hpt
      obtain ⟨m', rfl⟩ : ∃ m', m = m' + 1 := by
        cases m with
        | zero => simp [thr] at hthr
        | succ m' => exact ⟨m', rfl⟩
      simp only [thr] at hthr
      obtain ⟨s1, hs1, hrest⟩ := Ev.bnd_some hthr
      have hstep : stepG e (thr e n) x st1 = some s1 := step_mono (fun l st s h => thr_le e (by omega) h) hs1
      have hpt1 := step_pot (thr_pot e n) hstep
      have htot : tot st1.1 ≤ 1073741824 := by have : tot st1.1 ≤ pot e st1 := by unfold pot; omega
                                               omega
      have hmet : st1.2.length < maxLen := by
        have : st1.2.length ≤ pot e st1 := by unfold pot; omega
        unfold maxLen; omega
      have hxl : bkSel x ≤ C := Nat.le_trans (bkSels_mem (List.mem_of_getElem? hx)) hl
      have hxsC : bkSels x.sels ≤ C := by have := bkS_sels x; omega
      have hpx : pot e st1 + bkSels x.sels ≤ C := by have := bkS_sels x; omega
      have hxb := hxl
      rw [bkSel_eq] at hxb
      have hname : x.name.length ≤ maxLen := by unfold maxLen; simp only [bkStr] at hxb; omega
      have hdirs : Sm x.dirs := by
        have := sl_len (f := bkDir) (fun d => by rw [bkDir_eq]; omega) x.dirs
        show x.dirs.length < _; omega
      have hdargs : ∀ d ∈ x.dirs, Sm d.args := by
        intro d hd
        have h1 := sl_mem (f := bkDir) hd
        rw [bkDir_eq] at h1
        have h2 := sl_len (f := bkMember) (fun d => by rw [bkMember_eq, bkValue_eq]; omega) d.args
        show d.args.length < _; omega
      have fin : Hid (∀ (M' : Mem) (w' : World) (v5 v9 v10 v11 v12 v13 v14 v15 v16 v17 v18 v19 v20 v21 v22 v23 v24 v25 v26 v27 v28 v29 v30 v31 v32 v33 v34 v35 v36 v37 v38 v39 v40 v41 v42 v43 v44 v45 v46 v47 v48 v49 v50 : Value), GSh e B ga gm M' w' s1 → From B M1 wr M' w' → K2 ⟨#[.pointer (some ⟨ga, 0, none⟩), .slice (some ⟨blk, off, none⟩) N cap, undef, undef, undef, v5, .slice (some ⟨blk, off, none⟩) N cap, .int .i64 N, .int .i64 k, v9, v10, v11, v12, v13, v14, v15, v16, v17, v18, v19, v20, v21, v22, v23, v24, v25, v26, v27, v28, v29, v30, v31, v32, v33, v34, v35, v36, v37, v38, v39, v40, v41, v42, v43, v44, v45, v46, v47, v48, v49, v50], []⟩ w') := by
        intro M' w' v5 v9 v10 v11 v12 v13 v14 v15 v16 v17 v18 v19 v20 v21 v22 v23 v24 v25 v26 v27 v28 v29 v30 v31 v32 v33 v34 v35 v36 v37 v38 v39 v40 v41 v42 v43 v44 v45 v46 v47 v48 v49 v50 hg' hf'
        refine hK2.out _ _ ?_
        go_wp2
        go_roundw
        case rel => exact ⟨k + 1, m', s1, M', by omega, by go_num, by omega, hrest, hg', hfrom.trans hf', by omega⟩
        case measure => simp [intOf]; omega
      clear hthr hs1 hrest hdrop
      replace hstep := (id hstep : Hid _)
      have hb1 : Below wr.heap.size wr (wr.alloc (.cells #[.int .i64 x.kind, .string ⟨x.alias.toArray⟩, .string ⟨x.name.toArray⟩, .slice a3 l3 p3, .slice a4 l4 p4, .string ⟨x.on_.toArray⟩, .slice a6 l6 p6] 41)) := (Below.refl _ _).alloc (Nat.le_refl _) _
      have hXat : XAt (wr.alloc (.cells #[.int .i64 x.kind, .string ⟨x.alias.toArray⟩, .string ⟨x.name.toArray⟩, .slice a3 l3 p3, .slice a4 l4 p4, .string ⟨x.on_.toArray⟩, .slice a6 l6 p6] 41)) wr.heap.size x (.slice a3 l3 p3) (.slice a4 l4 p4) (.slice a6 l6 p6) := heap_alloc_new wr _
      obtain ⟨w1, hw1⟩ : ∃ w1, w1 = wr.alloc (.cells #[.int .i64 x.kind, .string ⟨x.alias.toArray⟩, .string ⟨x.name.toArray⟩, .slice a3 l3 p3, .slice a4 l4 p4, .string ⟨x.on_.toArray⟩, .slice a6 l6 p6] 41) := ⟨_, rfl⟩
      rw [← hw1] at hb1 hXat ⊢
      clear hw1
      have hG1 := hG.quiet (quiet_below hb1) (cons_below hG.cons hb1)
      have hd1 : Below w1.heap.size w1 w1.drew := (Below.refl w1.heap.size w1).drew
      have hG1d := hG1.quiet (quiet_below hd1) (cons_below hG1.cons hd1)
      have hCV1 := hCV.mono hfrom.mem
      have after : Hid (∀ (w2 : World) (M2 : Mem) (v9 v10 v11 v12 v13 v14 v15 v16 v17 v18 v20 v21 v22 v23 v24 v25 v26 v27 v28 v29 v30 v31 v32 v33 v34 v35 v36 v37 v38 v39 v40 v41 v42 v43 v44 v45 v46 v47 v48 v49 v50 : Value), Cons M2 w2 → Quiet M1 w1.drew M2 w2 → K0 ⟨#[.pointer (some ⟨ga, 0, none⟩), .slice (some ⟨blk, off, none⟩) N cap, undef, undef, undef, .pointer (some ⟨wr.heap.size, 0, none⟩), .slice (some ⟨blk, off, none⟩) N cap, .int .i64 N, .int .i64 k, v9, v10, v11, v12, v13, v14, v15, v16, v17, v18, .bool (!gHolds e.env x.dirs), v20, v21, v22, v23, v24, v25, v26, v27, v28, v29, v30, v31, v32, v33, v34, v35, v36, v37, v38, v39, v40, v41, v42, v43, v44, v45, v46, v47, v48, v49, v50], []⟩ w2) := by
        intro w2 M2 v9 v10 v11 v12 v13 v14 v15 v16 v17 v18 v20 v21 v22 v23 v24 v25 v26 v27 v28 v29 v30 v31 v32 v33 v34 v35 v36 v37 v38 v39 v40 v41 v42 v43 v44 v45 v46 v47 v48 v49 v50 hc2 hq2
        refine hK0.out _ _ ?_
        have hG2 := hG1d.quiet hq2 hc2
        have hg2 : GSh e B ga gm M2 w2 st1 := ⟨hne1, _, _, _, _, _, _, _, _, _, _, hG2⟩
        have hf2 : From B M1 wr M2 w2 := (From.of_below (hb1.mono hG.le)).trans ((From.of_below (hd1.mono hG1.le)).trans (From.of_quiet hq2 hG1d.le))
        have hlt1 : wr.heap.size < w1.heap.size := (Array.getElem?_eq_some_iff.1 hXat).1
        have hX2 : XAt w2 wr.heap.size x (.slice a3 l3 p3) (.slice a4 l4 p4) (.slice a6 l6 p6) := (hq2.old wr.heap.size hlt1).1.trans ((hd1.block _ hlt1).trans hXat)
        have hCV2 := hCV1.mono hq2.mem
        obtain ⟨q0, q1, q2, q3, q4, q5, q6⟩ := hX2.cells
        have hstep := hstep.out
        unfold stepG at hstep
        cases hh : gHolds e.env x.dirs
        · rw [hh] at hstep
          cases hstep
          clear hG2 hG1 hG1d hG hX2 hXat q0 q1 q2 q3 q4 q5 q6
          go_wp2
          exact fin.out M2 w2 _ _ _ _ _ _ _ _ _ _ _ _ _ _ _ _ _ _ _ _ _ _ _ _ _ _ _ _ _ _ _ _ _ _ _ _ _ _ _ _ _ _ _ hg2 hf2
        · rw [hh] at hstep
          simp only [cond_true] at hstep
          replace hstep := (id hstep : Hid _)
          clear hG1 hG1d hG
          go_wp2
          refine hK1.out _ _ ?_
          have hR : ∀ (l2 : List GSel) (s2 s3 : GSt) (M3 : Mem) (w3 : World) (c : Value), thr e n l2 s2 = some s3 → GSh e B ga gm M3 w3 s2 → Rv M3 noB (.slice (List.map encSel l2) [] false) c → (l2 = (gFrag e.d x.name).1.sels ∧ s2 = (st1.1, st1.2 ++ [x.name]) ∧ st1.2.contains x.name = false ∧ (gFrag e.d x.name).2 = true) →
              Calls Try.prog 40 #[.pointer (some ⟨ga, 0, none⟩), c] w3 fun er w' => er = .returned (.tuple #[]) ∧ ∃ M', GSh e B ga gm M' w' s3 ∧ From B M3 w3 M' w' := by
            rintro l2 s2 s3 M3 w3 c h1 h2 h3 ⟨rfl, rfl, h4, h5⟩
            have := pot_met (e := e) (gs := st1.1) h4 h5
            have e' : pot e (st1.1, st1.2) = pot e st1 := rfl
            exact ih.out _ _ _ M3 w3 c h1 h2 h3 (hdoc.out x.name) (by omega)
          have hstepS : (x.kind == 0) = false → (x.kind == 1) = true → (bif st1.2.contains x.name then some st1 else bif (gFrag e.d x.name).2 && gApplies e.s e.typ (gFrag e.d x.name).1.on_ then thr e n (gFrag e.d x.name).1.sels (st1.1, st1.2 ++ [x.name]) else some (st1.1, st1.2 ++ [x.name])) = some s1 := by
            intro h1 h2
            have := hstep.out
            rw [h1, h2] at this
            exact this
          replace hR := (id hR : Hid _)
          replace hstepS := (id hstepS : Hid _)
          go_wp2_with (first | (go_at_call 69; refine (field_walk hg2 x _ _ _ hCV2 htot).mono ?_; rintro e' w3 ⟨rfl, hg3, hf3⟩) | (go_at_call 70; refine (spread_walk hg2 x.name hname hfr hsok hmet (thr e n) hR.out (hstepS.out (by assumption) (by assumption))).mono ?_; rintro e' w3 ⟨rfl, M3, hg3, hf3⟩))
          · have h0 : (x.kind == 0) = true := by assumption
            have hs := hstep.out
            rw [h0] at hs
            cases hs
            exact fin.out M2 w3 _ _ _ _ _ _ _ _ _ _ _ _ _ _ _ _ _ _ _ _ _ _ _ _ _ _ _ _ _ _ _ _ _ _ _ _ _ _ _ _ _ _ _ hg3 (hf2.trans hf3)
          · exact fin.out M3 w3 _ _ _ _ _ _ _ _ _ _ _ _ _ _ _ _ _ _ _ _ _ _ _ _ _ _ _ _ _ _ _ _ _ _ _ _ _ _ _ _ _ _ _ hg3 (hf2.trans hf3)
          · rename_i h0 h1 h2 K3 hK3
            have hs := hstep.out
            rw [h0, h1, h2] at hs
            simp only [cond_false, cond_true] at hs
            replace hK3 := (id hK3 : Hid _)
            have hd2 : Below w2.heap.size w2 w2.drew := (Below.refl w2.heap.size w2).drew
            have hG2d := hG2.quiet (quiet_below hd2) (cons_below hG2.cons hd2)
            have after2 : Hid (∀ (w3 : World) (M3 : Mem) (v9 v10 v11 v12 v13 v14 v15 v16 v17 v18 v19 v20 v21 v22 v23 v24 v25 v26 v27 v28 v29 v30 v31 v32 v33 v34 v35 v36 v37 v38 v39 v40 v41 v42 v43 v44 v46 v47 v48 v49 v50 : Value), Cons M3 w3 → Quiet M2 w2.drew M3 w3 → K3 ⟨#[.pointer (some ⟨ga, 0, none⟩), .slice (some ⟨blk, off, none⟩) N cap, undef, undef, undef, .pointer (some ⟨wr.heap.size, 0, none⟩), .slice (some ⟨blk, off, none⟩) N cap, .int .i64 N, .int .i64 k, v9, v10, v11, v12, v13, v14, v15, v16, v17, v18, v19, v20, v21, v22, v23, v24, v25, v26, v27, v28, v29, v30, v31, v32, v33, v34, v35, v36, v37, v38, v39, v40, v41, v42, v43, v44, .bool (gApplies e.s e.typ x.on_), v46, v47, v48, v49, v50], []⟩ w3) := by
              intro w3 M3 v9 v10 v11 v12 v13 v14 v15 v16 v17 v18 v19 v20 v21 v22 v23 v24 v25 v26 v27 v28 v29 v30 v31 v32 v33 v34 v35 v36 v37 v38 v39 v40 v41 v42 v43 v44 v46 v47 v48 v49 v50 hc3 hq3
              refine hK3.out _ _ ?_
              have hG3 := hG2d.quiet hq3 hc3
              have hg3 : GSh e B ga gm M3 w3 st1 := ⟨hne1, _, _, _, _, _, _, _, _, _, _, hG3⟩
              have hf3 : From B M1 wr M3 w3 := hf2.trans ((From.of_below (hd2.mono hG2.le)).trans (From.of_quiet hq3 hG2d.le))
              have hlt2 : wr.heap.size < w2.heap.size := (Array.getElem?_eq_some_iff.1 hX2).1
              have hX3 : XAt w3 wr.heap.size x (.slice a3 l3 p3) (.slice a4 l4 p4) (.slice a6 l6 p6) := (hq3.old wr.heap.size hlt2).1.trans ((hd2.block _ hlt2).trans hX2)
              have hCV3 := hCV2.mono hq3.mem
              obtain ⟨r0, r1, r2, r3, r4, r5, r6⟩ := hX3.cells
              clear q0 q1 q2 q3 q4 q5 q6 r0 r1 r2 r3 r4 r5 hG2 hG2d hX2 hXat
              cases ha : gApplies e.s e.typ x.on_
              · rw [ha] at hs
                cases hs
                go_wp2
                exact fin.out M3 w3 _ _ _ _ _ _ _ _ _ _ _ _ _ _ _ _ _ _ _ _ _ _ _ _ _ _ _ _ _ _ _ _ _ _ _ _ _ _ _ _ _ _ _ hg3 hf3
              · rw [ha] at hs
                simp only [cond_true] at hs
                have hih := ih.out x.sels st1 s1 M3 w3 _ hs hg3 hCV3.r6 hxsC hpx
                go_wp2_with (go_at_call 40; refine hih.mono ?_; rintro e' w4 ⟨rfl, M4, hg4, hf4⟩)
                exact fin.out M4 w4 _ _ _ _ _ _ _ _ _ _ _ _ _ _ _ _ _ _ _ _ _ _ _ _ _ _ _ _ _ _ _ _ _ _ _ _ _ _ _ _ _ _ _ hg4 (hf3.trans hf4)
            obtain ⟨g0, g1, g2, g3, g4, g5, g6, g8, glt⟩ := hG2.cells
            have hcall2 := applies_call e.s e.typ x.on_ hsok _ _ _ hG2d.cons hG2d.rs
            clear g3 g4 g5 g8 q0 q1 q2 q3 q4 q6
            go_region_with (go_at_call 22; refine hcall2.mono ?_; rintro e' w3 ⟨M3, rfl, hc3, hq3⟩)
            all_goals exact after2.out _ M3 _ _ _ _ _ _ _ _ _ _ _ _ _ _ _ _ _ _ _ _ _ _ _ _ _ _ _ _ _ _ _ _ _ _ _ _ _ _ _ _ _ hc3 hq3
          · have h0 : (x.kind == 0) = false := by assumption
            have h1 : (x.kind == 1) = false := by assumption
            have h2 : (x.kind == 2) = false := by assumption
            have hs := hstep.out
            rw [h0, h1, h2] at hs
            cases hs
            exact fin.out M2 w2 _ _ _ _ _ _ _ _ _ _ _ _ _ _ _ _ _ _ _ _ _ _ _ _ _ _ _ _ _ _ _ _ _ _ _ _ _ _ _ _ _ _ _ hg2 hf2
      obtain ⟨g0, g1, g2, g3, g4, g5, g6, g8, glt⟩ := hG1.cells
      obtain ⟨q0, q1, q2, q3, q4, q5, q6⟩ := hXat.cells
      have hcall := holds_call e.env x.dirs henv hdirs hdargs _ _ hG1d.cons hG1d.re hCV1.r4
      clear g0 g1 g2 g3 g4 g6 g8 q0 q1 q2 q3 q5 q6
      go_region_with (go_at_call 15; refine hcall.mono ?_; rintro e' w2 ⟨M2, rfl, hc2, hq2⟩)
      all_goals exact after.out _ M2 _ _ _ _ _ _ _ _ _ _ _ _ _ _ _ _ _ _ _ _ _ _ _ _ _ _ _ _ _ _ _ _ _ _ _ _ _ _ _ _ _ hc2 hq2
    · have hge : ¬ k < N := by assumption
      rw [List.drop_eq_nil_of_le (by omega)] at hthr
      have hs : st1 = s' := by
        cases m with
        | zero => simp [thr] at hthr
        | succ m' => simpa [thr] using hthr
      subst hs
      rw [noGoto_normal]
      exact bodyPost_end (results_none (by rfl) _ _ _) rfl ⟨rfl, M1, ⟨hne1, _, _, _, _, _, _, _, _, _, _, hG⟩, hfrom⟩
theorem through_walk {e : GEnv} {B ga gm C : Nat} (hfr : Sm e.d.frags) (hsok : SOk e.s) (henv : Sm e.env) (hdoc : ∀ n, bkSels (gFrag e.d n).1.sels ≤ C) (hC : C ≤ 536870912) : ∀ (n : Nat) (l : List GSel) (st s' : GSt) (M : Mem) (w : World) (c : Value), thr e n l st = some s' → GSh e B ga gm M w st → Rv M noB (.slice (List.map encSel l) [] false) c → bkSels l ≤ C → pot e st + bkSels l ≤ C →
   Calls Try.prog 40 #[.pointer (some ⟨ga, 0, none⟩), c] w fun er w' => er = .returned (.tuple #[]) ∧ ∃ M', GSh e B ga gm M' w' s' ∧ From B M w M' w'
 | 0, l, st, s', M, w, c, h, _, _, _, _ => by simp [thr] at h
 | n + 1, l, st, s', M, w, c, h, hg, hc, hl, hp => through_step n (through_walk hfr hsok henv hdoc hC n) hfr hsok henv hdoc l st s' M w c h hg hc hl hp hC
def frzM (B : Nat) (M : Mem) (w : World) : Mem := fun b i => if B ≤ b then (match w.heap[b]? with | some (.cells arr _ _) => arr[i]? | _ => none) else M b i
theorem frzM_cons {B : Nat} {M : Mem} {w : World} (h : Cons M w) : Cons (frzM B M w) w := by
 intro b i v hv
 unfold frzM at hv
 split at hv
 ·split at hv
  ·rename_i arr T fz hb
   exact ⟨arr, T, fz, hb, hv⟩
  ·simp at hv
 ·exact h b i v hv
theorem frzM_mono {B : Nat} {M : Mem} {w : World} (h : Cons M w) : ∀ b i v, M b i = some v → frzM B M w b i = some v := by
 intro b i v hv
 unfold frzM
 split
 ·obtain ⟨arr, T, fz, h1, h2⟩ := h b i v hv
  rw [h1]; exact h2
 ·exact hv
theorem frzM_old {B : Nat} {M : Mem} {w : World} {b : Nat} (h : b < B) (i : Nat) : frzM B M w b i = M b i := by
 unfold frzM; rw [if_neg (by omega)]
theorem own_frz {B B' e size n : Nat} {M : Mem} {BB : BM} {w : World} {v : Value} {xs : List Value} (h : w.ownsRow B' e size v n xs) (hB : B ≤ B') (es : List PV) (hn : es.length = n) (hok : ∀ p ∈ es, okEl size p) (hr : ∀ (i : Nat) (p : PV) (j : Nat) (c : PV), es[i]? = some p → p.cells[j]? = some c → ∃ u, xs[i * size + j]? = some u ∧ Rv (frzM B M w) BB c u) :
  Rv (frzM B M w) BB (.slice es [] false) v := by
 rcases h.2 with ⟨rfl, h0⟩ | ⟨g, cap, cur, rfl, hb, hg, hcap, hmax, hcs, htk⟩
 ·have : es = [] := List.eq_nil_of_length_eq_zero (by omega)
  subst this
  exact .nil false
 ·subst hn
  refine .slice es [] false ⟨g, 0, none⟩ cap size (fun i j => (xs[i * size + j]?).getD undef) (fun _ => rfl) (by simpa using hcap) (by simp) ?_ ?_ ?_
  ·intro i p hp
   exact hok p (List.mem_of_getElem? (by simpa using hp))
  ·intro i p j hp hj
   rw [List.append_nil] at hp
   obtain ⟨_, _, hc, _⟩ := hok p (List.mem_of_getElem? hp)
   obtain ⟨u, hu, _⟩ := hr i p j (p.cells[j]'(by omega)) hp (List.getElem?_eq_getElem (by omega))
   rw [hu, Option.getD_some]
   unfold frzM
   rw [if_pos (by show B ≤ g; omega)]
   show (match w.heap[g]? with | some (.cells arr _ _) => arr[0 + i * size + j]? | _ => none) = some u
   rw [hg]
   simp only [Nat.zero_add]
   rw [← htk, List.getElem?_take] at hu
   split at hu
   ·simpa using hu
   ·simp at hu
  ·intro i p j c hp hc
   rw [List.append_nil] at hp
   obtain ⟨u, hu, hv⟩ := hr i p j c hp hc
   rw [hu]; exact hv
theorem selRow_len {M : Mem} {l : List GSel} {ys : List Value} (h : SelRow M l ys) : ys.length = l.length * 7 := by
 induction h with
 | nil => rfl
 | snoc h hc ih => simp only [List.length_append, ih, List.length_cons, List.length_nil]; omega
theorem selRow_at {M : Mem} {l : List GSel} {ys : List Value} (h : SelRow M l ys) : ∀ (i : Nat) (x : GSel), l[i]? = some x → ∀ (j : Nat) (c : PV), (encSel x).cells[j]? = some c → ∃ u, ys[i * 7 + j]? = some u ∧ Rv M noB c u := by
 induction h with
 | nil => intro i x h; simp at h
 | @snoc l ys x c3 c4 c6 h hc ih =>
  intro i x' hi j c hj
  have hyl := selRow_len h
  have hjl : j < 7 := by
   have := (List.getElem?_eq_some_iff.1 hj).1
   rw [encSel_eq] at this
   exact this
  rcases Nat.lt_or_ge i l.length with hlt | hge
  ·rw [List.getElem?_append_left hlt] at hi
   obtain ⟨u, h1, h2⟩ := ih i x' hi j c hj
   exact ⟨u, by rw [List.getElem?_append_left (by omega)]; exact h1, h2⟩
  ·rw [List.getElem?_append_right hge] at hi
   have h0 : i - l.length = 0 := by
    rcases Nat.eq_zero_or_pos (i - l.length) with h0 | h0
    ·exact h0
    ·rw [List.getElem?_eq_none (by simp; omega)] at hi; cases hi
   rw [h0] at hi
   cases hi
   have hil : i = l.length := by omega
   subst hil
   rw [List.getElem?_append_right (by omega), show l.length * 7 + j - ys.length = j by omega]
   rw [encSel_eq] at hj
   match j, hjl, hj with
   | 0, _, hj => cases hj; exact ⟨_, rfl, .int _ _⟩
   | 1, _, hj => cases hj; exact ⟨_, rfl, .str _⟩
   | 2, _, hj => cases hj; exact ⟨_, rfl, .str _⟩
   | 3, _, hj => cases hj; exact ⟨_, rfl, hc.r3⟩
   | 4, _, hj => cases hj; exact ⟨_, rfl, hc.r4⟩
   | 5, _, hj => cases hj; exact ⟨_, rfl, .str _⟩
   | 6, _, hj => cases hj; exact ⟨_, rfl, hc.r6⟩
theorem selRow_frz {M : Mem} {B B' : Nat} {BB : BM} {w : World} {l : List GSel} {v : Value} (h : GRow M B' w l v) (hB : B ≤ B') (hc : Cons M w) : Rv (frzM B M w) BB (.slice (List.map encSel l) [] false) v := by
 obtain ⟨oa, cap, ys, hv, ho, hs⟩ := h
 refine own_frz ho hB _ (by simp) ?_ ?_
 ·intro p hp
  obtain ⟨x, _, rfl⟩ := List.mem_map.1 hp
  rw [encSel_eq]
  exact ⟨rfl, rfl, rfl, by decide⟩
 ·intro i p j c hp hcc
  rw [List.getElem?_map] at hp
  cases hx : l[i]? with
  | none => rw [hx] at hp; simp at hp
  | some x =>
   rw [hx] at hp
   simp only [Option.map_some, Option.some.injEq] at hp
   subst hp
   obtain ⟨u, h1, h2⟩ := selRow_at hs i x hx j c hcc
   refine ⟨u, h1, ((h2.mono (frzM_mono hc) (fun _ _ _ h => h)).anyB1 BB ?_)⟩
   have hok : okEl 7 (encSel x) := by rw [encSel_eq]; exact ⟨rfl, rfl, rfl, by decide⟩
   exact hok.cell hcc
theorem gs_frz {e : GEnv} {B ga gm : Nat} {M : Mem} {w : World} {gs : List GGroup} {met : List Str} {h0 h1 h2 h3 h4 h5 h6 : Value} {oa : Option Addr} {cap : Nat} {vs : List Value} (h : GS e B ga gm M w gs met h0 h1 h2 h3 h4 h5 h6 oa cap vs) (BB : BM) :
  Rv (frzM B M w) BB (.slice (List.map encGroup gs) [] false) (.slice oa gs.length cap) := by
 refine own_frz h.own (Nat.le_refl _) _ (by simp) ?_ ?_
 ·intro p hp
  obtain ⟨x, _, rfl⟩ := List.mem_map.1 hp
  exact ⟨rfl, rfl, rfl, by decide⟩
 ·intro i p j c hp hcc
  rw [List.getElem?_map] at hp
  cases hx : gs[i]? with
  | none => rw [hx] at hp; simp at hp
  | some x =>
   rw [hx] at hp
   simp only [Option.map_some, Option.some.injEq] at hp
   subst hp
   have hi : i < vs.length := by rw [h.len]; exact (List.getElem?_eq_some_iff.1 hx).1
   have hv := List.getElem?_eq_getElem hi
   obtain ⟨f1, f2⟩ := flatG_at _ i _ _ (zipG_at gs vs i x vs[i] hx hv)
   rw [encGroup_eq] at hcc
   have hj : j < 2 := (List.getElem?_eq_some_iff.1 hcc).1
   match j, hj, hcc with
   | 0, _, hcc => cases hcc; exact ⟨_, by rw [Nat.mul_comm]; exact f1, .str _⟩
   | 1, _, hcc => cases hcc; exact ⟨_, by rw [Nat.mul_comm]; exact f2, selRow_frz (h.sub i x _ hx hv) (Nat.le_refl _) h.cons⟩
theorem gs_made {e : GEnv} {M : Mem} {w : World} {h0 h1 h2 h3 h4 h5 h6 : Value} (hc : Cons M w) (o1 o2 : Obj)
  (hr : Rv M noB (.agg [(.slice (List.map encDef e.s.defs) [] false), (.str e.s.query), (.str e.s.mutation)]) (.agg #[h0, h1, h2])) (hd : Rv M noB (.agg [(.slice (List.map encOp e.d.ops) [] false), (.slice (List.map encFrag e.d.frags) [] false)]) (.agg #[h3, h4]))
  (he : Rv M noB (.slice (List.map encMember e.env) [] false) h5) (ht : Rv M noB (.str e.typ) h6) {wb : World}
  (hw : wb = (((w.alloc o1).alloc o2).alloc (.map #[] 0)).alloc (.cells #[h0, h1, h2, h3, h4, h5, h6, .slice none 0 0, .map (some (w.heap.size + 1 + 1))] 84)) :
  GSh e w.heap.size (w.heap.size + 1 + 1 + 1) (w.heap.size + 1 + 1) M wb ([], []) ∧ Below w.heap.size w wb := by
 have hb : Below w.heap.size w ((((w.alloc o1).alloc o2).alloc (.map #[] 0)).alloc (.cells #[h0, h1, h2, h3, h4, h5, h6, .slice none 0 0, .map (some (w.heap.size + 1 + 1))] 84)) :=
  ((((Below.refl _ _).alloc (Nat.le_refl _) o1).alloc (by simp) o2).alloc (by simp; omega) _).alloc (by simp; omega) _
 have hrow : wb.heap[w.heap.size + 1 + 1 + 1]? = some (.cells #[h0, h1, h2, h3, h4, h5, h6, .slice none 0 0, .map (some (w.heap.size + 1 + 1))] 84 (0, 0)) := by
  have := heap_alloc_new (((w.alloc o1).alloc o2).alloc (.map #[] 0)) (.cells #[h0, h1, h2, h3, h4, h5, h6, .slice none 0 0, .map (some (w.heap.size + 1 + 1))] 84)
  rw [hw]
  simpa using this
 have hmet : MetAt wb (w.heap.size + 1 + 1) [] := by
  have h1 := metAt_made ((w.alloc o1).alloc o2)
  have e1 : ((w.alloc o1).alloc o2).heap.size = w.heap.size + 1 + 1 := by simp
  rw [e1] at h1
  rw [hw]
  exact h1.congr (heap_alloc_old _ _ h1.lt)
 rw [← hw] at hb
 refine ⟨⟨by simp, h0, h1, h2, h3, h4, h5, h6, none, 0, [], ?_⟩, hb⟩
 refine ⟨hb.size, cons_below hc hb, by omega, by omega, by omega, hrow, hr, hd, he, ht, rfl, World.ownsRow_nil _ _ _ _, fun i g v hg => by simp at hg, fun i j v v' k _ hv => by simp at hv, fun i v k hv => by simp at hv, fun k hk => by simp [Value.ownBlock] at hk, hmet, fun i => cons_lt hc (by omega) i, fun i => cons_lt hc (by omega) i, fun k hk => by simp [Value.ownBlock] at hk, fun i v k hv => by simp at hv⟩
set_option maxHeartbeats 8000000 in
set_option maxRecDepth 100000 in
theorem groups_walk (x : GArg) (C n : Nat) (gs : List GGroup) (met : List Str) (hC : C ≤ 536870912) (hfr : Sm x.2.1.frags) (hsok : SOk x.1) (henv : Sm x.2.2.1) (hdoc : ∀ n, bkSels (gFrag x.2.1 n).1.sels ≤ C) (hl : bkSels x.2.2.2.2 ≤ C) (hp : unmet x.2.1.frags [] + bkSels x.2.2.2.2 ≤ C)
  (h : thr ⟨x.1, x.2.1, x.2.2.1, x.2.2.2.1⟩ n x.2.2.2.2 ([], []) = some (gs, met)) {M : Mem} {w : World} (h0 h1 h2 h3 h4 h5 h6 c : Value) (hc : Cons M w)
  (hr : Rv M noB (.agg [(.slice (List.map encDef x.1.defs) [] false), (.str x.1.query), (.str x.1.mutation)]) (.agg #[h0, h1, h2])) (hd : Rv M noB (.agg [(.slice (List.map encOp x.2.1.ops) [] false), (.slice (List.map encFrag x.2.1.frags) [] false)]) (.agg #[h3, h4]))
  (he : Rv M noB (.slice (List.map encMember x.2.2.1) [] false) h5) (ht : Rv M noB (.str x.2.2.2.1) h6) (hcl : Rv M noB (.slice (List.map encSel x.2.2.2.2) [] false) c) :
  Calls Try.prog 18 #[.agg #[h0, h1, h2], .agg #[h3, h4], h5, h6, c] w fun e w' => ∃ v M', e = .returned v ∧ Rv M' noB (grpR gs) v ∧ Cons M' w' ∧ Quiet M w M' w' := by
 have hq1 := rv_aggL hr
 have hq2 := rv_aggL hd
 cases hq1 with | cons q0 hq1 =>
 cases hq1 with | cons q1 hq1 =>
 cases hq1 with | cons q2 hq1 =>
 cases hq2 with | cons r0 hq2 =>
 cases hq2 with | cons r1 hq2 =>
 obtain ⟨a0, l0, p0, rfl⟩ := isSlice q0
 cases q1
 cases q2
 obtain ⟨a3, l3, p3, rfl⟩ := isSlice r0
 obtain ⟨a4, l4, p4, rfl⟩ := isSlice r1
 obtain ⟨a5, l5, p5, rfl⟩ := isSlice he
 cases ht
 have hmm := @run_makeMap Try.prog
 obtain ⟨hg1, hb1⟩ := gs_made (e := ⟨x.1, x.2.1, x.2.2.1, x.2.2.2.1⟩) hc (.cells #[.slice a0 l0 p0, .string ⟨x.1.query.toArray⟩, .string ⟨x.1.mutation.toArray⟩] 24) (.cells #[.slice a3 l3 p3, .slice a4 l4 p4] 28) hr hd he (.str _) rfl
 have hcall := through_walk (e := ⟨x.1, x.2.1, x.2.2.1, x.2.2.2.1⟩) hfr hsok henv hdoc hC n x.2.2.2.2 _ _ M _ c h hg1 hcl hl (by simp only [pot, GGroup, List.length_nil]; have : tot ([] : List GGroup) = 0 := rfl; omega)
 replace hg1 := (id hg1 : Hid _)
 replace hb1 := (id hb1 : Hid _)
 clear h
 go_enter Try.func18, Try.ntmps18
 go_wp2_with (go_at_call 40; refine hcall.mono ?_; rintro e' w2 ⟨rfl, M2, ⟨hne, g0, g1, g2, g3, g4, g5, g6, oa, cap, vs, hG⟩, hf⟩; clear hcall; have k7 : w2.cell? ⟨w.heap.size + 1 + 1 + 1, 7, none⟩ = some (.slice oa gs.length cap) := by (rw [cell_of_row w2 _ _ _ _ _ hG.row]; rfl))
 go_ret
 have hb := hb1.out
 refine ⟨_, frzM w.heap.size M2 w2, rfl, gs_frz hG noB, frzM_cons hG.cons, fun b i v hv => frzM_mono hG.cons b i v (hf.mem b i v hv), fun b hbl => ⟨(hf.below.block b hbl).trans (hb.block b hbl), fun i => (frzM_old hbl i).trans (hf.old b hbl i)⟩, Nat.le_trans hb.size hf.below.size, hf.below.os.trans hb.os, hf.below.tape.trans hb.tape, hf.below.output.trans hb.output⟩
theorem unmet_bk (met : List Str) : ∀ l : List GFrag, unmet l met ≤ sumL bkFrag l
 | [] => by simp [unmet]
 | f :: l => by
  have := unmet_bk met l
  simp only [unmet, sumL]
  cases met.contains f.name <;> simp only [cond_true, cond_false] <;> omega
theorem gFrag_bk (d : GDoc) (n : Str) : bkSels (gFrag d n).1.sels ≤ bkDoc d := by
 unfold gFrag
 cases h : d.frags.find? (fun f => f.name == n) with
 | none => simp [bkSels]
 | some f =>
  have h1 := bkF_sels f
  have h2 := sl_mem (f := bkFrag) (List.mem_of_find?_eq_some h)
  rw [bkDoc_eq]
  simp only; omega
set_option maxRecDepth 100000 in
theorem groups_keeps (args : List PV) (x : GArg) (gs : List GGroup) (ha : args.map PV.plain = grpA x) (hown : ∀ p ∈ args, ∀ v, NoOwn p v) (hsol : ∀ p ∈ args, p.solid = true) (h : grpF x = some gs) : Keeps Try.prog (fun _ _ => none) 18 args (grpR gs) := by
 unfold grpF at h
 split at h
 ·rename_i hb
  rw [Option.map_eq_some_iff] at h
  obtain ⟨⟨gs', met⟩, h1, rfl⟩ := h
  have hd := bkDoc_eq x.2.1
  have hs := bkSchema_eq x.1
  have hf := sl_len (f := bkFrag) (fun f => by have := bkF_sels f; omega) x.2.1.frags
  have he := sl_len (f := bkMember) (fun d => by rw [bkMember_eq]; omega) x.2.2.1
  refine keeps_of_calls hown hsol rfl rfl (fun vals w => rfl) ?_
  intro M w vals hc hsz hrel
  have hlen : args.length = 5 := by have := congrArg List.length ha; simpa [grpA] using this
  have hr : ∀ (i : Nat) (p : PV), (grpA x)[i]? = some p → Rv M noB p (vals.getD i undef) := by
   intro i p hp
   rw [← ha, List.getElem?_map] at hp
   cases h2 : args[i]? with
   | none => rw [h2] at hp; simp at hp
   | some p' =>
    rw [h2] at hp
    simp only [Option.map_some, Option.some.injEq] at hp
    rw [← hp]
    exact hrel i p' h2
  have e0 := hr 0 _ rfl
  have e1 := hr 1 _ rfl
  have e2 := hr 2 _ rfl
  have e3 := hr 3 _ rfl
  have e4 := hr 4 _ rfl
  obtain ⟨l0, k0, m0⟩ := rv_agg e0
  obtain ⟨l1, k1, m1⟩ := rv_agg e1
  have hl0 : ∃ a b c, l0 = [a, b, c] := by
   cases m0 with | cons _ m0 => cases m0 with | cons _ m0 => cases m0 with | cons _ m0 => cases m0; exact ⟨_, _, _, rfl⟩
  have hl1 : ∃ a b, l1 = [a, b] := by
   cases m1 with | cons _ m1 => cases m1 with | cons _ m1 => cases m1; exact ⟨_, _, rfl⟩
  obtain ⟨a, b, c, rfl⟩ := hl0
  obtain ⟨a', b', rfl⟩ := hl1
  have hv : vals = #[.agg #[a, b, c], .agg #[a', b'], vals.getD 2 undef, vals.getD 3 undef, vals.getD 4 undef] := by
   apply Array.ext
   ·simp [hsz, hlen]
   ·intro i h1 h2
    have hi : i < 5 := by simpa using h2
    have hg : vals[i] = vals.getD i undef := by simp [h1]
    rw [hg]
    match i, hi with
    | 0, _ => exact k0
    | 1, _ => exact k1
    | 2, _ => rfl
    | 3, _ => rfl
    | 4, _ => rfl
  rw [k0] at e0
  rw [k1] at e1
  have := groups_walk x 268435456 _ gs' met (by omega) (by show x.2.1.frags.length < _; omega) ⟨by omega⟩ (by show x.2.2.1.length < _; omega) (fun n => by have := gFrag_bk x.2.1 n; omega) (by omega) (by have := unmet_bk [] x.2.1.frags; have e : bkSl bkFrag x.2.1.frags = sumL bkFrag x.2.1.frags + 1 := rfl; omega) h1 a b c a' b' _ _ _ hc e0 e1 e2 e3 e4
  rw [← hv] at this
  exact this
 ·simp at h
theorem collect_Groups_ok (s : GSchema) (d : GDoc) (env : List GMember) (typ : Str) (l : List GSel) (gs : List GGroup) (h : grpF (s, d, env, typ, l) = some gs) : collect_Groups s d env typ l = some gs := by
 unfold collect_Groups
 refine tO_of (pair_inj collect_GroupsEj) ?_
 refine OL_ext (g := xSelf Try.prog (fun _ _ => none) 18 grpA grpR grpF) rfl ?_
 refine xSelf_of grpA_inj (x := (s, d, env, typ, l)) rfl h (groups_keeps _ (s, d, env, typ, l) gs rfl ?_ ?_ h)
 ·intro p hp v
  apply noOwn_of_plain
  simp only [List.mem_cons, List.not_mem_nil, or_false] at hp
  rcases hp with rfl | rfl | rfl | rfl | rfl <;> rfl
 ·intro p hp
  simp only [List.mem_cons, List.not_mem_nil, or_false] at hp
  rcases hp with rfl | rfl | rfl | rfl | rfl <;> rfl
theorem collect_Groups_i1_ok (s : GSchema) (d : GDoc) (typ : Str) (l : List GSel) (gs : List GGroup) (h : grpF (s, d, [], typ, l) = some gs) : collect_Groups_i1 s d typ l = some gs := by
 unfold collect_Groups_i1
 refine tO_of (pair_inj collect_Groups_i1Ej) ?_
 refine OL_ext (g := xSelf Try.prog (fun _ _ => none) 18 grpA grpR grpF) rfl ?_
 refine xSelf_of grpA_inj (x := (s, d, [], typ, l)) rfl h (groups_keeps _ (s, d, [], typ, l) gs rfl ?_ ?_ h)
 ·intro p hp v
  simp only [List.mem_cons, List.not_mem_nil, or_false] at hp
  rcases hp with rfl | rfl | rfl | rfl | rfl
  ·exact noOwn_of_plain rfl
  ·exact noOwn_of_plain rfl
  ·intro x hx
   cases v <;> simp [atoms, zipA, own1] at hx ⊢ <;> (try subst hx) <;> rfl
  ·exact noOwn_of_plain rfl
  ·exact noOwn_of_plain rfl
 ·intro p hp
  simp only [List.mem_cons, List.not_mem_nil, or_false] at hp
  rcases hp with rfl | rfl | rfl | rfl | rfl <;> rfl
end Go.Proofs.Ytfbaogfcpldlnaa
