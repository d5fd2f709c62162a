import Derived.Test.YtphmfillajagdaaGreatWa
import Derived.Test.YtphmfillajagdaaGreatEd
import Derived.Test.YtphmfillajagdaaGreatGa
import Derived.KernelRfl
import Derived.Test.YtphmfillajagdaaGreatRows
import Derived.WalkKit
import Derived.ProofKit
import Derived.OpenShut
import Derived.JoinedCond
set_option maxRecDepth 100000
set_option linter.unusedVariables false
set_option linter.unusedSimpArgs false
set_option linter.unusedSimpArgs false
open Go Go.Ev Go.Ev.PV
namespace Go.Proofs.YtphmfillajagdaaGreat
def TN (t : GType) : Prop := t.name.length < 4611686018427387904
theorem rt_te (t : GType) (h : TN t) : Tt (fun b => b = true → 0 ≤ t.lists ∧ t.lists ≤ 4) (r1_RightType t) := by
 have : Tt (fun b => b = true → 0 ≤ t.lists ∧ t.lists ≤ 4) (r1_RightType_B t) := by
  unfold r1_RightType_B
  refine Tt.eq (r1_Name_ok _ h) (Tt.cnd (fun _ => ?_) fun _ => Tt.ret (by simp))
  refine Tt.cnd (fun h1 => ?_) fun _ => Tt.ret (by simp)
  refine Tt.cnd (fun h2 => ?_) fun _ => Tt.ret (by simp)
  refine Tt.cnd (fun h3 => ?_) fun _ => Tt.ret (by simp)
  simp only [decide_eq_true_eq,ge_iff_le] at h1 h2
  have e : IntKind.wrap .u64 t.lists = t.lists := by rw [wu]; omega
  have hs : ∃ y,tshl .i64 2 t.lists = some y := by
   unfold tshl; rw [if_neg (by omega)]; exact ⟨_,rfl⟩
  obtain ⟨y,hy⟩ := hs
  rw [e]
  exact Tt.eq hy (Tt.ret fun _ => ⟨h1,h2⟩)
 obtain ⟨b,hb,hp⟩ := this
 exact ⟨b,r1_RightType_run hb,hp⟩
theorem is_te (t : GType) (h : TN t) : Te (r1_Is t) := by
 have : Te (r1_Is_B t) := Tt.bnd (rt_te t h) fun b _ => Tt.cnd (fun _ => Tt.ret trivial) fun _ => Tt.ret trivial
 obtain ⟨b,hb,hp⟩ := this
 exact ⟨b,r1_Is_run hb,hp⟩
theorem item_te (t : GType) (h : TN t) : Tt (fun r => TN r.1 ∧ (r.2 = true → r.1.lists.toNat < t.lists.toNat)) (r1_Item t) := by
 have : Tt (fun r : GType × Bool => TN r.1 ∧ (r.2 = true → r.1.lists.toNat < t.lists.toNat)) (r1_Item_B t) := by
  refine Tt.bnd (rt_te t h) fun b hb => Tt.cnd (fun _ => Tt.ret ⟨by unfold TN; simp,by simp⟩) fun h1 => ?_
  have h1 : b = true := by cases b <;> simp_all
  have h2 := hb h1
  refine Tt.cnd (fun _ => Tt.ret ⟨by unfold TN; simp,by simp⟩) fun h3 => Tt.ret ⟨h,fun _ => ?_⟩
  have h3 : t.lists ≠ 0 := by simpa using h3
  show (IntKind.wrap .i64 (t.lists - 1)).toNat < _
  rw [wi (by omega)]; omega
 obtain ⟨b,hb,hp⟩ := this
 exact ⟨b,r1_Item_run hb,hp⟩
theorem param_te (l : List GParam) (n : Str) (hl : Sm l) : Tt (fun r => r.2 = true → r.1 ∈ l) (r9_Param l n) := by
 have : Tt (fun r : GParam × Bool => r.2 = true → r.1 ∈ l) (r9_Param_B l n) := by
  unfold r9_Param_B
  refine Tt.bnd (Q := fun o => Ev.elim o (fun _ => True) fun q => GParam.mk q.1 (GType.mk q.2.1 q.2.2.1 q.2.2.2.1) q.2.2.2.2.1 (GValue.mk q.2.2.2.2.2.1 q.2.2.2.2.2.2.1 q.2.2.2.2.2.2.2.1 q.2.2.2.2.2.2.2.2.1 q.2.2.2.2.2.2.2.2.2) ∈ l) (Tt.idx l.length hl fun k h0 h1 => ?_) fun o ho => Tt.elim (fun a e => Tt.ret (by simp)) fun a e => Tt.ret fun _ => by subst e; exact ho
  unfold r9_Param_l1T
  refine Tt.cnd (fun hc => Tt.nth ⟨h0,lt_of hc⟩ fun x hx e => ?_) fun _ => Tt.ret (Ix.r trivial)
  refine Tt.cnd (fun _ => Tt.nth ⟨h0,lt_of hc⟩ fun y hy e' => Tt.ret (Ix.r ?_)) fun _ => Tt.ret (Ix.l hc)
  obtain ⟨nm,⟨_,_,_⟩,has,⟨_,_,_,_,_⟩⟩ := y; exact hy
 obtain ⟨b,hb,hp⟩ := this
 exact ⟨b,r9_Param_run hb,hp⟩
theorem get_te (n : Str) (m : List GMember) (hm : Sm m) : Te (r1_Get n m) := by
 obtain ⟨v,hv⟩ := r1_Get_ok n m hm
 exact ⟨_,hv,trivial⟩
theorem SOk.params {s : GSchema} (h : SOk s) {d : GDef} (hd : d ∈ s.defs) : bkSl bkParam d.params < 1073741824 := by
 have := h.def_bk hd; rw [bkDef_eq] at this; omega
theorem sm_bk {α : Type} {bk : α → Nat} {l : List α} (hp : ∀ x,1 ≤ bk x) (h : bkSl bk l < 1073741824) : Sm l := by
 have := sumL_len bk hp l; unfold bkSl at h; show l.length < _; omega
theorem tn_param {l : List GParam} (h : bkSl bkParam l < 1073741824) {p : GParam} (hp : p ∈ l) : TN p.t := by
 have := sumL_mem bkParam hp; unfold bkSl at h
 rw [bkParam_eq,bkType_eq] at this
 unfold TN; rw [bkStr_ap,bkStr_ap] at this; omega
theorem input_te (s : GSchema) (l : List GParam) (m : List GMember) (hl : bkSl bkParam l < 1073741824) (hm : Sm m) (hr : ∀ x ∈ m,∀ t,TN t → Te (r9_right s t x.v true)) : Te (r9_input s l m) := by
 have hsl := sm_bk bkParam_pos hl
 have : Te (r9_input_B s l m) := by
  unfold r9_input_B
  refine Tt.bnd (Q := fun _ => True) (Tt.idx m.length hm fun i h0 h1 => ?_) fun o _ => Tt.elim (fun _ _ => Tt.bnd (Q := fun _ => True) (Tt.idx l.length hsl fun i h0 h1 => ?_) fun o _ => Tt.elim (fun _ _ => Tt.ret trivial) fun _ _ => Tt.ret trivial) fun _ _ => Tt.ret trivial
  ·unfold r9_input_l2T
   refine Tt.cnd (fun hc => Tt.nth ⟨h0,lt_of hc⟩ fun x hx e => ?_) fun _ => Tt.ret (Ix.r trivial)
   refine Tt.bnd (param_te l x.name hsl) fun p hp => Tt.cnd (fun _ => Tt.ret (Ix.r trivial)) fun hp2 => ?_
   refine Tt.nth ⟨h0,lt_of hc⟩ fun y hy e => Tt.bnd (hr y hy _ (tn_param hl (hp (by simpa using hp2)))) fun b _ => ?_
   refine Tt.cnd (fun _ => Tt.ret (Ix.r trivial)) fun _ => Tt.bnd (Q := fun _ => True) (Tt.idx i.toNat (by have := hm; unfold Sm at this; omega) fun k k0 k1 => ?_) fun o _ => Tt.elim (fun _ _ => Tt.ret (Ix.l hc)) fun _ _ => Tt.ret (Ix.r trivial)
   unfold r9_input_l1T
   have hi := lt_of hc
   refine Tt.cnd (fun hk => ?_) fun _ => Tt.ret (Ix.r trivial)
   have hk' := lt_of hk
   refine Tt.nth ⟨k0,by omega⟩ fun x _ _ => Tt.nth ⟨h0,hi⟩ fun y _ _ => Tt.cnd (fun _ => Tt.ret (Ix.r trivial)) fun _ => Tt.ret (Ix.l (by simpa using (by omega : k < (i.toNat : Int))))
  ·unfold r9_input_l3T
   refine Tt.cnd (fun hc => ?_) fun _ => Tt.ret (Ix.r trivial)
   have hi := lt_of hc
   refine Tt.nth ⟨h0,hi⟩ fun x _ _ => Tt.bnd (get_te _ m hm) fun g _ => Tt.cnd (fun _ => Tt.nth ⟨h0,hi⟩ fun y hy _ => Tt.bnd (is_te _ (tn_param hl hy)) fun b _ => ?_) fun _ => Tt.ret (Ix.l hc)
   exact Tt.cnd (fun _ => Tt.nth ⟨h0,hi⟩ fun y hy _ => Tt.cnd (fun _ => Tt.ret (Ix.r trivial)) fun _ => Tt.ret (Ix.l hc)) fun _ => Tt.ret (Ix.l hc)
 obtain ⟨b,hb,hp⟩ := this
 exact ⟨b,r9_input_run hb,hp⟩
theorem right_te (s : GSchema) (h : SOk s) : ∀ (n : Nat) (v : GValue),bkValue v ≤ n → n < 1073741824 → ∀ (k : Nat) (t : GType) (al : Bool),TN t → t.lists.toNat ≤ k → Te (r9_right s t v al) := by
 intro n
 induction n with
 | zero => intro v hv; rw [bkValue_eq] at hv; omega
 | succ n ihn =>
  intro v hv hn k
  have hvl : ∀ x ∈ v.l,bkValue x ≤ n := fun x hx => by have := sumL_mem bkValue hx; rw [bkValue_eq] at hv; simp only [bkSl] at hv; omega
  have hvm : ∀ x ∈ v.m,bkValue x.v ≤ n := fun x hx => by have := sumL_mem bkMember hx; rw [bkMember_eq] at this; rw [bkValue_eq] at hv; simp only [bkSl] at hv; omega
  have hpos : ∀ x : GValue,1 ≤ bkValue x := fun x => by rw [bkValue_eq]; omega
  have hsl : Sm v.l := sm_bk hpos (by rw [bkValue_eq] at hv; omega)
  have hsm : Sm v.m := sm_bk bkMember_pos (by rw [bkValue_eq] at hv; omega)
  have hin : ∀ x : GDef,x ∈ s.defs → Te (r9_input s x.params v.m) := fun x hx => input_te s x.params v.m (h.params hx) hsm fun y hy t ht => ihn y.v (hvm y hy) (by omega) _ t true ht (Nat.le_refl _)
  have hfind : ∀ (n : Str),Tt (fun r => Te (r9_input s r.1.params v.m) ∧ Sm r.1.parts) (r9_Find s n) := fun n => by
   refine ⟨_,r9_Find_ok s n h.sm,?_,by have := h.partsF n; show (findD s n).1.parts.length < _; omega⟩
   rcases findD_mem s n with hx | ⟨_,_,_,e⟩
   ·exact hin _ hx
   ·rw [e]; exact input_te s [] v.m (by simp [bkSl,sumL]) hsm fun y hy t ht => ihn y.v (hvm y hy) (by omega) _ t true ht (Nat.le_refl _)
  have leaf : ∀ (n : Str),Te (cnd (n == ([73,110,116] : Str)) (cnd (v.kind == 2) (cnd (decide (v.n ≥ (-2147483648))) (some (decide (v.n ≤ 2147483647))) (some false)) (some false)) (cnd (n == ([83,116,114,105,110,103] : Str)) (some (v.kind == 4)) (cnd (n == ([66,111,111,108,101,97,110] : Str)) (some (v.kind == 1)) (cnd (n == ([73,68] : Str)) (cnd (v.kind == 4) (some true) (some (v.kind == 2))) (bnd (r9_Find s n) fun y21 => cnd (y21.1.kind == 4) (cnd (v.kind == 5) (bnd (r1_Has y21.1.parts v.s) fun y23 => some y23) (some false)) (cnd (y21.1.kind == 5) (cnd (v.kind == 7) (bnd (r9_input s y21.1.params v.m) fun y25 => some y25) (some false)) (some false))))))) := fun n => by
   refine Tt.cnd (fun _ => Tt.cnd (fun _ => Tt.cnd (fun _ => Tt.ret trivial) fun _ => Tt.ret trivial) fun _ => Tt.ret trivial) fun _ => Tt.cnd (fun _ => Tt.ret trivial) fun _ => Tt.cnd (fun _ => Tt.ret trivial) fun _ => Tt.cnd (fun _ => Tt.cnd (fun _ => Tt.ret trivial) fun _ => Tt.ret trivial) fun _ => Tt.bnd (hfind n) fun r hr => ?_
   exact Tt.cnd (fun _ => Tt.cnd (fun _ => Tt.eq (r1_Has_ok _ _ hr.2) (Tt.ret trivial)) fun _ => Tt.ret trivial) fun _ => Tt.cnd (fun _ => Tt.cnd (fun _ => Tt.bnd hr.1 fun _ _ => Tt.ret trivial) fun _ => Tt.ret trivial) fun _ => Tt.ret trivial
  have list1 : ∀ y4 : GType × Bool,TN y4.1 → Te (tloop (r9_right_l1T s v y4) 0) := fun y4 ht => by
   refine Tt.idx v.l.length hsl fun i h0 h1 => ?_
   unfold r9_right_l1T
   refine Tt.cnd (fun hc => Tt.nth ⟨h0,lt_of hc⟩ fun x hx _ => Tt.bnd (ihn x (hvl x hx) (by omega) _ y4.1 false ht (Nat.le_refl _)) fun b _ => Tt.cnd (fun _ => Tt.ret (Ix.r trivial)) fun _ => Tt.ret (Ix.l hc)) fun _ => Tt.ret (Ix.r trivial)
  have list2 : ∀ y4 : GType × Bool,TN y4.1 → Te (tloop (r9_right_l1T s v y4) 0) := fun y4 ht => by
   refine Tt.idx v.l.length hsl fun i h0 h1 => ?_
   unfold r9_right_l1T
   refine Tt.cnd (fun hc => Tt.nth ⟨h0,lt_of hc⟩ fun x hx _ => Tt.bnd (ihn x (hvl x hx) (by omega) _ y4.1 false ht (Nat.le_refl _)) fun b _ => Tt.cnd (fun _ => Tt.ret (Ix.r trivial)) fun _ => Tt.ret (Ix.l hc)) fun _ => Tt.ret (Ix.r trivial)
  have main : ∀ (t : GType) (al : Bool),TN t → (∀ t' : GType,TN t' → t'.lists.toNat < t.lists.toNat → Te (r9_right s t' v true)) → Te (r9_right s t v al) := fun t al ht hrec => by
   have : Te (r9_right_B s t v al) := by
    unfold r9_right_B
    refine Tt.bnd (rt_te t ht) fun b _ => Tt.cnd (fun _ => Tt.ret trivial) fun _ => Tt.cnd (fun _ => Tt.ret trivial) fun _ => Tt.cnd (fun _ => Tt.ret trivial) fun _ => Tt.bnd (item_te t ht) fun y4 hy => ?_
    refine Tt.cnd (fun hl => Tt.cnd (fun _ => Tt.cnd (fun _ => Tt.bnd (hrec _ hy.1 (hy.2 hl)) fun _ _ => Tt.ret trivial) fun _ => Tt.ret trivial) fun _ => Tt.cnd (fun _ => Tt.bnd (list1 _ hy.1) fun o _ => Tt.elim (fun _ _ => Tt.ret trivial) fun _ _ => Tt.ret trivial) fun _ => leaf _) fun hl => Tt.cnd (fun _ => Tt.bnd (list2 _ hy.1) fun o _ => Tt.elim (fun _ _ => Tt.ret trivial) fun _ _ => Tt.ret trivial) fun _ => leaf _
   obtain ⟨b,hb,hp⟩ := this
   exact ⟨b,r9_right_run hb,hp⟩
  induction k with
  | zero => exact fun t al ht hk => main t al ht fun t' _ h' => by omega
  | succ k ihk => exact fun t al ht hk => main t al ht fun t' ht' h' => ihk t' true ht' (by omega)
theorem d9_right : Ds 192 S9_right := by
 intro args hA hc
 obtain ⟨v0,r0,rfl,h0,hA⟩ := es_cons hA
 obtain ⟨v1,r1,rfl,h1,hA⟩ := es_cons hA
 obtain ⟨v2,r2,rfl,h2,hA⟩ := es_cons hA
 obtain ⟨v3,r3,rfl,h3,hA⟩ := es_cons hA
 cases es_nil hA
 obtain ⟨s,rfl⟩ := decSchema h0
 obtain ⟨t,rfl⟩ := decType h1
 obtain ⟨v,rfl⟩ := decValue h2
 obtain ⟨b,rfl⟩ := el_bool h3
 have ps := cap_mem hc rfl (v := encSchema s) (by simp)
 have pt := cap_mem hc rfl (v := encType t) (by simp)
 have pv := cap_mem hc rfl (v := encValue v) (by simp)
 have qs := psSchema s; have qt := psType t; have qv := psValue v
 unfold Nr at qs qt qv
 obtain ⟨r,hr,_⟩ := right_te s ⟨by omega⟩ _ v (Nat.le_refl _) (by omega) _ t b (by rw [bkType_eq,bkStr_ap] at qt; unfold TN; omega) (Nat.le_refl _)
 exact ⟨.bool r,by simp only [tys]; exact tO_spec (enc := fun r => (PV.bool r,[])) hr,.one (.bool r)⟩
open Go Go.Ev Go.Ev.PV
theorem tail_te {s : Str} {i n : Int} (h : decide (n > IntKind.wrap .i64 ((List.length s : Int) - i)) = false) (hs : s.length ≤ 1073741824) (h0 : 0 ≤ i) (h1 : i < s.length) {F : Int → UInt8 → Int} {p q : UInt8 → Bool} {b : Int × Int → Option ((Int × Int) ⊕ (Int ⊕ Unit))}
  (hb : ∀ c k,b (c,k) = cnd (decide (k < n)) (bnd (nthI s (IntKind.wrap .i64 (i + k))) fun y => cnd (p y) (some (.inr (.inr ()))) (cnd (q y) (some (.inr (.inr ()))) (some (.inl (F c y,IntKind.wrap .i64 (k + 1)))))) (some (.inr (.inl c)))) (c : Int) : Te (tloop b (c,1)) := by
 rw [wi (by omega)] at h
 have hn : n ≤ s.length - i := by simpa using h
 refine Tt.loop (fun st : Int × Int => 1 ≤ st.2) (fun st : Int × Int => (n - st.2).toNat) (fun st hst => ?_) (by simp)
 obtain ⟨c,k⟩ := st
 simp only at hst
 rw [hb]
 refine Tt.cnd (fun hc => ?_) fun _ => Tt.ret (Nx.r trivial)
 have hk := lt_of hc
 rw [wi (n := i + k) (by omega)]
 refine Tt.nth (by omega) fun y _ _ => Tt.cnd (fun _ => Tt.ret (Nx.r trivial)) fun _ => Tt.cnd (fun _ => Tt.ret (Nx.r trivial)) fun _ => Tt.ret (Nx.l ?_ ?_)
 ·show 1 ≤ IntKind.wrap .i64 (k + 1); rw [wi (by omega)]; omega
 ·show (n - IntKind.wrap .i64 (k + 1)).toNat < (n - k).toNat; rw [wi (by omega)]; omega
theorem code_te (s : Str) (hs : s.length ≤ 1073741824) (i : Int) : Tt (fun r => 0 ≤ r.2 ∧ r.2 ≤ 4) (r1_Code s i) := by
 have : Tt (fun r : Int × Int => 0 ≤ r.2 ∧ r.2 ≤ 4) (r1_Code_B s i) := by
  unfold r1_Code_B
  refine Tt.cnd (fun _ => Tt.ret (by decide)) fun h1 => Tt.cnd (fun _ => Tt.ret (by decide)) fun h2 => ?_
  have h1 : 0 ≤ i := by simpa using h1
  have h2 : i < s.length := by simpa using h2
  refine Tt.nth ⟨h1,h2⟩ fun y _ _ => ?_
  repeat' first
   | exact Tt.ret (by decide)
   | exact Tt.ret (show 0 ≤ (2 : Int) ∧ (2 : Int) ≤ 4 by decide)
   | exact Tt.ret (show 0 ≤ (3 : Int) ∧ (3 : Int) ≤ 4 by decide)
   | exact Tt.ret (show 0 ≤ (4 : Int) ∧ (4 : Int) ≤ 4 by decide)
   | exact Tt.ret (show 0 ≤ (1 : Int) ∧ (1 : Int) ≤ 4 by decide)
   | (refine Tt.cnd (fun hc => ?_) (fun hc => ?_))
   | (refine Tt.bnd (tail_te (by assumption) hs h1 h2 (fun _ _ => rfl) _) fun o _ => Tt.elim (fun _ _ => ?_) fun _ _ => ?_)
 obtain ⟨b,hb,hp⟩ := this
 exact ⟨b,r1_Code_run hb,hp⟩
theorem codes_te (s : Str) (hs : s.length ≤ 1073741824) : Tt (fun r => r.1.length ≤ 1073741824) (r1_Codes s) := by
 have : Tt (fun r : List Int × Bool => r.1.length ≤ 1073741824) (r1_Codes_B s) := by
  unfold r1_Codes_B
  refine Tt.bnd (Q := fun o => Ev.elim o (fun l => l.length ≤ 1073741824) fun _ => True) (Tt.loop (fun st : List Int × Int => 0 ≤ st.2 ∧ st.1.length ≤ st.2 ∧ st.2 ≤ s.length + 4 ∧ st.1.length ≤ s.length) (fun st : List Int × Int => ((s.length : Int) + 4 - st.2).toNat) (fun st hst => ?_) (by simp; omega)) fun o ho => Tt.elim (fun a e => Tt.ret (by subst e; exact ho)) fun _ _ => Tt.ret (by simp)
  obtain ⟨out,i⟩ := st
  obtain ⟨a1,a2,a3,a4⟩ := hst
  simp only at a1 a2 a3 a4
  unfold r1_Codes_l1T
  refine Tt.cnd (fun hc => ?_) fun _ => Tt.ret (Nx.r (show out.length ≤ 1073741824 by omega))
  have hi := lt_of hc
  refine Tt.bnd (code_te s hs i) fun y hy => Tt.cnd (fun _ => Tt.ret (Nx.r trivial)) fun h0 => ?_
  have h0 : y.2 ≠ 0 := by simpa using h0
  refine Tt.app (by simp; omega) (Tt.ret ?_)
  rw [wi (n := i + y.2) (by omega)]
  refine Nx.l (by simp; omega) ?_
  show ((s.length : Int) + 4 - (i + y.2)).toNat < ((s.length : Int) + 4 - i).toNat
  omega
 obtain ⟨b,hb,hp⟩ := this
 exact ⟨b,r1_Codes_run hb,hp⟩
theorem el_intS {l : List Int} : ∀ e,e ∈ l.map (PV.int .i64) → ElOk tτ (elOf tτ 1) e := by
 intro e he
 obtain ⟨x,_,rfl⟩ := List.mem_map.1 he
 exact .one (.int _ _)
theorem run_te (s : Str) (hs : s.length ≤ 1073741824) (i : Int) (h : 0 ≤ i ∧ i ≤ s.length) : Tt (fun n => 0 ≤ n ∧ i + n ≤ s.length) (r1_run s i) := by
 have : Tt (fun n => 0 ≤ n ∧ i + n ≤ s.length) (r1_run_B s i) := by
  unfold r1_run_B
  refine Tt.bnd (Q := fun n => 0 ≤ n ∧ i + n ≤ s.length) (Tt.loop (fun n : Int => 0 ≤ n ∧ i + n ≤ s.length) (fun n : Int => ((s.length : Int) - n).toNat) (fun n hn => ?_) (by omega)) fun n hn => Tt.ret hn
  unfold r1_run_l1T
  dsimp only
  rw [wi (n := i + n) (by omega)]
  refine Tt.cnd (fun hc => ?_) fun _ => Tt.ret (Nx.r hn)
  have hi := lt_of hc
  refine Tt.nth (by omega) fun y _ _ => Tt.eq (r1_digit_ok _) (Tt.cnd (fun _ => Tt.ret ?_) fun _ => Tt.ret (Nx.r hn))
  rw [wi (n := n + 1) (by omega)]
  exact Nx.l (by omega) (by omega)
 obtain ⟨b,hb,hp⟩ := this
 exact ⟨b,r1_run_run hb,hp⟩
theorem Tt.jn {κ α : Type} {P : α → Prop} {K : κ} {F : κ → Option α} (Q : κ → Prop) (hK : Q K) (hF : ∀ k,Q k → Tt P (F k)) : Tt P (Ev.jn K F) := hF K hK
theorem numeral_te (s : Str) (hs : s.length ≤ 1073741824) : Te (r1_numeral s) := by
 have kloop : ∀ (k : Int) (z : Option (Int × Int)),0 ≤ k → k ≤ s.length → Te z → Te (bnd (r1_run s k) fun y39 => cnd (decide (y39 > 0)) (bnd (r1_run s k) fun y41 => some ((IntKind.wrap .i64 (k + y41)),(4 : Int))) z) := fun k z h0 h1 hz =>
  Tt.bnd (run_te s hs k ⟨h0,h1⟩) fun _ _ => Tt.cnd (fun _ => Tt.bnd (run_te s hs k ⟨h0,h1⟩) fun _ _ => Tt.ret trivial) fun _ => hz
 have : Te (r1_numeral_B s) := by
  unfold r1_numeral_B
  refine Tt.jn (fun k => ∀ i t t',0 ≤ i → i ≤ (s.length : Int) → Te (k i t t')) (fun i t t' h0 h1 => ?_) fun k1 hk1 => ?_
  ·refine Tt.bnd (run_te s hs i ⟨h0,h1⟩) fun y8 h8 => Tt.cnd (fun _ => Tt.ret trivial) fun hne => ?_
   have hne : y8 ≠ 0 := by simpa using hne
   refine Tt.jn (fun k => ∀ n t,0 ≤ n → i + n ≤ (s.length : Int) → Te (k n t)) (fun n t n0 n1 => ?_) fun k10 hk10 => Tt.nth (by omega) fun y _ _ => Tt.cnd (fun _ => hk10 _ _ (by omega) (by omega)) fun _ => hk10 _ _ h8.1 h8.2
   refine Tt.jn (fun k => ∀ j kd t t' t'' t3,0 ≤ j → j ≤ (s.length : Int) → Te (k j kd t t' t'' t3)) (fun j kd _ _ _ _ j0 j1 => ?_) fun k15 hk15 => ?_
   ·refine Tt.cnd (fun hc => ?_) fun _ => Tt.ret trivial
    have hj := lt_of hc
    have e1 : IntKind.wrap .i64 (j + 1) = j + 1 := wi (by omega)
    have e2 : IntKind.wrap .i64 (j + 1 + 1) = j + 1 + 1 := wi (by omega)
    simp only [e1,e2]
    refine Tt.nth (by omega) fun y _ _ => Tt.cnd (fun _ => ?_) fun _ => Tt.nth (by omega) fun y _ _ => Tt.cnd (fun _ => ?_) fun _ => Tt.ret trivial
    all_goals
     refine Tt.jn (fun k => ∀ q t t',0 ≤ q → q ≤ (s.length : Int) → Te (k q t t')) (fun q _ _ q0 q1 => kloop q _ q0 q1 (Tt.ret trivial)) fun k30 hk => Tt.cnd (fun hc => ?_) fun _ => hk _ _ _ (by omega) (by omega)
     have hq := lt_of hc
     exact Tt.nth (by omega) fun y _ _ => Tt.cnd (fun _ => hk _ _ _ (by omega) (by omega)) fun _ => Tt.nth (by omega) fun y _ _ => Tt.cnd (fun _ => hk _ _ _ (by omega) (by omega)) fun _ => hk _ _ _ (by omega) (by omega)
   ·have e1 : IntKind.wrap .i64 (i + n) = i + n := wi (by omega)
    have e2 : IntKind.wrap .i64 (i + n + 1) = i + n + 1 := wi (by omega)
    simp only [e1,e2]
    refine Tt.cnd (fun hc => ?_) fun _ => hk15 _ _ _ _ _ _ (by omega) n1
    have hq := lt_of hc
    refine Tt.nth (by omega) fun y _ _ => Tt.cnd (fun _ => ?_) fun _ => hk15 _ _ _ _ _ _ (by omega) n1
    refine Tt.bnd (run_te s hs _ ⟨by omega,by omega⟩) fun y19 _ => Tt.cnd (fun _ => Tt.bnd (run_te s hs _ ⟨by omega,by omega⟩) fun y21 h21 => ?_) fun _ => hk15 _ _ _ _ _ _ (by omega) n1
    rw [wi (n := i + n + 1 + y21) (by omega)]
    exact hk15 _ _ _ _ _ _ (by omega) (by omega)
  ·refine Tt.cnd (fun hc => ?_) fun _ => hk1 _ _ _ (by omega) (by omega)
   have := lt_of hc
   exact Tt.nth (by omega) fun y _ _ => Tt.cnd (fun _ => hk1 _ _ _ (by omega) (by omega)) fun _ => hk1 _ _ _ (by omega) (by omega)
 obtain ⟨b,hb,hp⟩ := this
 exact ⟨b,r1_numeral_run hb,hp⟩
theorem d1_Codes : Ds 239 S1_Codes := by
 intro args hA hc
 obtain ⟨v0,r0,rfl,h0,hA⟩ := es_cons hA
 cases es_nil hA
 obtain ⟨s,rfl,hs⟩ := el_str h0
 obtain ⟨r,hr,hl⟩ := codes_te s hs
 refine ⟨_,tO_spec (enc := fun r => (r1_CodesE r,[])) hr,_,rfl,.cons (.one (.sl el_intS (by simpa using hl))) (.cons (.one (.bool _)) .nil)⟩
theorem d1_numeral : Ds 238 S1_numeral := by
 intro args hA hc
 obtain ⟨v0,r0,rfl,h0,hA⟩ := es_cons hA
 cases es_nil hA
 obtain ⟨s,rfl,hs⟩ := el_str h0
 obtain ⟨r,hr,hl⟩ := numeral_te s hs
 exact ⟨_,tO_spec (enc := fun r => (r1_numeralE r,[])) hr,_,rfl,.cons (.one (.int _ _)) (.cons (.one (.int _ _)) .nil)⟩
mutual
theorem varN_str : ∀ v : GValue,∀ x ∈ varN v,x.length < bkValue v
 | ⟨k,n,s,l,m⟩ => by
  have h1 := varNs_str l
  have h2 := varNm_str m
  rw [bkValues_eq] at h1; rw [bkMembers_eq] at h2
  intro x hx
  rw [bkValue_eq]
  simp only [varN] at hx
  simp only [bkSl,bkStr_ap]
  revert hx
  cases k == 8 <;> cases k == 6 <;> cases k == 7 <;> simp only [cond_true,cond_false,List.mem_singleton,List.not_mem_nil] <;> intro hx
  all_goals first
   | exact hx.elim
   | (subst hx; omega)
   | (have := h1 x hx; omega)
   | (have := h2 x hx; omega)
theorem varNs_str : ∀ l : List GValue,∀ x ∈ varNs l,x.length < bkValues l
 | [],x,hx => by simp [varNs] at hx
 | y :: l,x,hx => by
  simp only [varNs,List.mem_append] at hx
  simp only [bkValues]
  rcases hx with h | h
  ·have := varN_str y x h; omega
  ·have := varNs_str l x h; omega
theorem varN1_str : ∀ y : GMember,∀ x ∈ varN1 y,x.length < bkMember y
 | ⟨n,v⟩ => by intro x hx; have := varN_str v x (by simpa only [varN1] using hx); rw [bkMember_eq]; show x.length < bkStr n + (bkValue v + 0) + 1; omega
theorem varNm_str : ∀ l : List GMember,∀ x ∈ varNm l,x.length < bkMembers l
 | [],x,hx => by simp [varNm] at hx
 | y :: l,x,hx => by
  simp only [varNm,List.mem_append] at hx
  simp only [bkMembers]
  rcases hx with h | h
  ·have := varN1_str y x h; omega
  ·have := varNm_str l x h; omega
end
theorem strs_ok {l : List Str} (h : ∀ x ∈ l,x.length ≤ topL) : ∀ e,e ∈ l.map PV.str → ElOk tτ (elOf tτ 0) e := by
 intro e he
 obtain ⟨x,hx,rfl⟩ := List.mem_map.1 he
 exact .one (.str (h x hx))
theorem sumL_len_str (l : List Str) : l.length ≤ sumL bkStr l := sumL_len bkStr (fun s => by rw [bkStr_ap]; omega) l
theorem d1_vars : Ds 236 S1_vars := by
 intro args hA hc
 obtain ⟨v0,r0,rfl,h0,hA⟩ := es_cons hA
 obtain ⟨v1,r1,rfl,h1,hA⟩ := es_cons hA
 cases es_nil hA
 obtain ⟨v,rfl⟩ := decValue h0
 obtain ⟨es,rfl,he,hn⟩ := el_sl h1
 obtain ⟨l,rfl⟩ := dec_list (f := PV.str) (fun e h => decStr (he e h))
 have pv := cap_mem hc rfl (v := encValue v) (by simp)
 have pl := cap_mem hc rfl (v := .slice (l.map PV.str) [] true) (by simp)
 have qv := psValue v
 have ql := psStrs l
 unfold Nr at qv
 simp only [psize] at pl
 have hll := sumL_len_str l
 have hz := szV_bk v
 have hr := r1_vars_ok' (szV v) v l (Nat.le_refl _) (by omega)
 have hlen := foldA_len (varN v) l
 have hzv := varN_sz v
 refine ⟨_,by simp only [tys]; exact tO_spec (enc := fun r => (r1_varsE r,[])) hr,.one (.sl (strs_ok fun x hx => ?_) (by simp only [List.length_map]; omega))⟩
 show x.length ≤ 1073741824
 rcases (foldA_mem _ _ _).1 hx with hx | hx
 ·have := sumL_mem bkStr hx; rw [bkStr_ap] at this; omega
 ·have := varN_str v x hx; omega
theorem d3_Reach : Ds 114 S3_Reach := by
 intro args hA hc
 obtain ⟨v0,r0,rfl,h0,hA⟩ := es_cons hA
 obtain ⟨v1,r1,rfl,h1,hA⟩ := es_cons hA
 cases es_nil hA
 obtain ⟨d,rfl⟩ := decDoc h0
 obtain ⟨es,rfl,he,hn⟩ := el_sl h1
 obtain ⟨l,rfl⟩ := dec_list (f := encSel) (fun e h => decSel (he e h))
 have pd := cap_mem hc rfl (v := encDoc d) (by simp)
 have pl := cap_mem hc rfl (v := .slice (l.map encSel) [] false) (by simp)
 have qd := psDoc d
 have ql := psl (l := l) (fun x _ => psSel x)
 unfold Nr at qd
 simp only [psize] at pl
 obtain ⟨r,l',hr,hnd,_,hiff,_⟩ := r3_Reach_ok d l (by rw [bkSels_eq]; omega)
 have hin : ∀ n ∈ r,∃ f ∈ d.frags,f.name = n := fun n hx => ⟨_,fragD_mem ((hiff n).1 hx).2⟩
 have hlen : r.length ≤ d.frags.length := by
  have := nodup_len r (d.frags.map (·.name)) hnd (fun n hx => by obtain ⟨f,hf,e⟩ := hin n hx; exact List.mem_map.2 ⟨f,hf,e⟩)
  simpa using this
 have hfl := frags_len d
 refine ⟨_,by simp only [tys]; exact tO_spec (enc := fun r => (r3_ReachE r,[])) hr,.one (.sl (strs_ok fun x hx => ?_) (by simp only [List.length_map]; omega))⟩
 obtain ⟨f,hf,rfl⟩ := hin x hx
 have h1 := sumL_mem bkFrag hf
 have h2 := bkDoc_frags d
 rw [bkFrag_eq,bkStr_ap] at h1
 show f.name.length ≤ 1073741824
 omega
def isIn (s : GSchema) (x : Str) : Prop := x ∈ s.defs.map (·.name)
theorem kind5_in {s : GSchema} {n : Str} (h : kindD s n [5,5,5] = true) : isIn s n := by
 unfold kindD findD at h
 cases hs : scalarN n
 ·rw [hs] at h
  simp only [cond_false] at h
  cases hf : s.defs.find? (fun d => d.name == n) with
  | none => rw [hf] at h; simp at h
  | some d => exact List.mem_map.2 ⟨d,List.mem_of_find?_eq_some hf,by simpa using List.find?_some hf⟩
 ·rw [hs] at h; simp at h
theorem needs_te (s : GSchema) (h : SOk s) (n : Str) : Tt (fun l => l.length < 1073741824 ∧ ∀ x ∈ l,isIn s x) (r9_needs s n) := by
 have hp : (findD s n).1.params.length < 1073741824 := by
  rcases findD_mem s n with hx | ⟨_,_,_,e⟩
  ·have := h.def_bk hx; rw [bkDef_eq] at this; have := sumL_len bkParam bkParam_pos (findD s n).1.params; unfold bkSl at *; omega
  ·rw [e]; simp
 have : Tt (fun l => l.length < 1073741824 ∧ ∀ x ∈ l,isIn s x) (r9_needs_B s n) := by
  unfold r9_needs_B
  refine Tt.eq (r9_Find_ok s n h.sm) (Tt.bnd (Q := fun l : List Str => l.length < 1073741824 ∧ ∀ x ∈ l,isIn s x) (Tt.loop (fun st : List Str × Int => 0 ≤ st.2 ∧ st.2 ≤ (findD s n).1.params.length ∧ st.1.length ≤ st.2 ∧ ∀ x ∈ st.1,isIn s x) (fun st : List Str × Int => ((findD s n).1.params.length - st.2 : Int).toNat) (fun st hst => ?_) (by simp)) fun l hl => Tt.ret hl)
  obtain ⟨out,i⟩ := st
  obtain ⟨a1,a2,a3,a4⟩ := hst
  simp only at a1 a2 a3 a4
  have stop : Tt (Nx (fun st : List Str × Int => 0 ≤ st.2 ∧ st.2 ≤ (findD s n).1.params.length ∧ st.1.length ≤ st.2 ∧ ∀ x ∈ st.1,isIn s x) (fun st : List Str × Int => ((findD s n).1.params.length - st.2 : Int).toNat) (out,i) (fun l : List Str => l.length < 1073741824 ∧ ∀ x ∈ l,isIn s x)) (some (.inr out)) := Tt.ret (Nx.r ⟨by omega,a4⟩)
  unfold r9_needs_l1T
  refine Tt.cnd (fun hc => ?_) fun _ => stop
  have hi := lt_of hc
  have e : IntKind.wrap .i64 (i + 1) = i + 1 := wi (by omega)
  rw [e]
  have next : ∀ o : List Str,o.length ≤ out.length + 1 → (∀ x ∈ o,isIn s x) → Tt (Nx (fun st : List Str × Int => 0 ≤ st.2 ∧ st.2 ≤ (findD s n).1.params.length ∧ st.1.length ≤ st.2 ∧ ∀ x ∈ st.1,isIn s x) (fun st : List Str × Int => ((findD s n).1.params.length - st.2 : Int).toNat) (out,i) (fun l : List Str => l.length < 1073741824 ∧ ∀ x ∈ l,isIn s x)) (some (.inl (o,i + 1))) := fun o ho hs => Tt.ret (Nx.l ⟨by simp only; omega,by simp only; omega,by simp only; omega,hs⟩ (by simp only; omega))
  refine Tt.cnd (fun _ => Tt.nth ⟨a1,hi⟩ fun p hp _ => Tt.cnd (fun _ => Tt.cnd (fun _ => Tt.eq (r9_is_ok s _ 5 5 5 h.sm) (Tt.cnd (fun hk => Tt.app (by simp; omega) (next _ (by simp) fun x hx => ?_)) fun _ => next _ (by omega) a4)) fun _ => next _ (by omega) a4) fun _ => next _ (by omega) a4) fun _ => stop
  rcases List.mem_append.1 hx with hx | hx
  ·exact a4 x hx
  ·rw [List.mem_singleton.1 hx]; exact kind5_in hk
 obtain ⟨b,hb,hp⟩ := this
 exact ⟨b,r9_needs_run hb,hp⟩
def More (s : GSchema) (y l : List Str) : Prop := ∃ a,l = y ++ a ∧ a.Nodup ∧ ∀ x ∈ a,isIn s x
theorem More.len {s : GSchema} {y l : List Str} (h : More s y l) : l.length ≤ y.length + s.defs.length := by
 obtain ⟨a,rfl,h1,h2⟩ := h
 have := nodup_len a (s.defs.map fun d : GDef => d.name) h1 h2
 simp only [List.length_append,List.length_map] at this ⊢
 omega
theorem rule8_te (s : GSchema) (h : SOk s) : Te (r9_rule8 s) := by
 have hd := h.defs
 have inner : ∀ (y l m : List Str),More s y l → y.length < 2147483648 → m.length < 1073741824 → (∀ x ∈ m,isIn s x) → Tt (More s y) (tloop (r9_rule8_l1T m) (l,0)) := fun y l m hl hy hm hmi => by
  refine Tt.loop (fun st : List Str × Int => 0 ≤ st.2 ∧ st.2 ≤ m.length ∧ More s y st.1) (fun st : List Str × Int => ((m.length : Int) - st.2).toNat) (fun st hst => ?_) ⟨by simp,by simp,hl⟩
  obtain ⟨o,j⟩ := st
  obtain ⟨a1,a2,a3⟩ := hst
  simp only at a1 a2 a3
  have hlo := a3.len
  unfold r9_rule8_l1T
  refine Tt.cnd (fun hc => ?_) fun _ => Tt.ret (Nx.r a3)
  have hj := lt_of hc
  have e : IntKind.wrap .i64 (j + 1) = j + 1 := wi (by omega)
  rw [e]
  refine Tt.nth ⟨a1,hj⟩ fun x hx ex => Tt.eq (r1_Has_ok o x (by show o.length < _; omega)) (Tt.cnd (fun hn => Tt.nth ⟨a1,hj⟩ fun x' hx' ex' => Tt.app (by simp; omega) (Tt.ret (Nx.l ⟨by simp only; omega,by simp only; omega,?_⟩ (by simp only; omega)))) fun _ => Tt.ret (Nx.l ⟨by simp only; omega,by simp only; omega,a3⟩ (by simp only; omega)))
  rw [ex] at ex'; cases ex'
  obtain ⟨a,rfl,b1,b2⟩ := a3
  refine ⟨a ++ [x],by simp,?_,fun z hz => ?_⟩
  ·have hn : x ∉ a := fun hxa => by
    have : (y ++ a).contains x = true := List.contains_iff_mem.2 (List.mem_append_right y hxa)
    rw [this] at hn; simp at hn
   rw [List.nodup_append]
   exact ⟨b1,by simp,fun u hu w hw => by rw [List.mem_singleton.1 hw]; intro e; subst e; exact hn hu⟩
  ·rcases List.mem_append.1 hz with hz | hz
   ·exact b2 z hz
   ·rw [List.mem_singleton.1 hz]; exact hmi x hx
 have mid : ∀ (y : List Str),y.length < 1073741824 → Tt (fun l : List Str => l.length < 2147483648) (tloop (r9_rule8_l2T s) (y,0)) := fun y hy => by
  refine Tt.loop (fun st : List Str × Int => 0 ≤ st.2 ∧ st.2 ≤ st.1.length ∧ More s y st.1) (fun st : List Str × Int => ((y.length : Int) + s.defs.length - st.2).toNat) (fun st hst => ?_) ⟨by simp,by simp,[],by simp⟩
  obtain ⟨o,k⟩ := st
  obtain ⟨a1,a2,a3⟩ := hst
  simp only at a1 a2 a3
  have hlo := a3.len
  unfold r9_rule8_l2T
  refine Tt.cnd (fun hc => ?_) fun _ => Tt.ret (Nx.r (by omega))
  have hk := lt_of hc
  have e : IntKind.wrap .i64 (k + 1) = k + 1 := wi (by omega)
  refine Tt.nth ⟨a1,hk⟩ fun x hx _ => Tt.bnd (needs_te s h x) fun m hm => Tt.bnd (Q := fun l' : List Str => More s y l' ∧ o.length ≤ l'.length) ?_ fun l' hl' => Tt.ret ?_
  ·obtain ⟨l',h1,h2⟩ := inner y o m a3 (by omega) hm.1 hm.2
   refine ⟨l',h1,h2,?_⟩
   obtain ⟨l'',h1',h2'⟩ := inner o o m ⟨[],by simp⟩ (by omega) hm.1 hm.2
   rw [h1] at h1'; cases h1'
   obtain ⟨a,rfl,_⟩ := h2'
   simp
  ·rw [e]
   have := hl'.1.len
   exact Nx.l ⟨by simp only; omega,by simp only; omega,hl'.1⟩ (by simp only; omega)
 have : Te (r9_rule8_B s) := by
  unfold r9_rule8_B
  refine Tt.bnd (Q := fun _ => True) (Tt.idx s.defs.length (by omega) fun i h0 h1 => ?_) fun o _ => Tt.elim (fun _ _ => Tt.ret trivial) fun _ _ => Tt.ret trivial
  unfold r9_rule8_l3T
  refine Tt.cnd (fun hc => ?_) fun _ => Tt.ret (Ix.r trivial)
  have hi := lt_of hc
  exact Tt.nth ⟨h0,hi⟩ fun x _ _ => Tt.bnd (needs_te s h _) fun y hy => Tt.bnd (mid y hy.1) fun l hl => Tt.nth ⟨h0,hi⟩ fun x _ _ => Tt.eq (r1_Has_ok l _ (by show l.length < _; omega)) (Tt.cnd (fun _ => Tt.ret (Ix.r trivial)) fun _ => Tt.ret (Ix.l hc))
 obtain ⟨b,hb,hp⟩ := this
 exact ⟨b,r9_rule8_run hb,hp⟩
theorem d9_rule8 : Ds 96 S9_rule8 := by
 intro args hA hc
 obtain ⟨v0,r0,rfl,h0,hA⟩ := es_cons hA
 cases es_nil hA
 obtain ⟨s,rfl⟩ := decSchema h0
 have ps := cap_mem hc rfl (v := encSchema s) (by simp)
 have qs := psSchema s
 unfold Nr at qs
 obtain ⟨r,hr,_⟩ := rule8_te s ⟨by omega⟩
 exact ⟨.bool r,by simp only [tys]; exact tO_spec (enc := fun r => (PV.bool r,[])) hr,.one (.bool r)⟩
def withinD (s : GSchema) (typ : Str) (x : GSel) : Str := bif x.kind == 0 then (fieldD s typ x.name).1.t.name else bif x.kind == 2 then (bif x.on_ == ([] : Str) then typ else x.on_) else []
def rootD (s : GSchema) (o : GOp) : Str := bif o.kind == 1 then s.mutation else s.query
theorem r3_Within_ok (s : GSchema) (typ : Str) (x : GSel) (h : SOk s) : r3_Within s typ x = some (withinD s typ x) := by
 apply r3_Within_run
 simp only [r3_Within_B,r9_Field_ok s _ _ h,bnd_s,withinD]
 cases x.kind == 0 <;> cases x.kind == 2 <;> cases x.on_ == ([] : Str) <;> rfl
theorem fi_Within_ok (s : GSchema) (typ : Str) (x : GSel) (h : SOk s) : fi_Within s typ x = some (withinD s typ x) := by
 apply fi_Within_run
 simp only [fi_Within_B,de_Field_ok s _ _ h,bnd_s,withinD]
 cases x.kind == 0 <;> cases x.kind == 2 <;> cases x.on_ == ([] : Str) <;> rfl
theorem r3_Root_ok (s : GSchema) (o : GOp) : r3_Root s o = some (rootD s o) := by
 apply r3_Root_run
 simp only [r3_Root_B,rootD]
 cases o.kind == 1 <;> rfl
theorem fi_Root_ok (s : GSchema) (o : GOp) : fi_Root s o = some (rootD s o) := by
 apply fi_Root_run
 simp only [fi_Root_B,rootD]
 cases o.kind == 1 <;> rfl
mutual
def spot1 (s : GSchema) (typ : Str) : GSel → List GSeineref13Spot
 | ⟨k,a,n,ar,ds,on,sels⟩ => ⟨typ,⟨k,a,n,ar,ds,on,sels⟩⟩ :: spotL s (withinD s typ ⟨k,a,n,ar,ds,on,sels⟩) sels
def spotL (s : GSchema) (typ : Str) : List GSel → List GSeineref13Spot
 | [] => []
 | x :: l => spot1 s typ x ++ spotL s typ l
end
theorem spot1_eq (s : GSchema) (typ : Str) (x : GSel) : spot1 s typ x = ⟨typ,x⟩ :: spotL s (withinD s typ x) x.sels := by cases x; simp only [spot1]
mutual
theorem spot1_bk (s : GSchema) : ∀ (x : GSel) (typ : Str),(spot1 s typ x).length ≤ bkSel x
 | ⟨k,a,n,ar,ds,on,sels⟩,typ => by
  have := spotL_bk s sels (withinD s typ ⟨k,a,n,ar,ds,on,sels⟩)
  rw [bkSels_eq] at this
  rw [bkSel_eq]
  simp only [spot1,List.length_cons,bkSl]
  omega
theorem spotL_bk (s : GSchema) : ∀ (l : List GSel) (typ : Str),(spotL s typ l).length ≤ bkSels l
 | [],_ => by simp [spotL]
 | x :: l,typ => by have := spot1_bk s x typ; have := spotL_bk s l typ; simp only [spotL,bkSels,List.length_append]; omega
end
theorem spots_ok' (s : GSchema) (h : SOk s) : ∀ (n : Nat) (sels : List GSel) (typ : Str) (l : List GSeineref13Spot), bkSels sels ≤ n → l.length + bkSels sels < 1073741824 → r3_spots s typ sels l = some (l ++ spotL s typ sels) := by
 intro n
 induction n with
 | zero =>
  intro sels typ l hb hl
  have := bkSels_len sels
  have hs : sels = [] := List.length_eq_zero_iff.1 (by omega)
  subst hs
  apply r3_spots_run
  unfold r3_spots_B
  rw [tloop_exit (r := l) (by simp [r3_spots_l1T])]
  simp [spotL]
 | succ n ih =>
  intro sels typ l hb hl
  apply r3_spots_run
  unfold r3_spots_B
  have hlen := bkSels_len sels
  have key := loop_list (b := r3_spots_l1T s typ sels) sels (fun k (a : List GSeineref13Spot) => (a, (k : Int))) (fun r a => a ++ spotL s typ r) (fun k a => a.length + bkSels (sels.drop k) < 1073741824) (by show sels.length < _; omega)
   (by intro a _; simp [r3_spots_l1T, spotL])
   (by
    intro k x r a hm hk hd h1 h2 h3 hI
    rw [hd] at hI
    simp only [bkSels] at hI
    have hdr : sels.drop (k + 1) = r := by rw [← List.tail_drop, hd]; rfl
    have hx := bkSels_mem hm
    have hx2 := bkSel_sels x
    have hb1 := spot1_bk s x typ
    have ht : tapp a [GSeineref13Spot.mk typ x] = some (a ++ [⟨typ, x⟩]) := tapp_ok (by simp [lim_val]; omega)
    refine .inr ⟨a ++ spot1 s typ x, ?_, ?_, ?_⟩
    ·simp only [r3_spots_l1T, h1, cnd_t, h2, bnd_s, h3, ht, r3_Within_ok s typ x h, ih x.sels (withinD s typ x) (a ++ [⟨typ, x⟩]) (by omega) (by simp; omega)]
     rw [spot1_eq]; simp
    ·rw [hdr]; simp only [List.length_append]; omega
    ·simp only [spotL, List.append_assoc]) (s := (l, 0)) (a := l) rfl (by simpa using hl)
  rw [key]; rfl
def spotsD (s : GSchema) (d : GDoc) : List GSeineref13Spot := (d.ops.flatMap fun o => spotL s (rootD s o) o.sels) ++ d.frags.flatMap fun f => spotL s f.on_ f.sels
theorem ops_flat (s : GSchema) : ∀ l : List GOp,(l.flatMap fun o => spotL s (rootD s o) o.sels).length ≤ sumL bkOp l
 | [] => by simp
 | o :: l => by
  have h1 := ops_flat s l
  have h2 := spotL_bk s o.sels (rootD s o)
  have h3 := bkOp_eq o
  rw [bkSels_eq] at h2
  simp only [bkSl] at h3
  simp only [List.flatMap_cons,List.length_append,sumL]; omega
theorem frags_flat (s : GSchema) : ∀ l : List GFrag,(l.flatMap fun f => spotL s f.on_ f.sels).length ≤ sumL bkFrag l
 | [] => by simp
 | f :: l => by
  have h1 := frags_flat s l
  have h2 := spotL_bk s f.sels f.on_
  have h3 := frag_sels_bk f
  simp only [List.flatMap_cons,List.length_append,sumL]; omega
theorem bkDoc_sum (d : GDoc) : bkDoc d = sumL bkOp d.ops + sumL bkFrag d.frags + 3 := by rw [bkDoc_eq]; simp only [bkSl]; omega
theorem spotsD_len (s : GSchema) (d : GDoc) : (spotsD s d).length ≤ bkDoc d := by
 have h1 := ops_flat s d.ops
 have h2 := frags_flat s d.frags
 rw [bkDoc_sum]; simp only [spotsD,List.length_append]; omega
theorem bkOp_pos (o : GOp) : 1 ≤ bkOp o := by rw [bkOp_eq]; omega
theorem op_sels_bk (o : GOp) : bkSels o.sels + 1 ≤ bkOp o := by rw [bkOp_eq,bkSels_eq]; simp only [bkSl]; omega
theorem r3_Spots_ok (s : GSchema) (d : GDoc) (h : SOk s) (hd : bkDoc d < 500000000) : r3_Spots s d = some (spotsD s d) := by
 apply r3_Spots_run
 unfold r3_Spots_B
 rw [bkDoc_sum] at hd
 have hol := sumL_len bkOp bkOp_pos d.ops
 have hfl := sumL_len bkFrag bkFrag_pos d.frags
 have k1 := loop_fold (b := r3_Spots_l1T s d) d.ops (fun k (a : List GSeineref13Spot) => (a, (k : Int))) (fun a o => a ++ spotL s (rootD s o) o.sels) (fun a => a) (fun k a => a.length + sumL bkOp (d.ops.drop k) ≤ sumL bkOp d.ops) (by show d.ops.length < _; omega)
  (by intro a _; simp [r3_Spots_l1T])
  (by
   intro k x a hm hk h1 h2 h3 hI
   have hb := op_sels_bk x
   have hs := spotL_bk s x.sels (rootD s x)
   have hdr : d.ops.drop k = x :: d.ops.drop (k + 1) := by
    rw [List.drop_eq_getElem_cons hk]
    rw [nthI_nat, List.getElem?_eq_getElem hk] at h2
    cases h2; rfl
   rw [hdr] at hI
   simp only [sumL] at hI
   refine ⟨?_, ?_⟩
   ·simp only [r3_Spots_l1T, h1, cnd_t, h2, bnd_s, h3, r3_Root_ok, spots_ok' s h _ x.sels (rootD s x) a (Nat.le_refl _) (by omega)]
   ·simp only [List.length_append]; omega) (s := ([], 0)) (a := []) rfl (by simp)
 rw [k1]
 simp only [bnd_s]
 have hops : ∀ (l : List GOp) (a : List GSeineref13Spot), l.foldl (fun a o => a ++ spotL s (rootD s o) o.sels) a = a ++ l.flatMap fun o => spotL s (rootD s o) o.sels := fun l => by
  induction l with
  | nil => intro a; simp
  | cons o l ih => intro a; simp only [List.foldl_cons, ih, List.flatMap_cons, List.append_assoc]
 have hfr : ∀ (l : List GFrag) (a : List GSeineref13Spot), l.foldl (fun a f => a ++ spotL s f.on_ f.sels) a = a ++ l.flatMap fun f => spotL s f.on_ f.sels := fun l => by
  induction l with
  | nil => intro a; simp
  | cons o l ih => intro a; simp only [List.foldl_cons, ih, List.flatMap_cons, List.append_assoc]
 rw [hops]
 have hlo := ops_flat s d.ops
 have k2 := loop_fold (b := r3_Spots_l2T s d) d.frags (fun k (a : List GSeineref13Spot) => (a, (k : Int))) (fun a f => a ++ spotL s f.on_ f.sels) (fun a => a) (fun k a => a.length + sumL bkFrag (d.frags.drop k) ≤ sumL bkOp d.ops + sumL bkFrag d.frags) (by show d.frags.length < _; omega)
  (by intro a _; simp [r3_Spots_l2T])
  (by
   intro k x a hm hk h1 h2 h3 hI
   have hb := frag_sels_bk x
   have hs := spotL_bk s x.sels x.on_
   have hdr : d.frags.drop k = x :: d.frags.drop (k + 1) := by
    rw [List.drop_eq_getElem_cons hk]
    rw [nthI_nat, List.getElem?_eq_getElem hk] at h2
    cases h2; rfl
   rw [hdr] at hI
   simp only [sumL] at hI
   refine ⟨?_, ?_⟩
   ·simp only [r3_Spots_l2T, h1, cnd_t, h2, bnd_s, h3, spots_ok' s h _ x.sels x.on_ a (Nat.le_refl _) (by omega)]
   ·simp only [List.length_append]; omega) (s := ([] ++ d.ops.flatMap fun o => spotL s (rootD s o) o.sels, 0)) (a := [] ++ d.ops.flatMap fun o => spotL s (rootD s o) o.sels) rfl (by simp only [List.nil_append, List.drop_zero]; omega)
 rw [k2, hfr]
 simp only [bnd_s, List.nil_append, spotsD]
theorem fieldD_mem (s : GSchema) (typ name : Str) : (fieldD s typ name).1 = tnF ∨ (fieldD s typ name).1 = zF ∨ ∃ d ∈ s.defs,(fieldD s typ name).1 ∈ d.fields := by
 unfold fieldD
 cases name == tnS && kindD s typ [1,2,3]
 ·cases (findD s typ).1.kind == 1 || (findD s typ).1.kind == 2
  ·exact .inr (.inl rfl)
  ·simp only [cond_true,cond_false]
   cases hf : (findD s typ).1.fields.find? (fun f => f.name == name) with
   | none => exact .inr (.inl rfl)
   | some f =>
    have hm := List.mem_of_find?_eq_some hf
    rcases findD_mem s typ with hx | ⟨_,e,_⟩
    ·exact .inr (.inr ⟨_,hx,hm⟩)
    ·rw [e] at hm; simp at hm
 ·exact .inl rfl
theorem SOk.field_bk {s : GSchema} (h : SOk s) {d : GDef} (hd : d ∈ s.defs) {f : GFieldDef} (hf : f ∈ d.fields) : bkFieldDef f < 1073741824 := by
 have h1 := h.def_bk hd
 have h2 := sumL_mem bkFieldDef hf
 rw [bkDef_eq] at h1; simp only [bkSl] at h1; omega
theorem fieldD_name {s : GSchema} (h : SOk s) (typ name : Str) : (fieldD s typ name).1.t.name.length ≤ topL := by
 unfold topL
 rcases fieldD_mem s typ name with e | e | ⟨d,hd,hf⟩
 ·rw [e]; simp [tnF]
 ·rw [e]; simp [zF]
 ·have := h.field_bk hd hf; rw [bkFieldDef_eq,bkType_eq,bkStr_ap,bkStr_ap] at this; omega
theorem lf_slm {τ : Tb} {n ub : Nat} {o o' : Bool} {α : Type} {f : α → PV} {l : List α} (h : LfOk τ (.sl n ub o) (.slice (l.map f) [] o')) : ∀ y ∈ l,ElOk τ (elOf τ n) (f y) := by
 obtain ⟨es,e,he,_⟩ := lf_sl h
 cases e
 exact fun y hy => he _ (List.mem_map.2 ⟨y,hy,rfl⟩)
theorem lf_strl {τ : Tb} {s : Str} (h : LfOk τ .str (.str s)) : s.length ≤ topL := by obtain ⟨_,e,hl⟩ := lf_str h; cases e; exact hl
def OkS (x : GSel) : Prop := ElOk tτ (elOf tτ 12) (encSel x)
theorem OkS.cells {x : GSel} (h : OkS x) : CsOk tτ [(.int .i64),.str,.str,(.sl 7 1048576 false),(.sl 8 1048576 false),.str,(.sl 12 1048576 false)] [.int .i64 x.kind,.str x.alias,.str x.name,.slice (List.map encMember x.args) [] false,.slice (List.map encDir x.dirs) [] false,.str x.on_,.slice (List.map encSel x.sels) [] false] := by
 unfold OkS at h
 rw [encSel_eq] at h
 change ElOk tτ ⟨true,_⟩ _ at h
 cases h with | ag hs => exact hs
theorem OkS.parts {x : GSel} (h : OkS x) : x.on_.length ≤ topL ∧ ∀ y ∈ x.sels,OkS y := by
 obtain ⟨_,_,e,_,h⟩ := cs_cons h.cells; cases e
 obtain ⟨_,_,e,_,h⟩ := cs_cons h; cases e
 obtain ⟨_,_,e,_,h⟩ := cs_cons h; cases e
 obtain ⟨_,_,e,_,h⟩ := cs_cons h; cases e
 obtain ⟨_,_,e,_,h⟩ := cs_cons h; cases e
 obtain ⟨_,_,e,h1,h⟩ := cs_cons h; cases e
 obtain ⟨_,_,e,h2,h⟩ := cs_cons h; cases e
 exact ⟨lf_strl h1,lf_slm h2⟩
theorem withinD_len {s : GSchema} (h : SOk s) {typ : Str} {x : GSel} (ht : typ.length ≤ topL) (hx : OkS x) : (withinD s typ x).length ≤ topL := by
 have h1 := fieldD_name h typ x.name
 have h2 := hx.parts.1
 unfold withinD
 cases x.kind == 0 <;> cases x.kind == 2 <;> cases x.on_ == ([] : Str) <;> first | exact h1 | exact h2 | exact ht | simp
theorem spot_ok {typ : Str} {x : GSel} (ht : typ.length ≤ topL) (hx : OkS x) : ElOk tτ (elOf tτ 16) (encSeineref13Spot ⟨typ,x⟩) := by
 rw [encSeineref13Spot_eq]
 exact .ag (.cons (.str ht) hx.cells)
mutual
theorem spot1_ok {s : GSchema} (h : SOk s) : ∀ (x : GSel) (typ : Str),typ.length ≤ topL → OkS x → ∀ p ∈ spot1 s typ x,ElOk tτ (elOf tτ 16) (encSeineref13Spot p)
 | ⟨k,a,n,ar,ds,on,sels⟩,typ,ht,hx,p,hp => by
  simp only [spot1,List.mem_cons] at hp
  rcases hp with rfl | hp
  ·exact spot_ok ht hx
  ·exact spotL_ok h sels _ (withinD_len h ht hx) hx.parts.2 p hp
theorem spotL_ok {s : GSchema} (h : SOk s) : ∀ (l : List GSel) (typ : Str),typ.length ≤ topL → (∀ x ∈ l,OkS x) → ∀ p ∈ spotL s typ l,ElOk tτ (elOf tτ 16) (encSeineref13Spot p)
 | [],_,_,_,p,hp => by simp [spotL] at hp
 | x :: l,typ,ht,hx,p,hp => by
  simp only [spotL,List.mem_append] at hp
  rcases hp with hp | hp
  ·exact spot1_ok h x typ ht (hx x (by simp)) p hp
  ·exact spotL_ok h l typ ht (fun y hy => hx y (by simp [hy])) p hp
end
theorem op_sels_ok {o : GOp} (h : ElOk tτ (elOf tτ 10) (encOp o)) : ∀ x ∈ o.sels,OkS x := by
 rw [encOp_eq] at h
 change ElOk tτ ⟨true,[(.int .i64),.str,(.sl 11 1048576 false),(.sl 8 1048576 false),(.sl 12 1048576 false)]⟩ _ at h
 cases h with
 | ag h =>
  obtain ⟨_,_,e,_,h⟩ := cs_cons h; cases e
  obtain ⟨_,_,e,_,h⟩ := cs_cons h; cases e
  obtain ⟨_,_,e,_,h⟩ := cs_cons h; cases e
  obtain ⟨_,_,e,_,h⟩ := cs_cons h; cases e
  obtain ⟨_,_,e,h2,h⟩ := cs_cons h; cases e
  exact lf_slm h2
theorem frag_sels_ok {o : GFrag} (h : ElOk tτ (elOf tτ 13) (encFrag o)) : o.on_.length ≤ topL ∧ ∀ x ∈ o.sels,OkS x := by
 rw [encFrag_eq] at h
 change ElOk tτ ⟨true,[.str,.str,(.sl 8 1048576 false),(.sl 12 1048576 false)]⟩ _ at h
 cases h with
 | ag h =>
  obtain ⟨_,_,e,_,h⟩ := cs_cons h; cases e
  obtain ⟨_,_,e,h1,h⟩ := cs_cons h; cases e
  obtain ⟨_,_,e,_,h⟩ := cs_cons h; cases e
  obtain ⟨_,_,e,h2,h⟩ := cs_cons h; cases e
  exact ⟨lf_strl h1,lf_slm h2⟩
theorem doc_parts_ok {d : GDoc} (h : ElOk tτ (elOf tτ 9) (encDoc d)) : (∀ o ∈ d.ops,ElOk tτ (elOf tτ 10) (encOp o)) ∧ ∀ f ∈ d.frags,ElOk tτ (elOf tτ 13) (encFrag f) := by
 rw [encDoc_eq] at h
 change ElOk tτ ⟨true,[(.sl 10 1048576 false),(.sl 13 1048576 false)]⟩ _ at h
 cases h with
 | ag h =>
  obtain ⟨_,_,e,h1,h⟩ := cs_cons h; cases e
  obtain ⟨_,_,e,h2,h⟩ := cs_cons h; cases e
  exact ⟨lf_slm h1,lf_slm h2⟩
theorem d3_Spots : Ds 58 S3_Spots := by
 intro args hA hc
 obtain ⟨v0,r0,rfl,h0,hA⟩ := es_cons hA
 obtain ⟨v1,r1,rfl,h1,hA⟩ := es_cons hA
 cases es_nil hA
 obtain ⟨s,rfl⟩ := decSchema h0
 obtain ⟨d,rfl⟩ := decDoc h1
 have ps := cap_mem hc rfl (v := encSchema s) (by simp)
 have pd := cap_mem hc rfl (v := encDoc d) (by simp)
 have qs := psSchema s
 have qd := psDoc d
 unfold Nr at qs qd
 have hs : SOk s := ⟨by omega⟩
 have hr := r3_Spots_ok s d hs (by omega)
 have hl : (spotsD s d).length ≤ 4194304 := by
  have h1 := spotsD_len s d
  omega
 obtain ⟨k1,k2⟩ := doc_parts_ok h1
 refine ⟨_,by simp only [tys]; exact tO_spec (enc := fun r => (r3_SpotsE r,[])) hr,.one (.sl (fun e he => ?_) (by simpa using hl))⟩
 obtain ⟨p,hp,rfl⟩ := List.mem_map.1 he
 rcases List.mem_append.1 hp with hp | hp
 ·obtain ⟨o,ho,hp⟩ := List.mem_flatMap.1 hp
  refine spotL_ok hs _ _ ?_ (op_sels_ok (k1 o ho)) p hp
  have := bkSchema_eq s
  rw [bkStr_ap,bkStr_ap] at this
  have h3 := hs.bk
  unfold rootD topL
  cases o.kind == 1 <;> simp only [cond_true,cond_false] <;> omega
 ·obtain ⟨f,hf,hp⟩ := List.mem_flatMap.1 hp
  exact spotL_ok hs _ _ (frag_sels_ok (k2 f hf)).1 (frag_sels_ok (k2 f hf)).2 p hp
def S1_start : Summ := sv1 [⟨false,[(.int .u8)]⟩] [E2']
theorem d1_start : Ds 169 S1_start := does_fun (C := cf [] [] 0 false []) Tryz.func169 rfl rfl sn' (by kernel_rfl)
def S1_digit : Summ := sv1 [⟨false,[(.int .u8)]⟩] [E2']
theorem d1_digit : Ds 170 S1_digit := does_fun (C := cf [] [] 0 false []) Tryz.func170 rfl rfl sn' (by kernel_rfl)
def S1_Name : Summ := sv1 [E11'] [E2']
theorem d1_Name : Ds 98 S1_Name := does_fun (C := cf [(169,S1_start),(170,S1_digit)] [] 0 false [lh 4 [.same,.same,.lf (.int .i64)] 2 1073741824 [some 0,none]]) Tryz.func98 rfl rfl (sc' d1_start (sc' d1_digit sn')) (by kernel_rfl)
def S1_RightType : Summ := sv1 [E5'] [E2']
theorem d1_RightType : Ds 101 S1_RightType := does_fun (C := cf [(98,S1_Name)] [] 0 false []) Tryz.func101 rfl rfl (sc' d1_Name sn') (by kernel_rfl)
def S1_Bare : Summ := sv1 [E5'] [E5']
def S1_Depth : Summ := sv1 [E1'] [E8']
def C1_Depth : Cfg := cf [] [(213,S1_Depth,0)] 0 true [lh 4 (.same :: .lf (.int .i64) :: .lf (.int .i64) :: sa 5 []) 2 1048576 [some 0],lh 10 (.same :: .lf (.int .i64) :: .lf (.int .i64) :: sa 5 []) 2 1048576 [some 2]]
theorem g1_Depth : ∀ x,x ∈ ([(213,S1_Depth,0)] : List (FuncId × Summ × Nat)) → Ds x.1 x.2.1 :=
 does_rec (fun x => C1_Depth) (all_cons ⟨rfl,rfl,rfl,sn',rfl,_,Tryz.func213,by kernel_rfl⟩ (all_nil))
theorem d1_Depth : Ds 213 S1_Depth := g1_Depth (213,S1_Depth,0) (by simp)
def S1_Get : Summ := sv1 [E11',E16'] [E1',E2']
theorem d1_Get : Ds 219 S1_Get := does_fun (C := cf [] [] 0 false [(2,{ hv := (sa 4 (.lf (.int .i64) :: sa 5 [])),cnt := 4,top := 16777216,ex := [(some 0,(sa 4 (.lf (.int .i64) :: sa 5 []))),(none,[.same,.same,.same,.lf .bool,.lf (.int .i64),.lf (.int .i64),.lf (.int .i64),.lf .str,.lf (.sl 6 1048576 false),.lf (.sl 7 1048576 false)])] })]) Tryz.func219 rfl rfl sn' (by kernel_rfl)
def S1_Good : Summ := sv1 [E11'] [E2']
theorem d1_Good : Ds 223 S1_Good := does_fun (C := cf [(239,S1_Codes)] [] 0 false []) Tryz.func223 rfl rfl (sc' d1_Codes sn') (by kernel_rfl)
def S1_Number : Summ := sv1 [E11'] [E8']
theorem d1_Number : Ds 221 S1_Number := does_fun (C := cf [(238,S1_numeral)] [] 0 false []) Tryz.func221 rfl rfl (sc' d1_numeral sn') (by kernel_rfl)
def S1_Int64 : Summ := sv1 [E11'] [E8',E2']
theorem d1_Int64 : Ds 222 S1_Int64 := does_fun (C := cf [] [] 0 false [lh 5 (sa 3 (.lf (.int .i64) :: .same :: [.lf (.int .i64)])) 3 1073741824 [some 0,none]]) Tryz.func222 rfl rfl sn' (by kernel_rfl)
def S1_GoodValue : Summ := sv1 [E1'] [E2']
def C1_GoodValue : Cfg := cf [(221,S1_Number),(222,S1_Int64),(223,S1_Good),(98,S1_Name)] [(191,S1_GoodValue,0)] 0 true [lh 25 (sa 2 (.lf (.int .i64) :: sa 5 [])) 2 1048576 [some 1,none],lh 32 (sa 2 (.lf (.int .i64) :: sa 5 [])) 2 1048576 [some 3,none]]
theorem g1_GoodValue : ∀ x,x ∈ ([(191,S1_GoodValue,0)] : List (FuncId × Summ × Nat)) → Ds x.1 x.2.1 :=
 does_rec (fun x => C1_GoodValue) (all_cons ⟨rfl,rfl,rfl,(sc' d1_Number (sc' d1_Int64 (sc' d1_Good (sc' d1_Name sn')))),rfl,_,Tryz.func191,by kernel_rfl⟩ (all_nil))
theorem d1_GoodValue : Ds 191 S1_GoodValue := g1_GoodValue (191,S1_GoodValue,0) (by simp)
def S1_Has : Summ := sv1 [E9',E11'] [E2']
theorem d1_Has : Ds 29 S1_Has := does_fun (C := cf [] [] 0 false [(2,{ hv := [.same,.same,.same,.lf (.int .i64)],cnt := 3,top := 16777216,ex := [(some 0,[.same,.same,.same,.lf (.int .i64)]),(none,[.same,.same,.lf .bool,.lf (.int .i64)])] })]) Tryz.func29 rfl rfl sn' (by kernel_rfl)
def S1_Is : Summ := sv1 [E5'] [E2']
theorem d1_Is : Ds 195 S1_Is := does_fun (C := cf [(101,S1_RightType)] [] 0 false []) Tryz.func195 rfl rfl (sc' d1_RightType sn') (by kernel_rfl)
def S1_Item : Summ := sv1 [E5'] [E5',E2']
def S1_Same : Summ := sv1 [E1',E1'] [E2']
def S1_Members : Summ := sv1 [E16',E16'] [E2']
def C1_Same : Cfg := cf [] [(174,S1_Same,0),(215,S1_Members,0)] 0 true [lh 4 (sa 3 (.lf (.int .i64) :: sa 10 [])) 3 16777216 [some 0,none]]
def C1_Members : Cfg := cf [] [(174,S1_Same,0),(215,S1_Members,0)] 0 false [lh 4 [.same,.same,.same,.lf (.int .i64)] 3 16777216 [some 0,none]]
theorem g1_Same : ∀ x,x ∈ ([(174,S1_Same,0),(215,S1_Members,0)] : List (FuncId × Summ × Nat)) → Ds x.1 x.2.1 :=
 does_rec (fun x => if x.1 = 174 then C1_Same else C1_Members) (all_cons ⟨rfl,rfl,rfl,sn',rfl,_,Tryz.func174,by kernel_rfl⟩ (all_cons ⟨rfl,rfl,rfl,sn',rfl,_,Tryz.func215,by kernel_rfl⟩ (all_nil)))
theorem d1_Same : Ds 174 S1_Same := g1_Same (174,S1_Same,0) (by simp)
def S1_named : Summ := sv1 [E1'] [E2']
def C1_named : Cfg := cf [(98,S1_Name)] [(235,S1_named,0)] 0 true [lh 2 (sa 2 (.lf (.int .i64) :: sa 5 [])) 2 1048576 [some 0,none],lh 7 (sa 2 (.lf (.int .i64) :: sa 5 [])) 2 1048576 [some 2,none]]
theorem g1_named : ∀ x,x ∈ ([(235,S1_named,0)] : List (FuncId × Summ × Nat)) → Ds x.1 x.2.1 :=
 does_rec (fun x => C1_named) (all_cons ⟨rfl,rfl,rfl,(sc' d1_Name sn'),rfl,_,Tryz.func235,by kernel_rfl⟩ (all_nil))
theorem d1_named : Ds 235 S1_named := g1_named (235,S1_named,0) (by simp)
def S1_Plain : Summ := sv1 [E1'] [E2']
theorem d1_Plain : Ds 212 S1_Plain := does_fun (C := cf [(191,S1_GoodValue),(213,S1_Depth),(235,S1_named)] [] 0 false []) Tryz.func212 rfl rfl (sc' d1_GoodValue (sc' d1_Depth (sc' d1_named sn'))) (by kernel_rfl)
def S1_SubType : Summ := sv1 [E5',E5'] [E2']
theorem d1_SubType : Ds 197 S1_SubType := does_fun (C := cf [(101,S1_RightType)] [] 0 false []) Tryz.func197 rfl rfl (sc' d1_RightType sn') (by kernel_rfl)
def S1_Vars : Summ := sv2 [E1'] [E9']
theorem d1_Vars : Ds 214 S1_Vars := does_fun (C := cg [(236,S1_vars)] [] 0 false [] 1) Tryz.func214 rfl rfl (sc' d1_vars sn') (by kernel_rfl)
def S3_Alike : Summ := sv1 [E16',E16'] [E2']
def S3_Allowed : Summ := sv1 [E3',E5',E2'] [E2']
def S3_DirParam : Summ := sv1 [E11'] [E3',E2']
theorem d3_DirParam : Ds 121 S3_DirParam := does_fun (C := cf [] [] 0 false []) Tryz.func121 rfl rfl sn' (by kernel_rfl)
def S3_Frag : Summ := sv1 [E4',E11'] [E15',E2']
theorem d3_Frag : Ds 113 S3_Frag := does_fun (C := cf [] [] 0 false [(2,{ hv := (sa 4 (.lf (.int .i64) :: sa 6 [])),cnt := 4,top := 1048576,ex := [(some 0,(sa 4 (.lf (.int .i64) :: sa 6 []))),(none,(sa 3 (.lf .bool :: .lf (.int .i64) :: .lf .str :: .lf .str :: .lf (.sl 8 1048576 false) :: .lf (.sl 12 1048576 false) :: sa 2 [])))] })]) Tryz.func113 rfl rfl sn' (by kernel_rfl)
def S3_Key : Summ := sv1 [E6'] [E11']
def S9_Param : Summ := sv1 [E13',E11'] [E3',E2']
theorem d9_Param : Ds 193 S9_Param := does_fun (C := cf [] [] 0 false [(2,{ hv := (sa 4 (.lf (.int .i64) :: sa 10 [])),cnt := 4,top := 16777216,ex := [(some 0,(sa 4 (.lf (.int .i64) :: sa 10 []))),(none,[.same,.same,.same,.lf .bool,.lf (.int .i64),.lf .str,.lf .str,.lf (.int .i64),.lf (.int .i64),.lf .bool,.lf (.int .i64),.lf (.int .i64),.lf .str,.lf (.sl 6 1048576 false),.lf (.sl 7 1048576 false)])] })]) Tryz.func193 rfl rfl sn' (by kernel_rfl)
def S3_Known : Summ := sv1 [E13',E16'] [E2']
theorem d3_Known : Ds 186 S3_Known := does_fun (C := cf [(193,S9_Param)] [] 0 false [lh 2 [.same,.same,.same,.lf (.int .i64)] 3 16777216 [some 0,none]]) Tryz.func186 rfl rfl (sc' d9_Param sn') (by kernel_rfl)
def S3_Needed : Summ := sv1 [E13',E16'] [E2']
theorem d3_Needed : Ds 188 S3_Needed := does_fun (C := cf [(219,S1_Get),(195,S1_Is)] [] 0 false [lh 2 [.same,.same,.same,.lf (.int .i64)] 3 16777216 [some 0,none]]) Tryz.func188 rfl rfl (sc' d1_Get (sc' d1_Is sn')) (by kernel_rfl)
def S3_Once : Summ := sv1 [E16'] [E2']
theorem d3_Once : Ds 187 S3_Once := does_fun (C := cf [] [] 0 false [lh 5 [.same,.same,.same,.lf (.int .i64)] 3 16777216 [some 2,none],lh 2 [.same,.same,.lf (.int .i64)] 2 16777216 [some 0,none]]) Tryz.func187 rfl rfl sn' (by kernel_rfl)
def S3_Root : Summ := sv1 [E0',E12'] [E11']
def S9_scalar : Summ := sv1 [E11'] [E2']
theorem d9_scalar : Ds 156 S9_scalar := does_fun (C := cf [] [] 0 false []) Tryz.func156 rfl rfl sn' (by kernel_rfl)
def S9_Find : Summ := sv1 [E0',E11'] [E7',E2']
theorem d9_Find : Ds 164 S9_Find := does_fun (C := cf [(156,S9_scalar)] [] 0 false [(4,{ hv := (sa 4 (.lf (.int .i64) :: sa 9 [])),cnt := 4,top := 1048576,ex := [(some 0,(sa 4 (.lf (.int .i64) :: sa 9 []))),(none,(sa 3 (.lf .bool :: .lf (.int .i64) :: .lf (.int .i64) :: .lf .str :: .lf (.sl 0 1048576 false) :: .lf (.sl 4 1048576 false) :: .lf (.sl 0 1048576 false) :: .lf (.sl 5 1048576 false) :: sa 3 [])))] })]) Tryz.func164 rfl rfl (sc' d9_scalar sn') (by kernel_rfl)
def S9_is : Summ := sv1 [E0',E11',E8',E8',E8'] [E2']
theorem d9_is : Ds 159 S9_is := does_fun (C := cf [(164,S9_Find)] [] 0 false []) Tryz.func159 rfl rfl (sc' d9_Find sn') (by kernel_rfl)
def S9_Leaf : Summ := sv1 [E0',E11'] [E2']
theorem d9_Leaf : Ds 118 S9_Leaf := does_fun (C := cf [(159,S9_is)] [] 0 false []) Tryz.func118 rfl rfl (sc' d9_is sn') (by kernel_rfl)
def S9_Composite : Summ := sv1 [E0',E11'] [E2']
theorem d9_Composite : Ds 112 S9_Composite := does_fun (C := cf [(159,S9_is)] [] 0 false []) Tryz.func112 rfl rfl (sc' d9_is sn') (by kernel_rfl)
def S3_Shape : Summ := sv1 [E0',E5',E5'] [E2']
def S9_Field : Summ := sv1 [E0',E11',E11'] [E10',E2']
theorem d9_Field : Ds 117 S9_Field := does_fun (C := cf [(112,S9_Composite),(164,S9_Find)] [] 0 false [(7,{ hv := (sa 4 (.lf (.int .i64) :: sa 15 [])),cnt := 4,top := 1048576,ex := [(some 0,(sa 4 (.lf (.int .i64) :: sa 15 []))),(none,(sa 2 (.lf .bool :: .same :: .lf (.int .i64) :: sa 6 (.lf .str :: .lf (.sl 5 1048576 false) :: .lf .str :: .lf (.int .i64) :: .lf (.int .i64) :: .lf (.sl 8 1048576 false) :: sa 3 []))))] })]) Tryz.func117 rfl rfl (sc' d9_Composite (sc' d9_Find sn')) (by kernel_rfl)
def S3_Within : Summ := sv1 [E0',E11',E6'] [E11']
def S3_all : Summ := sv1 [E9',E9'] [E2']
def S3_params : Summ := sv1 [E0',⟨true,[.str,(.int .i64),.str,.str,(.sl 7 1048576 false),(.sl 8 1048576 false),.str,(.sl 12 1048576 false)]⟩] [E13']
theorem d3_params : Ds 124 S3_params := does_fun (C := cf [(117,S9_Field)] [] 0 false []) Tryz.func124 rfl rfl (sc' d9_Field sn') (by kernel_rfl)
def S3_argsRule : Summ := sv1 [E13',E16',E8'] [E2']
theorem d3_argsRule : Ds 123 S3_argsRule := does_fun (C := cf [(186,S3_Known),(187,S3_Once),(188,S3_Needed)] [] 0 false []) Tryz.func123 rfl rfl (sc' d3_Known (sc' d3_Once (sc' d3_Needed sn'))) (by kernel_rfl)
def S3_dirParams : Summ := sv1 [⟨true,[.str,(.sl 7 1048576 false)]⟩] [E13']
theorem d3_dirParams : Ds 125 S3_dirParams := does_fun (C := cf [(121,S3_DirParam)] [] 0 false []) Tryz.func125 rfl rfl (sc' d3_DirParam sn') (by kernel_rfl)
def S3_argRule : Summ := sv2 [E0',E4',E8'] [E2']
theorem d3_argRule : Ds 61 S3_argRule := does_fun (C := cg [(58,S3_Spots),(124,S3_params),(123,S3_argsRule),(125,S3_dirParams)] [] 0 false [lh 8 (sa 5 (.lf (.int .i64) :: sa 5 [])) 5 16777216 [some 2,none],lh 3 (sa 4 (.lf (.int .i64) :: sa 5 [])) 4 16777216 [some 0,none]] 3) Tryz.func61 rfl rfl (sc' d3_Spots (sc' d3_params (sc' d3_argsRule (sc' d3_dirParams sn')))) (by kernel_rfl)
def S3_dirNames : Summ := sv1 [⟨false,[.sl 8 16777216 false]⟩] [E9']
theorem d3_dirNames : Ds 122 S3_dirNames := does_fun (C := cf [] [] 0 false [lh 3 [.same,.acc 0 0 1,.lf (.int .i64)] 2 16777216 [some 0]]) Tryz.func122 rfl rfl sn' (by kernel_rfl)
def S3_dirLists : Summ := sv2 [E0',E4'] [⟨false,[.sl 14 16777216 false]⟩]
theorem d3_dirLists : Ds 120 S3_dirLists := does_fun (C := cg [(58,S3_Spots)] [] 0 false [lh 3 (sa 2 (.acc 14 0 1 :: .lf (.int .i64) :: sa 5 [])) 3 4194304 [some 0],lh 7 (sa 2 (.acc 14 4194304 1 :: .lf (.int .i64) :: sa 5 [])) 3 4194304 [some 2],lh 12 (.acc 14 8388608 1 :: .same :: .lf (.int .i64) :: sa 5 []) 2 4194304 [some 4]] 2) Tryz.func120 rfl rfl (sc' d3_Spots sn') (by kernel_rfl)
def S3_twice : Summ := sv1 [E9'] [E2']
theorem d3_twice : Ds 50 S3_twice := does_fun (C := cf [] [] 0 false [(5,{ hv := [.same,.same,.same,.lf (.int .i64)],cnt := 3,top := 16777216,ex := [(some 2,[.same,.same,.same,.lf (.int .i64)]),(none,[.same,.lf .bool,.same,.lf (.int .i64)])] }),(2,{ hv := [.same,.same,.lf (.int .i64)],cnt := 2,top := 16777216,ex := [(some 0,[.same,.same,.lf (.int .i64)]),(none,[.same,.lf .bool,.lf (.int .i64)])] })]) Tryz.func50 rfl rfl sn' (by kernel_rfl)
def S3_dirRule : Summ := sv2 [E0',E4',E8'] [E2']
theorem d3_dirRule : Ds 60 S3_dirRule := does_fun (C := cg [(120,S3_dirLists),(121,S3_DirParam),(122,S3_dirNames),(50,S3_twice)] [] 0 false [lh 6 (sa 5 (.lf (.int .i64) :: sa 5 [])) 5 16777216 [some 2,none],lh 3 (sa 4 (.lf (.int .i64) :: sa 5 [])) 4 16777216 [some 0,none]] 3) Tryz.func60 rfl rfl (sc' d3_dirLists (sc' d3_DirParam (sc' d3_dirNames (sc' d3_twice sn')))) (by kernel_rfl)
def S9_Object : Summ := sv1 [E0',E11'] [E2']
theorem d9_Object : Ds 90 S9_Object := does_fun (C := cf [(159,S9_is)] [] 0 false []) Tryz.func90 rfl rfl (sc' d9_is sn') (by kernel_rfl)
def S9_Possible : Summ := sv1 [E0',E11'] [E9']
theorem d9_Possible : Ds 185 S9_Possible := does_fun (C := cf [(164,S9_Find),(29,S1_Has),(90,S9_Object)] [] 0 false [lh 8 (sa 2 (.acc 0 0 1 :: .lf (.int .i64) :: sa 9 [])) 3 1048576 [some 1],lh 15 (sa 2 (.acc 0 0 1 :: .lf (.int .i64) :: sa 9 [])) 3 1048576 [some 3]]) Tryz.func185 rfl rfl (sc' d9_Find (sc' d1_Has (sc' d9_Object sn'))) (by kernel_rfl)
def S9_Meets : Summ := sv1 [E0',E11',E11'] [E2']
theorem d9_Meets : Ds 119 S9_Meets := does_fun (C := cf [(185,S9_Possible),(29,S1_Has)] [] 0 false [(3,{ hv := (sa 3 (.lf (.int .i64) :: sa 3 [])),cnt := 3,top := 16777216,ex := [(some 0,(sa 3 (.lf (.int .i64) :: sa 3 []))),(none,(.lf .bool :: sa 2 (.lf (.int .i64) :: sa 3 [])))] })]) Tryz.func119 rfl rfl (sc' d9_Possible (sc' d1_Has sn')) (by kernel_rfl)
def S3_fieldRule : Summ := sv1 [E0',E4',⟨true,[.str,(.int .i64),.str,.str,(.sl 7 1048576 false),(.sl 8 1048576 false),.str,(.sl 12 1048576 false)]⟩,E8'] [E2']
theorem d3_fieldRule : Ds 59 S3_fieldRule := does_fun (C := cf [(117,S9_Field),(118,S9_Leaf),(112,S9_Composite),(119,S9_Meets),(113,S3_Frag)] [] 0 false []) Tryz.func59 rfl rfl (sc' d9_Field (sc' d9_Leaf (sc' d9_Composite (sc' d9_Meets (sc' d3_Frag sn'))))) (by kernel_rfl)
def S3_rule3 : Summ := sv1 [E0',E4'] [E2']
theorem d3_rule3 : Ds 52 S3_rule3 := does_fun (C := cf [] [] 0 false [lh 2 (sa 3 (.lf (.int .i64) :: sa 5 [])) 3 1048576 [some 0,none]]) Tryz.func52 rfl rfl sn' (by kernel_rfl)
def S3_varNames : Summ := sv1 [⟨false,[.sl 11 16777216 false]⟩] [E9']
def S3_variable : Summ := sv1 [⟨false,[.sl 11 16777216 false]⟩,E11'] [E3']
def S6_rightValue : Summ := sv2 [E1',E8',E2'] [E2']
theorem d6_rightValue : Ds 173 S6_rightValue := does_fun (C := cg [(212,S1_Plain),(213,S1_Depth),(214,S1_Vars)] [] 0 false [] 3) Tryz.func173 rfl rfl (sc' d1_Plain (sc' d1_Depth (sc' d1_Vars sn'))) (by kernel_rfl)
def S6_rightMembers : Summ := sv2 [E16',E8',E2'] [E2']
theorem d6_rightMembers : Ds 171 S6_rightMembers := does_fun (C := cg [(98,S1_Name),(173,S6_rightValue)] [] 0 false [lh 2 (sa 4 ([.lf (.int .i64)])) 4 16777216 [some 0,none]] 3) Tryz.func171 rfl rfl (sc' d1_Name (sc' d6_rightValue sn')) (by kernel_rfl)
def S6_rightDirs : Summ := sv2 [⟨false,[.sl 8 16777216 false]⟩,E8',E2'] [E2']
theorem d6_rightDirs : Ds 99 S6_rightDirs := does_fun (C := cg [(98,S1_Name),(171,S6_rightMembers)] [] 0 false [lh 2 (sa 4 ([.lf (.int .i64)])) 4 16777216 [some 0,none]] 3) Tryz.func99 rfl rfl (sc' d1_Name (sc' d6_rightMembers sn')) (by kernel_rfl)
def S6_rightSels : Summ := sv2 [⟨false,[.sl 12 16777216 false]⟩,E8'] [E2']
def S6_rightSel : Summ := sv2 [E6',E8'] [E2']
def C6_rightSels : Cfg := cg [] [(100,S6_rightSels,0),(172,S6_rightSel,0)] 0 false [lh 4 [.same,.same,.same,.lf (.int .i64)] 3 16777216 [some 0,none]] 2
def C6_rightSel : Cfg := cg [(99,S6_rightDirs),(98,S1_Name),(171,S6_rightMembers)] [(100,S6_rightSels,0),(172,S6_rightSel,0)] 0 true [] 2
theorem g6_rightSels : ∀ x,x ∈ ([(100,S6_rightSels,0),(172,S6_rightSel,0)] : List (FuncId × Summ × Nat)) → Ds x.1 x.2.1 :=
 does_rec (fun x => if x.1 = 100 then C6_rightSels else C6_rightSel) (all_cons ⟨rfl,rfl,rfl,sn',rfl,_,Tryz.func100,by kernel_rfl⟩ (all_cons ⟨rfl,rfl,rfl,(sc' d6_rightDirs (sc' d1_Name (sc' d6_rightMembers sn'))),rfl,_,Tryz.func172,by kernel_rfl⟩ (all_nil)))
theorem d6_rightSels : Ds 100 S6_rightSels := g6_rightSels (100,S6_rightSels,0) (by simp)
def S6_rightDefault : Summ := sv2 [E2',E1'] [E2']
theorem d6_rightDefault : Ds 102 S6_rightDefault := does_fun (C := cg [(173,S6_rightValue),(174,S1_Same)] [] 0 false [] 2) Tryz.func102 rfl rfl (sc' d6_rightValue (sc' d1_Same sn')) (by kernel_rfl)
def S6_Right : Summ := sv2 [E4'] [E2']
theorem d6_Right : Ds 33 S6_Right := does_fun (C := cg [(98,S1_Name),(99,S6_rightDirs),(100,S6_rightSels),(101,S1_RightType),(102,S6_rightDefault)] [] 0 false [lh 8 (sa 4 (.lf (.int .i64) :: sa 7 [])) 4 1048576 [some 2,none],lh 2 (sa 2 (.lf (.int .i64) :: sa 2 [])) 2 1048576 [some 0,none],lh 13 (sa 2 (.lf (.int .i64) :: sa 2 [])) 2 1048576 [some 4,none]] 1) Tryz.func33 rfl rfl (sc' d1_Name (sc' d6_rightDirs (sc' d6_rightSels (sc' d1_RightType (sc' d6_rightDefault sn'))))) (by kernel_rfl)
def S6_rightNames : Summ := sv1 [E9'] [E2']
theorem d6_rightNames : Ds 232 S6_rightNames := does_fun (C := cf [(98,S1_Name)] [] 0 false [lh 2 [.same,.same,.lf (.int .i64)] 2 16777216 [some 0,none]]) Tryz.func232 rfl rfl (sc' d1_Name sn') (by kernel_rfl)
def S6_rightParams : Summ := sv2 [E13'] [E2']
theorem d6_rightParams : Ds 234 S6_rightParams := does_fun (C := cg [(98,S1_Name),(101,S1_RightType),(102,S6_rightDefault)] [] 0 false [lh 2 [.same,.same,.lf (.int .i64)] 2 16777216 [some 0,none]] 1) Tryz.func234 rfl rfl (sc' d1_Name (sc' d1_RightType (sc' d6_rightDefault sn'))) (by kernel_rfl)
def S6_rightFields : Summ := sv2 [⟨false,[.sl 4 16777216 false]⟩] [E2']
theorem d6_rightFields : Ds 233 S6_rightFields := does_fun (C := cg [(98,S1_Name),(234,S6_rightParams),(101,S1_RightType),(99,S6_rightDirs)] [] 0 false [lh 2 [.same,.same,.lf (.int .i64)] 2 16777216 [some 0,none]] 1) Tryz.func233 rfl rfl (sc' d1_Name (sc' d6_rightParams (sc' d1_RightType (sc' d6_rightDirs sn')))) (by kernel_rfl)
def S6_rightDef : Summ := sv2 [E7'] [E2']
theorem d6_rightDef : Ds 209 S6_rightDef := does_fun (C := cg [(98,S1_Name),(232,S6_rightNames),(233,S6_rightFields),(234,S6_rightParams),(29,S1_Has)] [] 0 false [] 1) Tryz.func209 rfl rfl (sc' d1_Name (sc' d6_rightNames (sc' d6_rightFields (sc' d6_rightParams (sc' d1_Has sn'))))) (by kernel_rfl)
def S6_RightSchema : Summ := sv2 [E0'] [E2']
theorem d6_RightSchema : Ds 157 S6_RightSchema := does_fun (C := cg [(209,S6_rightDef),(98,S1_Name)] [] 0 false [lh 2 (sa 2 (.lf (.int .i64) :: sa 3 [])) 2 1048576 [some 0,none]] 1) Tryz.func157 rfl rfl (sc' d6_rightDef (sc' d1_Name sn')) (by kernel_rfl)
def S9_Entry : Summ := sv1 [E0',E11'] [E2']
theorem d9_Entry : Ds 129 S9_Entry := does_fun (C := cf [(159,S9_is)] [] 0 false []) Tryz.func129 rfl rfl (sc' d9_is sn') (by kernel_rfl)
def S9_Sub : Summ := sv1 [E0',E5',E5'] [E2']
theorem d9_Sub : Ds 211 S9_Sub := does_fun (C := cf [(101,S1_RightType),(197,S1_SubType),(164,S9_Find),(185,S9_Possible),(29,S1_Has)] [] 0 false []) Tryz.func211 rfl rfl (sc' d1_RightType (sc' d1_SubType (sc' d9_Find (sc' d9_Possible (sc' d1_Has sn'))))) (by kernel_rfl)
def S9_bears : Summ := sv1 [E0',E10',E10'] [E2']
theorem d9_bears : Ds 165 S9_bears := does_fun (C := cf [(211,S9_Sub),(193,S9_Param),(195,S1_Is)] [] 0 false [lh 4 (sa 3 (.lf (.int .i64) :: sa 15 [])) 3 1048576 [some 0,none],lh 10 (sa 3 (.lf (.int .i64) :: sa 15 [])) 3 1048576 [some 2,none]]) Tryz.func165 rfl rfl (sc' d9_Sub (sc' d9_Param (sc' d1_Is sn'))) (by kernel_rfl)
def S9_defNames : Summ := sv1 [E0'] [E9']
theorem d9_defNames : Ds 155 S9_defNames := does_fun (C := cf [] [] 0 false [lh 3 (.same :: .acc 0 0 1 :: .lf (.int .i64) :: sa 3 []) 2 1048576 [some 0]]) Tryz.func155 rfl rfl sn' (by kernel_rfl)
def S9_entries : Summ := sv1 [E0',E13'] [E2']
theorem d9_entries : Ds 163 S9_entries := does_fun (C := cf [(129,S9_Entry)] [] 0 false [lh 2 (sa 3 (.lf (.int .i64) :: sa 3 [])) 3 16777216 [some 0,none]]) Tryz.func163 rfl rfl (sc' d9_Entry sn') (by kernel_rfl)
def S9_fieldNames : Summ := sv1 [⟨false,[.sl 4 16777216 false]⟩] [E9']
theorem d9_fieldNames : Ds 160 S9_fieldNames := does_fun (C := cf [] [] 0 false [lh 3 [.same,.acc 0 0 1,.lf (.int .i64)] 2 16777216 [some 0]]) Tryz.func160 rfl rfl sn' (by kernel_rfl)
def S9_inner : Summ := sv1 [E11'] [E2']
theorem d9_inner : Ds 210 S9_inner := does_fun (C := cf [] [] 0 false []) Tryz.func210 rfl rfl sn' (by kernel_rfl)
def S9_leafDefaults : Summ := sv1 [E0',E13'] [E2']
theorem d9_leafDefaults : Ds 168 S9_leafDefaults := does_fun (C := cf [(118,S9_Leaf)] [] 0 false [lh 2 (sa 3 (.lf (.int .i64) :: sa 3 [])) 3 16777216 [some 0,none]]) Tryz.func168 rfl rfl (sc' d9_Leaf sn') (by kernel_rfl)
def S9_twice : Summ := sv1 [E9'] [E2']
theorem d9_twice : Ds 162 S9_twice := does_fun (C := cf [] [] 0 false [(5,{ hv := [.same,.same,.same,.lf (.int .i64)],cnt := 3,top := 16777216,ex := [(some 2,[.same,.same,.same,.lf (.int .i64)]),(none,[.same,.lf .bool,.same,.lf (.int .i64)])] }),(2,{ hv := [.same,.same,.lf (.int .i64)],cnt := 2,top := 16777216,ex := [(some 0,[.same,.same,.lf (.int .i64)]),(none,[.same,.lf .bool,.lf (.int .i64)])] })]) Tryz.func162 rfl rfl sn' (by kernel_rfl)
def S9_own : Summ := sv1 [E9'] [E2']
theorem d9_own : Ds 158 S9_own := does_fun (C := cf [(210,S9_inner),(162,S9_twice)] [] 0 false [lh 2 [.same,.same,.lf (.int .i64)] 2 16777216 [some 0,none]]) Tryz.func158 rfl rfl (sc' d9_inner (sc' d9_twice sn')) (by kernel_rfl)
def S9_paramNames : Summ := sv1 [E13'] [E9']
theorem d9_paramNames : Ds 161 S9_paramNames := does_fun (C := cf [] [] 0 false [lh 3 [.same,.acc 0 0 1,.lf (.int .i64)] 2 16777216 [some 0]]) Tryz.func161 rfl rfl sn' (by kernel_rfl)
def S9_rule1 : Summ := sv2 [E0'] [E2']
theorem d9_rule1 : Ds 89 S9_rule1 := does_fun (C := cg [(155,S9_defNames),(156,S9_scalar),(157,S6_RightSchema),(158,S9_own)] [] 0 false [lh 3 (sa 3 (.lf (.int .i64) :: sa 3 [])) 3 16777216 [some 0,none]] 1) Tryz.func89 rfl rfl (sc' d9_defNames (sc' d9_scalar (sc' d6_RightSchema (sc' d9_own sn')))) (by kernel_rfl)
def S9_rule3 : Summ := sv1 [E0'] [E2']
theorem d9_rule3 : Ds 91 S9_rule3 := does_fun (C := cf [(160,S9_fieldNames),(158,S9_own),(161,S9_paramNames),(162,S9_twice)] [] 0 false [lh 8 (sa 4 (.lf (.int .i64) :: sa 9 [])) 4 1048576 [some 2,none],lh 2 (sa 2 (.lf (.int .i64) :: sa 3 [])) 2 1048576 [some 0,none]]) Tryz.func91 rfl rfl (sc' d9_fieldNames (sc' d9_own (sc' d9_paramNames (sc' d9_twice sn')))) (by kernel_rfl)
def S9_rule4 : Summ := sv1 [E0'] [E2']
theorem d9_rule4 : Ds 92 S9_rule4 := does_fun (C := cf [(163,S9_entries),(118,S9_Leaf),(112,S9_Composite)] [] 0 false [lh 8 (sa 4 (.lf (.int .i64) :: sa 9 [])) 4 1048576 [some 2,none],lh 2 (sa 2 (.lf (.int .i64) :: sa 3 [])) 2 1048576 [some 0,none]]) Tryz.func92 rfl rfl (sc' d9_entries (sc' d9_Leaf (sc' d9_Composite sn'))) (by kernel_rfl)
def S9_rule5 : Summ := sv1 [E0'] [E2']
theorem d9_rule5 : Ds 93 S9_rule5 := does_fun (C := cf [(164,S9_Find),(29,S1_Has)] [] 0 false [lh 12 (sa 6 (.lf (.int .i64) :: sa 15 [])) 6 1048576 [some 4,none],lh 6 (sa 4 (.lf (.int .i64) :: sa 9 [])) 4 1048576 [some 2,none],lh 2 (sa 2 (.lf (.int .i64) :: sa 3 [])) 2 1048576 [some 0,none]]) Tryz.func93 rfl rfl (sc' d9_Find (sc' d1_Has sn')) (by kernel_rfl)
def S9_rule6 : Summ := sv1 [E0'] [E2']
theorem d9_rule6 : Ds 94 S9_rule6 := does_fun (C := cf [(164,S9_Find),(117,S9_Field),(165,S9_bears)] [] 0 false [lh 10 (sa 6 (.lf (.int .i64) :: sa 15 [])) 6 1048576 [some 4,none],lh 6 (sa 4 (.lf (.int .i64) :: sa 9 [])) 4 1048576 [some 2,none],lh 2 (sa 2 (.lf (.int .i64) :: sa 3 [])) 2 1048576 [some 0,none]]) Tryz.func94 rfl rfl (sc' d9_Find (sc' d9_Field (sc' d9_bears sn'))) (by kernel_rfl)
def S9_rule7 : Summ := sv1 [E0'] [E2']
theorem d9_rule7 : Ds 95 S9_rule7 := does_fun (C := cf [(90,S9_Object)] [] 0 false [lh 5 (sa 3 (.lf (.int .i64) :: sa 3 [])) 3 1048576 [some 2,none],lh 2 (sa 2 (.lf (.int .i64) :: sa 3 [])) 2 1048576 [some 0,none]]) Tryz.func95 rfl rfl (sc' d9_Object sn') (by kernel_rfl)
def S9_Right : Summ := sv2 [E0',E5',E1'] [E2']
theorem d9_Right : Ds 130 S9_Right := does_fun (C := cg [(101,S1_RightType),(191,S1_GoodValue),(192,S9_right)] [] 0 false [] 3) Tryz.func130 rfl rfl (sc' d1_RightType (sc' d1_GoodValue (sc' d9_right sn'))) (by kernel_rfl)
def S9_defaults : Summ := sv2 [E0',E13'] [E2']
theorem d9_defaults : Ds 167 S9_defaults := does_fun (C := cg [(130,S9_Right)] [] 0 false [lh 2 (sa 3 (.lf (.int .i64) :: sa 3 [])) 3 16777216 [some 0,none]] 2) Tryz.func167 rfl rfl (sc' d9_Right sn') (by kernel_rfl)
def S9_rule9 : Summ := sv2 [E0'] [E2']
theorem d9_rule9 : Ds 97 S9_rule9 := does_fun (C := cg [(167,S9_defaults),(168,S9_leafDefaults)] [] 0 false [lh 7 (sa 3 (.lf (.int .i64) :: sa 3 [])) 3 1048576 [some 2,none],lh 2 (sa 2 (.lf (.int .i64) :: sa 3 [])) 2 1048576 [some 0,none]] 1) Tryz.func97 rfl rfl (sc' d9_defaults (sc' d9_leafDefaults sn')) (by kernel_rfl)
def S9_needs : Summ := sv1 [E0',E11'] [⟨false,[.sl 0 16777216 true]⟩]
def S9_Rule : Summ := sv2 [E0',E8'] [E2']
theorem d9_Rule : Ds 32 S9_Rule := does_fun (C := cg [(89,S9_rule1),(90,S9_Object),(91,S9_rule3),(92,S9_rule4),(93,S9_rule5),(94,S9_rule6),(95,S9_rule7),(96,S9_rule8),(97,S9_rule9)] [] 0 false [] 2) Tryz.func32 rfl rfl (sc' d9_rule1 (sc' d9_Object (sc' d9_rule3 (sc' d9_rule4 (sc' d9_rule5 (sc' d9_rule6 (sc' d9_rule7 (sc' d9_rule8 (sc' d9_rule9 sn'))))))))) (by kernel_rfl)
def S9_Check : Summ := sv2 [E0'] [E8']
theorem d9_Check : Ds 10 S9_Check := does_fun (C := cg [(32,S9_Rule)] [] 0 false [(2,{ hv := (sa 2 (.lf (.int .i64) :: sa 3 [])),cnt := 2,top := 1048576,ex := [(some 0,(sa 2 (.lf (.int .i64) :: sa 3 []))),(none,(.same :: .lf (.int .i64) :: .lf (.int .i64) :: sa 3 []))] })] 1) Tryz.func10 rfl rfl (sc' d9_Rule sn') (by kernel_rfl)
def S3_named : Summ := sv1 [E4'] [E9']
theorem d3_named : Ds 51 S3_named := does_fun (C := cf [] [] 0 false [lh 3 [.same,.acc 0 0 1,.lf (.int .i64),.same,.same] 2 1048576 [some 0]]) Tryz.func51 rfl rfl sn' (by kernel_rfl)
def S3_fragNames : Summ := sv1 [E4'] [E9']
theorem d3_fragNames : Ds 53 S3_fragNames := does_fun (C := cf [] [] 0 false [lh 3 [.same,.acc 0 0 1,.lf (.int .i64),.same,.same] 2 1048576 [some 0]]) Tryz.func53 rfl rfl sn' (by kernel_rfl)
def S3_rule5 : Summ := sv2 [E0',E4'] [E2']
theorem d3_rule5 : Ds 54 S3_rule5 := does_fun (C := cg [(112,S9_Composite),(58,S3_Spots)] [] 0 false [lh 2 (sa 3 (.lf (.int .i64) :: sa 5 [])) 3 16777216 [some 0,none],lh 8 (sa 3 (.lf (.int .i64) :: sa 5 [])) 3 16777216 [some 2,none]] 2) Tryz.func54 rfl rfl (sc' d9_Composite (sc' d3_Spots sn')) (by kernel_rfl)
def S3_rule6 : Summ := sv2 [E0',E4'] [E2']
theorem d3_rule6 : Ds 55 S3_rule6 := does_fun (C := cg [(58,S3_Spots),(113,S3_Frag)] [] 0 false [lh 3 (sa 3 (.lf (.int .i64) :: sa 5 [])) 3 16777216 [some 0,none]] 2) Tryz.func55 rfl rfl (sc' d3_Spots (sc' d3_Frag sn')) (by kernel_rfl)
def S3_Loops : Summ := sv2 [E4'] [E2']
theorem d3_Loops : Ds 56 S3_Loops := does_fun (C := cg [(114,S3_Reach),(29,S1_Has)] [] 0 false [(2,{ hv := (sa 2 (.lf (.int .i64) :: sa 2 [])),cnt := 2,top := 1048576,ex := [(some 0,(sa 2 (.lf (.int .i64) :: sa 2 []))),(none,[.same,.lf .bool,.lf (.int .i64),.same,.same])] })] 1) Tryz.func56 rfl rfl (sc' d3_Reach (sc' d1_Has sn')) (by kernel_rfl)
def S3_rule8 : Summ := sv2 [E4'] [E2']
theorem d3_rule8 : Ds 57 S3_rule8 := does_fun (C := cg [(114,S3_Reach),(29,S1_Has)] [] 0 false [lh 6 (sa 2 (.lf .bool :: .lf (.int .i64) :: sa 2 [])) 3 1048576 [some 2],(2,{ hv := [.same,.any,.lf (.int .i64),.same,.same],cnt := 2,top := 1048576,ex := [(some 0,[.same,.any,.lf (.int .i64),.same,.same]),(none,(sa 2 (.lf (.int .i64) :: sa 2 [])))] })] 1) Tryz.func57 rfl rfl (sc' d3_Reach (sc' d1_Has sn')) (by kernel_rfl)
def S3_Rule : Summ := sv2 [E0',E4',⟨false,[.rng .i64 0 16]⟩] [E2']
theorem d3_Rule : Ds 20 S3_Rule := does_fun (C := cg [(51,S3_named),(50,S3_twice),(52,S3_rule3),(53,S3_fragNames),(54,S3_rule5),(55,S3_rule6),(56,S3_Loops),(57,S3_rule8),(58,S3_Spots),(59,S3_fieldRule),(60,S3_dirRule),(61,S3_argRule)] [] 0 false [lh 23 (sa 5 (.lf (.int .i64) :: sa 5 [])) 5 16777216 [some 1,none]] 3) Tryz.func20 rfl rfl (sc' d3_named (sc' d3_twice (sc' d3_rule3 (sc' d3_fragNames (sc' d3_rule5 (sc' d3_rule6 (sc' d3_Loops (sc' d3_rule8 (sc' d3_Spots (sc' d3_fieldRule (sc' d3_dirRule (sc' d3_argRule sn')))))))))))) (by kernel_rfl)
def S3_Kept : Summ := sv2 [E0',E4',⟨false,[.rng .i64 0 17]⟩] [E2']
theorem d3_Kept : Ds 11 S3_Kept := does_fun (C := cg [(33,S6_Right),(20,S3_Rule)] [] 0 false [lh 4 (sa 4 (.lf (.int .i64) :: sa 5 [])) 4 1048576 [some 0,none]] 3) Tryz.func11 rfl rfl (sc' d6_Right (sc' d3_Rule sn')) (by kernel_rfl)
def Sk_Size : Summ := sv1 [E1'] [E8']
def Ck_Size : Cfg := cf [] [(88,Sk_Size,0)] 0 true [lh 3 (.same :: .lf (.int .i64) :: .lf (.int .i64) :: sa 5 []) 2 1048576 [some 0],lh 7 (.same :: .lf (.int .i64) :: .lf (.int .i64) :: sa 5 []) 2 1048576 [some 2]]
theorem gk_Size : ∀ x,x ∈ ([(88,Sk_Size,0)] : List (FuncId × Summ × Nat)) → Ds x.1 x.2.1 :=
 does_rec (fun x => Ck_Size) (all_cons ⟨rfl,rfl,rfl,sn',rfl,_,Tryz.func88,by kernel_rfl⟩ (all_nil))
theorem dk_Size : Ds 88 Sk_Size := gk_Size (88,Sk_Size,0) (by simp)
def S7_lightDirs : Summ := sv1 [⟨false,[.sl 8 16777216 false]⟩] [E8']
theorem d7_lightDirs : Ds 86 S7_lightDirs := does_fun (C := cf [(88,Sk_Size)] [] 0 false [lh 3 [.same,.lf (.int .i64),.lf (.int .i64)] 2 16777216 [some 0]]) Tryz.func86 rfl rfl (sc' dk_Size sn') (by kernel_rfl)
def S7_lightSels : Summ := sv1 [⟨false,[.sl 12 16777216 false]⟩] [E8']
def C7_lightSels : Cfg := cf [(88,Sk_Size),(86,S7_lightDirs)] [(87,S7_lightSels,0)] 0 false [lh 3 [.same,.lf (.int .i64),.lf (.int .i64)] 2 16777216 [some 0]]
theorem g7_lightSels : ∀ x,x ∈ ([(87,S7_lightSels,0)] : List (FuncId × Summ × Nat)) → Ds x.1 x.2.1 :=
 does_rec (fun x => C7_lightSels) (all_cons ⟨rfl,rfl,rfl,(sc' dk_Size (sc' d7_lightDirs sn')),rfl,_,Tryz.func87,by kernel_rfl⟩ (all_nil))
theorem d7_lightSels : Ds 87 S7_lightSels := g7_lightSels (87,S7_lightSels,0) (by simp)
def S7_Light : Summ := sv1 [E4'] [E2']
theorem d7_Light : Ds 31 S7_Light := does_fun (C := cf [(86,S7_lightDirs),(87,S7_lightSels),(88,Sk_Size)] [] 0 false [lh 7 [.same,.lf (.int .i64),.same,.lf (.int .i64),.same,.same] 3 1048576 [some 2],lh 3 [.same,.lf (.int .i64),.lf (.int .i64),.same,.same] 2 1048576 [some 0],lh 11 [.same,.lf (.int .i64),.lf (.int .i64),.same,.same] 2 1048576 [some 4]]) Tryz.func31 rfl rfl (sc' d7_lightDirs (sc' d7_lightSels (sc' dk_Size sn'))) (by kernel_rfl)
def S8_lightTexts : Summ := sv1 [E9'] [E8']
theorem d8_lightTexts : Ds 83 S8_lightTexts := does_fun (C := cf [] [] 0 false [lh 3 [.same,.lf (.int .i64),.lf (.int .i64)] 2 16777216 [some 0]]) Tryz.func83 rfl rfl sn' (by kernel_rfl)
def S8_lightParams : Summ := sv1 [E13'] [E8']
theorem d8_lightParams : Ds 84 S8_lightParams := does_fun (C := cf [(88,Sk_Size)] [] 0 false [lh 3 [.same,.lf (.int .i64),.lf (.int .i64)] 2 16777216 [some 0]]) Tryz.func84 rfl rfl (sc' dk_Size sn') (by kernel_rfl)
def S8_lightDirs : Summ := sv1 [⟨false,[.sl 8 16777216 false]⟩] [E8']
theorem d8_lightDirs : Ds 85 S8_lightDirs := does_fun (C := cf [(88,Sk_Size)] [] 0 false [lh 3 [.same,.lf (.int .i64),.lf (.int .i64)] 2 16777216 [some 0]]) Tryz.func85 rfl rfl (sc' dk_Size sn') (by kernel_rfl)
def S8_Light : Summ := sv1 [E0'] [E2']
theorem d8_Light : Ds 30 S8_Light := does_fun (C := cf [(83,S8_lightTexts),(84,S8_lightParams),(85,S8_lightDirs)] [] 0 false [lh 8 (.same :: .lf (.int .i64) :: sa 2 (.lf (.int .i64) :: sa 9 [])) 4 1048576 [some 2],lh 3 (.same :: .lf (.int .i64) :: .lf (.int .i64) :: sa 3 []) 2 1048576 [some 0]]) Tryz.func30 rfl rfl (sc' d8_lightTexts (sc' d8_lightParams (sc' d8_lightDirs sn'))) (by kernel_rfl)
open Go Go.Ev
def argsD (w : W3) (l : List GParam) (m : List GMember) : Bool := match w with
 | .a => knownD l m
 | .b => onceD m
 | .c => neededD l m
def PrmOk (l : List GParam) : Prop := Sm l ∧ ∀ p ∈ l,TOk p.t
theorem argsW_ok (w : W3) (l : List GParam) (m : List GMember) (hl : PrmOk l) (hm : Sm m) : argsW w l m = some (argsD w l m) := by
 cases w
 ·exact ar_Known_i1_ok l m hl.1 hm
 ·exact ar_once_run (a := l) (by simp only [ar_once_B,ar_Once_i1_ok m hm,bnd_s,argsD])
 ·exact ar_Needed_ok l m hl.1 hm hl.2
def nW : W3 → Int
 | .a => 15
 | .b => 16
 | .c => 17
theorem argsRule_ok (w : W3) (l : List GParam) (m : List GMember) (hl : PrmOk l) (hm : Sm m) : r3_argsRule l m (nW w) = some (argsD w l m) := by
 apply r3_argsRule_run
 cases w
 ·simp only [r3_argsRule_B,r3_Known_ok l m hl.1 hm,bnd_s,argsD]; rfl
 ·simp only [r3_argsRule_B,r3_Once_ok m hm,bnd_s,argsD]; rfl
 ·simp only [r3_argsRule_B,r3_Needed_ok l m hl.1 hm hl.2,bnd_s,argsD]; rfl
def ifP : GParam := ⟨[105,102],⟨[66,111,111,108,101,97,110],0,1⟩,false,⟨0,0,[],[],[]⟩⟩
def dparD (d : GDir) : List GParam := bif d.name == ([115,107,105,112] : Str) || d.name == ([105,110,99,108,117,100,101] : Str) then [ifP] else []
theorem r3_dirParams_ok (d : GDir) : r3_dirParams d = some (dparD d) := by
 have : r3_DirParam d.name = some (bif d.name == ([115,107,105,112] : Str) || d.name == ([105,110,99,108,117,100,101] : Str) then (ifP,true) else (⟨[],⟨[],0,0⟩,false,⟨0,0,[],[],[]⟩⟩,false)) := by
  apply r3_DirParam_run
  simp only [r3_DirParam_B]
  cases d.name == ([115,107,105,112] : Str) <;> cases d.name == ([105,110,99,108,117,100,101] : Str) <;> rfl
 apply r3_dirParams_run
 simp only [r3_dirParams_B,this,bnd_s,dparD]
 cases d.name == ([115,107,105,112] : Str) || d.name == ([105,110,99,108,117,100,101] : Str) <;> rfl
theorem ar_Params_ok (d : GDir) : ar_Params d = some (dparD d) := by
 have : dirs_Param d.name = some (bif d.name == ([115,107,105,112] : Str) || d.name == ([105,110,99,108,117,100,101] : Str) then (ifP,true) else (⟨[],⟨[],0,0⟩,false,⟨0,0,[],[],[]⟩⟩,false)) := by
  apply dirs_Param_run
  simp only [dirs_Param_B]
  cases d.name == ([115,107,105,112] : Str) <;> cases d.name == ([105,110,99,108,117,100,101] : Str) <;> rfl
 apply ar_Params_run
 simp only [ar_Params_B,this,bnd_s,dparD]
 cases d.name == ([115,107,105,112] : Str) || d.name == ([105,110,99,108,117,100,101] : Str) <;> rfl
theorem dparD_ok (d : GDir) : PrmOk (dparD d) := by
 unfold dparD
 cases d.name == ([115,107,105,112] : Str) || d.name == ([105,110,99,108,117,100,101] : Str)
 ·exact ⟨by simp,by simp⟩
 ·refine ⟨by simp,fun p hp => ?_⟩
  simp only [cond_true,List.mem_singleton] at hp
  subst hp
  simp [TOk,ifP]
structure GS (s : GSchema) : Prop where
 ok : SOk s
 gd : gdSchema s
theorem GS.params {s : GSchema} (h : GS s) (typ name : Str) : PrmOk (fieldD s typ name).1.params := by
 rcases fieldD_mem s typ name with e | e | ⟨d,hd,hf⟩
 ·rw [e]; exact ⟨by simp [tnF],by simp [tnF]⟩
 ·rw [e]; exact ⟨by simp [zF],by simp [zF]⟩
 ·have hb := h.ok.field_bk hd hf
  rw [bkFieldDef_eq] at hb
  have hg := h.gd
  rw [gdSchema_eq] at hg
  have hg := hg.1 d hd
  rw [gdDef_eq] at hg
  have hg := hg.2.2.2.1 _ hf
  rw [gdFieldDef_eq] at hg
  refine ⟨sm_bk bkParam_pos (by omega),fun p hp => ?_⟩
  have g1 := hg.2.1 p hp
  rw [gdParam_eq,gdType_eq] at g1
  have h1 := tn_param (l := (fieldD s typ name).1.params) (by omega) hp
  exact ⟨gdI_i64 g1.2.1.2.1,gdI_i64 g1.2.1.2.2.1,h1⟩
def spotOk (s : GSchema) (w : W3) (p : GSeineref13Spot) : Bool := (!(p.x.kind == 0) || argsD w (fieldD s p.typ p.x.name).1.params p.x.args) && p.x.dirs.all fun dr => argsD w (dparD dr) dr.args
theorem sel_small {x : GSel} (h : bkSel x < 1073741824) : Sm x.args ∧ Sm x.dirs ∧ ∀ d ∈ x.dirs,Sm d.args := by
 rw [bkSel_eq] at h
 refine ⟨sm_bk bkMember_pos (by omega),sm_bk bkDir_pos (by omega),fun d hd => sm_bk bkMember_pos ?_⟩
 have := sumL_mem bkDir hd
 rw [bkDir_eq] at this
 simp only [bkSl] at h this ⊢; omega
theorem walk1_ok (w : W3) (s : GSchema) (d : GDoc) (typ : Str) (x : GSel) (h : GS s) (hx : bkSel x < 1073741824) : ar_Walk_1 w typ x d s = some (spotOk s w ⟨typ,x⟩) := by
 obtain ⟨ha,hd,hda⟩ := sel_small hx
 have dirs : ∀ b : Int → Option (Int ⊕ (Unit ⊕ Unit)),(b (x.dirs.length : Int) = some (.inr (.inl ()))) → (∀ (k : Nat) dr,dr ∈ x.dirs → decide ((k : Int) < (x.dirs.length : Int)) = true → nthI x.dirs (k : Int) = some dr → IntKind.wrap .i64 ((k : Int) + 1) = ((k + 1 : Nat) : Int) → b k = cnd (!argsD w (dparD dr) dr.args) (some (.inr (.inr ()))) (some (.inl ((k + 1 : Nat) : Int)))) → tloop b 0 = some (bif x.dirs.all fun dr => argsD w (dparD dr) dr.args then .inl () else .inr ()) := fun b h0 h1 =>
  loop_idx (b := b) x.dirs (fun r => bif r.all fun dr => argsD w (dparD dr) dr.args then (.inl () : Unit ⊕ Unit) else .inr ()) hd h0 fun k dr r hm e1 e2 e3 => by
   rw [h1 k dr hm e1 e2 e3]
   simp only [List.all_cons]
   cases argsD w (dparD dr) dr.args
   ·exact .inl rfl
   ·exact .inr ⟨rfl,rfl⟩
 have k1 := dirs (ar_Walk_1_l1T w x) (by simp only [ar_Walk_1_l1T,end_lt,cnd_f]) fun k dr hm e1 e2 e3 => by
  simp only [ar_Walk_1_l1T,e1,cnd_t,e2,bnd_s,e3,ar_Params_ok,argsW_ok w _ _ (dparD_ok dr) (hda dr hm)]
 have k2 := dirs (ar_Walk_1_l2T w x) (by simp only [ar_Walk_1_l2T,end_lt,cnd_f]) fun k dr hm e1 e2 e3 => by
  simp only [ar_Walk_1_l2T,e1,cnd_t,e2,bnd_s,e3,ar_Params_ok,argsW_ok w _ _ (dparD_ok dr) (hda dr hm)]
 apply ar_Walk_1_run
 simp only [ar_Walk_1_B,de_Field_ok s _ _ h.ok,bnd_s,argsW_ok w _ _ (h.params _ _) ha,k1,k2,spotOk]
 cases x.kind == 0 <;> cases argsD w (fieldD s typ x.name).1.params x.args <;> cases x.dirs.all fun dr => argsD w (dparD dr) dr.args <;> rfl
theorem all_ok (w : W3) (s : GSchema) (d : GDoc) (h : GS s) : ∀ (n : Nat) (sels : List GSel) (typ : Str), bkSels sels ≤ n → n < 1073741824 → fi_all w s typ sels d s = some ((spotL s typ sels).all (spotOk s w)) := by
 intro n
 induction n with
 | zero =>
  intro sels typ hb hl
  have := bkSels_len sels
  have hs : sels = [] := List.length_eq_zero_iff.1 (by omega)
  subst hs
  apply fi_all_run
  unfold fi_all_B
  rw [tloop_exit (r := true) (by simp [fi_all_l1T])]
  simp [spotL]
 | succ n ih =>
  intro sels typ hb hl
  apply fi_all_run
  unfold fi_all_B
  have hlen := bkSels_len sels
  have key := loop_list (b := fi_all_l1T w s typ sels d s) sels (fun k (a : Bool) => (a, (k : Int))) (fun r a => (spotL s typ r).all (spotOk s w)) (fun k a => a = true) (by show sels.length < _; omega)
   (by intro a ha; subst ha; simp [fi_all_l1T, spotL])
   (by
    intro k x r a hm hk hd h1 h2 h3 hI
    have hx := bkSels_mem hm
    have hx2 := bkSel_sels x
    simp only [fi_all_l1T, h1, cnd_t, h2, bnd_s, h3, walk1_ok w s d typ x h (by omega), fi_Within_ok s typ x h.ok, ih x.sels (withinD s typ x) (by omega) (by omega)]
    simp only [spotL, spot1_eq, List.all_append, List.all_cons]
    cases spotOk s w ⟨typ, x⟩
    ·exact .inl rfl
    ·cases (spotL s (withinD s typ x) x.sels).all (spotOk s w)
     ·exact .inl rfl
     ·exact .inr ⟨true, rfl, rfl, rfl⟩) (s := (true, 0)) (a := true) rfl rfl
  rw [key]; rfl
theorem Walk_ok (w : W3) (s : GSchema) (d : GDoc) (h : GS s) (hd : bkDoc d < 500000000) : fi_Walk w s d d s = some ((spotsD s d).all (spotOk s w)) := by
 rw [bkDoc_sum] at hd
 have hol := sumL_len bkOp bkOp_pos d.ops
 have hfl := sumL_len bkFrag bkFrag_pos d.frags
 have k1 := loop_idx (b := fi_Walk_l1T w s d d s) d.ops (fun r => bif (r.flatMap fun o => spotL s (rootD s o) o.sels).all (spotOk s w) then (.inl () : Unit ⊕ Unit) else .inr ()) (by show d.ops.length < _; omega) (by simp only [fi_Walk_l1T, end_lt, cnd_f]; rfl)
  (fun k x r hm h1 h2 h3 => by
   have hb := op_sels_bk x
   have hx := sumL_mem bkOp hm
   simp only [fi_Walk_l1T, h1, cnd_t, h2, bnd_s, h3, fi_Root_ok, all_ok w s d h _ x.sels (rootD s x) (Nat.le_refl _) (by omega), List.flatMap_cons, List.all_append]
   cases (spotL s (rootD s x) x.sels).all (spotOk s w)
   ·exact .inl rfl
   ·exact .inr ⟨rfl, rfl⟩)
 have k2 := loop_idx (b := fi_Walk_l2T w s d d s) d.frags (fun r => bif (r.flatMap fun f => spotL s f.on_ f.sels).all (spotOk s w) then (.inl () : Unit ⊕ Unit) else .inr ()) (by show d.frags.length < _; omega) (by simp only [fi_Walk_l2T, end_lt, cnd_f]; rfl)
  (fun k x r hm h1 h2 h3 => by
   have hb := frag_sels_bk x
   have hx := sumL_mem bkFrag hm
   simp only [fi_Walk_l2T, h1, cnd_t, h2, bnd_s, h3, all_ok w s d h _ x.sels x.on_ (Nat.le_refl _) (by omega), List.flatMap_cons, List.all_append]
   cases (spotL s x.on_ x.sels).all (spotOk s w)
   ·exact .inl rfl
   ·exact .inr ⟨rfl, rfl⟩)
 apply fi_Walk_run
 simp only [fi_Walk_B, k1, k2, bnd_s, spotsD, List.all_append]
 cases (d.ops.flatMap fun o => spotL s (rootD s o) o.sels).all (spotOk s w) <;> cases (d.frags.flatMap fun f => spotL s f.on_ f.sels).all (spotOk s w) <;> rfl
theorem ar_Rule_ok (w : W3) (s : GSchema) (d : GDoc) (h : GS s) (hd : bkDoc d < 500000000) : ar_Rule s d (nW w) = some ((spotsD s d).all (spotOk s w)) := by
 have hw := ar_Walk_run (w := w) (s := s) (d := d) (r := (spotsD s d).all (spotOk s w)) (by simp only [ar_Walk_B,Walk_ok w s d h hd,bnd_s])
 apply ar_Rule_run
 cases w <;> simp only [ar_Rule_B,hw,bnd_s] <;> rfl
theorem ar_Rule_out (s : GSchema) (d : GDoc) (n : Int) (h : n < 15 ∨ 17 < n) : ar_Rule s d n = some false := by
 apply ar_Rule_run
 have e1 : (n == 15) = false := by simp; omega
 have e2 : (n == 16) = false := by simp; omega
 have e3 : (n == 17) = false := by simp; omega
 simp only [ar_Rule_B,e1,e2,e3,cnd_f]
mutual
theorem spot1_small (s : GSchema) : ∀ (x : GSel) (typ : Str),∀ p ∈ spot1 s typ x,bkSel p.x ≤ bkSel x
 | ⟨k,a,n,ar,ds,on,sels⟩,typ,p,hp => by
  simp only [spot1,List.mem_cons] at hp
  rcases hp with rfl | hp
  ·exact Nat.le_refl _
  ·have h1 := spotL_small s sels _ p hp
   have h2 := bkSel_sels ⟨k,a,n,ar,ds,on,sels⟩
   simp only at h2; omega
theorem spotL_small (s : GSchema) : ∀ (l : List GSel) (typ : Str),∀ p ∈ spotL s typ l,bkSel p.x ≤ bkSels l
 | [],_,p,hp => by simp [spotL] at hp
 | x :: l,typ,p,hp => by
  simp only [spotL,List.mem_append] at hp
  simp only [bkSels]
  rcases hp with hp | hp
  ·have := spot1_small s x typ p hp; omega
  ·have := spotL_small s l typ p hp; omega
end
theorem spotsD_small (s : GSchema) (d : GDoc) : ∀ p ∈ spotsD s d,bkSel p.x ≤ bkDoc d := by
 intro p hp
 rw [bkDoc_sum]
 rcases List.mem_append.1 hp with hp | hp
 ·obtain ⟨o,ho,hp⟩ := List.mem_flatMap.1 hp
  have h1 := spotL_small s _ _ p hp
  have h2 := op_sels_bk o
  have h3 := sumL_mem bkOp ho
  omega
 ·obtain ⟨f,hf,hp⟩ := List.mem_flatMap.1 hp
  have h1 := spotL_small s _ _ p hp
  have h2 := frag_sels_bk f
  have h3 := sumL_mem bkFrag hf
  omega
theorem argRule_ok (w : W3) (s : GSchema) (d : GDoc) (h : GS s) (hd : bkDoc d < 500000000) : r3_argRule s d (nW w) = some ((spotsD s d).all (spotOk s w)) := by
 have hlen := spotsD_len s d
 have hp : ∀ sp : GSeineref13Spot, r3_params s sp = some (fieldD s sp.typ sp.x.name).1.params := fun sp => r3_params_run (by simp only [r3_params_B, r9_Field_ok s _ _ h.ok, bnd_s])
 have dirs : ∀ (sp : GSeineref13Spot), bkSel sp.x < 1073741824 → ∀ b : Int → Option (Int ⊕ (Unit ⊕ Unit)), (b (sp.x.dirs.length : Int) = some (.inr (.inl ()))) → (∀ (k : Nat) dr, dr ∈ sp.x.dirs → decide ((k : Int) < (sp.x.dirs.length : Int)) = true → nthI sp.x.dirs (k : Int) = some dr → IntKind.wrap .i64 ((k : Int) + 1) = ((k + 1 : Nat) : Int) → b k = cnd (!argsD w (dparD dr) dr.args) (some (.inr (.inr ()))) (some (.inl ((k + 1 : Nat) : Int)))) → tloop b 0 = some (bif sp.x.dirs.all fun dr => argsD w (dparD dr) dr.args then .inl () else .inr ()) := fun sp hx b h0 h1 =>
  loop_idx (b := b) sp.x.dirs (fun r => bif r.all fun dr => argsD w (dparD dr) dr.args then (.inl () : Unit ⊕ Unit) else .inr ()) (sel_small hx).2.1 h0 fun k dr r hm e1 e2 e3 => by
   rw [h1 k dr hm e1 e2 e3]
   simp only [List.all_cons]
   cases argsD w (dparD dr) dr.args
   ·exact .inl rfl
   ·exact .inr ⟨rfl, rfl⟩
 have key := loop_idx (b := r3_argRule_l3T s (nW w) (spotsD s d)) (spotsD s d) (fun r => bif r.all (spotOk s w) then (.inl () : Unit ⊕ Unit) else .inr ()) (by show (spotsD s d).length < _; omega) (by simp only [r3_argRule_l3T, end_lt, cnd_f]; rfl)
  (fun i sp r hm h1 h2 h3 => by
   have hx : bkSel sp.x < 1073741824 := by have := spotsD_small s d sp hm; omega
   obtain ⟨ha, _, hda⟩ := sel_small hx
   have k1 := dirs sp hx (r3_argRule_l1T (nW w) (spotsD s d) i) (by simp only [r3_argRule_l1T, h2, bnd_s, end_lt, cnd_f]) fun k dr hm e1 e2 e3 => by
    simp only [r3_argRule_l1T, h2, e1, cnd_t, e2, bnd_s, e3, r3_dirParams_ok, argsRule_ok w _ _ (dparD_ok dr) (hda dr hm)]
   have k2 := dirs sp hx (r3_argRule_l1T (nW w) (spotsD s d) i) (by simp only [r3_argRule_l1T, h2, bnd_s, end_lt, cnd_f]) fun k dr hm e1 e2 e3 => by
    simp only [r3_argRule_l1T, h2, e1, cnd_t, e2, bnd_s, e3, r3_dirParams_ok, argsRule_ok w _ _ (dparD_ok dr) (hda dr hm)]
   simp only [r3_argRule_l3T, h1, cnd_t, h2, bnd_s, h3, hp, argsRule_ok w _ _ (h.params _ _) ha, k1, k2, List.all_cons, spotOk]
   cases sp.x.kind == 0 <;> cases argsD w (fieldD s sp.typ sp.x.name).1.params sp.x.args <;> cases sp.x.dirs.all fun dr => argsD w (dparD dr) dr.args <;> first | exact .inl rfl | exact .inr ⟨rfl, rfl⟩)
 apply r3_argRule_run
 simp only [r3_argRule_B, r3_Spots_ok s d h.ok hd, bnd_s, key]
 cases (spotsD s d).all (spotOk s w) <;> rfl
theorem rule_t1 (w : W3) (O : Orc) (LP : LBs) (s : GSchema) (d : GDoc) : evalBodyD Tryz.prog (MT 20) { decs := [(104,.bool)],ups := [],loops := [] } Tryz.f20.ntmps O LP Tryz.f20 [(eS s),(eD d),(i6 (nW w))] [] = callp O 61 [(eS s),(eD d),(i6 (nW w))] fun x => cnd (chk .bool x) (some ((.bool (boolV x)),[])) none := by cases w <;> kernel_rfl
theorem r3_Rule_ok (w : W3) (s : GSchema) (d : GDoc) (b : Bool) (h : r3_argRule s d (nW w) = some b) : r3_Rule s d (nW w) = some b := by
 have h2 := tO_spec (enc := fun r => (s6_ArgsRulesE r,[])) h
 refine tO_of (pair_inj s6_ArgsRulesEj) (OL_runD { decs := [(104,.bool)],ups := [],loops := [] } rfl rfl Tryz.func20 ((rule_t1 w _ _ s d).trans ?_))
 unfold callp
 rw [show ([(eS s),(eD d),(i6 (nW w))] : List PV).all free = true from rfl]
 simp only [cnd_t]
 rw [show OL Tryz.prog MT XT 61 _ [] = _ from h2]
 rfl
theorem bool_of {τ : Tb} {v : PV} (h : RsOk τ [⟨false,[.bool]⟩] v) : ∃ b,v = .bool b := by
 unfold RsOk at h; cases h with | one h => exact lf_bool h
theorem light8_te (s : GSchema) (h : bkSchema s ≤ 1048576) : ∃ b,seinelaw8_Light s = some b := by
 obtain ⟨r,hr,ho⟩ := d8_Light [encSchema s] (.cons (okSchema s h) .nil) (.inl rfl)
 obtain ⟨b,rfl⟩ := bool_of ho
 simp only [tys] at hr
 exact ⟨b,tO_of (pair_inj s6_ArgsRulesEj) hr⟩
theorem light7_te (d : GDoc) (h : bkDoc d ≤ 1048576) : ∃ b,seinelaw7_Light d = some b := by
 obtain ⟨r,hr,ho⟩ := d7_Light [encDoc d] (.cons (okDoc d h) .nil) (.inl rfl)
 obtain ⟨b,rfl⟩ := bool_of ho
 simp only [tys] at hr
 exact ⟨b,tO_of (pair_inj s6_ArgsRulesEj) hr⟩
theorem check_te (s : GSchema) (h : bkSchema s ≤ 1048576) : ∃ b,r9_Check s = some b := by
 have hp := psSchema s
 unfold Nr at hp
 obtain ⟨r,hr,ho⟩ := d9_Check [encSchema s] (.cons (okSchema s h) .nil) (.inr fun v hv => by rw [List.mem_singleton.1 hv]; show _ ≤ 2097152; omega)
 have : ∃ n,r = .int .i64 n := by
  have ho : RsOk tτ [⟨false,[.int .i64]⟩] r := ho
  unfold RsOk at ho; cases ho with | one h => exact lf_int h
 obtain ⟨n,rfl⟩ := this
 simp only [tys] at hr
 exact ⟨n,tO_of (pair_inj r9_CheckEj) hr⟩
theorem kept_te (s : GSchema) (d : GDoc) (n : Int) (hs : bkSchema s ≤ 1048576) (hd : bkDoc d ≤ 1048576) (hn : 0 ≤ n ∧ n ≤ 17) : ∃ b,r3_Kept s d n = some b := by
 have hp := psSchema s
 have hq := psDoc d
 unfold Nr at hp hq
 obtain ⟨r,hr,ho⟩ := d3_Kept [encSchema s,encDoc d,.int .i64 n] (.cons (okSchema s hs) (.cons (okDoc d hd) (.cons (.one (.rng hn)) .nil))) (.inr fun v hv => by
  show _ ≤ 2097152
  rcases List.mem_cons.1 hv with rfl | hv
  ·omega
  ·rcases List.mem_cons.1 hv with rfl | hv
   ·omega
   ·rw [List.mem_singleton.1 hv]; simp [psize])
 obtain ⟨b,rfl⟩ := bool_of ho
 simp only [tys] at hr
 exact ⟨b,tO_of (pair_inj s6_ArgsRulesEj) hr⟩
theorem s6_ArgsRules_ok (s : GSchema) (d : GDoc) (n : Int) (g : gdSchema s) (hs : bkSchema s ≤ 1048576) (hd : bkDoc d ≤ 1048576) : s6_ArgsRules s d n = some true := by
 have hg : GS s := ⟨⟨by omega⟩,g⟩
 obtain ⟨b8,h8⟩ := light8_te s hs
 obtain ⟨b7,h7⟩ := light7_te d hd
 have hl : s6_light s d = some (bif b8 then b7 else false) := by
  apply s6_light_run
  simp only [s6_light_B,h8,h7,bnd_s]
  cases b8 <;> rfl
 apply s6_ArgsRules_run
 simp only [s6_ArgsRules_B,hl,bnd_s,s6_awake_ok]
 cases (bif b8 then b7 else false)
 ·rfl
 by_cases h15 : n < 15
 ·simp only [ar_Rule_out s d n (.inl h15),bnd_s,decide_eq_true h15]; rfl
 by_cases h17 : 17 < n
 ·simp only [ar_Rule_out s d n (.inr h17),bnd_s,decide_eq_false h15,show decide (n > 17) = true from decide_eq_true h17]; rfl
 obtain ⟨c,hc⟩ := check_te s hs
 obtain ⟨k,hk⟩ := kept_te s d n hs hd (by omega)
 have hw : ∃ w : W3,n = nW w := by
  rcases (by omega : n = 15 ∨ n = 16 ∨ n = 17) with rfl | rfl | rfl
  ·exact ⟨.a,rfl⟩
  ·exact ⟨.b,rfl⟩
  ·exact ⟨.c,rfl⟩
 obtain ⟨w,rfl⟩ := hw
 have hr := ar_Rule_ok w s d hg (by omega)
 have hR := r3_Rule_ok w s d _ (argRule_ok w s d hg (by omega))
 simp only [decide_eq_false h15,show decide (nW w > 17) = false from decide_eq_false h17,hc,hk,hr,hR,bnd_s,cnd_f]
 cases c != 0
 ·cases k
  ·rfl
  ·simp
 ·rfl
open Go.ChangeShapes Go.WideShapes Go.ChangeAt Go.RowKit
theorem mixed : Tryz.prog.follows .mixedOrders = true := by kernel_rfl
theorem names : (Tryz.prog.funcs.toList.all fun fn => !fn.body.isSome || !(fn.name == "runtime.NumGoroutine")) = true := by kernel_rfl
theorem laid : laidOutB Tryz.prog = true := by kernel_rfl
theorem pok : POk Tryz.prog := by
 refine ⟨mixed,fun f fn hf hb => ?_⟩
 have hm : fn ∈ Tryz.prog.funcs.toList := by
  have := Array.mem_of_getElem? hf
  simpa using this
 have := List.all_eq_true.1 names fn hm
 rw [hb] at this
 simpa using this
theorem xok : ExtOk Tryz.prog (fun _ _ => none) XT := fun f g h => by simp [XT] at h
theorem blOk {H : Type} : BlOk (H := H) Rows.uptoBulk Rows.uptoBulkAll := by
 refine ⟨fun l => ?_,fun s => ?_,?_,fun es sp => ?_,fun ps => ?_,fun d r => ?_⟩
 ·cases l <;> simp [Rows.uptoBulk]
 ·simp [Rows.uptoBulk]
 ·simp [Rows.uptoBulk]
 ·simp only [Rows.uptoBulk]; omega
 ·simp only [Rows.uptoBulk]; omega
 ·simp [Rows.uptoBulkAll]
theorem own : ownKnob Tryz.prog.godebug = none := by kernel_rfl
end Go.Proofs.YtphmfillajagdaaGreat
