import Derived.Test.YtphmfillajagdaaGreatGc
import Derived.Test.YtphmfillajagdaaGreatEd
import Derived.Test.YtphmfillajagdaaGreatEt
import Derived.Test.YtphmfillajagdaaGreatGa
import Derived.KernelRfl
set_option linter.unusedVariables false
set_option linter.unusedSimpArgs false
set_option linter.unusedSimpArgs false
open Go Go.Ev
namespace Go.Proofs.YtphmfillajagdaaGreat
def letter (c : Int) : Bool := (decide (97 ≤ c) && decide (c ≤ 122)) || ((decide (65 ≤ c) && decide (c ≤ 90)) || c == 95)
def digit (c : Int) : Bool := decide (48 ≤ c) && decide (c ≤ 57)
theorem ls_Letter_ok (c : Int) : ls_Letter c = some (letter c) := by
 apply ls_Letter_run
 simp only [ls_Letter_B,letter,cnd_ite,ge_iff_le]
 cases decide (97 ≤ c) <;> cases decide (c ≤ 122) <;> cases decide (65 ≤ c) <;> cases decide (c ≤ 90) <;> simp
theorem ls_Digit_ok (c : Int) : ls_Digit c = some (digit c) := by
 apply ls_Digit_run
 simp only [ls_Digit_B,digit,cnd_ite,ge_iff_le]
 cases decide (48 ≤ c) <;> simp
theorem r1_start_ok (c : Int) : r1_start c = some (letter c) := by
 apply r1_start_run
 simp only [r1_start_B,letter,cnd_ite,ge_iff_le]
 cases decide (97 ≤ c) <;> cases decide (c ≤ 122) <;> cases decide (65 ≤ c) <;> cases decide (c ≤ 90) <;> simp
theorem r1_digit_ok (c : Int) : r1_digit c = some (digit c) := by
 apply r1_digit_run
 simp only [r1_digit_B,digit,cnd_ite,ge_iff_le]
 cases decide (48 ≤ c) <;> simp
def inName (c : UInt8) : Bool := letter c.toNat || digit c.toNat
def isName : Str → Bool
 | [] => false
 | c :: s => letter c.toNat && s.all inName
theorem ls_Name_ok (s : Str) (h : s.length < 4611686018427387904) : ls_Name s = some (isName s) := by
 apply ls_Name_run
 have key := tloop_list (b := ls_Name_l1T s) s (fun k (_ : Unit) => (k : Int)) (fun r _ => if r.all (fun c => inName c) then Sum.inl () else Sum.inr ()) (fun k _ => 1 ≤ k)
  (by
   intro a _
   simp [ls_Name_l1T])
  (by
   intro k x r a hk hx hd hI
   have e1 : (decide ((k : Int) < (List.length s : Int))) = true := by simp; omega
   have e2 : ((k : Int) == 0) = false := by simp; omega
   have e3 : IntKind.wrap .i64 ((k : Int) + 1) = ((k + 1 : Nat) : Int) := wadd (by omega)
   simp only [ls_Name_l1T, e1, cnd_t, nthI_nat, hx, bnd_s, ls_Letter_ok, ls_Digit_ok, e2, cnd_f, e3]
   cases h1 : letter x.toNat <;> cases h2 : digit x.toNat <;> simp [inName, h1, h2])
 unfold ls_Name_B
 cases s with
 | nil =>
  rw [tloop_exit (r := .inl ()) (by simp [ls_Name_l1T])]
  simp [isName]
 | cons c s =>
  have e1 : (decide ((0 : Int) < (List.length (c :: s) : Int))) = true := by simp
  cases h1 : letter c.toNat with
  | false =>
   rw [tloop_exit (r := .inr ()) (by
    have : nthI (c :: s) 0 = some c := rfl
    simp only [ls_Name_l1T, e1, cnd_t, this, bnd_s, ls_Letter_ok, h1]; rfl)]
   simp [isName, h1]
  | true =>
   rw [tloop_next (s' := ((1 : Nat) : Int)) (by
    have : nthI (c :: s) 0 = some c := rfl
    simp only [ls_Name_l1T, e1, cnd_t, this, bnd_s, ls_Letter_ok, h1]; rfl)]
   rw [key 1 () (by simp) (by omega)]
   simp only [List.drop_succ_cons, List.drop_zero, bnd_s, isName, h1, Bool.true_and]
   cases h2 : s.all inName <;> simp
theorem r1_Name_ok (s : Str) (h : s.length < 4611686018427387904) : r1_Name s = some (isName s) := by
 apply r1_Name_run
 have key := tloop_list (b := r1_Name_l1T s) s (fun k (_ : Unit) => (k : Int)) (fun r _ => if r.all (fun c => inName c) then Sum.inl () else Sum.inr ()) (fun k _ => 1 ≤ k)
  (by
   intro a _
   simp [r1_Name_l1T])
  (by
   intro k x r a hk hx hd hI
   have e1 : (decide ((k : Int) < (List.length s : Int))) = true := by simp; omega
   have e3 : IntKind.wrap .i64 ((k : Int) + 1) = ((k + 1 : Nat) : Int) := wadd (by omega)
   simp only [r1_Name_l1T, e1, cnd_t, nthI_nat, hx, bnd_s, r1_start_ok, r1_digit_ok, cnd_f, e3]
   cases h1 : letter x.toNat <;> cases h2 : digit x.toNat <;> simp [inName, h1, h2])
 unfold r1_Name_B
 cases s with
 | nil => rfl
 | cons c s =>
  have : nthI (c :: s) 0 = some c := rfl
  have e0 : ((c :: s) == ([] : Str)) = false := rfl
  simp only [e0, cnd_f, this, bnd_s, r1_start_ok]
  cases h1 : letter c.toNat with
  | false => simp [isName, h1]
  | true =>
   have := key 1 () (by simp) (by omega)
   rw [show ((1 : Nat) : Int) = 1 from rfl] at this
   simp only [Bool.not_true, cnd_f, this, List.drop_succ_cons, List.drop_zero, bnd_s, isName, h1, Bool.true_and]
   cases h2 : s.all inName <;> simp
open Go Go.Ev
mutual
def szV : GValue → Nat
 | ⟨_,_,s,l,m⟩ => 1 + s.length + szVs l + szMs m
def szVs : List GValue → Nat
 | [] => 0
 | x :: l => szV x + szVs l
def szM : GMember → Nat
 | ⟨n,v⟩ => n.length + szV v
def szMs : List GMember → Nat
 | [] => 0
 | x :: l => szM x + szMs l
end
theorem szV_eq (v : GValue) : szV v = 1 + v.s.length + szVs v.l + szMs v.m := by cases v; simp only [szV]
theorem szM_eq (x : GMember) : szM x = x.name.length + szV x.v := by cases x; simp only [szM]
theorem szVs_mem {x : GValue} : ∀ {l : List GValue},x ∈ l → szV x ≤ szVs l
 | a :: l,h => by
  simp only [szVs]
  rcases List.mem_cons.1 h with rfl | h
  ·omega
  ·have := szVs_mem h; omega
theorem szMs_mem {x : GMember} : ∀ {l : List GMember},x ∈ l → szM x ≤ szMs l
 | a :: l,h => by
  simp only [szMs]
  rcases List.mem_cons.1 h with rfl | h
  ·omega
  ·have := szMs_mem h; omega
theorem szVs_len : ∀ (l : List GValue),l.length ≤ szVs l
 | [] => by simp [szVs]
 | a :: l => by have := szVs_len l; have := szV_eq a; simp only [szVs,List.length_cons]; omega
theorem szMs_len : ∀ (l : List GMember),l.length ≤ szMs l
 | [] => by simp [szMs]
 | a :: l => by have := szMs_len l; have := szM_eq a; have := szV_eq a.v; simp only [szMs,List.length_cons]; omega
mutual
theorem szV_bk : ∀ v : GValue,szV v ≤ bkValue v
 | ⟨_,_,s,l,m⟩ => by
  have h1 := szVs_bk l
  have h2 := szMs_bk m
  simp only [szV,bkValue,bk1,bkStr]; omega
theorem szVs_bk : ∀ l : List GValue,szVs l ≤ bkValues l
 | [] => by simp [szVs]
 | x :: l => by have := szV_bk x; have := szVs_bk l; simp only [szVs,bkValues]; omega
theorem szM_bk : ∀ x : GMember,szM x ≤ bkMember x
 | ⟨n,v⟩ => by have := szV_bk v; simp only [szM,bkMember,bkStr]; omega
theorem szMs_bk : ∀ l : List GMember,szMs l ≤ bkMembers l
 | [] => by simp [szMs]
 | x :: l => by have := szM_bk x; have := szMs_bk l; simp only [szMs,bkMembers]; omega
end
def TOk (t : GType) : Prop := (-9223372036854775808 ≤ t.lists ∧ t.lists ≤ 9223372036854775807) ∧ (-9223372036854775808 ≤ t.musts ∧ t.musts ≤ 9223372036854775807) ∧ t.name.length < 4611686018427387904
def rightT (t : GType) : Bool := isName t.name && (decide (0 ≤ t.lists) && (decide (t.lists ≤ 4) && (decide (0 ≤ t.musts) && decide (t.musts < 2 ^ (t.lists.toNat + 1)))))
theorem wrap_Right_ok (t : GType) (h : TOk t) : wrap_Right t = some (rightT t) := by
 obtain ⟨⟨h1,h2⟩,⟨h3,h4⟩,h5⟩ := h
 apply wrap_Right_run
 simp only [wrap_Right_B,ls_Name_ok _ h5,bnd_s,ge_iff_le]
 unfold rightT
 cases isName t.name
 ·rfl
 ·by_cases hl : 0 ≤ t.lists
  ·by_cases hl4 : t.lists ≤ 4
   ·by_cases hm : 0 ≤ t.musts
    ·have e1 : IntKind.wrap .i64 (t.lists + 1) = t.lists + 1 := wi (by omega)
     have e2 : (t.lists + 1).toNat = t.lists.toNat + 1 := by omega
     have e3 : min (t.lists.toNat + 1) 64 = t.lists.toNat + 1 := by omega
     simp only [hl,hl4,hm,decide_true,cnd_t,e1,tshr,if_neg (show ¬ (t.lists + 1 < 0) by omega),bnd_s,IntKind.bits,e2,e3,Bool.true_and]
     congr 1
     rw [Bool.eq_iff_iff]
     simp only [beq_iff_eq,decide_eq_true_eq]
     have hp : (0 : Int) < 2 ^ (t.lists.toNat + 1) := Int.pow_pos (by decide)
     rw [Int.fdiv_eq_ediv_of_nonneg _ (Int.le_of_lt hp)]
     constructor
     ·intro h; 
      have := Int.lt_ediv_add_one_mul_self t.musts hp
      rw [h] at this; simpa using this
     ·intro h; exact Int.ediv_eq_zero_of_lt hm h
    ·simp [hl,hl4,hm]
   ·simp [hl,hl4]
  ·simp [hl]
theorem r1_RightType_ok (t : GType) (h : TOk t) : r1_RightType t = some (rightT t) := by
 obtain ⟨⟨h1,h2⟩,⟨h3,h4⟩,h5⟩ := h
 apply r1_RightType_run
 simp only [r1_RightType_B,r1_Name_ok _ h5,bnd_s,ge_iff_le]
 unfold rightT
 cases isName t.name
 ·rfl
 ·by_cases hl : 0 ≤ t.lists
  ·by_cases hl4 : t.lists ≤ 4
   ·by_cases hm : 0 ≤ t.musts
    ·have e1 : IntKind.wrap .u64 t.lists = t.lists := by rw [wu]; omega
     have e3 : min t.lists.toNat 64 = t.lists.toNat := by omega
     have hc : t.lists.toNat = 0 ∨ t.lists.toNat = 1 ∨ t.lists.toNat = 2 ∨ t.lists.toNat = 3 ∨ t.lists.toNat = 4 := by omega
     have e4 : IntKind.wrap .i64 (2 * 2 ^ t.lists.toNat) = 2 ^ (t.lists.toNat + 1) := by
      rcases hc with h | h | h | h | h <;> rw [h] <;> rfl
     simp only [hl,hl4,hm,decide_true,cnd_t,e1,tshl,if_neg (show ¬ (t.lists < 0) by omega),bnd_s,IntKind.bits,e3,e4,Bool.true_and]
    ·simp [hl,hl4,hm]
   ·simp [hl,hl4]
  ·simp [hl]
def bit0 (n : Int) : Bool := bits .and .i64 n 1 == 1
theorem wrap_bit_ok (t : GType) : wrap_bit t 0 = some (bit0 t.musts) := by
 apply wrap_bit_run
 have : t.musts.fdiv (2 ^ min (Int.toNat 0) 64) = t.musts := by
  show t.musts.fdiv 1 = t.musts
  exact Int.fdiv_one _
 simp only [wrap_bit_B,tshr,if_neg (show ¬ ((0 : Int) < 0) by omega),bnd_s,IntKind.bits,this,bit0]
def isT (t : GType) : Bool := rightT t && bit0 t.musts
theorem wrap_Is_ok (t : GType) (h : TOk t) : wrap_Is t = some (isT t) := by
 apply wrap_Is_run
 simp only [wrap_Is_B,wrap_Right_ok t h,wrap_bit_ok,bnd_s,isT]
 cases rightT t <;> rfl
theorem r1_Is_ok (t : GType) (h : TOk t) : r1_Is t = some (isT t) := by
 apply r1_Is_run
 simp only [r1_Is_B,r1_RightType_ok t h,bnd_s,isT,bit0]
 cases rightT t <;> rfl
theorem slices_Index_int_ok (l : List Int) (v : Int) (hl : Sm l) : ∃ i, slices_Index_int_int l v = some i ∧ decide (i ≥ 0) = l.contains v := by
 have key := loop_list (b := slices_Index_int_int_l1T l v) l (fun k (_ : Nat) => (k : Int)) (fun r k => match r.findIdx? (fun y => v == y) with | some j => Sum.inr ((k + j : Nat) : Int) | none => Sum.inl ()) (fun k a => a = k) hl
  (by intro a _; simp [slices_Index_int_int_l1T])
  (by
   intro k x r a hm hk hd h1 h2 h3 hI
   subst hI
   simp only [slices_Index_int_int_l1T, h1, cnd_t, h2, bnd_s, h3, List.findIdx?_cons]
   cases hv : v == x
   ·refine .inr ⟨a + 1, rfl, rfl, ?_⟩
    simp only [Bool.false_eq_true, if_false]
    cases r.findIdx? (fun y => v == y) with
    | none => rfl
    | some j => simp only [Option.map_some]; congr 2; omega
   ·left; simp) (s := 0) (a := 0) rfl rfl
 have hrun : ∀ i, slices_Index_int_int_B l v = some i → slices_Index_int_int l v = some i := fun i h => slices_Index_int_int_run h
 unfold slices_Index_int_int_B at hrun
 rw [key] at hrun
 simp only [bnd_s, Nat.zero_add] at hrun
 have hc : l.contains v = (l.findIdx? (fun y => v == y)).isSome := by
  rw [List.findIdx?_isSome, List.contains_eq_any_beq]
 cases hf : l.findIdx? (fun y => v == y) with
 | none => rw [hf] at hrun hc; exact ⟨-1, hrun _ rfl, by rw [hc]; rfl⟩
 | some j => rw [hf] at hrun hc; exact ⟨(j : Int), hrun _ rfl, by rw [hc]; simp⟩
theorem slices_Contains_int_ok (l : List Int) (v : Int) (hl : Sm l) : slices_Contains_int_int l v = some (l.contains v) := by
 obtain ⟨i,h1,h2⟩ := slices_Index_int_ok l v hl
 apply slices_Contains_int_int_run
 simp only [slices_Contains_int_int_B,h1,bnd_s,h2]
theorem r1_Has_ok (l : List Str) (v : Str) (hl : Sm l) : r1_Has l v = some (l.contains v) := by
 apply r1_Has_run
 unfold r1_Has_B
 rw [loop_idx (b := r1_Has_l1T l v) l (fun r => bif r.contains v then .inr () else .inl ()) hl (by simp [r1_Has_l1T]) (by
  intro k x r hm h1 h2 h3
  simp only [r1_Has_l1T,h1,cnd_t,h2,bnd_s,h3,List.contains_cons]
  rw [BEq.comm (a := x) (b := v)]
  cases v == x
  ·right; simp
  ·left; simp)]
 cases l.contains v <;> rfl
theorem find_some {α : Type} (l : List α) (p : α → Bool) {β : Type} (g : α → β) : l.findSome? (fun x => if p x then some (g x) else none) = (l.find? p).map g := by
 induction l with
 | nil => rfl
 | cons a l ih =>
  rw [List.findSome?_cons,List.find?_cons]
  cases p a with
  | true => rfl
  | false => exact ih
def addD (l : List Str) (n : Str) : List Str := bif l.contains n then l else l ++ [n]
theorem addD_len (l : List Str) (n : Str) : (addD l n).length ≤ l.length + 1 := by
 unfold addD; cases l.contains n <;> simp
theorem addD_nodup {l : List Str} {n : Str} (h : l.Nodup) : (addD l n).Nodup := by
 unfold addD
 cases hc : l.contains n
 ·simp only [cond_false]
  have hm : n ∉ l := by simpa using hc
  exact List.nodup_append.2 ⟨h,by simp,fun a ha b hb => by simp at hb; subst hb; exact fun e => hm (e ▸ ha)⟩
 ·exact h
theorem addD_mem {l : List Str} {n x : Str} (h : x ∈ addD l n) : x ∈ l ∨ x = n := by
 unfold addD at h
 cases hc : l.contains n
 ·rw [hc] at h; simpa using h
 ·rw [hc] at h; exact .inl h
abbrev zDef : GDef := ⟨0,[],[],[],[],[]⟩
def scalarN (n : Str) : Bool := n == [73,110,116] || (n == [83,116,114,105,110,103] || (n == [66,111,111,108,101,97,110] || n == [73,68]))
theorem de_scalar_ok (n : Str) : de_scalar n = some (scalarN n) := by
 apply de_scalar_run
 simp only [de_scalar_B,scalarN]
 cases n == [73,110,116] <;> cases n == [83,116,114,105,110,103] <;> cases n == [66,111,111,108,101,97,110] <;> rfl
theorem r9_scalar_ok (n : Str) : r9_scalar n = some (scalarN n) := by
 apply r9_scalar_run
 simp only [r9_scalar_B,scalarN]
 cases n == [73,110,116] <;> cases n == [83,116,114,105,110,103] <;> cases n == [66,111,111,108,101,97,110] <;> rfl
def findD (s : GSchema) (n : Str) : GDef × Bool := bif scalarN n then (⟨0,n,[],[],[],[]⟩,true) else match s.defs.find? (fun d => d.name == n) with | some d => (d,true) | none => (zDef,false)
theorem de_Find_ok (s : GSchema) (n : Str) (hl : Sm s.defs) : de_Find s n = some (findD s n) := by
 apply de_Find_run
 unfold de_Find_B findD
 rw [loop_find (b := de_Find_l1T s n) s.defs (fun d => if (d.name == n) = true then some (.inr (d.kind,d.name,d.faces,d.fields,d.parts,d.params)) else none) (.inl ()) hl (by simp [de_Find_l1T]) (by
  intro k x hm h1 h2 h3
  simp only [de_Find_l1T,h1,cnd_t,h2,bnd_s,h3]
  cases x.name == n <;> rfl)]
 rw [find_some,de_scalar_ok]
 cases scalarN n
 ·simp only [bnd_s,cnd_f,cond_false]
  cases s.defs.find? (fun d => d.name == n) <;> rfl
 ·rfl
theorem r9_Find_ok (s : GSchema) (n : Str) (hl : Sm s.defs) : r9_Find s n = some (findD s n) := by
 apply r9_Find_run
 unfold r9_Find_B findD
 rw [loop_find (b := r9_Find_l1T s n) s.defs (fun d => if (d.name == n) = true then some (.inr (d.kind,d.name,d.faces,d.fields,d.parts,d.params)) else none) (.inl ()) hl (by simp [r9_Find_l1T]) (by
  intro k x hm h1 h2 h3
  simp only [r9_Find_l1T,h1,cnd_t,h2,bnd_s,h3]
  cases x.name == n <;> rfl)]
 rw [find_some,r9_scalar_ok]
 cases scalarN n
 ·simp only [bnd_s,cnd_f,cond_false]
  cases s.defs.find? (fun d => d.name == n) <;> rfl
 ·rfl
def kindD (s : GSchema) (n : Str) (ks : List Int) : Bool := (findD s n).2 && ks.contains (findD s n).1.kind
theorem de_Kind_ok (s : GSchema) (n : Str) (ks : List Int) (hl : Sm s.defs) (hk : Sm ks) : de_Kind s n ks = some (kindD s n ks) := by
 apply de_Kind_run
 simp only [de_Kind_B,de_Find_ok s n hl,bnd_s,slices_Contains_int_ok ks _ hk,kindD]
 cases (findD s n).2 <;> rfl
theorem r9_is_ok (s : GSchema) (n : Str) (a b c : Int) (hl : Sm s.defs) : r9_is s n a b c = some (kindD s n [a,b,c]) := by
 apply r9_is_run
 simp only [r9_is_B,r9_Find_ok s n hl,bnd_s,kindD]
 have : [a,b,c].contains (findD s n).1.kind = ((findD s n).1.kind == a || ((findD s n).1.kind == b || (findD s n).1.kind == c)) := by
  simp only [List.contains_cons,List.contains_nil,Bool.or_false]
 rw [this]
 cases (findD s n).2 <;> cases (findD s n).1.kind == a <;> cases (findD s n).1.kind == b <;> rfl
theorem de_Composite_ok (s : GSchema) (n : Str) (hl : Sm s.defs) : de_Composite s n = some (kindD s n [1,2,3]) :=
 de_Composite_run (by simp [de_Composite_B,de_Kind_ok s n [1,2,3] hl (by decide)])
theorem r9_Composite_ok (s : GSchema) (n : Str) (hl : Sm s.defs) : r9_Composite s n = some (kindD s n [1,2,3]) :=
 r9_Composite_run (by simp [r9_Composite_B,r9_is_ok s n _ _ _ hl])
structure SOk (s : GSchema) : Prop where
 bk : bkSchema s < 1073741824
theorem bkDef_pos (d : GDef) : 1 ≤ bkDef d := by rw [bkDef_eq]; omega
theorem bkFieldDef_pos (d : GFieldDef) : 1 ≤ bkFieldDef d := by rw [bkFieldDef_eq]; omega
theorem bkParam_pos (d : GParam) : 1 ≤ bkParam d := by rw [bkParam_eq]; omega
theorem bkDir_pos (d : GDir) : 1 ≤ bkDir d := by rw [bkDir_eq]; omega
theorem bkMember_pos (d : GMember) : 1 ≤ bkMember d := by rw [bkMember_eq]; omega
theorem SOk.defs {s : GSchema} (h : SOk s) : s.defs.length < 1073741824 := by
 have h1 := h.bk; rw [bkSchema_eq] at h1
 have h2 := sl_len bkDef_pos s.defs
 omega
theorem SOk.def_bk {s : GSchema} (h : SOk s) {d : GDef} (hd : d ∈ s.defs) : bkDef d < 1073741824 := by
 have h1 := h.bk; rw [bkSchema_eq] at h1
 have h2 := sl_mem (f := bkDef) hd
 omega
theorem SOk.faces {s : GSchema} (h : SOk s) (d : GDef) (hd : d ∈ s.defs) : d.faces.length < 1073741824 := by
 have h1 := h.def_bk hd; rw [bkDef_eq] at h1
 have h2 := sl_len bkStr_pos d.faces
 omega
theorem SOk.parts {s : GSchema} (h : SOk s) (d : GDef) (hd : d ∈ s.defs) : d.parts.length < 1073741824 := by
 have h1 := h.def_bk hd; rw [bkDef_eq] at h1
 have h2 := sl_len bkStr_pos d.parts
 omega
theorem SOk.fields {s : GSchema} (h : SOk s) (d : GDef) (hd : d ∈ s.defs) : d.fields.length < 1073741824 := by
 have h1 := h.def_bk hd; rw [bkDef_eq] at h1
 have h2 := sl_len bkFieldDef_pos d.fields
 omega
theorem SOk.sm {s : GSchema} (h : SOk s) : Sm s.defs := by have := h.defs; show s.defs.length < _; omega
theorem findD_mem (s : GSchema) (n : Str) : (findD s n).1 ∈ s.defs ∨ ((findD s n).1.faces = [] ∧ (findD s n).1.fields = [] ∧ (findD s n).1.parts = [] ∧ (findD s n).1.params = []) := by
 unfold findD
 cases scalarN n
 ·simp only [cond_false]
  cases h : s.defs.find? (fun d => d.name == n) with
  | none => exact .inr ⟨rfl,rfl,rfl,rfl⟩
  | some d => exact .inl (List.mem_of_find?_eq_some h)
 ·exact .inr ⟨rfl,rfl,rfl,rfl⟩
theorem SOk.partsF {s : GSchema} (h : SOk s) (n : Str) : (findD s n).1.parts.length < 1073741824 := by
 rcases findD_mem s n with hm | ⟨_,_,hp,_⟩
 ·exact h.parts _ hm
 ·rw [hp]; decide
theorem SOk.fieldsF {s : GSchema} (h : SOk s) (n : Str) : (findD s n).1.fields.length < 1073741824 := by
 rcases findD_mem s n with hm | ⟨_,hp,_,_⟩
 ·exact h.fields _ hm
 ·rw [hp]; decide
abbrev zF : GFieldDef := ⟨[],[],⟨[],0,0⟩,[]⟩
abbrev tnS : Str := [95,95,116,121,112,101,110,97,109,101]
abbrev tnF : GFieldDef := ⟨tnS,[],⟨[83,116,114,105,110,103],0,1⟩,[]⟩
theorem IndexFunc_ok (l : List GFieldDef) (d : GDef) (a b : Str) (p q : Int) (name : Str) (s : GSchema) (hl : Sm l) :
  ∃ i, sx_FieldDef l d a b p q name s = some i ∧ (match l.find? (fun f => f.name == name) with | some f => decide (i < 0) = false ∧ nthI l i = some f | none => decide (i < 0) = true) := by
 have hc : ∀ f, de_Field_1 f d a b p q name s = some (f.name == name) := fun f => de_Field_1_run rfl
 have key := loop_list (b := sx_FieldDef_l1T l d a b p q name s) l (fun k (_ : Nat) => (k : Int)) (fun r k => match r.findIdx? (fun f => f.name == name) with | some j => Sum.inr ((k + j : Nat) : Int) | none => Sum.inl ()) (fun k a => a = k) hl
  (by intro a _; simp [sx_FieldDef_l1T])
  (by
   intro k x r a' hm hk hd h1 h2 h3 hI
   subst hI
   simp only [sx_FieldDef_l1T, h1, cnd_t, h2, bnd_s, h3, hc, List.findIdx?_cons]
   cases hv : x.name == name
   ·refine .inr ⟨a' + 1, rfl, rfl, ?_⟩
    simp only [Bool.false_eq_true, if_false]
    cases r.findIdx? (fun f => f.name == name) with
    | none => rfl
    | some j => simp only [Option.map_some]; congr 2; omega
   ·left; simp) (s := 0) (a := 0) rfl rfl
 have hrun : ∀ i, sx_FieldDef_B l d a b p q name s = some i → sx_FieldDef l d a b p q name s = some i := fun i h => sx_FieldDef_run h
 unfold sx_FieldDef_B at hrun
 rw [key] at hrun
 simp only [bnd_s, Nat.zero_add] at hrun
 cases hf : l.findIdx? (fun f => f.name == name) with
 | none =>
  rw [hf] at hrun
  refine ⟨-1, hrun _ rfl, ?_⟩
  rw [List.findIdx?_eq_none_iff] at hf
  have : l.find? (fun f => f.name == name) = none := List.find?_eq_none.2 fun x hx => by simp [hf x hx]
  rw [this]; rfl
 | some j =>
  rw [hf] at hrun
  refine ⟨(j : Int), hrun _ rfl, ?_⟩
  obtain ⟨hj, hp, hq⟩ := List.findIdx?_eq_some_iff_getElem.1 hf
  have : l.find? (fun f => f.name == name) = some l[j] := by
   rw [List.find?_eq_some_iff_getElem]
   exact ⟨hp, j, hj, rfl, fun k hk => by simpa using hq k hk⟩
  rw [this]
  exact ⟨by simp, by rw [nthI_nat, List.getElem?_eq_getElem hj]⟩
def fieldD (s : GSchema) (typ name : Str) : GFieldDef × Bool :=
 bif name == tnS && kindD s typ [1,2,3] then (tnF,true) else bif (findD s typ).1.kind == 1 || (findD s typ).1.kind == 2 then (match (findD s typ).1.fields.find? (fun f => f.name == name) with | some f => (f,true) | none => (zF,false)) else (zF,false)
theorem findD_none {s : GSchema} {n : Str} (h : (findD s n).2 = false) : (findD s n).1 = zDef := by
 revert h
 unfold findD
 cases scalarN n
 ·simp only [cond_false]
  cases hf : s.defs.find? (fun d => d.name == n) with
  | none => intro _; rfl
  | some d => intro h; simp at h
 ·intro h; simp at h
theorem de_Field_ok (s : GSchema) (typ name : Str) (h : SOk s) : de_Field s typ name = some (fieldD s typ name) := by
 apply de_Field_run
 have hs := h.sm
 have hf := h.fieldsF typ
 obtain ⟨i,h1,h2⟩ := IndexFunc_ok (findD s typ).1.fields (findD s typ).1 [] [] 0 0 name s (by show (findD s typ).1.fields.length < _; omega)
 have tail : (cnd (!(findD s typ).2) (some (zF,false)) (cnd ((findD s typ).1.kind != 1) (cnd ((findD s typ).1.kind != 2) (some (zF,false)) (cnd (decide (i < 0)) (some (zF,false)) (bnd (nthI (findD s typ).1.fields i) fun y => some (y,true)))) (cnd (decide (i < 0)) (some (zF,false)) (bnd (nthI (findD s typ).1.fields i) fun y => some (y,true))))) =
   some (bif (findD s typ).1.kind == 1 || (findD s typ).1.kind == 2 then (match (findD s typ).1.fields.find? (fun f => f.name == name) with | some f => (f,true) | none => (zF,false)) else (zF,false)) := by
  have e1 : ((findD s typ).1.kind != 1) = !((findD s typ).1.kind == 1) := rfl
  have e2 : ((findD s typ).1.kind != 2) = !((findD s typ).1.kind == 2) := rfl
  cases h3 : (findD s typ).2
  ·rw [findD_none h3]; rfl
  ·rw [e1,e2]
   cases hff : (findD s typ).1.fields.find? (fun f => f.name == name) with
   | none => rw [hff] at h2; simp only at h2; rw [h2]; cases (findD s typ).1.kind == 1 <;> cases (findD s typ).1.kind == 2 <;> rfl
   | some f => rw [hff] at h2; obtain ⟨h4,h5⟩ := h2; rw [h4,h5]; cases (findD s typ).1.kind == 1 <;> cases (findD s typ).1.kind == 2 <;> rfl
 simp only [de_Field_B,de_Composite_ok s typ hs,de_Find_ok s typ hs,bnd_s,h1,fieldD]
 rw [tail]
 cases name == tnS <;> cases kindD s typ [1,2,3] <;> rfl
theorem r9_Field_ok (s : GSchema) (typ name : Str) (h : SOk s) : r9_Field s typ name = some (fieldD s typ name) := by
 apply r9_Field_run
 have hs := h.sm
 have hf := h.fieldsF typ
 have sm : Sm (findD s typ).1.fields := by show (findD s typ).1.fields.length < _; omega
 have hg : ∀ b : Int → Option (Int ⊕ (Unit ⊕ (Str × List GParam × Str × Int × Int × List GDir))),(∀ k : Int,b k = cnd (decide (k < (List.length (findD s typ).1.fields : Int))) (bnd (nthI (findD s typ).1.fields k) fun x => cnd (x.name == name) (bnd (nthI (findD s typ).1.fields k) fun y => some (.inr (.inr (y.name,y.params,y.t.name,y.t.lists,y.t.musts,y.dirs)))) (some (.inl (IntKind.wrap .i64 (k + 1))))) (some (.inr (.inl ())))) →
   tloop b 0 = some (match (findD s typ).1.fields.find? (fun f => f.name == name) with | some y => .inr (y.name,y.params,y.t.name,y.t.lists,y.t.musts,y.dirs) | none => .inl ()) := by
  intro b hb
  rw [loop_find (b := b) (findD s typ).1.fields (fun y => if (y.name == name) = true then some (.inr (y.name,y.params,y.t.name,y.t.lists,y.t.musts,y.dirs)) else none) (.inl ()) sm (by rw [hb]; simp) (by
   intro k x hm h1 h2 h3
   rw [hb]
   simp only [h1,cnd_t,h2,bnd_s,h3]
   cases x.name == name <;> rfl)]
  rw [find_some]
  cases (findD s typ).1.fields.find? (fun f => f.name == name) <;> rfl
 have e1 : ((findD s typ).1.kind != 1) = !((findD s typ).1.kind == 1) := rfl
 have e2 : ((findD s typ).1.kind != 2) = !((findD s typ).1.kind == 2) := rfl
 simp only [r9_Field_B,r9_Composite_ok s typ hs,r9_Find_ok s typ hs,bnd_s,fieldD,e1,e2]
 simp only [hg (r9_Field_l1T name (findD s typ)) (fun k => rfl),hg (r9_Field_l1T name (findD s typ)) (fun k => rfl),hg (r9_Field_l1T name (findD s typ)) (fun k => rfl),hg (r9_Field_l1T name (findD s typ)) (fun k => rfl),bnd_s]
 cases hn : name == tnS
 ·cases (findD s typ).1.fields.find? (fun f => f.name == name) <;> cases (findD s typ).1.kind == 1 <;> cases (findD s typ).1.kind == 2 <;> rfl
 ·have hn' : name = tnS := beq_iff_eq.1 hn
  subst hn'
  cases kindD s typ [1,2,3] <;> cases (findD s typ).1.fields.find? (fun f => f.name == tnS) <;> cases (findD s typ).1.kind == 1 <;> cases (findD s typ).1.kind == 2 <;> rfl
mutual
def namesS1 : GSel → List Str
 | ⟨k,_,n,_,_,_,l⟩ => (bif k == 1 then [n] else []) ++ namesS l
def namesS : List GSel → List Str
 | [] => []
 | x :: l => namesS1 x ++ namesS l
end
theorem namesS1_eq (x : GSel) : namesS1 x = (bif x.kind == 1 then [x.name] else []) ++ namesS x.sels := by cases x; simp only [namesS1]
mutual
theorem namesS1_bk : ∀ x : GSel,(namesS1 x).length ≤ bkSel x
 | ⟨k,a,n,ar,di,o,l⟩ => by
  have h := namesS_bk l
  simp only [namesS1,bkSel,List.length_append]
  cases k == 1 <;> simp only [cond_true,cond_false,List.length_singleton,List.length_nil,bk1] <;> omega
theorem namesS_bk : ∀ l : List GSel,(namesS l).length ≤ bkSels l
 | [] => by simp [namesS]
 | x :: l => by have := namesS1_bk x; have := namesS_bk l; simp only [namesS,bkSels,List.length_append]; omega
end
theorem bkSels_mem {x : GSel} {l : List GSel} (h : x ∈ l) : bkSel x ≤ bkSels l := by rw [bkSels_eq]; exact sumL_mem bkSel h
theorem bkSel_sels (x : GSel) : bkSels x.sels + 1 ≤ bkSel x := by rw [bkSel_eq,bkSels_eq]; simp only [bkSl]; omega
theorem bkSel_pos (x : GSel) : 1 ≤ bkSel x := by rw [bkSel_eq]; omega
theorem bkSels_len (l : List GSel) : l.length ≤ bkSels l := by rw [bkSels_eq]; exact sumL_len bkSel bkSel_pos l
theorem foldA_len : ∀ (ns l : List Str),(ns.foldl addD l).length ≤ l.length + ns.length
 | [],l => by simp
 | n :: ns,l => by have := foldA_len ns (addD l n); have := addD_len l n; rw [List.foldl_cons,List.length_cons]; omega
theorem foldA_nodup : ∀ (ns l : List Str),l.Nodup → (ns.foldl addD l).Nodup
 | [],l,h => h
 | n :: ns,l,h => foldA_nodup ns _ (addD_nodup h)
theorem addD_sub (l : List Str) (n x : Str) : x ∈ addD l n ↔ x ∈ l ∨ x = n := by
 constructor
 ·exact addD_mem
 ·unfold addD
  cases hc : l.contains n
  ·intro h; simpa using h
  ·rintro (h | h)
   ·exact h
   ·subst h; simpa using hc
theorem foldA_mem : ∀ (ns l : List Str) (x : Str),x ∈ ns.foldl addD l ↔ x ∈ l ∨ x ∈ ns
 | [],l,x => by simp
 | n :: ns,l,x => by rw [List.foldl_cons,foldA_mem ns,addD_sub,List.mem_cons]; exact or_assoc
theorem addD_prefix (l : List Str) (n : Str) : ∃ t,addD l n = l ++ t := by
 unfold addD; cases l.contains n
 ·exact ⟨[n],rfl⟩
 ·exact ⟨[],by simp⟩
theorem foldA_prefix : ∀ (ns l : List Str),∃ t,ns.foldl addD l = l ++ t
 | [],l => ⟨[],by simp⟩
 | n :: ns,l => by
  obtain ⟨t,ht⟩ := addD_prefix l n
  obtain ⟨u,hu⟩ := foldA_prefix ns (addD l n)
  exact ⟨t ++ u,by rw [List.foldl_cons,hu,ht,List.append_assoc]⟩
abbrev zFrag : GFrag := ⟨[],[],[],[]⟩
def fragD (d : GDoc) (n : Str) : GFrag × Bool := match d.frags.find? (fun f => f.name == n) with | some f => (f,true) | none => (zFrag,false)
theorem fragD_mem {d : GDoc} {n : Str} (h : (fragD d n).2 = true) : (fragD d n).1 ∈ d.frags ∧ (fragD d n).1.name = n := by
 revert h
 unfold fragD
 cases hf : d.frags.find? (fun f => f.name == n) with
 | none => intro h; simp at h
 | some f => intro _; exact ⟨List.mem_of_find?_eq_some hf,by simpa using List.find?_some hf⟩
theorem fragD_of {d : GDoc} {f : GFrag} (h : f ∈ d.frags) : (fragD d f.name).2 = true := by
 unfold fragD
 cases hf : d.frags.find? (fun g => g.name == f.name) with
 | none => have := List.find?_eq_none.1 hf f h; simp at this
 | some g => rfl
def ClosedP (d : GDoc) (S : Str → Prop) : Prop := ∀ n,S n → (fragD d n).2 = true → ∀ m ∈ namesS (fragD d n).1.sels,S m
def allN (d : GDoc) (sels : List GSel) : List Str := namesS sels ++ d.frags.flatMap fun f => namesS f.sels
theorem flat_len : ∀ l : List GFrag,(l.flatMap fun f => namesS f.sels).length ≤ sumL bkFrag l
 | [] => by simp [sumL]
 | f :: l => by
  have h1 := flat_len l
  have h2 := namesS_bk f.sels
  have h3 : bkSels f.sels ≤ bkFrag f := by rw [bkFrag_eq,bkSels_eq]; simp only [bkSl]; omega
  simp only [List.flatMap_cons,List.length_append,sumL]; omega
theorem bkDoc_frags (d : GDoc) : sumL bkFrag d.frags + 1 ≤ bkDoc d := by rw [bkDoc_eq]; simp only [bkSl]; omega
theorem bkFrag_pos (f : GFrag) : 1 ≤ bkFrag f := by rw [bkFrag_eq]; omega
theorem frags_len (d : GDoc) : d.frags.length + 1 ≤ bkDoc d := by
 have := bkDoc_frags d; have := sumL_len bkFrag bkFrag_pos d.frags; omega
open Go Go.Ev Go.Ev.PV
abbrev E0' : El := ⟨true,[(.sl 3 1048576 false),.str,.str]⟩
abbrev E1' : El := ⟨true,[(.int .i64),(.int .i64),.str,(.sl 6 1048576 false),(.sl 7 1048576 false)]⟩
abbrev E2' : El := ⟨false,[.bool]⟩
abbrev E3' : El := ⟨true,[.str,.str,(.int .i64),(.int .i64),.bool,(.int .i64),(.int .i64),.str,(.sl 6 1048576 false),(.sl 7 1048576 false)]⟩
abbrev E4' : El := ⟨true,[(.sl 10 1048576 false),(.sl 13 1048576 false)]⟩
abbrev E5' : El := ⟨true,[.str,(.int .i64),(.int .i64)]⟩
abbrev E6' : El := ⟨true,[(.int .i64),.str,.str,(.sl 7 1048576 false),(.sl 8 1048576 false),.str,(.sl 12 1048576 false)]⟩
abbrev E7' : El := ⟨true,[(.int .i64),.str,(.sl 0 1048576 false),(.sl 4 1048576 false),(.sl 0 1048576 false),(.sl 5 1048576 false)]⟩
abbrev E8' : El := ⟨false,[(.int .i64)]⟩
abbrev E9' : El := ⟨false,[.sl 0 16777216 false]⟩
abbrev E10' : El := ⟨true,[.str,(.sl 5 1048576 false),.str,(.int .i64),(.int .i64),(.sl 8 1048576 false)]⟩
abbrev E11' : El := ⟨false,[.str]⟩
abbrev E12' : El := ⟨true,[(.int .i64),.str,(.sl 11 1048576 false),(.sl 8 1048576 false),(.sl 12 1048576 false)]⟩
abbrev E13' : El := ⟨false,[.sl 5 16777216 false]⟩
abbrev E15' : El := ⟨true,[.str,.str,(.sl 8 1048576 false),(.sl 12 1048576 false)]⟩
abbrev E16' : El := ⟨false,[.sl 7 16777216 false]⟩
def sa : Nat → List HV → List HV
 | 0,l => l
 | n + 1,l => .same :: sa n l
def lh (i : Nat) (hv : List HV) (cnt top : Nat) (ws : List (Option Nat)) : Nat × LH := (i,{ hv := hv,cnt := cnt,top := top,ex := ws.map fun w => (w,hv) })
def sv1 (ins outs : List El) : Summ := { ins := ins,outs := outs }
def sv2 (ins outs : List El) : Summ := { ins := ins,outs := outs,cap := 2097152 }
def tτ : Tb := [⟨false,[.str]⟩,⟨false,[(.int .i64)]⟩,⟨true,[(.sl 3 1048576 false),.str,.str]⟩,⟨true,[(.int .i64),.str,(.sl 0 1048576 false),(.sl 4 1048576 false),(.sl 0 1048576 false),(.sl 5 1048576 false)]⟩,⟨true,[.str,(.sl 5 1048576 false),.str,(.int .i64),(.int .i64),(.sl 8 1048576 false)]⟩,⟨true,[.str,.str,(.int .i64),(.int .i64),.bool,(.int .i64),(.int .i64),.str,(.sl 6 1048576 false),(.sl 7 1048576 false)]⟩,⟨true,[(.int .i64),(.int .i64),.str,(.sl 6 1048576 false),(.sl 7 1048576 false)]⟩,⟨true,[.str,(.int .i64),(.int .i64),.str,(.sl 6 1048576 false),(.sl 7 1048576 false)]⟩,⟨true,[.str,(.sl 7 1048576 false)]⟩,⟨true,[(.sl 10 1048576 false),(.sl 13 1048576 false)]⟩,⟨true,[(.int .i64),.str,(.sl 11 1048576 false),(.sl 8 1048576 false),(.sl 12 1048576 false)]⟩,⟨true,[.str,.str,(.int .i64),(.int .i64),.bool,(.int .i64),(.int .i64),.str,(.sl 6 1048576 false),(.sl 7 1048576 false)]⟩,⟨true,[(.int .i64),.str,.str,(.sl 7 1048576 false),(.sl 8 1048576 false),.str,(.sl 12 1048576 false)]⟩,⟨true,[.str,.str,(.sl 8 1048576 false),(.sl 12 1048576 false)]⟩,⟨false,[(.sl 8 1048576 false)]⟩,⟨true,[.str,(.int .i64),(.int .i64)]⟩,⟨true,[.str,(.int .i64),.str,.str,(.sl 7 1048576 false),(.sl 8 1048576 false),.str,(.sl 12 1048576 false)]⟩,⟨true,[.str,.str,(.int .i64),(.int .i64),.bool]⟩]
def cf (s : STb) (r : List (FuncId × Summ × Nat)) (me : Nat) (ag : Bool) (l : List (Nat × LH)) : Cfg := { τ := tτ,sums := s,recs := r,me := me,meAg := ag,loops := l }
def cg (s : STb) (r : List (FuncId × Summ × Nat)) (me : Nat) (ag : Bool) (l : List (Nat × LH)) (np : Nat) : Cfg := { τ := tτ,sums := s,recs := r,me := me,meAg := ag,loops := l,cap := 2097152,np := np }
abbrev Ds (f : FuncId) (sm : Summ) : Prop := Does1 Tryz.prog MT XT tτ f sm
theorem bkStr_ap (s : Str) : bkStr s = s.length + 1 := rfl
theorem lfSl {α : Type} {τ : Tb} {n ub : Nat} {enc : α → PV} {l : List α} (h : ∀ x ∈ l,ElOk τ (elOf τ n) (enc x)) (hl : l.length ≤ ub) : LfOk τ (.sl n ub false) (.slice (l.map enc) [] false) := by
 refine .sl (fun e he => ?_) (by simpa using hl)
 obtain ⟨x,hx,rfl⟩ := List.mem_map.1 he
 exact h x hx
theorem okVM : ∀ n : Nat,n ≤ 1048576 → (∀ x : GValue,bkValue x ≤ n → ElOk tτ (elOf tτ 6) (encValue x)) ∧ (∀ x : GMember,bkMember x ≤ n → ElOk tτ (elOf tτ 7) (encMember x)) := by
 intro n
 induction n with
 | zero => intro _; exact ⟨fun x h => by rw [bkValue_eq] at h; omega,fun x h => by rw [bkMember_eq] at h; omega⟩
 | succ n ih =>
  intro hn
  obtain ⟨ihV,ihM⟩ := ih (by omega)
  have ihValue := ihV
  have ihMember := ihM
  refine ⟨fun x hb => ?_,fun x hb => ?_⟩
  ·simp only [bkValue_eq,bk1,bkStr_ap] at hb
   rw [encValue_eq]
   change ElOk tτ ⟨true,[(.int .i64),(.int .i64),.str,(.sl 6 1048576 false),(.sl 7 1048576 false)]⟩ _
   exact .ag (.cons (.int _ _) (.cons (.int _ _) (.cons (.str (by unfold topL; omega)) (.cons (lfSl (fun y hy => ihValue y (by have := sl_mem (f := bkValue) hy; omega)) (by have := sl_len (f := bkValue) (fun d => by rw [bkValue_eq]; omega) x.l; omega)) (.cons (lfSl (fun y hy => ihMember y (by have := sl_mem (f := bkMember) hy; omega)) (by have := sl_len (f := bkMember) (fun d => by rw [bkMember_eq]; omega) x.m; omega)) (.nil))))))
  
  ·simp only [bkMember_eq,bkValue_eq,bk1,bkStr_ap] at hb
   rw [encMember_eq]
   change ElOk tτ ⟨true,[.str,(.int .i64),(.int .i64),.str,(.sl 6 1048576 false),(.sl 7 1048576 false)]⟩ _
   exact .ag (.cons (.str (by unfold topL; omega)) (.cons (.int _ _) (.cons (.int _ _) (.cons (.str (by unfold topL; omega)) (.cons (lfSl (fun y hy => ihValue y (by have := sl_mem (f := bkValue) hy; omega)) (by have := sl_len (f := bkValue) (fun d => by rw [bkValue_eq]; omega) x.v.l; omega)) (.cons (lfSl (fun y hy => ihMember y (by have := sl_mem (f := bkMember) hy; omega)) (by have := sl_len (f := bkMember) (fun d => by rw [bkMember_eq]; omega) x.v.m; omega)) (.nil)))))))
theorem okValue (x : GValue) (h : bkValue x ≤ 1048576) : ElOk tτ (elOf tτ 6) (encValue x) := (okVM _ (Nat.le_refl _)).1 x h
theorem okMember (x : GMember) (h : bkMember x ≤ 1048576) : ElOk tτ (elOf tτ 7) (encMember x) := (okVM _ (Nat.le_refl _)).2 x h
theorem okParam (x : GParam) (hb : bkParam x ≤ 1048576) : ElOk tτ (elOf tτ 5) (encParam x) := by
 simp only [bkParam_eq,bkType_eq,bkValue_eq,bk1,bkStr_ap] at hb
 rw [encParam_eq]
 change ElOk tτ ⟨true,[.str,.str,(.int .i64),(.int .i64),.bool,(.int .i64),(.int .i64),.str,(.sl 6 1048576 false),(.sl 7 1048576 false)]⟩ _
 exact .ag (.cons (.str (by unfold topL; omega)) (.cons (.str (by unfold topL; omega)) (.cons (.int _ _) (.cons (.int _ _) (.cons (.bool _) (.cons (.int _ _) (.cons (.int _ _) (.cons (.str (by unfold topL; omega)) (.cons (lfSl (fun y hy => okValue y (by have := sl_mem (f := bkValue) hy; omega)) (by have := sl_len (f := bkValue) (fun d => by rw [bkValue_eq]; omega) x.default.l; omega)) (.cons (lfSl (fun y hy => okMember y (by have := sl_mem (f := bkMember) hy; omega)) (by have := sl_len (f := bkMember) (fun d => by rw [bkMember_eq]; omega) x.default.m; omega)) (.nil)))))))))))
theorem okDir (x : GDir) (hb : bkDir x ≤ 1048576) : ElOk tτ (elOf tτ 8) (encDir x) := by
 simp only [bkDir_eq,bk1,bkStr_ap] at hb
 rw [encDir_eq]
 change ElOk tτ ⟨true,[.str,(.sl 7 1048576 false)]⟩ _
 exact .ag (.cons (.str (by unfold topL; omega)) (.cons (lfSl (fun y hy => okMember y (by have := sl_mem (f := bkMember) hy; omega)) (by have := sl_len (f := bkMember) (fun d => by rw [bkMember_eq]; omega) x.args; omega)) (.nil)))
theorem okFieldDef (x : GFieldDef) (hb : bkFieldDef x ≤ 1048576) : ElOk tτ (elOf tτ 4) (encFieldDef x) := by
 simp only [bkFieldDef_eq,bkType_eq,bk1,bkStr_ap] at hb
 rw [encFieldDef_eq]
 change ElOk tτ ⟨true,[.str,(.sl 5 1048576 false),.str,(.int .i64),(.int .i64),(.sl 8 1048576 false)]⟩ _
 exact .ag (.cons (.str (by unfold topL; omega)) (.cons (lfSl (fun y hy => okParam y (by have := sl_mem (f := bkParam) hy; omega)) (by have := sl_len (f := bkParam) (fun d => by rw [bkParam_eq]; omega) x.params; omega)) (.cons (.str (by unfold topL; omega)) (.cons (.int _ _) (.cons (.int _ _) (.cons (lfSl (fun y hy => okDir y (by have := sl_mem (f := bkDir) hy; omega)) (by have := sl_len (f := bkDir) (fun d => by rw [bkDir_eq]; omega) x.dirs; omega)) (.nil)))))))
theorem okDef (x : GDef) (hb : bkDef x ≤ 1048576) : ElOk tτ (elOf tτ 3) (encDef x) := by
 simp only [bkDef_eq,bk1,bkStr_ap] at hb
 rw [encDef_eq]
 change ElOk tτ ⟨true,[(.int .i64),.str,(.sl 0 1048576 false),(.sl 4 1048576 false),(.sl 0 1048576 false),(.sl 5 1048576 false)]⟩ _
 exact .ag (.cons (.int _ _) (.cons (.str (by unfold topL; omega)) (.cons (lfSl (fun y hy => .one (.str (by have := sl_mem (f := bkStr) hy; rw [bkStr_ap] at this; unfold topL; omega))) (by have := sl_len (f := bkStr) (fun d => by rw [bkStr_ap]; omega) x.faces; omega)) (.cons (lfSl (fun y hy => okFieldDef y (by have := sl_mem (f := bkFieldDef) hy; omega)) (by have := sl_len (f := bkFieldDef) (fun d => by rw [bkFieldDef_eq]; omega) x.fields; omega)) (.cons (lfSl (fun y hy => .one (.str (by have := sl_mem (f := bkStr) hy; rw [bkStr_ap] at this; unfold topL; omega))) (by have := sl_len (f := bkStr) (fun d => by rw [bkStr_ap]; omega) x.parts; omega)) (.cons (lfSl (fun y hy => okParam y (by have := sl_mem (f := bkParam) hy; omega)) (by have := sl_len (f := bkParam) (fun d => by rw [bkParam_eq]; omega) x.params; omega)) (.nil)))))))
theorem okSchema (x : GSchema) (hb : bkSchema x ≤ 1048576) : ElOk tτ (elOf tτ 2) (encSchema x) := by
 simp only [bkSchema_eq,bk1,bkStr_ap] at hb
 rw [encSchema_eq]
 change ElOk tτ ⟨true,[(.sl 3 1048576 false),.str,.str]⟩ _
 exact .ag (.cons (lfSl (fun y hy => okDef y (by have := sl_mem (f := bkDef) hy; omega)) (by have := sl_len (f := bkDef) (fun d => by rw [bkDef_eq]; omega) x.defs; omega)) (.cons (.str (by unfold topL; omega)) (.cons (.str (by unfold topL; omega)) (.nil))))
theorem okVarDef (x : GVarDef) (hb : bkVarDef x ≤ 1048576) : ElOk tτ (elOf tτ 11) (encVarDef x) := by
 simp only [bkVarDef_eq,bkType_eq,bkValue_eq,bk1,bkStr_ap] at hb
 rw [encVarDef_eq]
 change ElOk tτ ⟨true,[.str,.str,(.int .i64),(.int .i64),.bool,(.int .i64),(.int .i64),.str,(.sl 6 1048576 false),(.sl 7 1048576 false)]⟩ _
 exact .ag (.cons (.str (by unfold topL; omega)) (.cons (.str (by unfold topL; omega)) (.cons (.int _ _) (.cons (.int _ _) (.cons (.bool _) (.cons (.int _ _) (.cons (.int _ _) (.cons (.str (by unfold topL; omega)) (.cons (lfSl (fun y hy => okValue y (by have := sl_mem (f := bkValue) hy; omega)) (by have := sl_len (f := bkValue) (fun d => by rw [bkValue_eq]; omega) x.default.l; omega)) (.cons (lfSl (fun y hy => okMember y (by have := sl_mem (f := bkMember) hy; omega)) (by have := sl_len (f := bkMember) (fun d => by rw [bkMember_eq]; omega) x.default.m; omega)) (.nil)))))))))))
theorem okSel' : ∀ n : Nat,n ≤ 1048576 → ∀ x : GSel,bkSel x ≤ n → ElOk tτ (elOf tτ 12) (encSel x) := by
 intro n
 induction n with
 | zero => intro _ x h; rw [bkSel_eq] at h; omega
 | succ n ih =>
  intro hn x hb
  have ihSel := ih (by omega)
  simp only [bkSel_eq,bk1,bkStr_ap] at hb
  rw [encSel_eq]
  change ElOk tτ ⟨true,[(.int .i64),.str,.str,(.sl 7 1048576 false),(.sl 8 1048576 false),.str,(.sl 12 1048576 false)]⟩ _
  exact .ag (.cons (.int _ _) (.cons (.str (by unfold topL; omega)) (.cons (.str (by unfold topL; omega)) (.cons (lfSl (fun y hy => okMember y (by have := sl_mem (f := bkMember) hy; omega)) (by have := sl_len (f := bkMember) (fun d => by rw [bkMember_eq]; omega) x.args; omega)) (.cons (lfSl (fun y hy => okDir y (by have := sl_mem (f := bkDir) hy; omega)) (by have := sl_len (f := bkDir) (fun d => by rw [bkDir_eq]; omega) x.dirs; omega)) (.cons (.str (by unfold topL; omega)) (.cons (lfSl (fun y hy => ihSel y (by have := sl_mem (f := bkSel) hy; omega)) (by have := sl_len (f := bkSel) (fun d => by rw [bkSel_eq]; omega) x.sels; omega)) (.nil))))))))
theorem okSel (x : GSel) (h : bkSel x ≤ 1048576) : ElOk tτ (elOf tτ 12) (encSel x) := okSel' _ (Nat.le_refl _) x h
theorem okOp (x : GOp) (hb : bkOp x ≤ 1048576) : ElOk tτ (elOf tτ 10) (encOp x) := by
 simp only [bkOp_eq,bk1,bkStr_ap] at hb
 rw [encOp_eq]
 change ElOk tτ ⟨true,[(.int .i64),.str,(.sl 11 1048576 false),(.sl 8 1048576 false),(.sl 12 1048576 false)]⟩ _
 exact .ag (.cons (.int _ _) (.cons (.str (by unfold topL; omega)) (.cons (lfSl (fun y hy => okVarDef y (by have := sl_mem (f := bkVarDef) hy; omega)) (by have := sl_len (f := bkVarDef) (fun d => by rw [bkVarDef_eq]; omega) x.vars; omega)) (.cons (lfSl (fun y hy => okDir y (by have := sl_mem (f := bkDir) hy; omega)) (by have := sl_len (f := bkDir) (fun d => by rw [bkDir_eq]; omega) x.dirs; omega)) (.cons (lfSl (fun y hy => okSel y (by have := sl_mem (f := bkSel) hy; omega)) (by have := sl_len (f := bkSel) (fun d => by rw [bkSel_eq]; omega) x.sels; omega)) (.nil))))))
theorem okFrag (x : GFrag) (hb : bkFrag x ≤ 1048576) : ElOk tτ (elOf tτ 13) (encFrag x) := by
 simp only [bkFrag_eq,bk1,bkStr_ap] at hb
 rw [encFrag_eq]
 change ElOk tτ ⟨true,[.str,.str,(.sl 8 1048576 false),(.sl 12 1048576 false)]⟩ _
 exact .ag (.cons (.str (by unfold topL; omega)) (.cons (.str (by unfold topL; omega)) (.cons (lfSl (fun y hy => okDir y (by have := sl_mem (f := bkDir) hy; omega)) (by have := sl_len (f := bkDir) (fun d => by rw [bkDir_eq]; omega) x.dirs; omega)) (.cons (lfSl (fun y hy => okSel y (by have := sl_mem (f := bkSel) hy; omega)) (by have := sl_len (f := bkSel) (fun d => by rw [bkSel_eq]; omega) x.sels; omega)) (.nil)))))
theorem okDoc (x : GDoc) (hb : bkDoc x ≤ 1048576) : ElOk tτ (elOf tτ 9) (encDoc x) := by
 simp only [bkDoc_eq,bk1,bkStr_ap] at hb
 rw [encDoc_eq]
 change ElOk tτ ⟨true,[(.sl 10 1048576 false),(.sl 13 1048576 false)]⟩ _
 exact .ag (.cons (lfSl (fun y hy => okOp y (by have := sl_mem (f := bkOp) hy; omega)) (by have := sl_len (f := bkOp) (fun d => by rw [bkOp_eq]; omega) x.ops; omega)) (.cons (lfSl (fun y hy => okFrag y (by have := sl_mem (f := bkFrag) hy; omega)) (by have := sl_len (f := bkFrag) (fun d => by rw [bkFrag_eq]; omega) x.frags; omega)) (.nil)))
theorem cs_cons {τ : Tb} {l : Lf} {ls : List Lf} {vs : List PV} (h : CsOk τ (l :: ls) vs) : ∃ v r,vs = v :: r ∧ LfOk τ l v ∧ CsOk τ ls r := by
 cases h with | cons h hs => exact ⟨_,_,rfl,h,hs⟩
theorem cs_nil {τ : Tb} {vs : List PV} (h : CsOk τ [] vs) : vs = [] := by cases h; rfl
theorem lf_str {τ : Tb} {v : PV} (h : LfOk τ .str v) : ∃ s,v = .str s ∧ s.length ≤ topL := by cases h with | str h => exact ⟨_,rfl,h⟩
theorem lf_int {τ : Tb} {k : IntKind} {v : PV} (h : LfOk τ (.int k) v) : ∃ n,v = .int k n := by cases h with | int k n => exact ⟨_,rfl⟩
theorem lf_bool {τ : Tb} {v : PV} (h : LfOk τ .bool v) : ∃ b,v = .bool b := by cases h with | bool b => exact ⟨_,rfl⟩
theorem lf_sl {τ : Tb} {n ub : Nat} {o : Bool} {v : PV} (h : LfOk τ (.sl n ub o) v) : ∃ es,v = .slice es [] o ∧ (∀ e,e ∈ es → ElOk τ (elOf τ n) e) ∧ es.length ≤ ub := by cases h with | sl h hl => exact ⟨_,rfl,h,hl⟩
theorem dec_list {α : Type} {f : α → PV} : ∀ {es : List PV},(∀ e,e ∈ es → ∃ x,e = f x) → ∃ l,es = List.map f l
 | [],_ => ⟨[],rfl⟩
 | e :: es,h => by
  obtain ⟨x,rfl⟩ := h e (by simp)
  obtain ⟨l,rfl⟩ := dec_list (f := f) (es := es) (fun e he => h e (by simp [he]))
  exact ⟨x :: l,rfl⟩
theorem decStr {e : PV} (h : ElOk tτ ⟨false,[.str]⟩ e) : ∃ s,e = PV.str s := by
 cases h with | one h => obtain ⟨s,rfl,_⟩ := lf_str h; exact ⟨s,rfl⟩
theorem decType {e : PV} (h : ElOk tτ (elOf tτ 15) e) : ∃ x,e = encType x := by
 change ElOk tτ ⟨true,[.str,(.int .i64),(.int .i64)]⟩ e at h
 cases h with
 | ag hs =>
  obtain ⟨_,_,rfl,h0,hs1⟩ := cs_cons hs
  obtain ⟨v0,rfl,_⟩ := lf_str h0
  obtain ⟨_,_,rfl,h1,hs2⟩ := cs_cons hs1
  obtain ⟨v1,rfl⟩ := lf_int h1
  obtain ⟨_,_,rfl,h2,hs3⟩ := cs_cons hs2
  obtain ⟨v2,rfl⟩ := lf_int h2
  cases cs_nil hs3
  exact ⟨⟨v0,v1,v2⟩,by rw [encType_eq]⟩
theorem decVM : ∀ n : Nat,(∀ e : PV,psize e ≤ n → ElOk tτ (elOf tτ 6) e → ∃ x,e = encValue x) ∧ (∀ e : PV,psize e ≤ n → ElOk tτ (elOf tτ 7) e → ∃ x,e = encMember x) := by
 intro n
 induction n with
 | zero =>
  refine ⟨fun e hp => ?_,fun e hp => ?_⟩ <;> (exfalso; cases e <;> simp only [psize] at hp <;> omega)
 | succ n ih =>
  obtain ⟨ihValue,ihMember⟩ := ih
  refine ⟨fun e hp h => ?_,fun e hp h => ?_⟩
  ·change ElOk tτ ⟨true,[(.int .i64),(.int .i64),.str,(.sl 6 1048576 false),(.sl 7 1048576 false)]⟩ e at h
   cases h with
   | ag hs =>
    obtain ⟨_,_,rfl,h0,hs1⟩ := cs_cons hs
    obtain ⟨v0,rfl⟩ := lf_int h0
    obtain ⟨_,_,rfl,h1,hs2⟩ := cs_cons hs1
    obtain ⟨v1,rfl⟩ := lf_int h1
    obtain ⟨_,_,rfl,h2,hs3⟩ := cs_cons hs2
    obtain ⟨v2,rfl,_⟩ := lf_str h2
    obtain ⟨_,_,rfl,h3,hs4⟩ := cs_cons hs3
    obtain ⟨es3,rfl,he3,_⟩ := lf_sl h3
    obtain ⟨_,_,rfl,h4,hs5⟩ := cs_cons hs4
    obtain ⟨es4,rfl,he4,_⟩ := lf_sl h4
    cases cs_nil hs5
    obtain ⟨v3,rfl⟩ := dec_list (f := encValue) (fun e he => ihValue e (by have := psizes_mem he; simp only [psize,psizes] at hp; omega) (he3 e he))
    obtain ⟨v4,rfl⟩ := dec_list (f := encMember) (fun e he => ihMember e (by have := psizes_mem he; simp only [psize,psizes] at hp; omega) (he4 e he))
    exact ⟨⟨v0,v1,v2,v3,v4⟩,by rw [encValue_eq]⟩
  ·change ElOk tτ ⟨true,[.str,(.int .i64),(.int .i64),.str,(.sl 6 1048576 false),(.sl 7 1048576 false)]⟩ e at h
   cases h with
   | ag hs =>
    obtain ⟨_,_,rfl,h0,hs1⟩ := cs_cons hs
    obtain ⟨v0,rfl,_⟩ := lf_str h0
    obtain ⟨_,_,rfl,h1,hs2⟩ := cs_cons hs1
    obtain ⟨v1,rfl⟩ := lf_int h1
    obtain ⟨_,_,rfl,h2,hs3⟩ := cs_cons hs2
    obtain ⟨v2,rfl⟩ := lf_int h2
    obtain ⟨_,_,rfl,h3,hs4⟩ := cs_cons hs3
    obtain ⟨v3,rfl,_⟩ := lf_str h3
    obtain ⟨_,_,rfl,h4,hs5⟩ := cs_cons hs4
    obtain ⟨es4,rfl,he4,_⟩ := lf_sl h4
    obtain ⟨_,_,rfl,h5,hs6⟩ := cs_cons hs5
    obtain ⟨es5,rfl,he5,_⟩ := lf_sl h5
    cases cs_nil hs6
    obtain ⟨v4,rfl⟩ := dec_list (f := encValue) (fun e he => ihValue e (by have := psizes_mem he; simp only [psize,psizes] at hp; omega) (he4 e he))
    obtain ⟨v5,rfl⟩ := dec_list (f := encMember) (fun e he => ihMember e (by have := psizes_mem he; simp only [psize,psizes] at hp; omega) (he5 e he))
    exact ⟨⟨v0,⟨v1,v2,v3,v4,v5⟩⟩,by rw [encMember_eq]⟩
theorem decValue {e : PV} (h : ElOk tτ (elOf tτ 6) e) : ∃ x,e = encValue x := (decVM (psize e)).1 e (Nat.le_refl _) h
theorem decMember {e : PV} (h : ElOk tτ (elOf tτ 7) e) : ∃ x,e = encMember x := (decVM (psize e)).2 e (Nat.le_refl _) h
theorem decParam {e : PV} (h : ElOk tτ (elOf tτ 5) e) : ∃ x,e = encParam x := by
 change ElOk tτ ⟨true,[.str,.str,(.int .i64),(.int .i64),.bool,(.int .i64),(.int .i64),.str,(.sl 6 1048576 false),(.sl 7 1048576 false)]⟩ e at h
 cases h with
 | ag hs =>
  obtain ⟨_,_,rfl,h0,hs1⟩ := cs_cons hs
  obtain ⟨v0,rfl,_⟩ := lf_str h0
  obtain ⟨_,_,rfl,h1,hs2⟩ := cs_cons hs1
  obtain ⟨v1,rfl,_⟩ := lf_str h1
  obtain ⟨_,_,rfl,h2,hs3⟩ := cs_cons hs2
  obtain ⟨v2,rfl⟩ := lf_int h2
  obtain ⟨_,_,rfl,h3,hs4⟩ := cs_cons hs3
  obtain ⟨v3,rfl⟩ := lf_int h3
  obtain ⟨_,_,rfl,h4,hs5⟩ := cs_cons hs4
  obtain ⟨v4,rfl⟩ := lf_bool h4
  obtain ⟨_,_,rfl,h5,hs6⟩ := cs_cons hs5
  obtain ⟨v5,rfl⟩ := lf_int h5
  obtain ⟨_,_,rfl,h6,hs7⟩ := cs_cons hs6
  obtain ⟨v6,rfl⟩ := lf_int h6
  obtain ⟨_,_,rfl,h7,hs8⟩ := cs_cons hs7
  obtain ⟨v7,rfl,_⟩ := lf_str h7
  obtain ⟨_,_,rfl,h8,hs9⟩ := cs_cons hs8
  obtain ⟨es8,rfl,he8,_⟩ := lf_sl h8
  obtain ⟨_,_,rfl,h9,hs10⟩ := cs_cons hs9
  obtain ⟨es9,rfl,he9,_⟩ := lf_sl h9
  cases cs_nil hs10
  obtain ⟨v8,rfl⟩ := dec_list (f := encValue) (fun e he => decValue (he8 e he))
  obtain ⟨v9,rfl⟩ := dec_list (f := encMember) (fun e he => decMember (he9 e he))
  exact ⟨⟨v0,⟨v1,v2,v3⟩,v4,⟨v5,v6,v7,v8,v9⟩⟩,by rw [encParam_eq]⟩
theorem decDir {e : PV} (h : ElOk tτ (elOf tτ 8) e) : ∃ x,e = encDir x := by
 change ElOk tτ ⟨true,[.str,(.sl 7 1048576 false)]⟩ e at h
 cases h with
 | ag hs =>
  obtain ⟨_,_,rfl,h0,hs1⟩ := cs_cons hs
  obtain ⟨v0,rfl,_⟩ := lf_str h0
  obtain ⟨_,_,rfl,h1,hs2⟩ := cs_cons hs1
  obtain ⟨es1,rfl,he1,_⟩ := lf_sl h1
  cases cs_nil hs2
  obtain ⟨v1,rfl⟩ := dec_list (f := encMember) (fun e he => decMember (he1 e he))
  exact ⟨⟨v0,v1⟩,by rw [encDir_eq]⟩
theorem decFieldDef {e : PV} (h : ElOk tτ (elOf tτ 4) e) : ∃ x,e = encFieldDef x := by
 change ElOk tτ ⟨true,[.str,(.sl 5 1048576 false),.str,(.int .i64),(.int .i64),(.sl 8 1048576 false)]⟩ e at h
 cases h with
 | ag hs =>
  obtain ⟨_,_,rfl,h0,hs1⟩ := cs_cons hs
  obtain ⟨v0,rfl,_⟩ := lf_str h0
  obtain ⟨_,_,rfl,h1,hs2⟩ := cs_cons hs1
  obtain ⟨es1,rfl,he1,_⟩ := lf_sl h1
  obtain ⟨_,_,rfl,h2,hs3⟩ := cs_cons hs2
  obtain ⟨v2,rfl,_⟩ := lf_str h2
  obtain ⟨_,_,rfl,h3,hs4⟩ := cs_cons hs3
  obtain ⟨v3,rfl⟩ := lf_int h3
  obtain ⟨_,_,rfl,h4,hs5⟩ := cs_cons hs4
  obtain ⟨v4,rfl⟩ := lf_int h4
  obtain ⟨_,_,rfl,h5,hs6⟩ := cs_cons hs5
  obtain ⟨es5,rfl,he5,_⟩ := lf_sl h5
  cases cs_nil hs6
  obtain ⟨v1,rfl⟩ := dec_list (f := encParam) (fun e he => decParam (he1 e he))
  obtain ⟨v5,rfl⟩ := dec_list (f := encDir) (fun e he => decDir (he5 e he))
  exact ⟨⟨v0,v1,⟨v2,v3,v4⟩,v5⟩,by rw [encFieldDef_eq]⟩
theorem decDef {e : PV} (h : ElOk tτ (elOf tτ 3) e) : ∃ x,e = encDef x := by
 change ElOk tτ ⟨true,[(.int .i64),.str,(.sl 0 1048576 false),(.sl 4 1048576 false),(.sl 0 1048576 false),(.sl 5 1048576 false)]⟩ e at h
 cases h with
 | ag hs =>
  obtain ⟨_,_,rfl,h0,hs1⟩ := cs_cons hs
  obtain ⟨v0,rfl⟩ := lf_int h0
  obtain ⟨_,_,rfl,h1,hs2⟩ := cs_cons hs1
  obtain ⟨v1,rfl,_⟩ := lf_str h1
  obtain ⟨_,_,rfl,h2,hs3⟩ := cs_cons hs2
  obtain ⟨es2,rfl,he2,_⟩ := lf_sl h2
  obtain ⟨_,_,rfl,h3,hs4⟩ := cs_cons hs3
  obtain ⟨es3,rfl,he3,_⟩ := lf_sl h3
  obtain ⟨_,_,rfl,h4,hs5⟩ := cs_cons hs4
  obtain ⟨es4,rfl,he4,_⟩ := lf_sl h4
  obtain ⟨_,_,rfl,h5,hs6⟩ := cs_cons hs5
  obtain ⟨es5,rfl,he5,_⟩ := lf_sl h5
  cases cs_nil hs6
  obtain ⟨v2,rfl⟩ := dec_list (f := PV.str) (fun e he => decStr (he2 e he))
  obtain ⟨v3,rfl⟩ := dec_list (f := encFieldDef) (fun e he => decFieldDef (he3 e he))
  obtain ⟨v4,rfl⟩ := dec_list (f := PV.str) (fun e he => decStr (he4 e he))
  obtain ⟨v5,rfl⟩ := dec_list (f := encParam) (fun e he => decParam (he5 e he))
  exact ⟨⟨v0,v1,v2,v3,v4,v5⟩,by rw [encDef_eq]⟩
theorem decSchema {e : PV} (h : ElOk tτ (elOf tτ 2) e) : ∃ x,e = encSchema x := by
 change ElOk tτ ⟨true,[(.sl 3 1048576 false),.str,.str]⟩ e at h
 cases h with
 | ag hs =>
  obtain ⟨_,_,rfl,h0,hs1⟩ := cs_cons hs
  obtain ⟨es0,rfl,he0,_⟩ := lf_sl h0
  obtain ⟨_,_,rfl,h1,hs2⟩ := cs_cons hs1
  obtain ⟨v1,rfl,_⟩ := lf_str h1
  obtain ⟨_,_,rfl,h2,hs3⟩ := cs_cons hs2
  obtain ⟨v2,rfl,_⟩ := lf_str h2
  cases cs_nil hs3
  obtain ⟨v0,rfl⟩ := dec_list (f := encDef) (fun e he => decDef (he0 e he))
  exact ⟨⟨v0,v1,v2⟩,by rw [encSchema_eq]⟩
theorem decVarDef {e : PV} (h : ElOk tτ (elOf tτ 11) e) : ∃ x,e = encVarDef x := by
 change ElOk tτ ⟨true,[.str,.str,(.int .i64),(.int .i64),.bool,(.int .i64),(.int .i64),.str,(.sl 6 1048576 false),(.sl 7 1048576 false)]⟩ e at h
 cases h with
 | ag hs =>
  obtain ⟨_,_,rfl,h0,hs1⟩ := cs_cons hs
  obtain ⟨v0,rfl,_⟩ := lf_str h0
  obtain ⟨_,_,rfl,h1,hs2⟩ := cs_cons hs1
  obtain ⟨v1,rfl,_⟩ := lf_str h1
  obtain ⟨_,_,rfl,h2,hs3⟩ := cs_cons hs2
  obtain ⟨v2,rfl⟩ := lf_int h2
  obtain ⟨_,_,rfl,h3,hs4⟩ := cs_cons hs3
  obtain ⟨v3,rfl⟩ := lf_int h3
  obtain ⟨_,_,rfl,h4,hs5⟩ := cs_cons hs4
  obtain ⟨v4,rfl⟩ := lf_bool h4
  obtain ⟨_,_,rfl,h5,hs6⟩ := cs_cons hs5
  obtain ⟨v5,rfl⟩ := lf_int h5
  obtain ⟨_,_,rfl,h6,hs7⟩ := cs_cons hs6
  obtain ⟨v6,rfl⟩ := lf_int h6
  obtain ⟨_,_,rfl,h7,hs8⟩ := cs_cons hs7
  obtain ⟨v7,rfl,_⟩ := lf_str h7
  obtain ⟨_,_,rfl,h8,hs9⟩ := cs_cons hs8
  obtain ⟨es8,rfl,he8,_⟩ := lf_sl h8
  obtain ⟨_,_,rfl,h9,hs10⟩ := cs_cons hs9
  obtain ⟨es9,rfl,he9,_⟩ := lf_sl h9
  cases cs_nil hs10
  obtain ⟨v8,rfl⟩ := dec_list (f := encValue) (fun e he => decValue (he8 e he))
  obtain ⟨v9,rfl⟩ := dec_list (f := encMember) (fun e he => decMember (he9 e he))
  exact ⟨⟨v0,⟨v1,v2,v3⟩,v4,⟨v5,v6,v7,v8,v9⟩⟩,by rw [encVarDef_eq]⟩
theorem decSel' : ∀ n : Nat,∀ e : PV,psize e ≤ n → ElOk tτ (elOf tτ 12) e → ∃ x,e = encSel x := by
 intro n
 induction n with
 | zero =>
  intro e hp
  exfalso; cases e <;> simp only [psize] at hp <;> omega
 | succ n ihSel =>
  intro e hp h
  change ElOk tτ ⟨true,[(.int .i64),.str,.str,(.sl 7 1048576 false),(.sl 8 1048576 false),.str,(.sl 12 1048576 false)]⟩ e at h
  cases h with
  | ag hs =>
   obtain ⟨_,_,rfl,h0,hs1⟩ := cs_cons hs
   obtain ⟨v0,rfl⟩ := lf_int h0
   obtain ⟨_,_,rfl,h1,hs2⟩ := cs_cons hs1
   obtain ⟨v1,rfl,_⟩ := lf_str h1
   obtain ⟨_,_,rfl,h2,hs3⟩ := cs_cons hs2
   obtain ⟨v2,rfl,_⟩ := lf_str h2
   obtain ⟨_,_,rfl,h3,hs4⟩ := cs_cons hs3
   obtain ⟨es3,rfl,he3,_⟩ := lf_sl h3
   obtain ⟨_,_,rfl,h4,hs5⟩ := cs_cons hs4
   obtain ⟨es4,rfl,he4,_⟩ := lf_sl h4
   obtain ⟨_,_,rfl,h5,hs6⟩ := cs_cons hs5
   obtain ⟨v5,rfl,_⟩ := lf_str h5
   obtain ⟨_,_,rfl,h6,hs7⟩ := cs_cons hs6
   obtain ⟨es6,rfl,he6,_⟩ := lf_sl h6
   cases cs_nil hs7
   obtain ⟨v3,rfl⟩ := dec_list (f := encMember) (fun e he => decMember (he3 e he))
   obtain ⟨v4,rfl⟩ := dec_list (f := encDir) (fun e he => decDir (he4 e he))
   obtain ⟨v6,rfl⟩ := dec_list (f := encSel) (fun e he => ihSel e (by have := psizes_mem he; simp only [psize,psizes] at hp; omega) (he6 e he))
   exact ⟨⟨v0,v1,v2,v3,v4,v5,v6⟩,by rw [encSel_eq]⟩
theorem decSel {e : PV} (h : ElOk tτ (elOf tτ 12) e) : ∃ x,e = encSel x := decSel' (psize e) e (Nat.le_refl _) h
theorem decOp {e : PV} (h : ElOk tτ (elOf tτ 10) e) : ∃ x,e = encOp x := by
 change ElOk tτ ⟨true,[(.int .i64),.str,(.sl 11 1048576 false),(.sl 8 1048576 false),(.sl 12 1048576 false)]⟩ e at h
 cases h with
 | ag hs =>
  obtain ⟨_,_,rfl,h0,hs1⟩ := cs_cons hs
  obtain ⟨v0,rfl⟩ := lf_int h0
  obtain ⟨_,_,rfl,h1,hs2⟩ := cs_cons hs1
  obtain ⟨v1,rfl,_⟩ := lf_str h1
  obtain ⟨_,_,rfl,h2,hs3⟩ := cs_cons hs2
  obtain ⟨es2,rfl,he2,_⟩ := lf_sl h2
  obtain ⟨_,_,rfl,h3,hs4⟩ := cs_cons hs3
  obtain ⟨es3,rfl,he3,_⟩ := lf_sl h3
  obtain ⟨_,_,rfl,h4,hs5⟩ := cs_cons hs4
  obtain ⟨es4,rfl,he4,_⟩ := lf_sl h4
  cases cs_nil hs5
  obtain ⟨v2,rfl⟩ := dec_list (f := encVarDef) (fun e he => decVarDef (he2 e he))
  obtain ⟨v3,rfl⟩ := dec_list (f := encDir) (fun e he => decDir (he3 e he))
  obtain ⟨v4,rfl⟩ := dec_list (f := encSel) (fun e he => decSel (he4 e he))
  exact ⟨⟨v0,v1,v2,v3,v4⟩,by rw [encOp_eq]⟩
theorem decFrag {e : PV} (h : ElOk tτ (elOf tτ 13) e) : ∃ x,e = encFrag x := by
 change ElOk tτ ⟨true,[.str,.str,(.sl 8 1048576 false),(.sl 12 1048576 false)]⟩ e at h
 cases h with
 | ag hs =>
  obtain ⟨_,_,rfl,h0,hs1⟩ := cs_cons hs
  obtain ⟨v0,rfl,_⟩ := lf_str h0
  obtain ⟨_,_,rfl,h1,hs2⟩ := cs_cons hs1
  obtain ⟨v1,rfl,_⟩ := lf_str h1
  obtain ⟨_,_,rfl,h2,hs3⟩ := cs_cons hs2
  obtain ⟨es2,rfl,he2,_⟩ := lf_sl h2
  obtain ⟨_,_,rfl,h3,hs4⟩ := cs_cons hs3
  obtain ⟨es3,rfl,he3,_⟩ := lf_sl h3
  cases cs_nil hs4
  obtain ⟨v2,rfl⟩ := dec_list (f := encDir) (fun e he => decDir (he2 e he))
  obtain ⟨v3,rfl⟩ := dec_list (f := encSel) (fun e he => decSel (he3 e he))
  exact ⟨⟨v0,v1,v2,v3⟩,by rw [encFrag_eq]⟩
theorem decDoc {e : PV} (h : ElOk tτ (elOf tτ 9) e) : ∃ x,e = encDoc x := by
 change ElOk tτ ⟨true,[(.sl 10 1048576 false),(.sl 13 1048576 false)]⟩ e at h
 cases h with
 | ag hs =>
  obtain ⟨_,_,rfl,h0,hs1⟩ := cs_cons hs
  obtain ⟨es0,rfl,he0,_⟩ := lf_sl h0
  obtain ⟨_,_,rfl,h1,hs2⟩ := cs_cons hs1
  obtain ⟨es1,rfl,he1,_⟩ := lf_sl h1
  cases cs_nil hs2
  obtain ⟨v0,rfl⟩ := dec_list (f := encOp) (fun e he => decOp (he0 e he))
  obtain ⟨v1,rfl⟩ := dec_list (f := encFrag) (fun e he => decFrag (he1 e he))
  exact ⟨⟨v0,v1⟩,by rw [encDoc_eq]⟩
end Go.Proofs.YtphmfillajagdaaGreat
open Go Go.Ev Go.Ev.PV
set_option maxRecDepth 100000
namespace Go.Proofs.YtphmfillajagdaaGreat
def S1_Codes : Summ := sv1 [E11'] [⟨false,[.sl 1 1073741824 false]⟩,E2']
def S1_numeral : Summ := sv1 [E11'] [E8',E8']
def S9_right : Summ := sv2 [E0',E5',E1',E2'] [E2']
def S9_rule8 : Summ := sv2 [E0'] [E2']
def S1_vars : Summ := sv2 [E1',⟨false,[.sl 0 16777216 true]⟩] [⟨false,[.sl 0 16777216 true]⟩]
def S3_Spots : Summ := sv2 [E0',E4'] [⟨false,[.sl 16 4194304 false]⟩]
def S3_Reach : Summ := sv2 [E4',⟨false,[.sl 12 16777216 false]⟩] [E9']
open Go Go.Ev
theorem s6_awake_ok : s6_awake = some true := s6_awake_run 100 (by kernel_rfl)
theorem fs_any {α β : Type} (p : α → Bool) (g : α → β) : ∀ l : List α,(l.any p = true ∧ ∃ x,l.findSome? (fun x => bif p x then some (g x) else none) = some (g x)) ∨ (l.any p = false ∧ l.findSome? (fun x => bif p x then some (g x) else none) = none)
 | [] => .inr ⟨rfl,rfl⟩
 | x :: l => by
  rw [List.findSome?_cons,List.any_cons]
  cases hp : p x
  ·simpa using fs_any p g l
  ·exact .inl ⟨by simp,x,rfl⟩
def hasM (name : Str) (l : List GMember) : Bool := l.any fun x => x.name == name
def hasP (name : Str) (l : List GParam) : Bool := l.any fun x => x.name == name
theorem value_Get_ok (name : Str) (l : List GMember) (hl : Sm l) : ∃ v, value_Get name l = some (v, hasM name l) := by
 have h := loop_find (b := value_Get_l1T name l) l (fun x => bif x.name == name then some (.inr (x.v.kind, x.v.n, x.v.s, x.v.l, x.v.m)) else none) (.inl ()) hl (by simp only [value_Get_l1T, end_lt, cnd_f])
  (fun k x hx h1 h2 h3 => by
   simp only [value_Get_l1T, h1, h2, h3, bnd_s, cnd_t]
   cases x.name == name <;> rfl)
 rcases fs_any (fun x : GMember => x.name == name) (fun x => (.inr (x.v.kind, x.v.n, x.v.s, x.v.l, x.v.m) : Unit ⊕ (Int × Int × Str × (List GValue) × (List GMember)))) l with ⟨ha, x, hx⟩ | ⟨ha, hx⟩
 ·refine ⟨x.v, value_Get_run (r := (x.v, hasM name l)) ?_⟩
  simp only [value_Get_B, h, hx, Option.getD_some, bnd_s, elim_inr, hasM, ha]
  obtain ⟨nm, ⟨_, _, _, _, _⟩⟩ := x; rfl
 ·refine ⟨GValue.mk 0 0 [] [] [], value_Get_run (r := (GValue.mk 0 0 [] [] [], hasM name l)) ?_⟩
  simp only [value_Get_B, h, hx, Option.getD_none, bnd_s, elim_inl, hasM, ha]
theorem r1_Get_ok (name : Str) (l : List GMember) (hl : Sm l) : ∃ v, r1_Get name l = some (v, hasM name l) := by
 have h := loop_find (b := r1_Get_l1T name l) l (fun x => bif x.name == name then some (.inr (x.v.kind, x.v.n, x.v.s, x.v.l, x.v.m)) else none) (.inl ()) hl (by simp only [r1_Get_l1T, end_lt, cnd_f])
  (fun k x hx h1 h2 h3 => by
   simp only [r1_Get_l1T, h1, h2, h3, bnd_s, cnd_t]
   cases x.name == name <;> rfl)
 rcases fs_any (fun x : GMember => x.name == name) (fun x => (.inr (x.v.kind, x.v.n, x.v.s, x.v.l, x.v.m) : Unit ⊕ (Int × Int × Str × (List GValue) × (List GMember)))) l with ⟨ha, x, hx⟩ | ⟨ha, hx⟩
 ·refine ⟨x.v, r1_Get_run (r := (x.v, hasM name l)) ?_⟩
  simp only [r1_Get_B, h, hx, Option.getD_some, bnd_s, elim_inr, hasM, ha]
  obtain ⟨nm, ⟨_, _, _, _, _⟩⟩ := x; rfl
 ·refine ⟨GValue.mk 0 0 [] [] [], r1_Get_run (r := (GValue.mk 0 0 [] [] [], hasM name l)) ?_⟩
  simp only [r1_Get_B, h, hx, Option.getD_none, bnd_s, elim_inl, hasM, ha]
theorem r9_Param_ok (name : Str) (l : List GParam) (hl : Sm l) : ∃ v, r9_Param l name = some (v, hasP name l) := by
 have h := loop_find (b := r9_Param_l1T l name) l (fun x => bif x.name == name then some (.inr (x.name, x.t.name, x.t.lists, x.t.musts, x.has, x.default.kind, x.default.n, x.default.s, x.default.l, x.default.m)) else none) (.inl ()) hl (by simp only [r9_Param_l1T, end_lt, cnd_f])
  (fun k x hx h1 h2 h3 => by
   simp only [r9_Param_l1T, h1, h2, h3, bnd_s, cnd_t]
   cases x.name == name <;> rfl)
 rcases fs_any (fun x : GParam => x.name == name) (fun x => (.inr (x.name, x.t.name, x.t.lists, x.t.musts, x.has, x.default.kind, x.default.n, x.default.s, x.default.l, x.default.m) : Unit ⊕ (Str × Str × Int × Int × Bool × Int × Int × Str × (List GValue) × (List GMember)))) l with ⟨ha, x, hx⟩ | ⟨ha, hx⟩
 ·refine ⟨x, r9_Param_run (r := (x, hasP name l)) ?_⟩
  simp only [r9_Param_B, h, hx, Option.getD_some, bnd_s, elim_inr, hasP, ha]
  obtain ⟨nm, t, has, ⟨_, _, _, _, _⟩⟩ := x; rfl
 ·refine ⟨GParam.mk [] (GType.mk [] 0 0) false (GValue.mk 0 0 [] [] []), r9_Param_run (r := (GParam.mk [] (GType.mk [] 0 0) false (GValue.mk 0 0 [] [] []), hasP name l)) ?_⟩
  simp only [r9_Param_B, h, hx, Option.getD_none, bnd_s, elim_inl, hasP, ha]
theorem indexFunc_ok (s : List GParam) (hl : Sm s) (name : Str) : ∃ i,sx_Param s [] [] 0 0 false 0 0 [] name = some i ∧ ((hasP name s = false ∧ i = -1) ∨ (hasP name s = true ∧ ∃ x,0 ≤ i ∧ nthI s i = some x)) := by
 have h1 : ∀ p : GParam,li_Param_1 p [] [] 0 0 false 0 0 [] name = some (p.name == name) := fun p => li_Param_1_run (by simp only [li_Param_1_B])
 have key : ∀ (n k : Nat),s.length - k ≤ n → k ≤ s.length → ∃ r,tloop (sx_Param_l1T s [] [] 0 0 false 0 0 [] name) (k : Int) = some r ∧ ((hasP name (s.drop k) = false ∧ r = .inl ()) ∨ (hasP name (s.drop k) = true ∧ ∃ (i : Int) (x : GParam),r = .inr i ∧ 0 ≤ i ∧ nthI s i = some x)) := by
  intro n
  induction n with
  | zero =>
   intro k h2 h3
   have : k = s.length := by omega
   subst this
   refine ⟨.inl (),?_,.inl ⟨by simp [hasP],rfl⟩⟩
   exact tloop_exit (by simp only [sx_Param_l1T,end_lt,cnd_f])
  | succ n ih =>
   intro k h2 h3
   by_cases hk : k = s.length
   ·subst hk
    refine ⟨.inl (),?_,.inl ⟨by simp [hasP],rfl⟩⟩
    exact tloop_exit (by simp only [sx_Param_l1T,end_lt,cnd_f])
   ·have hlt : k < s.length := by omega
    have e1 : nthI s (k : Int) = some s[k] := by rw [nthI_nat]; exact List.getElem?_eq_getElem hlt
    have e2 : decide ((k : Int) < (s.length : Int)) = true := by simp; omega
    have e3 : IntKind.wrap .i64 ((k : Int) + 1) = ((k + 1 : Nat) : Int) := wadd (by have := hl; unfold Sm at this; omega)
    have e4 : hasP name (s.drop k) = (s[k].name == name || hasP name (s.drop (k + 1))) := by
     rw [List.drop_eq_getElem_cons hlt]; simp only [hasP,List.any_cons]
    rw [e4]
    cases hc : s[k].name == name
    ·obtain ⟨r,hr,h4⟩ := ih (k + 1) (by omega) (by omega)
     refine ⟨r,?_,by simpa using h4⟩
     rw [tloop_next (s' := ((k + 1 : Nat) : Int)) (by simp only [sx_Param_l1T,e1,e2,e3,bnd_s,cnd_t,h1,hc,cnd_f])]
     exact hr
    ·exact ⟨.inr k,tloop_exit (by simp only [sx_Param_l1T,e1,e2,bnd_s,cnd_t,h1,hc]),.inr ⟨by simp,k,_,rfl,by omega,e1⟩⟩
 obtain ⟨r,hr,h⟩ := key s.length 0 (by omega) (by omega)
 rw [List.drop_zero] at h
 rcases h with ⟨h2,rfl⟩ | ⟨h2,i,x,rfl,h3,h4⟩
 ·exact ⟨-1,sx_Param_run (by simp only [sx_Param_B]; rw [show tloop (sx_Param_l1T s [] [] 0 0 false 0 0 [] name) 0 = _ from hr]; rfl),.inl ⟨h2,rfl⟩⟩
 ·exact ⟨i,sx_Param_run (by simp only [sx_Param_B]; rw [show tloop (sx_Param_l1T s [] [] 0 0 false 0 0 [] name) 0 = _ from hr]; rfl),.inr ⟨h2,x,h3,h4⟩⟩
theorem li_Param_ok (name : Str) (l : List GParam) (hl : Sm l) : ∃ v,li_Param l name = some (v,hasP name l) := by
 obtain ⟨i,hi,h⟩ := indexFunc_ok l hl name
 rcases h with ⟨h1,rfl⟩ | ⟨h1,x,h2,h3⟩
 ·refine ⟨GParam.mk [] (GType.mk [] 0 0) false (GValue.mk 0 0 [] [] []),li_Param_run (r := (_,_)) ?_⟩
  simp only [li_Param_B,hi,bnd_s,h1]; rfl
 ·refine ⟨x,li_Param_run (r := (_,_)) ?_⟩
  have : decide (i < 0) = false := by simp; omega
  simp only [li_Param_B,hi,bnd_s,h1,this,cnd_f,h3]
def knownD (l : List GParam) (m : List GMember) : Bool := m.all fun x => hasP x.name l
def neededD (l : List GParam) (m : List GMember) : Bool := l.all fun p => hasM p.name m || !(isT p.t && !p.has)
theorem ar_Known_i1_ok (l : List GParam) (m : List GMember) (hl : Sm l) (hm : Sm m) : ar_Known_i1 l m = some (knownD l m) := by
 apply ar_Known_i1_run
 have h := loop_idx (b := ar_Known_i1_l1T l m) m (fun r => bif r.all fun x => hasP x.name l then (.inl () : Unit ⊕ Unit) else .inr ()) hm (by simp only [ar_Known_i1_l1T, end_lt, cnd_f]; rfl)
  (fun k x r hx h1 h2 h3 => by
   obtain ⟨v, hv⟩ := li_Param_ok x.name l hl
   simp only [ar_Known_i1_l1T, h1, h2, h3, bnd_s, cnd_t, hv, List.all_cons]
   cases hasP x.name l
   ·left; rfl
   ·right; exact ⟨rfl, rfl⟩)
 simp only [ar_Known_i1_B, h, bnd_s, knownD]
 cases m.all fun x => hasP x.name l <;> rfl
theorem r3_Known_ok (l : List GParam) (m : List GMember) (hl : Sm l) (hm : Sm m) : r3_Known l m = some (knownD l m) := by
 apply r3_Known_run
 have h := loop_idx (b := r3_Known_l1T l m) m (fun r => bif r.all fun x => hasP x.name l then (.inl () : Unit ⊕ Unit) else .inr ()) hm (by simp only [r3_Known_l1T, end_lt, cnd_f]; rfl)
  (fun k x r hx h1 h2 h3 => by
   obtain ⟨v, hv⟩ := r9_Param_ok x.name l hl
   simp only [r3_Known_l1T, h1, h2, h3, bnd_s, cnd_t, hv, List.all_cons]
   cases hasP x.name l
   ·left; rfl
   ·right; exact ⟨rfl, rfl⟩)
 simp only [r3_Known_B, h, bnd_s, knownD]
 cases m.all fun x => hasP x.name l <;> rfl
theorem li_Required_ok (p : GParam) (h : TOk p.t) : li_Required p = some (isT p.t && !p.has) := by
 apply li_Required_run
 simp only [li_Required_B,wrap_Is_ok _ h,bnd_s]
 cases isT p.t <;> rfl
theorem ar_Needed_ok (l : List GParam) (m : List GMember) (hl : Sm l) (hm : Sm m) (ht : ∀ p ∈ l, TOk p.t) : ar_Needed l m = some (neededD l m) := by
 apply ar_Needed_run
 have h := loop_idx (b := ar_Needed_l1T l m) l (fun r => bif r.all fun p => hasM p.name m || !(isT p.t && !p.has) then (.inl () : Unit ⊕ Unit) else .inr ()) hl (by simp only [ar_Needed_l1T, end_lt, cnd_f]; rfl)
  (fun k x r hx h1 h2 h3 => by
   obtain ⟨v, hv⟩ := value_Get_ok x.name m hm
   simp only [ar_Needed_l1T, h1, h2, h3, bnd_s, cnd_t, hv, List.all_cons, li_Required_ok x (ht x hx)]
   cases hasM x.name m
   ·cases isT x.t && !x.has
    ·right; exact ⟨rfl, rfl⟩
    ·left; rfl
   ·right; exact ⟨rfl, rfl⟩)
 simp only [ar_Needed_B, h, bnd_s, neededD]
 cases l.all fun p => hasM p.name m || !(isT p.t && !p.has) <;> rfl
theorem r3_Needed_ok (l : List GParam) (m : List GMember) (hl : Sm l) (hm : Sm m) (ht : ∀ p ∈ l, TOk p.t) : r3_Needed l m = some (neededD l m) := by
 apply r3_Needed_run
 have h := loop_idx (b := r3_Needed_l1T l m) l (fun r => bif r.all fun p => hasM p.name m || !(isT p.t && !p.has) then (.inl () : Unit ⊕ Unit) else .inr ()) hl (by simp only [r3_Needed_l1T, end_lt, cnd_f]; rfl)
  (fun k x r hx h1 h2 h3 => by
   obtain ⟨v, hv⟩ := r1_Get_ok x.name m hm
   simp only [r3_Needed_l1T, h1, h2, h3, bnd_s, cnd_t, hv, List.all_cons, r1_Is_ok _ (ht x hx)]
   cases hasM x.name m
   ·cases isT x.t
    ·right; exact ⟨rfl, rfl⟩
    ·cases x.has
     ·left; rfl
     ·right; exact ⟨rfl, rfl⟩
   ·right; exact ⟨rfl, rfl⟩)
 simp only [r3_Needed_B, h, bnd_s, neededD]
 cases l.all fun p => hasM p.name m || !(isT p.t && !p.has) <;> rfl
def onceA : List GMember → List GMember → Bool
 | _,[] => true
 | a,x :: r => !hasM x.name a && onceA (a ++ [x]) r
def onceD (m : List GMember) : Bool := onceA [] m
theorem take_next {α : Type} {l : List α} {k : Nat} {x : α} {r : List α} (h : l.drop k = x :: r) (hk : k < l.length) : l.take k ++ [x] = l.take (k + 1) := by
 rw [List.take_succ_eq_append_getElem hk]
 rw [List.drop_eq_getElem_cons hk] at h
 rw [(List.cons.inj h).1]
theorem tslc_take {α : Type} (l : List α) (k : Nat) (h : k ≤ l.length) : tslc l 0 (k : Int) = some (l.take k) := by
 unfold tslc
 simp; omega
theorem ar_Once_i1_ok (m : List GMember) (hm : Sm m) : ar_Once_i1 m = some (onceD m) := by
 apply ar_Once_i1_run
 have h := loop_list (b := ar_Once_i1_l1T m) m (fun k (_ : List GMember) => (k : Int)) (fun r a => bif onceA a r then (.inl () : Unit ⊕ Unit) else .inr ()) (fun k a => a = m.take k) hm
  (fun a ha => by simp only [ar_Once_i1_l1T, end_lt, cnd_f]; rfl)
  (fun k x r a hx hk hd h1 h2 h3 ha => by
   subst ha
   obtain ⟨v, hv⟩ := value_Get_ok x.name (m.take k) (by have := hm; unfold Sm at *; simp; omega)
   simp only [ar_Once_i1_l1T, h1, h2, h3, bnd_s, cnd_t, tslc_take m k (by omega), hv, onceA, take_next hd hk]
   cases hasM x.name (m.take k)
   ·right; exact ⟨_, rfl, rfl, rfl⟩
   ·left; rfl) (s := 0) (a := []) rfl rfl
 simp only [ar_Once_i1_B, h, bnd_s, onceD]
 cases onceA [] m <;> rfl
theorem beq_flip (a b : Str) : (a == b) = (b == a) := by rw [Bool.eq_iff_iff]; simp only [beq_iff_eq]; exact ⟨Eq.symm,Eq.symm⟩
theorem once_inner (m : List GMember) (hm : Sm m) (i : Nat) (x : GMember) (hi : i < m.length) (hx : nthI m (i : Int) = some x) :
  tloop (r3_Once_l1T m (i : Int)) 0 = some (bif hasM x.name (m.take i) then (.inr () : Unit ⊕ Unit) else .inl ()) := by
 have hlen : (m.take i).length = i := by simp; omega
 have h := loop_idx (b := r3_Once_l1T m (i : Int)) (m.take i) (fun r => bif hasM x.name r then (.inr () : Unit ⊕ Unit) else .inl ()) (by have := hm; unfold Sm at *; simp; omega)
  (by simp only [r3_Once_l1T, hlen, end_lt, cnd_f]; rfl)
  (fun k y r hy h1 h2 h3 => by
   rw [hlen] at h1
   have hk : k < i := by simpa using h1
   have h2' : nthI m (k : Int) = some y := by
    rw [nthI_nat] at h2 ⊢
    rw [List.getElem?_take, if_pos hk] at h2; exact h2
   simp only [r3_Once_l1T, h1, h2', h3, hx, bnd_s, cnd_t, hasM, List.any_cons, beq_flip x.name y.name]
   cases y.name == x.name
   ·right; exact ⟨rfl, rfl⟩
   ·left; rfl)
 exact h
theorem r3_Once_ok (m : List GMember) (hm : Sm m) : r3_Once m = some (onceD m) := by
 apply r3_Once_run
 have h := loop_list (b := r3_Once_l2T m) m (fun k (_ : List GMember) => (k : Int)) (fun r a => bif onceA a r then (.inl () : Unit ⊕ Unit) else .inr ()) (fun k a => a = m.take k) hm
  (fun a ha => by simp only [r3_Once_l2T, end_lt, cnd_f]; rfl)
  (fun k x r a hx hk hd h1 h2 h3 ha => by
   subst ha
   simp only [r3_Once_l2T, h1, h3, bnd_s, cnd_t, once_inner m hm k x hk h2, onceA, take_next hd hk]
   cases hasM x.name (m.take k)
   ·right; exact ⟨_, rfl, rfl, rfl⟩
   ·left; rfl) (s := 0) (a := []) rfl rfl
 simp only [r3_Once_B, h, bnd_s, onceD]
 cases onceA [] m <;> rfl
mutual
def varN : GValue → List Str
 | ⟨k,_,s,l,m⟩ => bif k == 8 then [s] else bif k == 6 then varNs l else bif k == 7 then varNm m else []
def varNs : List GValue → List Str
 | [] => []
 | x :: l => varN x ++ varNs l
def varN1 : GMember → List Str
 | ⟨_,v⟩ => varN v
def varNm : List GMember → List Str
 | [] => []
 | x :: l => varN1 x ++ varNm l
end
theorem varN_eq (v : GValue) : varN v = bif v.kind == 8 then [v.s] else bif v.kind == 6 then varNs v.l else bif v.kind == 7 then varNm v.m else [] := by cases v; simp only [varN]
theorem varN1_eq (x : GMember) : varN1 x = varN x.v := by cases x; simp only [varN1]
mutual
theorem varN_sz : ∀ v : GValue,(varN v).length ≤ szV v
 | ⟨k,n,s,l,m⟩ => by
  have h1 := varNs_sz l
  have h2 := varNm_sz m
  simp only [varN,szV]
  cases k == 8 <;> cases k == 6 <;> cases k == 7 <;> simp only [cond_true,cond_false,List.length_nil,List.length_singleton] <;> omega
theorem varNs_sz : ∀ l : List GValue,(varNs l).length ≤ szVs l
 | [] => by simp [varNs]
 | x :: l => by have := varN_sz x; have := varNs_sz l; simp only [varNs,szVs,List.length_append]; omega
theorem varN1_sz : ∀ x : GMember,(varN1 x).length ≤ szM x
 | ⟨n,v⟩ => by have := varN_sz v; simp only [varN1,szM]; omega
theorem varNm_sz : ∀ l : List GMember,(varNm l).length ≤ szMs l
 | [] => by simp [varNm]
 | x :: l => by have := varN1_sz x; have := varNm_sz l; simp only [varNm,szMs,List.length_append]; omega
end
theorem addD_once {l : List Str} {x : Str} (h : x ∈ l) : addD l x = l := by unfold addD; rw [List.contains_iff_mem.2 h]; rfl
theorem addD_new {l : List Str} {x : Str} (h : x ∉ l) : addD l x = l ++ [x] := by
 have : l.contains x = false := by rw [Bool.eq_false_iff]; intro hc; exact h (List.contains_iff_mem.1 hc)
 unfold addD; rw [this]; rfl
theorem twice_aux : ∀ (L a out : List Str),(L.foldl addD a).foldl addD out = L.foldl addD (a.foldl addD out)
 | [],a,out => rfl
 | x :: L,a,out => by
  rw [List.foldl_cons,twice_aux L (addD a x) out,List.foldl_cons]
  congr 1
  by_cases h : x ∈ a
  ·rw [addD_once h,addD_once ((foldA_mem _ _ _).2 (.inr h))]
  ·rw [addD_new h,List.foldl_append]; rfl
theorem twice (L out : List Str) : (L.foldl addD []).foldl addD out = L.foldl addD out := twice_aux L [] out
theorem r1_vars_ok' : ∀ (n : Nat) (v : GValue) (l : List Str), szV v ≤ n → l.length + szV v < 1073741824 → r1_vars v l = some ((varN v).foldl addD l) := by
 intro n
 induction n with
 | zero => intro v l h; have := szV_eq v; omega
 | succ n ih =>
  intro v l h hl
  have hv := szV_eq v
  have h1 := szVs_len v.l
  have h2 := szMs_len v.m
  have stop : ∀ (F : Bool), (v.kind == 6) = F → True := fun _ _ => trivial
  apply r1_vars_run
  unfold r1_vars_B
  rw [varN_eq]
  have stay5 : ∀ a : List Str, (v.kind == 6) = false → tloop (r1_vars_l1T v) (a, 0) = some a := by
   intro a h6
   apply tloop_exit
   simp only [r1_vars_l1T, h6, cnd_f, cnd_same]
  have stay6 : ∀ a : List Str, (v.kind == 7) = false → tloop (r1_vars_l2T v) (a, 0) = some a := by
   intro a h7
   apply tloop_exit
   simp only [r1_vars_l2T, h7, cnd_f, cnd_same]
  cases h8 : v.kind == 8
  ·cases h6 : v.kind == 6
   ·cases h7 : v.kind == 7
    ·simp only [cnd_f, cond_false, stay5 l h6, stay6 l h7, bnd_s]; rfl
    ·have key := loop_list (b := r1_vars_l2T v) v.m (fun k (a : List Str) => (a, (k : Int))) (fun r a => (varNm r).foldl addD a) (fun k a => a.length + szMs (v.m.drop k) < 1073741824) (by show v.m.length < _; omega)
      (by intro a _; simp [r1_vars_l2T, varNm])
      (by
       intro k x r a hm hk hd e1 e2 e3 hI
       rw [hd] at hI
       simp only [szMs] at hI
       have hdr : v.m.drop (k + 1) = r := by rw [← List.tail_drop, hd]; rfl
       have hx := szMs_mem hm
       have hx2 := szM_eq x
       have hb := varN_sz x.v
       have hf := foldA_len (varN x.v) a
       refine .inr ⟨(varN x.v).foldl addD a, ?_, ?_, ?_⟩
       ·simp only [r1_vars_l2T, h7, e1, cnd_t, e2, bnd_s, e3, ih x.v a (by omega) (by omega)]
       ·rw [hdr]; omega
       ·simp only [varNm, varN1_eq, List.foldl_append]) (s := (l, 0)) (a := l) rfl (by simp; omega)
     simp only [cnd_f, cnd_t, cond_false, cond_true, stay5 l h6, key, bnd_s]
   ·have key := loop_list (b := r1_vars_l1T v) v.l (fun k (a : List Str) => (a, (k : Int))) (fun r a => (varNs r).foldl addD a) (fun k a => a.length + szVs (v.l.drop k) < 1073741824) (by show v.l.length < _; omega)
     (by intro a _; simp [r1_vars_l1T, varNs])
     (by
      intro k x r a hm hk hd e1 e2 e3 hI
      rw [hd] at hI
      simp only [szVs] at hI
      have hdr : v.l.drop (k + 1) = r := by rw [← List.tail_drop, hd]; rfl
      have hx := szVs_mem hm
      have hb := varN_sz x
      have hf := foldA_len (varN x) a
      refine .inr ⟨(varN x).foldl addD a, ?_, ?_, ?_⟩
      ·simp only [r1_vars_l1T, h6, e1, cnd_t, e2, bnd_s, e3, ih x a (by omega) (by omega)]
      ·rw [hdr]; omega
      ·simp only [varNs, List.foldl_append]) (s := (l, 0)) (a := l) rfl (by simp; omega)
    have h7 : (v.kind == 7) = false := by
     have : v.kind = 6 := by simpa using h6
     rw [this]; rfl
    simp only [cnd_f, cnd_t, cond_false, cond_true, key, stay6 _ h7, bnd_s]
  ·have ht : tapp l [v.s] = some (l ++ [v.s]) := tapp_ok (by simp [lim_val]; omega)
   have hk : v.kind = 8 := by simpa using h8
   have h6 : (v.kind == 6) = false := by rw [hk]; rfl
   have h7 : (v.kind == 7) = false := by rw [hk]; rfl
   have s1 : ∀ a : List Str, tloop (r1_vars_l1T v) (a, 0) = some a := by
    intro a; apply tloop_exit; simp only [r1_vars_l1T, h6, cnd_f, cnd_same]
   have s2 : ∀ a : List Str, tloop (r1_vars_l2T v) (a, 0) = some a := by
    intro a; apply tloop_exit; simp only [r1_vars_l2T, h7, cnd_f, cnd_same]
   have s3 : ∀ a : List Str, tloop (r1_vars_l1T v) (a, 0) = some a := by
    intro a; apply tloop_exit; simp only [r1_vars_l1T, h6, cnd_f, cnd_same]
   have s4 : ∀ a : List Str, tloop (r1_vars_l2T v) (a, 0) = some a := by
    intro a; apply tloop_exit; simp only [r1_vars_l2T, h7, cnd_f, cnd_same]
   simp only [cnd_t, cond_true, r1_Has_ok l v.s (by show l.length < _; omega), bnd_s, ht, s1, s2, s3, s4, List.foldl_cons, List.foldl_nil, addD]
   cases l.contains v.s <;> rfl
theorem r3_Frag_ok (d : GDoc) (n : Str) (hl : Sm d.frags) : r3_Frag d n = some (fragD d n) := by
 apply r3_Frag_run
 have key := loop_find (b := r3_Frag_l1T d n) d.frags (fun f => if f.name == n then some (Sum.inr (f.name, f.on_, f.dirs, f.sels)) else none) (.inl ()) hl
  (by simp [r3_Frag_l1T])
  (by
   intro k x hm e1 e2 e3
   simp only [r3_Frag_l1T, e1, cnd_t, e2, bnd_s, e3]
   cases x.name == n <;> rfl)
 have hf := find_some d.frags (fun f => f.name == n) (fun f => (Sum.inr (f.name, f.on_, f.dirs, f.sels) : Unit ⊕ (Str × Str × (List GDir) × (List GSel))))
 rw [hf] at key
 simp only [r3_Frag_B, key, bnd_s, fragD]
 cases d.frags.find? (fun f => f.name == n) <;> rfl
theorem spreads_ok' : ∀ (n : Nat) (sels : List GSel) (l : List Str), bkSels sels ≤ n → l.length + bkSels sels < 1073741824 → r3_spreads sels l = some ((namesS sels).foldl addD l) := by
 intro n
 induction n with
 | zero =>
  intro sels l h hl
  have := bkSels_len sels
  have hs : sels = [] := List.length_eq_zero_iff.1 (by omega)
  subst hs
  apply r3_spreads_run
  unfold r3_spreads_B
  rw [tloop_exit (r := l) (by simp [r3_spreads_l1T])]
  rfl
 | succ n ih =>
  intro sels l h hl
  apply r3_spreads_run
  unfold r3_spreads_B
  have hlen := bkSels_len sels
  have key := loop_list (b := r3_spreads_l1T sels) sels (fun k (a : List Str) => (a, (k : Int))) (fun r a => (namesS r).foldl addD a) (fun k a => a.length + bkSels (sels.drop k) < 1073741824) (by show sels.length < _; omega)
   (by intro a _; simp [r3_spreads_l1T, namesS])
   (by
    intro k x r a hm hk hd h1 h2 h3 hI
    rw [hd] at hI
    simp only [bkSels] at hI
    have hdr : sels.drop (k + 1) = r := by rw [← List.tail_drop, hd]; rfl
    have hx := bkSels_mem hm
    have hx2 := bkSel_sels x
    have hrec : ∀ a' : List Str, a'.length ≤ a.length + 1 → r3_spreads x.sels a' = some ((namesS x.sels).foldl addD a') := fun a' ha' => ih x.sels a' (by omega) (by omega)
    have hb := namesS1_bk x
    refine .inr ⟨(namesS1 x).foldl addD a, ?_, ?_, ?_⟩
    ·rw [namesS1_eq]
     simp only [r3_spreads_l1T, h1, cnd_t, h2, bnd_s, h3, r1_Has_ok a x.name (by show a.length < _; omega), hrec a (by omega)]
     cases x.kind == 1
     ·rfl
     ·have ht : tapp a [x.name] = some (a ++ [x.name]) := tapp_ok (by simp [lim_val]; omega)
      simp only [cnd_t, cond_true, List.cons_append, List.nil_append, List.foldl_cons, addD, ht, bnd_s, hrec (a ++ [x.name]) (by simp)]
      cases a.contains x.name <;> rfl
    ·rw [hdr]
     have := foldA_len (namesS1 x) a
     omega
    ·simp only [namesS, List.foldl_append]) (s := (l, 0)) (a := l) rfl (by simpa using hl)
  rw [key]; rfl
theorem r3_spreads_ok (sels : List GSel) (l : List Str) (h : l.length + bkSels sels < 1073741824) : r3_spreads sels l = some ((namesS sels).foldl addD l) := spreads_ok' _ sels l (Nat.le_refl _) h
theorem r3_Spreads_ok (sels : List GSel) (h : bkSels sels < 1073741824) : r3_Spreads sels = some ((namesS sels).foldl addD []) :=
 r3_Spreads_run (by simp only [r3_Spreads_B,r3_spreads_ok sels [] (by simpa using h),bnd_s])
theorem reached13_ok (d : GDoc) (sels : List GSel) (hd : bkDoc d + bkSels sels < 500000000) :
  ∃ l, tloop (r3_Reach_l1T d) ((namesS sels).foldl addD [], 0) = some l ∧ l.length < 1073741824 ∧ (∀ n ∈ namesS sels, n ∈ l) ∧ ClosedP d (· ∈ l) ∧ ∀ S : Str → Prop, (∀ n ∈ namesS sels, S n) → ClosedP d S → ∀ n ∈ l, S n := by
 have hU : (allN d sels).length ≤ bkDoc d + bkSels sels := by
  have h1 := namesS_bk sels
  have h2 := flat_len d.frags
  have h3 := bkDoc_frags d
  simp only [allN, List.length_append]; omega
 have hf := frags_len d
 have hsm : Sm d.frags := by show d.frags.length < _; omega
 have hsub : ∀ (l : List Str), l.Nodup → (∀ x ∈ l, x ∈ allN d sels) → l.length ≤ bkDoc d + bkSels sels := fun l h1 h2 => Nat.le_trans (nodup_len l _ h1 h2) hU
 refine tloop_inv (b := r3_Reach_l1T d)
  (I := fun s => ∃ i : Nat, s.2 = (i : Int) ∧ i ≤ s.1.length ∧ s.1.Nodup ∧ (∀ x ∈ s.1, x ∈ allN d sels) ∧ (∀ n ∈ namesS sels, n ∈ s.1) ∧
   (∀ (j : Nat) (n : Str), j < i → s.1[j]? = some n → (fragD d n).2 = true → ∀ m ∈ namesS (fragD d n).1.sels, m ∈ s.1) ∧ (∀ S : Str → Prop, (∀ n ∈ namesS sels, S n) → ClosedP d S → ∀ n ∈ s.1, S n))
  (m := fun s => bkDoc d + bkSels sels + 1 - s.2.toNat)
  (Q := fun l => l.length < 1073741824 ∧ (∀ n ∈ namesS sels, n ∈ l) ∧ ClosedP d (· ∈ l) ∧ ∀ S : Str → Prop, (∀ n ∈ namesS sels, S n) → ClosedP d S → ∀ n ∈ l, S n)
  (by
   rintro ⟨l, i'⟩ ⟨i, hi, hle, hnd, hall, hin, hcl, hmin⟩
   simp only at hi hle hnd hall hin hcl hmin
   subst hi
   have hlen := hsub l hnd hall
   by_cases hil : l.length ≤ i
   ·left
    refine ⟨l, ?_, by omega, hin, ?_, hmin⟩
    ·have e1 : decide ((i : Int) < (List.length l : Int)) = false := by simp; omega
     simp only [r3_Reach_l1T, e1, cnd_f]
    ·intro n hn hfr m hm
     obtain ⟨j, hj⟩ := List.mem_iff_getElem?.1 hn
     have hjl := (List.getElem?_eq_some_iff.1 hj).1
     exact hcl j n (by omega) hj hfr m hm
   ·right
    have e1 : decide ((i : Int) < (List.length l : Int)) = true := by simp; omega
    have hx := List.getElem?_eq_getElem (show i < l.length by omega)
    have e3 : IntKind.wrap .i64 ((i : Int) + 1) = ((i + 1 : Nat) : Int) := wadd (by omega)
    cases hfr : (fragD d l[i]).2
    ·refine ⟨(l, ((i + 1 : Nat) : Int)), ?_, ⟨i + 1, rfl, by simp only; omega, hnd, hall, hin, ?_, hmin⟩, ?_⟩
     ·simp only [r3_Reach_l1T, e1, cnd_t, nthI_nat, hx, bnd_s, r3_Frag_ok d _ hsm, hfr, cnd_f, e3]
     ·intro j n hj hjn hfn
      by_cases hji : j = i
      ·subst hji
       rw [hx] at hjn; cases hjn
       rw [hfr] at hfn; simp at hfn
      ·exact hcl j n (by omega) hjn hfn
     ·simp only [Int.toNat_natCast]; omega
    ·obtain ⟨hfm, _⟩ := fragD_mem hfr
     have hfb := sumL_mem bkFrag hfm
     have hfs : bkSels (fragD d l[i]).1.sels ≤ bkFrag (fragD d l[i]).1 := by rw [bkFrag_eq, bkSels_eq]; simp only [bkSl]; omega
     have hdf := bkDoc_frags d
     have hsp := r3_spreads_ok (fragD d l[i]).1.sels l (by omega)
     obtain ⟨t, ht⟩ := foldA_prefix (namesS (fragD d l[i]).1.sels) l
     refine ⟨((namesS (fragD d l[i]).1.sels).foldl addD l, ((i + 1 : Nat) : Int)), ?_, ⟨i + 1, rfl, by simp only; rw [ht]; simp only [List.length_append]; omega, foldA_nodup _ _ hnd, ?_, ?_, ?_, ?_⟩, ?_⟩
     ·simp only [r3_Reach_l1T, e1, cnd_t, nthI_nat, hx, bnd_s, r3_Frag_ok d _ hsm, hfr, hsp, e3]
     ·intro x hxm
      rcases (foldA_mem _ _ _).1 hxm with h | h
      ·exact hall x h
      ·exact List.mem_append_right _ (List.mem_flatMap.2 ⟨_, hfm, h⟩)
     ·intro n hn; exact (foldA_mem _ _ _).2 (.inl (hin n hn))
     ·intro j n hj hjn hfn m hm
      simp only at hjn ⊢
      rw [ht] at hjn
      rw [foldA_mem]
      by_cases hji : j = i
      ·subst hji
       rw [List.getElem?_append_left (by omega), hx] at hjn; cases hjn
       exact .inr hm
      ·rw [List.getElem?_append_left (by omega)] at hjn
       exact .inl (hcl j n (by omega) hjn hfn m hm)
     ·intro S h1 h2 n hn
      rcases (foldA_mem _ _ _).1 hn with h | h
      ·exact hmin S h1 h2 n h
      ·exact h2 l[i] (hmin S h1 h2 _ (List.getElem_mem _)) hfr n h
     ·simp only [Int.toNat_natCast]; omega)
  ((namesS sels).foldl addD [], 0)
  ⟨0, rfl, Nat.zero_le _, foldA_nodup _ _ List.nodup_nil, (fun x hx => by
   rcases (foldA_mem _ _ _).1 hx with h | h
   ·simp at h
   ·exact List.mem_append_left _ h), (fun n hn => (foldA_mem _ _ _).2 (.inr hn)), (fun j n hj => by omega), (fun S h1 _ n hn => by
   rcases (foldA_mem _ _ _).1 hn with h | h
   ·simp at h
   ·exact h1 n h)⟩
theorem r3_Reach_ok (d : GDoc) (sels : List GSel) (hd : bkDoc d + bkSels sels < 500000000) :
  ∃ (r l : List Str), r3_Reach d sels = some r ∧ r.Nodup ∧ r.length < 1073741824 ∧ (∀ n, n ∈ r ↔ n ∈ l ∧ (fragD d n).2 = true) ∧ (∀ n ∈ namesS sels, n ∈ l) ∧ ClosedP d (· ∈ l) ∧ ∀ S : Str → Prop, (∀ n ∈ namesS sels, S n) → ClosedP d S → ∀ n ∈ l, S n := by
 obtain ⟨l, h1, h2, h3, h4, h5⟩ := reached13_ok d sels hd
 have hf := frags_len d
 have key := loop_fold (b := r3_Reach_l2T d l) d.frags (fun k (a : List Str) => (a, (k : Int))) (fun a f => bif l.contains f.name then addD a f.name else a) id (fun k a => a.length ≤ k) (by show d.frags.length < _; omega)
  (by intro a _; simp [r3_Reach_l2T])
  (by
   intro k x a hm hk e1 e2 e3 hI
   have ht : tapp a [x.name] = some (a ++ [x.name]) := tapp_ok (by simp [lim_val]; omega)
   simp only [r3_Reach_l2T, e1, cnd_t, e2, bnd_s, e3, r1_Has_ok l x.name (by show l.length < _; omega), r1_Has_ok a x.name (by show a.length < _; omega), ht]
   cases l.contains x.name
   ·exact ⟨rfl, by simp only [cond_false]; omega⟩
   ·simp only [cnd_t, cond_true, addD]
    cases a.contains x.name
    ·exact ⟨rfl, by simp; omega⟩
    ·exact ⟨rfl, by simp; omega⟩) (s := ([], 0)) (a := []) rfl (by simp)
 have fold : ∀ (fs : List GFrag) (a : List Str), (a.Nodup → (fs.foldl (fun a f => bif l.contains f.name then addD a f.name else a) a).Nodup) ∧ (fs.foldl (fun a f => bif l.contains f.name then addD a f.name else a) a).length ≤ a.length + fs.length ∧
   ∀ n, n ∈ fs.foldl (fun a f => bif l.contains f.name then addD a f.name else a) a ↔ n ∈ a ∨ ∃ f ∈ fs, n ∈ l ∧ f.name = n := by
  intro fs
  induction fs with
  | nil => intro a; simp
  | cons f fs ih =>
   intro a
   rw [List.foldl_cons]
   obtain ⟨i1, i2, i3⟩ := ih (bif l.contains f.name then addD a f.name else a)
   refine ⟨fun hn => i1 ?_, ?_, fun n => ?_⟩
   ·cases l.contains f.name
    ·exact hn
    ·exact addD_nodup hn
   ·have := addD_len a f.name
    cases hc : l.contains f.name <;> rw [hc] at i2 <;> simp only [cond_true, cond_false, List.length_cons] at i2 ⊢ <;> omega
   ·rw [i3]
    cases hc : l.contains f.name
    ·have hn : f.name ∉ l := by simpa using hc
     simp only [cond_false, List.mem_cons, exists_eq_or_imp]
     constructor
     ·rintro (h | h)
      ·exact .inl h
      ·exact .inr (.inr h)
     ·rintro (h | ⟨h, e⟩ | h)
      ·exact .inl h
      ·exact absurd (e ▸ h) hn
      ·exact .inr h
    ·have hn : f.name ∈ l := by simpa using hc
     simp only [cond_true, addD_sub, List.mem_cons, exists_eq_or_imp]
     constructor
     ·rintro ((h | h) | h)
      ·exact .inl h
      ·exact .inr (.inl ⟨h ▸ hn, h.symm⟩)
      ·exact .inr (.inr h)
     ·rintro (h | ⟨h, e⟩ | h)
      ·exact .inl (.inl h)
      ·exact .inl (.inr e.symm)
      ·exact .inr h
 obtain ⟨f1, f2, f3⟩ := fold d.frags []
 refine ⟨_, l, r3_Reach_run (by simp only [r3_Reach_B, r3_Spreads_ok sels (by omega), h1, bnd_s, key]; rfl), f1 List.nodup_nil, ?_, ?_, h3, h4, h5⟩
 ·simp only [List.length_nil] at f2; omega
 ·intro n
  rw [f3]
  constructor
  ·rintro (h | ⟨f, hf, hn, e⟩)
   ·simp at h
   ·exact ⟨hn, e ▸ fragD_of hf⟩
  ·rintro ⟨hn, hfr⟩
   obtain ⟨hm, hname⟩ := fragD_mem hfr
   exact .inr ⟨_, hm, hn, hname⟩
theorem frag_sels_bk (f : GFrag) : bkSels f.sels ≤ bkFrag f := by rw [bkFrag_eq,bkSels_eq]; simp only [bkSl]; omega
open Go Go.Ev Go.Ev.PV
def Nr (p b : Nat) : Prop := p ≤ b ∧ b ≤ 2 * p
theorem psl {α : Type} {enc : α → PV} {bk : α → Nat} : ∀ {l : List α},(∀ x ∈ l,Nr (psize (enc x)) (bk x)) → psizes (l.map enc) ≤ sumL bk l ∧ sumL bk l ≤ 2 * psizes (l.map enc)
 | [],_ => by simp [psizes,sumL]
 | x :: l,h => by
  have h1 := h x (by simp)
  have h2 := psl (l := l) (fun y hy => h y (by simp [hy]))
  unfold Nr at h1
  simp only [List.map_cons,psizes,sumL]
  omega
theorem psStr (s : Str) : Nr (psize (PV.str s)) (bkStr s) := by unfold Nr; rw [bkStr_ap]; simp only [psize]; omega
theorem psStrs (l : List Str) : psizes (l.map PV.str) ≤ sumL bkStr l ∧ sumL bkStr l ≤ 2 * psizes (l.map PV.str) := psl fun x _ => psStr x
theorem psType (x : GType) : Nr (psize (encType x)) (bkType x) := by
 unfold Nr; rw [encType_eq,bkType_eq]; simp only [psize,psizes,bk1,bkStr_ap]; omega
theorem psVM : ∀ n : Nat,(∀ x : GValue,bkValue x ≤ n → Nr (psize (encValue x)) (bkValue x)) ∧ (∀ x : GMember,bkMember x ≤ n → Nr (psize (encMember x)) (bkMember x)) := by
 intro n
 induction n with
 | zero => exact ⟨fun x h => by rw [bkValue_eq] at h; omega,fun x h => by rw [bkMember_eq] at h; omega⟩
 | succ n ih =>
  obtain ⟨ihV,ihM⟩ := ih
  refine ⟨fun x hb => ?_,fun x hb => ?_⟩
  ·rw [bkValue_eq] at hb
   simp only [bkSl,bk1,bkStr_ap] at hb
   have h1 := psl (l := x.l) (enc := encValue) (bk := bkValue) (fun y hy => ihV y (by have := sumL_mem bkValue hy; omega))
   have h2 := psl (l := x.m) (enc := encMember) (bk := bkMember) (fun y hy => ihM y (by have := sumL_mem bkMember hy; omega))
   unfold Nr
   rw [encValue_eq,bkValue_eq]
   simp only [psize,psizes,bkSl,bk1,bkStr_ap]
   omega
  ·rw [bkMember_eq] at hb
   have h1 := ihV x.v (by omega)
   unfold Nr at h1 ⊢
   rw [encValue_eq] at h1
   rw [encMember_eq,bkMember_eq]
   simp only [psize,psizes,bkStr_ap] at h1 ⊢
   omega
theorem psValue (x : GValue) : Nr (psize (encValue x)) (bkValue x) := (psVM _).1 x (Nat.le_refl _)
theorem psMember (x : GMember) : Nr (psize (encMember x)) (bkMember x) := (psVM _).2 x (Nat.le_refl _)
theorem psDir (x : GDir) : Nr (psize (encDir x)) (bkDir x) := by
 have h1 := psl (l := x.args) (fun y _ => psMember y)
 unfold Nr; rw [encDir_eq,bkDir_eq]; simp only [psize,psizes,bkSl,bk1,bkStr_ap]; omega
theorem psParam (x : GParam) : Nr (psize (encParam x)) (bkParam x) := by
 have h1 := psType x.t
 have h2 := psValue x.default
 unfold Nr at h1 h2 ⊢
 rw [encType_eq] at h1; rw [encValue_eq] at h2
 rw [encParam_eq,bkParam_eq,bkType_eq]; simp only [psize,psizes,bk1,bkStr_ap] at h1 h2 ⊢; omega
theorem psFieldDef (x : GFieldDef) : Nr (psize (encFieldDef x)) (bkFieldDef x) := by
 have h1 := psType x.t
 have h2 := psl (l := x.params) (fun y _ => psParam y)
 have h3 := psl (l := x.dirs) (fun y _ => psDir y)
 unfold Nr at h1 ⊢
 rw [encType_eq] at h1
 rw [encFieldDef_eq,bkFieldDef_eq]; simp only [psize,psizes,bkSl,bk1,bkStr_ap] at h1 ⊢; omega
theorem psDef (x : GDef) : Nr (psize (encDef x)) (bkDef x) := by
 have h1 := psl (l := x.fields) (fun y _ => psFieldDef y)
 have h2 := psl (l := x.params) (fun y _ => psParam y)
 have h3 := psStrs x.faces
 have h4 := psStrs x.parts
 unfold Nr; rw [encDef_eq,bkDef_eq]; simp only [psize,psizes,bkSl,bk1,bkStr_ap]; omega
theorem psSchema (x : GSchema) : Nr (psize (encSchema x)) (bkSchema x) := by
 have h1 := psl (l := x.defs) (fun y _ => psDef y)
 unfold Nr; rw [encSchema_eq,bkSchema_eq]; simp only [psize,psizes,bkSl,bk1,bkStr_ap]; omega
theorem psVarDef (x : GVarDef) : Nr (psize (encVarDef x)) (bkVarDef x) := by
 have h1 := psType x.t
 have h2 := psValue x.default
 unfold Nr at h1 h2 ⊢
 rw [encType_eq] at h1; rw [encValue_eq] at h2
 rw [encVarDef_eq,bkVarDef_eq,bkType_eq]; simp only [psize,psizes,bk1,bkStr_ap] at h1 h2 ⊢; omega
theorem psSel' : ∀ n : Nat,∀ x : GSel,bkSel x ≤ n → Nr (psize (encSel x)) (bkSel x) := by
 intro n
 induction n with
 | zero => intro x h; rw [bkSel_eq] at h; omega
 | succ n ih =>
  intro x hb
  rw [bkSel_eq] at hb
  simp only [bkSl,bk1,bkStr_ap] at hb
  have h1 := psl (l := x.sels) (enc := encSel) (bk := bkSel) (fun y hy => ih y (by have := sumL_mem bkSel hy; omega))
  have h2 := psl (l := x.args) (fun y _ => psMember y)
  have h3 := psl (l := x.dirs) (fun y _ => psDir y)
  unfold Nr
  rw [encSel_eq,bkSel_eq]
  simp only [psize,psizes,bkSl,bk1,bkStr_ap]
  omega
theorem psSel (x : GSel) : Nr (psize (encSel x)) (bkSel x) := psSel' _ x (Nat.le_refl _)
theorem psOp (x : GOp) : Nr (psize (encOp x)) (bkOp x) := by
 have h1 := psl (l := x.vars) (fun y _ => psVarDef y)
 have h2 := psl (l := x.dirs) (fun y _ => psDir y)
 have h3 := psl (l := x.sels) (fun y _ => psSel y)
 unfold Nr; rw [encOp_eq,bkOp_eq]; simp only [psize,psizes,bkSl,bk1,bkStr_ap]; omega
theorem psFrag (x : GFrag) : Nr (psize (encFrag x)) (bkFrag x) := by
 have h2 := psl (l := x.dirs) (fun y _ => psDir y)
 have h3 := psl (l := x.sels) (fun y _ => psSel y)
 unfold Nr; rw [encFrag_eq,bkFrag_eq]; simp only [psize,psizes,bkSl,bk1,bkStr_ap]; omega
theorem psDoc (x : GDoc) : Nr (psize (encDoc x)) (bkDoc x) := by
 have h2 := psl (l := x.ops) (fun y _ => psOp y)
 have h3 := psl (l := x.frags) (fun y _ => psFrag y)
 unfold Nr; rw [encDoc_eq,bkDoc_eq]; simp only [psize,psizes,bkSl,bk1,bkStr_ap]; omega
theorem es_cons {τ : Tb} {e : El} {es : List El} {vs : List PV} (h : ElsOk τ (e :: es) vs) : ∃ v r,vs = v :: r ∧ ElOk τ e v ∧ ElsOk τ es r := by
 cases h with | cons h hs => exact ⟨_,_,rfl,h,hs⟩
theorem es_nil {τ : Tb} {vs : List PV} (h : ElsOk τ [] vs) : vs = [] := by cases h; rfl
theorem el_bool {v : PV} (h : ElOk tτ ⟨false,[.bool]⟩ v) : ∃ b,v = .bool b := by cases h with | one h => exact lf_bool h
theorem el_str {v : PV} (h : ElOk tτ ⟨false,[.str]⟩ v) : ∃ s,v = .str s ∧ s.length ≤ topL := by cases h with | one h => exact lf_str h
theorem el_sl {n ub : Nat} {o : Bool} {v : PV} (h : ElOk tτ ⟨false,[.sl n ub o]⟩ v) : ∃ es,v = .slice es [] o ∧ (∀ e,e ∈ es → ElOk tτ (elOf tτ n) e) ∧ es.length ≤ ub := by cases h with | one h => exact lf_sl h
theorem cap_mem {sm : Summ} {args : List PV} (h : CapOk sm args) (hc : sm.cap = 2097152) {v : PV} (hv : v ∈ args) : psize v ≤ 2097152 := by
 rcases h with h | h
 ·omega
 ·have := h v hv; omega
end Go.Proofs.YtphmfillajagdaaGreat
