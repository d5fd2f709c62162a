import Derived.Test.YtphmfillajagdaaGreatEd
import Derived.Below
import Derived.Shelf.Spec.SlicesInsertGrow
set_option linter.unusedVariables false
set_option linter.unusedSimpArgs false
set_option linter.unusedSimpArgs false
open Go.RowKit
namespace Go.Ev
open PV
theorem bB2 {M M':Mem} {w w':World} {base:Base} {B:BM} (h:BRel M w base B []):BRel M' w' base B [] :=
 ⟨fun d f hf=>by simp at hf,h.dom,fun d id cs hc=>by simp [bB,nth] at hc,h.inj⟩
theorem bAl {M:Mem} {w:World} {base:Base} {B:BM} (h:BRel M w base B []) (d id:Nat):B d id=none:=h.dom d id (by simp [bB,nth])
theorem CallPre.arg {base:Base} {M:Mem} {B:BM} {args:List PV} {up:UP} {vals:Array Value} {w:World} (h:CallPre base M B args up vals w) (i:Nat) {p:PV} (hp:args[i]?=some p):∃ v,vals[i]?=some v∧Rv M (pK B) p v:=by
 have hlt:=(List.getElem?_eq_some_iff.1 hp).1
 have hs:i<vals.size:=by rw [h.size];exact hlt
 refine ⟨vals[i],by simp [hs],?_⟩
 have:=(h.rel i p hp).1
 simpa [hs] using this
def strL:List PV→Option (List Str)
 | []=>some []
 | .str s::l=>bnd (strL l) fun r=>some (s::r)
 | _::_=>none
theorem aWk:∀ (l:List Str),strL (l.map PV.str)=some l
 | []=>rfl
 | s::l=>by simp only [List.map_cons,strL,aWk l,bnd]
theorem aQJ:∀ {es:List PV} {l:List Str},strL es=some l→es=l.map PV.str
 | [],l,h=>by simp [strL] at h;subst h;rfl
 | e::es,l,h=>by
  unfold strL at h
  split at h
  ·rename_i heq;cases heq
  ·rename_i s es' heq
   cases heq
   obtain ⟨r,hr,h⟩:=aB h
   cases h
   rw [aQJ hr];rfl
  ·simp at h
open PV Go.Proofs Go.Shelf Go.RowKit Go.Lib
theorem kA (b:Nat):∀ (vs:List Value) (o:Nat) (w:World),
  (w.setCells b o vs).heap.size=w.heap.size∧(∀ x,x≠b→(w.setCells b o vs).heap[x]?=w.heap[x]?)∧(w.setCells b o vs).os=w.os∧(w.setCells b o vs).tape=w.tape∧(w.setCells b o vs).output=w.output ∧
  ∀ arr T fz,w.heap[b]?=some (.cells arr T fz)→∃ arr',(w.setCells b o vs).heap[b]?=some (.cells arr' T fz)∧arr'.size=arr.size∧∀ j,arr'[j]?=if o≤j∧j<o+vs.length∧j<arr.size then vs[j-o]? else arr[j]?
 | [],o,w=>by
  refine ⟨rfl,fun _ _=>rfl,rfl,rfl,rfl,fun arr T fz h=>⟨arr,h,rfl,fun j => ?_⟩⟩
  rw [if_neg (by simp;omega)]
 | v::r,o,w=>by
  obtain ⟨h1,h2,h3,h4,h5,h6⟩:=kA b r (o+1) (w.setCell ⟨b,o,none⟩ v)
  rw [World.setCells]
  refine ⟨h1.trans (by simp [World.setCell]),fun x hx=>(h2 x hx).trans (by simp only [World.setCell,Array.getElem?_modify];rw [if_neg (Ne.symm hx)]),h3,h4,h5,?_⟩
  intro arr T fz h
  obtain ⟨arr',k1,k2,k3⟩:=h6 (arr.setIfInBounds o v) T fz (by simp [World.setCell,Array.getElem?_modify,h])
  refine ⟨arr',k1,by rw [k2];simp,fun j => ?_⟩
  rw [k3 j]
  simp only [Array.size_setIfInBounds,List.length_cons]
  by_cases e1:o+1≤j∧j<o+1+r.length∧j<arr.size
  ·rw [if_pos e1,if_pos (by omega),show j-o=(j-(o+1))+1 by omega,List.getElem?_cons_succ]
  ·rw [if_neg e1,Array.getElem?_setIfInBounds]
   by_cases e2:o=j
   ·subst e2
    by_cases e3:o<arr.size
    ·rw [if_pos rfl,if_pos e3,if_pos (by omega)];simp
    ·rw [if_pos rfl,if_neg e3,if_neg (by omega),Array.getElem?_eq_none (by omega)]
   ·rw [if_neg e2,if_neg (by omega)]
theorem jK (w:World) (o:Obj):(w.alloc o).heap.size=w.heap.size+1∧(∀ x,x<w.heap.size→(w.alloc o).heap[x]?=w.heap[x]?)∧(w.alloc o).heap[w.heap.size]?=some o:=by
 have e:(w.alloc o).heap=w.heap.push o:=rfl
 rw [e]
 refine ⟨Array.size_push _,fun x hx => ?_,Array.getElem?_push_size⟩
 rw [Array.getElem?_push,if_neg (by omega)]
def uJ (w:World) (b:Nat) (r:List Value) (v':Value) (w':World):Prop :=
 (∃ b' c',v' = .slice (some ⟨b',0,none⟩) r.length c'∧r.length≤c'∧c'≤9223372036854775807∧(b'=b∨w.heap.size≤b') ∧
 ∃ arr T fz,w'.heap[b']?=some (.cells arr T fz)∧c'≤arr.size∧(∀ i,i<c'→¬ (fz.1≤i∧i<fz.2))∧∀ (j:Nat) (v:Value),r[j]?=some v→arr[j]?=some v) ∧
 (∀ x,x<w.heap.size→x≠b→w'.heap[x]?=w.heap[x]?)∧w.heap.size≤w'.heap.size∧w'.os=w.os∧w'.tape=w.tape∧w'.output=w.output
def insL {α:Type} (l:List α) (i:Nat) (x:α):List α:=l.take i++x::l.drop i
theorem bB3 {α:Type} {l:List α} {i:Nat} (x:α) (h:i≤l.length):(insL l i x).length=l.length+1:=by
 unfold insL;rw [List.length_append,List.length_cons,List.length_take,List.length_drop];omega
theorem aN8 {α:Type} (l:List α) (i:Nat) (x:α) (h:i≤l.length) (j:Nat):(insL l i x)[j]?=if j<i then l[j]? else if j=i then some x else l[j-1]?:=by
 unfold insL
 have hl:(l.take i).length=i:=by rw [List.length_take];omega
 by_cases h1:j<i
 ·rw [if_pos h1,List.getElem?_append_left (by omega),List.getElem?_take,if_pos h1]
 ·rw [if_neg h1,List.getElem?_append_right (by omega),hl]
  by_cases h2:j=i
  ·subst h2;simp
  ·rw [if_neg h2,show j-i=(j-i-1)+1 by omega,List.getElem?_cons_succ,List.getElem?_drop,show i+(j-i-1)=j-1 by omega]
section
variable {P : Program} {ρ : Ren}
set_option maxHeartbeats 1000000 in
theorem aXL (L:Lays2.n22 P ρ) (b n c i:Nat) (cs:List Value) (nm:Value) (T:TypeId) (w:World) (hi:i≤n) (hcl:cs.length=n) (hnc:n≤c) (hbig:n≤1099511627776) (hc63:c≤9223372036854775807) (hn0:0<n)
  (hrow:∃ arr T fz,w.heap[b]?=some (.cells arr T fz)∧c≤arr.size∧(∀ i,i<c→¬ (fz.1≤i∧i<fz.2))∧∀ (j:Nat) (v:Value),cs[j]?=some v→arr[j]?=some v) (h1c:∀ v∈cs,v.oneCell'=true) (h1v:nm.oneCell'=true) :
  Calls P (ρ.f 22) #[.slice (some ⟨b,0,none⟩) n c,.int .i64 i,.slice (some ⟨w.heap.size,0,none⟩) 1 1] (w.alloc (.cells #[nm] T)) fun e w'=>∃ v',e = .returned v'∧uJ w b (insL cs i nm) v' w':=by
 obtain ⟨arr,TB,fz,hrow,hsz,hfz,harr⟩:=hrow
 have hb:b<w.heap.size:=(Array.getElem?_eq_some_iff.1 hrow).1
 have hrl:(insL cs i nm).length=n+1:=by rw [bB3 nm (by omega),hcl]
 obtain ⟨w1,hw1⟩:∃ w1,w1=w.alloc (.cells #[nm] T):=⟨_,rfl⟩
 obtain ⟨hs1,hold,hnew⟩:w1.heap.size=w.heap.size+1∧(∀ x,x<w.heap.size→w1.heap[x]?=w.heap[x]?)∧w1.heap[w.heap.size]?=some (.cells #[nm] T (0,0)):=by rw [hw1];exact jK w _
 have hos:w1.os=w.os∧w1.tape=w.tape∧w1.output=w.output:=by rw [hw1];exact ⟨rfl,rfl,rfl⟩
 rw [← hw1]
 have hr1:w1.heap[b]?=some (.cells arr TB fz):=by rw [hold b hb];exact hrow
 have hcell:∀ j,w1.cell? ⟨b,j,none⟩=arr[j]?:=by intro j;simp [World.cell?,hr1]
 have hcs:∀ j v,cs[j]?=some v→w1.cell? ⟨b,0+j,none⟩=some v:=by intro j v hj;rw [Nat.zero_add,hcell];exact harr j v hj
 have hvs:∀ j v,[nm][j]?=some v→w1.cell? ⟨w.heap.size,0+j,none⟩=some v:=by
  intro j v hj
  cases j with
  | zero=>simp at hj;subst hj;simp [World.cell?,hnew]
  | succ j=>simp at hj
 have hsp:∀ j,j<c→(w1.cell? ⟨b,j,none⟩).isSome=true:=by
  intro j hj;rw [hcell,Array.getElem?_eq_getElem (by omega)];rfl
 have hfrz:∀ j,j<c→w1.frozen? ⟨b,j,none⟩=false:=by
  intro j hj
  have:=hfz j hj
  simp only [World.frozen?,hr1]
  rw [Bool.eq_false_iff]
  intro h
  rw [Bool.and_eq_true,decide_eq_true_eq,decide_eq_true_eq] at h
  exact this h
 have hbig16:(n+1)*16≤140737488355328:=by omega
 have h1v':∀ v∈[nm],v.oneCell'=true:=by intro v hv;rw [List.mem_singleton] at hv;subst hv;exact h1v
 -- what a list of facts about the last world tells
 have fin:∀ (b' c':Nat) (w':World),n+1≤c'→c'≤9223372036854775807→(b'=b∨w.heap.size≤b') →
   (∃ arr T fz,w'.heap[b']?=some (.cells arr T fz)∧c'≤arr.size∧(∀ i,i<c'→¬ (fz.1≤i∧i<fz.2))∧∀ (j:Nat) (v:Value),(insL cs i nm)[j]?=some v→arr[j]?=some v) →
   (∀ x,x<w.heap.size→x≠b→w'.heap[x]?=w1.heap[x]?)→w.heap.size≤w'.heap.size→w'.os=w1.os∧w'.tape=w1.tape∧w'.output=w1.output→uJ w b (insL cs i nm) (.slice (some ⟨b',0,none⟩) (n+1) c') w':=by
  intro b' c' w' g1 g2 g3 g4 g5 g6 g7
  refine ⟨⟨b',c',by rw [hrl],by omega,g2,g3,g4⟩,fun x hx hne=>(g5 x hx hne).trans (hold x hx),g6,g7.1.trans hos.1,g7.2.1.trans hos.2.1,g7.2.2.trans hos.2.2⟩
 by_cases hroom:n+1≤c
 ·by_cases hin:i<n
  ·have key:=Any2.slices_Insert_string_shift L b 0 n c i w.heap.size 0 1 1 cs [nm] w1 hin (by omega) hroom hc63 (by omega) hcl rfl hcs (fun j hj=>by rw [Nat.zero_add];exact hsp j (by omega)) (fun j hj=>by rw [Nat.zero_add];exact hfrz j (by omega))
    hvs h1c h1v' T TB 1 arr.size (by simp [World.shape?,hnew]) (by simp [World.shape?,hr1]) (by omega) (by simp [World.frozen?,hnew]) (by simp [World.frozen?,hnew])
   refine key.mono ?_
   rintro e w' ⟨rfl,rfl⟩
   refine ⟨_,rfl,?_⟩
   obtain ⟨p1,p2,p3,p4,p5,p6⟩:=kA b (cs.drop i) (0+(i+1)) w1.drew
   obtain ⟨q1,q2,q3,q4,q5,q6⟩:=kA b [nm] (0+i) (w1.drew.setCells b (0+(i+1)) (cs.drop i))
   obtain ⟨a1,k1,k2,k3⟩:=p6 arr TB fz hr1
   obtain ⟨a2,m1,m2,m3⟩:=q6 a1 TB fz k1
   refine fin b c _ hroom hc63 (.inl rfl) ⟨a2,TB,fz,m1,by omega,hfz,?_⟩ (fun x hx hne=>(q2 x hne).trans (p2 x hne)) (by rw [q1,p1];show w.heap.size≤w1.heap.size;omega) ⟨q3.trans p3,q4.trans p4,q5.trans p5⟩
   intro j v hj
   have hjl:=(List.getElem?_eq_some_iff.1 hj).1
   rw [hrl] at hjl
   rw [aN8 cs i nm (by omega)] at hj
   rw [m3 j,k3 j]
   simp only [Nat.zero_add,List.length_singleton,List.length_drop]
   by_cases e1:j<i
   ·rw [if_pos e1] at hj
    rw [if_neg (by omega),if_neg (by omega)]
    exact harr j v hj
   ·rw [if_neg e1] at hj
    by_cases e2:j=i
    ·subst e2
     rw [if_pos rfl] at hj
     rw [if_pos (by omega),Nat.sub_self];exact hj
    ·rw [if_neg e2] at hj
     rw [if_neg (by omega),if_pos (by omega),List.getElem?_drop,show i+(j-(i+1))=j-1 by omega]
     exact hj
  ·obtain rfl:i=n:=by omega
   have key:=Any2.slices_Insert_string_end_room L b 0 i c w.heap.size 0 1 1 [nm] w1 (by omega) hroom hc63 rfl (fun j hj=>by rw [Nat.zero_add];exact hsp _ (by omega)) (fun j hj=>by rw [Nat.zero_add];exact hfrz _ (by omega)) hvs h1v'
   refine key.mono ?_
   rintro e w' ⟨rfl,rfl⟩
   refine ⟨_,rfl,?_⟩
   obtain ⟨q1,q2,q3,q4,q5,q6⟩:=kA b [nm] (0+i) w1
   obtain ⟨a2,m1,m2,m3⟩:=q6 arr TB fz hr1
   refine fin b c _ hroom hc63 (.inl rfl) ⟨a2,TB,fz,m1,by omega,hfz,?_⟩ (fun x hx hne=>q2 x hne) (by rw [q1];omega) ⟨q3,q4,q5⟩
   intro j v hj
   have hjl:=(List.getElem?_eq_some_iff.1 hj).1
   rw [hrl] at hjl
   rw [aN8 cs i nm (by omega)] at hj
   rw [m3 j]
   simp only [Nat.zero_add,List.length_singleton]
   by_cases e1:j<i
   ·rw [if_pos e1] at hj
    rw [if_neg (by omega)]
    exact harr j v hj
   ·obtain rfl:j=i:=by omega
    rw [if_neg e1,if_pos rfl] at hj
    rw [if_pos (by omega),Nat.sub_self];exact hj
 ·have hcn:c=n:=by omega
  have hg1:=grownCap_ge w1 (n+1) c (ρ.t 9)
  have hg2:=grownCap_le_maxLen w1 (n+1) c (ρ.t 9) (by unfold maxLen;omega)
  unfold maxLen at hg2
  by_cases hin:i<n
  ·have key:=Any2.slices_Insert_string_grow L b 0 n c i w.heap.size 0 1 1 cs [nm] w1 hin (by omega) hnc (by omega) hbig16 hcl rfl hcs hvs h1c h1v'
   refine key.mono ?_
   rintro e w' ⟨rfl,rfl⟩
   refine ⟨_,rfl,?_⟩
   generalize grownCap w1 (n+1) c (ρ.t 9)=G at hg1 hg2
   obtain ⟨ROW,hROW⟩:∃ ROW:Array Value,ROW=(cs.take i).toArray++Builtin.zeroCells (Value.string ⟨#[]⟩).cells (n+1-i)++Builtin.zeroCells (Value.string ⟨#[]⟩).cells (G-(n+1)):=⟨_,rfl⟩
   rw [← hROW]
   have hRs:ROW.size=G:=by rw [hROW];simp [Builtin.zeroCells,Value.cells];omega
   have hRt:∀ j,j<i→ROW[j]?=cs[j]?:=by
    intro j hj
    have e1:(cs.take i).toArray.size=i:=by simp;omega
    rw [hROW,Array.getElem?_append_left (by simp;omega),Array.getElem?_append_left (by omega)]
    simp [hj]
   obtain ⟨w2,hw2⟩:∃ w2,w2=(w1.alloc (.cells ROW (ρ.t 9))).drew:=⟨_,rfl⟩
   rw [← hw2]
   obtain ⟨hs2,hold2,hnew2⟩:w2.heap.size=w1.heap.size+1∧(∀ x,x<w1.heap.size→w2.heap[x]?=w1.heap[x]?)∧w2.heap[w1.heap.size]?=some (.cells ROW (ρ.t 9) (0,0)):=by rw [hw2];exact jK w1 _
   have hos2:w2.os=w1.os∧w2.tape=w1.tape∧w2.output=w1.output:=by rw [hw2];exact ⟨rfl,rfl,rfl⟩
   obtain ⟨p1,p2,p3,p4,p5,p6⟩:=kA w1.heap.size [nm] i w2
   obtain ⟨q1,q2,q3,q4,q5,q6⟩:=kA w1.heap.size (cs.drop i) (i+1) (w2.setCells w1.heap.size i [nm]).drew
   obtain ⟨a1,k1,k2,k3⟩:=p6 ROW _ _ hnew2
   obtain ⟨a2,m1,m2,m3⟩:=q6 a1 _ _ k1
   refine fin w1.heap.size G _ hg1 hg2 (.inr (by omega)) ⟨a2,_,_,m1,by omega,by simp,?_⟩ (fun x hx hne=>(q2 x (by omega)).trans ((p2 x (by omega)).trans (hold2 x (by omega)))) (by rw [q1];show _≤(w2.setCells w1.heap.size i [nm]).heap.size;rw [p1];omega)
    ⟨q3.trans (p3.trans hos2.1),q4.trans (p4.trans hos2.2.1),q5.trans (p5.trans hos2.2.2)⟩
   intro j v hj
   have hjl:=(List.getElem?_eq_some_iff.1 hj).1
   rw [hrl] at hjl
   rw [aN8 cs i nm (by omega)] at hj
   rw [m3 j,k3 j]
   simp only [List.length_singleton,List.length_drop]
   by_cases e1:j<i
   ·rw [if_pos e1] at hj
    rw [if_neg (by omega),if_neg (by omega),hRt j e1]
    exact hj
   ·rw [if_neg e1] at hj
    by_cases e2:j=i
    ·subst e2
     rw [if_pos rfl] at hj
     rw [if_neg (by omega),if_pos (by omega),Nat.sub_self];exact hj
    ·rw [if_neg e2] at hj
     rw [if_pos (by omega),List.getElem?_drop,show i+(j-(i+1))=j-1 by omega]
     exact hj
  ·obtain rfl:i=n:=by omega
   have key:=Any2.slices_Insert_string_end_grow L (some ⟨b,0,none⟩) i c w.heap.size 0 1 1 cs [nm] w1 (by omega) hnc (by omega) hbig16 hcl rfl (by simp) (by rintro a ⟨rfl⟩ j v hj;rw [Addr.add_lit];exact hcs j v hj) hvs h1v'
   refine key.mono ?_
   rintro e w' ⟨rfl,rfl⟩
   refine ⟨_,rfl,?_⟩
   generalize grownCap w1 (i+1) c (ρ.t 9)=G at hg1 hg2
   refine fin w1.heap.size G _ hg1 hg2 (.inr (by omega)) ⟨_,_,(0,0),(jK w1.drew _).2.2,?_,by simp,?_⟩ (fun x hx hne=>(jK w1.drew _).2.1 x (by show x<w1.heap.size;omega)) (by rw [(jK w1.drew _).1];show _≤w1.heap.size+1;omega) ⟨rfl,rfl,rfl⟩
   ·simp [Builtin.zeroCells,Value.cells,hcl];omega
   ·intro j v hj
    have hjl:=(List.getElem?_eq_some_iff.1 hj).1
    rw [hrl] at hjl
    have hl:insL cs i nm=cs++[nm]:=by unfold insL;rw [← hcl,List.take_length,List.drop_length]
    rw [Array.getElem?_append_left (by simp;omega)]
    rw [hl] at hj
    simpa using hj
theorem aXM (L : Lays2.n22 P ρ) (oa : Option Addr) (b : Nat) (nm : Value) (T : TypeId) (w : World) (h1v : nm.oneCell' = true) :
    Calls P (ρ.f 22) #[.slice oa 0 0, .int .i64 0, .slice (some ⟨w.heap.size, 0, none⟩) 1 1] (w.alloc (.cells #[nm] T)) fun e w' => ∃ v', e = .returned v' ∧ uJ w b [nm] v' w' := by
  obtain ⟨w1, hw1⟩ : ∃ w1, w1 = w.alloc (.cells #[nm] T) := ⟨_, rfl⟩
  obtain ⟨hs1, hold, hnew⟩ : w1.heap.size = w.heap.size + 1 ∧ (∀ x, x < w.heap.size → w1.heap[x]? = w.heap[x]?) ∧ w1.heap[w.heap.size]? = some (.cells #[nm] T (0, 0)) := by rw [hw1]; exact jK w _
  have hos : w1.os = w.os ∧ w1.tape = w.tape ∧ w1.output = w.output := by rw [hw1]; exact ⟨rfl, rfl, rfl⟩
  rw [← hw1]
  have key := Any2.slices_Insert_string_end_grow L oa 0 0 w.heap.size 0 1 1 [] [nm] w1 (by omega) (by omega) (by omega) (by omega) rfl rfl (fun _ => rfl) (by intro a _ j v hj; simp at hj)
    (by intro j v hj
        cases j with
        | zero => simp at hj; subst hj; simp [World.cell?, hnew]
        | succ j => simp at hj) (by intro v hv; rw [List.mem_singleton] at hv; subst hv; exact h1v)
  refine key.mono ?_
  rintro e w' ⟨rfl, rfl⟩
  have hg1 := grownCap_ge w1 (0 + 1) 0 (ρ.t 9)
  have hg2 := grownCap_le_maxLen w1 (0 + 1) 0 (ρ.t 9) (by unfold maxLen; omega)
  unfold maxLen at hg2
  generalize grownCap w1 (0 + 1) 0 (ρ.t 9) = G at hg1 hg2
  refine ⟨_, rfl, ⟨_, G, rfl, hg1, hg2, .inr (by omega), _, _, (0, 0), (jK w1.drew _).2.2, ?_, by simp, ?_⟩, ?_, ?_, hos⟩
  · simp [Builtin.zeroCells, Value.cells]; omega
  · intro j v hj
    have hjl := (List.getElem?_eq_some_iff.1 hj).1
    simp only [List.length_singleton] at hjl
    obtain rfl : j = 0 := by omega
    simp at hj; subst hj
    rw [Array.getElem?_append_left (by simp)]
    simp
  · intro x hx _
    exact ((jK w1.drew _).2.1 x (by show x < w1.heap.size; omega)).trans (hold x hx)
  · rw [(jK w1.drew _).1]; show _ ≤ w1.heap.size + 1; omega
end
open PV Go.RowKit
def insS:List Str→Str→List Str
 | [],s=>[s]
 | x::r,s=>if Op.bytesLess x s=true then x::insS r s else if x=s then x::r else s::x::r
theorem bAm (l:List Str) (s:Str):insS l s≠[]:=by
 cases l with
 | nil=>simp [insS]
 | cons x r=>simp only [insS];split<;>(try split)<;>simp
theorem aN9:∀ (l:List Str) (s:Str),(insS l s).length≤l.length+1
 | [],s=>by simp [insS]
 | x::r,s=>by
  have:=aN9 r s
  simp only [insS]
  split
  ·simp only [List.length_cons];omega
  ·split<;>simp
def aJY (l:List Str) (s:Str):Option (List Str):=if l.length<lim then some (insS l s) else none
def aD9:List PV→UP→Option (PV×UP)
 | [.vec 1 es,.str s],[]=>bnd (strL es) fun l=>bnd (aJY l s) fun r=>some (.vec 1 (r.map PV.str),[])
 | _,_=>none
theorem aXN {l r:List Str} {s:Str} (h:aJY l s=some r):aD9 [.vec 1 (List.map PV.str l),.str s] []=some (.vec 1 (List.map PV.str r),[]):=by simp only [aD9,aWk,h,bnd]
def sVal (s:Str):Value := .string ⟨s.toArray⟩
theorem aQK (l:List Str):(l.map PV.str).flatMap cells=l.map PV.str:=by
 induction l with
 | nil=>rfl
 | cons x l ih=>rw [List.map_cons,List.flatMap_cons,ih];rfl
theorem bAn (l:List Str):∀ e∈l.map PV.str,okVe 1 e=true:=by
 intro e he
 obtain ⟨x,_,rfl⟩:=List.mem_map.1 he
 rfl
theorem aWl {base:Base} {M:Mem} {B:BM} {args:List PV} {vals:Array Value} {w:World} (hp:CallPre base M B args [] vals w) {b:Nat} (hfree:∀ i,M b i=none) (hown:(base:Nat)≤b∧1≤cA args vals b∨w.heap.size≤b) {r:List Str} (hr:r≠[]) {v':Value} {w':World}
  (h:uJ w b (r.map sVal) v' w'):jH base M B args [] vals w (.vec 1 (r.map PV.str)) [] v' w':=by
 obtain ⟨⟨b',c',rfl,g1,g2,g3,arr,T,fz,g4,g5,g6,g7⟩,k1,k2,k3,k4,k5⟩:=h
 have hMlt:∀ x i v,M x i=some v→x<w.heap.size:=by
  intro x i v hx
  obtain ⟨a1,T1,f1,h1,_⟩:=hp.cons x i v hx
  exact (Array.getElem?_eq_some_iff.1 h1).1
 have hfree':∀ i,M b' i=none:=by
  intro i
  rcases g3 with rfl | g3
  ·exact hfree i
  ·cases hx:M b' i with
   | none=>rfl
   | some v=>have:=hMlt b' i v hx;omega
 have hlen:(r.map sVal).length=(r.map PV.str).length:=by simp
 obtain ⟨x0,r0,rfl⟩:∃ x0 r0,r=x0::r0:=by
  cases r with
  | nil=>exact absurd rfl hr
  | cons x l=>exact ⟨x,l,rfl⟩
 have hc1:∀ x,cV (.vec 1 ((x0::r0).map PV.str)) (.slice (some ⟨b',0,none⟩) ((x0::r0).map sVal).length c') x=if b'=x then 1 else 0:=by
  intro x
  rw [yE (by simp) (by simp)]
  simp [c1,own1]
 have hbase:(base:Nat)≤b':=by
  have hb:=hp.base
  rcases g3 with rfl | g3
  ·rcases hown with ⟨h,_⟩ | h
   ·exact h
   ·exact Nat.le_trans hb h
  ·exact Nat.le_trans hb g3
 refine ⟨M,?_,?_,bB2 hp.box,?_,?_,?_⟩
 ·rw [hlen]
  exact .vec 1 _ b' c' (by simp) (by rw [← hlen];exact g1) (by omega) (bAn _) g2
 ·intro x hx
  simp only [atoms,zipA,List.mem_singleton] at hx
  subst hx
  refine ⟨⟨hbase,fun d id hB => ?_,⟨arr,T,fz,g4,by omega,fun i hi=>g6 i (by omega)⟩,fun i _=>hfree' i⟩,?_⟩
  ·rw [bAl hp.box d id] at hB;simp at hB
  ·intro j c hj
   rw [show (PV.str x0::List.map PV.str r0)=(x0::r0).map PV.str from rfl,aQK,List.getElem?_map,Option.map_eq_some_iff] at hj
   obtain ⟨x,hx,rfl⟩:=hj
   have:=g7 j (sVal x) (by rw [List.getElem?_map,hx];rfl)
   have hcv:bS w' b' j=sVal x:=by simp [bS,World.cell?,g4,this]
   show Rv M _ (.str x) (bS w' b' j)
   rw [hcv];exact .str x
 ·intro x i v hx
  obtain ⟨a1,T1,f1,h1,h2⟩:=hp.cons x i v hx
  have hne:x≠b:=by rintro rfl;rw [hfree i] at hx;simp at hx
  exact ⟨a1,T1,f1,by rw [k1 x (hMlt x i v hx) hne];exact h1,h2⟩
 ·intro x
  rw [hc1 x]
  show _+0≤1
  split<;>omega
 ·refine ⟨k3,k4,k5,k2,fun _ _ _ h=>h,fun x hx hn=>⟨k1 x hx ?_,fun _=>rfl⟩,fun x hx => ?_,fun d id b h _=>⟨d,id,h⟩,fun _ _=>rfl⟩
  ·rintro rfl
   rcases hown with ⟨_,h⟩ | h
   ·exact hn (.inl (Nat.le_trans h (Nat.le_add_right _ _)))
   ·omega
  ·rw [hc1 x]
   show _+0≤cA args vals x+0
   split
   ·rename_i e
    subst e
    rcases g3 with rfl | g3
    ·rcases hown with ⟨_,h⟩ | h
     ·omega
     ·omega
    ·omega
   ·omega
theorem aXO {P : Program} {G : Mem} {f : FuncId} (hf : ∀ vals w, (callFunc f vals).run P w = .ok (.enter f vals) w)
  (hn : ∀ (oa : Option Addr) (b : Nat) (s : Str) (w : World), Calls P f #[.slice oa 0 0, sVal s] w fun e w' => ∃ v', e = .returned v' ∧ uJ w b [sVal s] v' w')
  (hc : ∀ (b c : Nat) (l : List Str) (s : Str) (w : World), l ≠ [] → l.length < lim → l.length ≤ c → c ≤ 9223372036854775807 →
   (∃ arr T fz, w.heap[b]? = some (.cells arr T fz) ∧ c ≤ arr.size ∧ (∀ i, i < c → ¬ (fz.1 ≤ i ∧ i < fz.2)) ∧ ∀ (j : Nat) (v : Value), (l.map sVal)[j]? = some v → arr[j]? = some v) →
   Calls P f #[.slice (some ⟨b, 0, none⟩) l.length c, sVal s] w fun e w' => ∃ v', e = .returned v' ∧ uJ w b ((insS l s).map sVal) v' w') :
  ∀ args up r up', aD9 args up = some (r, up') → ∀ (n : Nat) w M B vals, CallPre ⟨n, G⟩ M B args up vals w → xE P f vals w (jH ⟨n, G⟩ M B args up vals w r up') := by
 intro args up r up' h nb w M B vals hp
 unfold aD9 at h
 split at h
 ·rename_i es s
  obtain ⟨l, hl, h⟩ := aB h
  obtain ⟨q, hq, h⟩ := aB h
  cases h
  have := aQJ hl
  subst this
  unfold aJY at hq
  split at hq
  ·rename_i hlen
   cases hq
   obtain ⟨v0, h0, r0⟩ := hp.arg 0 (p := .vec 1 (l.map PV.str)) rfl
   obtain ⟨v1, h1, r1⟩ := hp.arg 1 (p := .str s) rfl
   have hh0 := (hp.rel 0 (.vec 1 (l.map PV.str)) rfl).2
   have e1 := r1.str_inv
   subst e1
   have hs : vals.size = 2 := hp.size
   have hv : vals = #[v0, sVal s] := by
    apply Array.ext_getElem?
    intro i
    match i with
    | 0 => simpa using h0
    | 1 => simpa [sVal] using h1
    | i + 2 => rw [Array.getElem?_eq_none (by omega), Array.getElem?_eq_none (by simp)]
   subst hv
   generalize hE : l.map PV.str = E at r0 hh0 hp
   cases r0 with
   | vecNil _ oa =>
    have hl0 : l = [] := List.map_eq_nil_iff.1 hE
    subst hl0
    refine .inl ⟨f, _, hf _ _, (hn oa w.heap.size s w).mono ?_⟩
    rintro e w' ⟨v', rfl, hpost⟩
    refine ⟨v', rfl, aWl hp (fun i => ?_) (.inr (Nat.le_refl _)) (r := insS [] s) (bAm _ _) hpost⟩
    cases hx : M w.heap.size i with
    | none => rfl
    | some v =>
     obtain ⟨a1, T1, f1, h1, _⟩ := hp.cons _ i v hx
     have := (Array.getElem?_eq_some_iff.1 h1).1
     omega
   | vec _ _ b cap hne hcap h01 hEl hm =>
    have hl0 : l ≠ [] := by rintro rfl; exact hne hE.symm
    have hEl' : E.length = l.length := by rw [← hE, List.length_map]
    obtain ⟨x0, l0, rfl⟩ : ∃ x0 l0, l = x0 :: l0 := by
     cases l with
     | nil => exact absurd rfl hl0
     | cons x l => exact ⟨x, l, rfl⟩
    have hv0 : (#[Value.slice (some ⟨b, 0, none⟩) E.length cap, sVal s] : Array Value).getD 0 undef = .slice (some ⟨b, 0, none⟩) E.length cap := rfl
    rw [hv0] at hh0
    have hh1 : Ev.h1 M w ⟨nb, G⟩ B (.vec 1 E) (.slice (some ⟨b, 0, none⟩) E.length cap) := hh0 (.vec 1 E, .slice (some ⟨b, 0, none⟩) E.length cap) (by simp [atoms, zipA])
    rw [List.map_cons] at hE
    have hh2 : HOk M w ⟨nb, G⟩ B b 0 (cap * 1) ∧ ∀ (j : Nat) (c : PV), (E.flatMap cells)[j]? = some c → Rv M (fun _ _ => none) c (bS w b j) := by
     rw [← hE] at hh1 ⊢
     exact hh1
    obtain ⟨hok, hcont⟩ := hh2
    obtain ⟨arr, T, fz, hrow, hsz, hfz⟩ := hok.row
    rw [← List.map_cons] at hE
    have hrow' : ∃ arr T fz, w.heap[b]? = some (.cells arr T fz) ∧ cap ≤ arr.size ∧ (∀ i, i < cap → ¬ (fz.1 ≤ i ∧ i < fz.2)) ∧ ∀ (j : Nat) (v : Value), ((x0 :: l0).map sVal)[j]? = some v → arr[j]? = some v := by
     refine ⟨arr, T, fz, hrow, by omega, fun i hi => hfz i (by omega), ?_⟩
     intro j v hj
     rw [List.getElem?_map, Option.map_eq_some_iff] at hj
     obtain ⟨x, hx, rfl⟩ := hj
     have hjl := (List.getElem?_eq_some_iff.1 hx).1
     have := hcont j (.str x) (by rw [← hE, aQK, List.getElem?_map, hx]; rfl)
     have := this.str_inv
     have hja : j < arr.size := by omega
     simp only [bS, World.cell?, hrow] at this
     rw [Array.getElem?_eq_getElem hja] at this ⊢
     simpa [sVal] using this
    have key := hc b cap (x0 :: l0) s w hl0 hlen (by omega) hm hrow'
    rw [← hEl'] at key
    refine .inl ⟨f, _, hf _ _, key.mono ?_⟩
    rintro e w' ⟨v', rfl, hpost⟩
    have hcA : 1 ≤ cA [.vec 1 E, .str s] #[.slice (some ⟨b, 0, none⟩) E.length cap, sVal s] b := by
     have : cV (.vec 1 E) (.slice (some ⟨b, 0, none⟩) E.length cap) b = 1 := by
      rw [yE (by simp) (by simp), ← hE, List.map_cons]; simp [c1, own1]
     show 1 ≤ bW 2 _
     simp only [bW]
     have e0 : cV (([.vec 1 E, .str s] : List PV).getD 0 .bot) ((#[.slice (some ⟨b, 0, none⟩) E.length cap, sVal s] : Array Value).getD 0 undef) b = 1 := this
     omega
    exact ⟨v', rfl, aWl hp (fun i => hok.free i (Nat.zero_le _)) (.inl ⟨hok.old, hcA⟩) (bAm _ _) hpost⟩
  ·simp at hq
 ·simp at h
end Go.Ev
