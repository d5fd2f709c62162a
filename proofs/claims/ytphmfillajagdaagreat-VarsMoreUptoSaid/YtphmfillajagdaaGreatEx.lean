import Derived.Test.YtphmfillajagdaaGreatEd
import Derived.Below
import Derived.Shelf.Spec.SlicesInsertGrow
import Derived.OrdersHeld
import Derived.Deep.RegionHeld3
import Derived.Deep.RegionLaw
import Derived.KernelRfl
import Derived.WalkKit
set_option linter.unusedVariables false
set_option linter.unusedSimpArgs false
set_option linter.unusedSimpArgs false
open Go.RowKit
namespace Go.Ev
open PV
theorem bE1 {M M' w w' base B} (h:BRel M w base B []):BRel M' w' base B [] :=
 ⟨fun d f b=>by grind,h.dom,fun d id cs a=>by simp [bG,nth] at a,h.inj⟩
theorem bC2 {M w base B} (h:BRel M w base B []) d id:B d id=none:=h.dom d id (by simp [bG,nth])
theorem CallPre.arg {base M B args b vals w} (h:CallPre base M B args b vals w) (i:Nat) {p} (a:args[i]?=some p):∃ v,vals[i]?=some v/\Rv M (qI B) p v:=by
 have c:=(List.getElem?_eq_some_iff.1 a).1;have d:i<vals.size:=by rw [h.size];omega
 have:=(h.rel i p a).1;simp_all
open PV Go.RowKit
def bE2 (P:Program) (G:Mem) (f:FuncId) (args:List PV) (q:PV):Prop :=
 ∀ n w M B vals,CallPre ⟨n,G⟩ M B args [] vals w->tJ P f vals w (gM ⟨n,G⟩ M B args [] vals w q [])
def Self {α β:Type} (P:Program) (G:Mem) (f:FuncId) (A:α->List PV) (R:β->PV) (F:α->Option β) (args:List PV) (q:PV):Prop :=
 ∃ x r,args.map PV.plain=A x/\F x=some r/\q=R r/\bE2 P G f args q
open Classical in
noncomputable def aZ7 {α β} (P:Program) (G:Mem) (f:FuncId) (A:α->List PV) (R:β->PV) (F:α->Option β):List PV->UP->Option (PV×UP):=fun args up =>
 if h:up=[]/\∃ q,Self P G f A R F args q then some (Classical.choose h.2,[]) else none
theorem bE3 {α β} {P G f} {A:α->List PV} {R:β->PV} {F} :
  ∀ args b r a,aZ7 P G f A R F args b=some (r,a)->∀ n w M B vals,CallPre ⟨n,G⟩ M B args b vals w->tJ P f vals w (gM ⟨n,G⟩ M B args b vals w r a):=by
 intro args b r a h n w M B vals i;unfold aZ7 at h;split at h;· rename_i c;obtain ⟨e,d⟩:=c;cases h;subst e;obtain ⟨x,r,l,k,j,g⟩:=Classical.choose_spec d;exact g n w M B vals i
 grind
theorem bE4 {α β} {P G f} {A:α->List PV} {R:β->PV} {F} (l:∀ a b,A a=A b->a=b) {args x r}
  (g:args.map PV.plain=A x) (e:F x=some r) (d:bE2 P G f args (R r)):aZ7 P G f A R F args []=some (R r,[]):=by
 unfold aZ7;have c:([]:UP)=[]/\∃ q,Self P G f A R F args q:=⟨rfl,R r,x,r,g,e,rfl,d⟩;obtain ⟨x',j,i,h,k,_⟩:=Classical.choose_spec c.2;grind
structure Quiet (M:Mem) (w:World) (M':Mem) (w':World):Prop where
 mem:∀ b i v,M b i=some v->M' b i=some v
 old:∀ b,b<w.heap.size->w'.heap[b]?=w.heap[b]?/\∀ i,M' b i=M b i
 size:w.heap.size<=w'.heap.size
 os:w'.os=w.os
 tape:w'.tape=w.tape
 output:w'.output=w.output
theorem Quiet.refl M w:Quiet M w M w:=⟨fun _ _ _ h=>h,fun _ _=>⟨rfl,fun _=>rfl⟩,by omega,rfl,rfl,rfl⟩
theorem Quiet.trans {M M1 f w g e} (h:Quiet M w M1 g) (a:Quiet M1 g f e):Quiet M w f e:=by
 refine ⟨fun b i v hv=>a.mem _ _ _ (h.mem _ _ _ hv),fun b d => ?_,Nat.le_trans h.size a.size,a.os.trans h.os,a.tape.trans h.tape,a.output.trans h.output⟩;have c  := Nat.lt_of_lt_of_le d h.size;exact ⟨(a.old b c).1.trans (h.old b d).1,fun i=>((a.old b c).2 i).trans ((h.old b d).2 i)⟩
structure Plains (M:Mem) (args:List PV) (vals:Array Value):Prop where
 size:vals.size=args.length
 rel:∀ (i:Nat) (p:PV),args[i]?=some p->Rv M noB p (vals.getD i undef)/\fL p (vals.getD i undef)
theorem mA {P X Mt} (u:POk P) (y:aVh P (fun _ _=>none) X) {f args r} (h:OL P Mt X f args []=some (r,[]))
  {M w vals} (q:(callFunc f vals).run P w = .ok (.enter f vals) w) (z:Cons M w) (l:Plains M args vals) :
  Calls P f vals w fun e w'=>∃ v M',e = .returned v/\Rv M' noB r v/\Cons M' w'/\Quiet M w M' w':=by
 have t:∀ b,cA args vals b=0:=by
  intro b;refine kM _ (fun i E => ?_);have A:args[i]?=some (args.getD i .bot):=by grind
  exact (l.rel i _ A).2.c b
 have B:∀ w b,cBx w noB [] b=0:=by simp [cBx,iV]
 have pre:CallPre ⟨0,fun _ _=>none⟩ M noB args [] vals w:=by
  refine ⟨z,l.size,fun i p s=>⟨by rw [aKy];exact (l.rel i p s).1,(l.rel i p s).2.h _ _ _ _⟩,⟨fun d f q=>by grind,fun _ _ _=>rfl,fun d id cs m=>by simp [bG,nth] at m,fun d id G C blk k=>by simp [noB] at k⟩,fun b => ?_,fun b i v hv=>by grind,Nat.zero_le _⟩;grind
 have key:=bIM (P:=P) (Mt:=Mt) (X:=X) u y f args [] r [] h 0 w M noB vals pre;have o:∀ v w',gM ⟨0,fun _ _=>none⟩ M noB args [] vals w r [] v w'->∃ M',Rv M' noB r v/\Cons M' w'/\Quiet M w M' w':=by
  rintro v w' ⟨M',j,n,F,x,H,a⟩;refine ⟨M',j,x,⟨a.mono,fun b k=>a.keep b k ?_,a.size,a.os,a.tape,a.output⟩⟩;rintro (D | ⟨d,id,k⟩);· grind
  simp [noB] at k
 rcases key with ⟨g,gs,j,n⟩ | ⟨v,w',j,n⟩;· rw [q] at j;cases j;refine n.mono ?_;grind
 grind
theorem aMS {P G f args q} (t : ∀ p ∈ args, ∀ v, fL p v) (s : ∀ p ∈ args, p.solid = true) (a : q.plain = q) (m : q.solid = true)
  (r : ∀ vals w, (callFunc f vals).run P w = .ok (.enter f vals) w)
  (g : ∀ M w vals, Cons M w -> vals.size = args.length -> (∀ i p, args[i]? = some p -> Rv M noB p.plain (vals.getD i undef)) ->
   Calls P f vals w fun e w' => ∃ v M', e = .returned v /\ Rv M' noB q v /\ Cons M' w' /\ Quiet M w M' w') : bE2 P G f args q := by
 intro n w M B vals l;have x  := fun d id => l.box.dom d id (by simp [bG, nth]);have k : ∀ w b, cBx w B [] b = 0 := by simp [cBx, iV]
 refine .inl ⟨f, vals, r vals w, (g M w vals l.cons l.size fun i p h => ((l.rel i p h).1.anyB noB (by grind)).plain).mono ?_⟩;rintro e w' ⟨v, M', rfl, hv, y, j⟩;refine ⟨v, rfl, M', hv.anyB B m, (aS a).h _ _ _ _, ⟨fun d f r => by grind, fun d id _ => x d id, fun d id cs o => by simp [bG, nth] at o, fun d id A z blk u => by grind⟩, y, fun b => ?_, ?_⟩;· rw [(aS a).c b, k]; omega
 exact ⟨j.os, j.tape, j.output, j.size, j.mem, fun b u _ => j.old b u, fun b _ => by rw [(aS a).c b, k]; omega, fun d id b h _ => ⟨d, id, h⟩, fun _ _ => rfl⟩
def strL:List PV->Option (List Str)
 | []=>some []
 | .str s::l=>bnd (strL l) fun r=>some (s::r)
 | _::_=>none
theorem aYx:∀ (l:List Str),strL (l.map PV.str)=some l
 | []=>rfl
 | s::l=>by simp only [List.map_cons,strL,aYx l,bnd]
theorem aSo:∀ {es:List PV} {l:List Str},strL es=some l->es=l.map PV.str
 | [],l,h=>by simp [strL] at h;subst h;rfl
 | e::es,l,h=>by
  unfold strL at h
  split at h
  ·rename_i heq;cases heq
  ·rename_i s es' heq
   cases heq
   obtain ⟨r,hr,h⟩:=aC h
   cases h
   rw [aSo hr];rfl
  ·simp at h
open PV Go.Proofs Go.Shelf Go.RowKit Go.Lib
theorem kN (b:Nat):∀ (vs:List Value) (o:Nat) (w:World),
  (w.setCells b o vs).heap.size=w.heap.size/\(∀ x,x≠b->(w.setCells b o vs).heap[x]?=w.heap[x]?)/\(w.setCells b o vs).os=w.os/\(w.setCells b o vs).tape=w.tape/\(w.setCells b o vs).output=w.output /\
  ∀ arr T fz,w.heap[b]?=some (.cells arr T fz)->∃ arr',(w.setCells b o vs).heap[b]?=some (.cells arr' T fz)/\arr'.size=arr.size/\∀ j,arr'[j]?=if o<=j/\j<o+vs.length/\j<arr.size then vs[j-o]? else arr[j]?
 | [],o,w=>by
  refine ⟨rfl,fun _ _=>rfl,rfl,rfl,rfl,fun arr T fz h=>⟨arr,h,rfl,fun j => ?_⟩⟩
  rw [if_neg (by simp;omega)]
 | v::r,o,w=>by
  obtain ⟨h1,h2,h3,h4,h5,h6⟩:=kN b r (o+1) (w.setCell ⟨b,o,none⟩ v)
  rw [World.setCells]
  refine ⟨h1.trans (by simp [World.setCell]),fun x hx=>(h2 x hx).trans (by simp only [World.setCell,Array.getElem?_modify];rw [if_neg (Ne.symm hx)]),h3,h4,h5,?_⟩
  intro arr T fz h
  obtain ⟨arr',k1,k2,k3⟩:=h6 (arr.setIfInBounds o v) T fz (by simp [World.setCell,Array.getElem?_modify,h])
  refine ⟨arr',k1,by rw [k2];simp,fun j => ?_⟩
  rw [k3 j]
  simp only [Array.size_setIfInBounds,List.length_cons]
  by_cases e1:o+1<=j/\j<o+1+r.length/\j<arr.size
  ·rw [if_pos e1,if_pos (by omega),show j-o=(j-(o+1))+1 by omega,List.getElem?_cons_succ]
  ·rw [if_neg e1,Array.getElem?_setIfInBounds]
   by_cases e2:o=j
   ·subst e2
    by_cases e3:o<arr.size
    ·rw [if_pos rfl,if_pos e3,if_pos (by omega)];simp
    ·rw [if_pos rfl,if_neg e3,if_neg (by omega),Array.getElem?_eq_none (by omega)]
   ·rw [if_neg e2,if_neg (by omega)]
theorem jQ (w:World) (o:Obj):(w.alloc o).heap.size=w.heap.size+1/\(∀ x,x<w.heap.size->(w.alloc o).heap[x]?=w.heap[x]?)/\(w.alloc o).heap[w.heap.size]?=some o:=by
 have e:(w.alloc o).heap=w.heap.push o:=rfl
 rw [e]
 refine ⟨Array.size_push _,fun x hx => ?_,Array.getElem?_push_size⟩
 rw [Array.getElem?_push,if_neg (by omega)]
def vQ (w:World) (b:Nat) (r:List Value) (v':Value) (w':World):Prop :=
 (∃ b' c',v' = .slice (some ⟨b',0,none⟩) r.length c'/\r.length<=c'/\c'<=9223372036854775807/\(b'=b∨w.heap.size<=b') /\
 ∃ arr T fz,w'.heap[b']?=some (.cells arr T fz)/\c'<=arr.size/\(∀ i,i<c'->¬ (fz.1<=i/\i<fz.2))/\∀ (j:Nat) (v:Value),r[j]?=some v->arr[j]?=some v) /\
 (∀ x,x<w.heap.size->x≠b->w'.heap[x]?=w.heap[x]?)/\w.heap.size<=w'.heap.size/\w'.os=w.os/\w'.tape=w.tape/\w'.output=w.output
def insL {α:Type} (l:List α) (i:Nat) (x:α):List α:=l.take i++x::l.drop i
theorem bE5 {α:Type} {l:List α} {i:Nat} (x:α) (h:i<=l.length):(insL l i x).length=l.length+1:=by
 unfold insL;rw [List.length_append,List.length_cons,List.length_take,List.length_drop];omega
theorem aPD {α:Type} (l:List α) (i:Nat) (x:α) (h:i<=l.length) (j:Nat):(insL l i x)[j]?=if j<i then l[j]? else if j=i then some x else l[j-1]?:=by
 unfold insL
 have hl:(l.take i).length=i:=by rw [List.length_take];omega
 by_cases h1:j<i
 ·rw [if_pos h1,List.getElem?_append_left (by omega),List.getElem?_take,if_pos h1]
 ·rw [if_neg h1,List.getElem?_append_right (by omega),hl]
  by_cases h2:j=i
  ·subst h2;simp
  ·rw [if_neg h2,show j-i=(j-i-1)+1 by omega,List.getElem?_cons_succ,List.getElem?_drop,show i+(j-i-1)=j-1 by omega]
section
variable {P : Program} {ρ : Ren}
set_option maxHeartbeats 1000000 in
theorem aZ8 (L:Lays2.n22 P ρ) (b n c i:Nat) (cs:List Value) (nm:Value) (T:TypeId) (w:World) (hi:i<=n) (hcl:cs.length=n) (hnc:n<=c) (hbig:n<=1099511627776) (hc63:c<=9223372036854775807) (hn0:0<n)
  (hrow:∃ arr T fz,w.heap[b]?=some (.cells arr T fz)/\c<=arr.size/\(∀ i,i<c->¬ (fz.1<=i/\i<fz.2))/\∀ (j:Nat) (v:Value),cs[j]?=some v->arr[j]?=some v) (h1c:∀ v∈cs,v.oneCell'=true) (h1v:nm.oneCell'=true) :
  Calls P (ρ.f 22) #[.slice (some ⟨b,0,none⟩) n c,.int .i64 i,.slice (some ⟨w.heap.size,0,none⟩) 1 1] (w.alloc (.cells #[nm] T)) fun e w'=>∃ v',e = .returned v'/\vQ w b (insL cs i nm) v' w':=by
 obtain ⟨arr,TB,fz,hrow,hsz,hfz,harr⟩:=hrow
 have hb:b<w.heap.size:=(Array.getElem?_eq_some_iff.1 hrow).1
 have hrl:(insL cs i nm).length=n+1:=by rw [bE5 nm (by omega),hcl]
 obtain ⟨w1,hw1⟩:∃ w1,w1=w.alloc (.cells #[nm] T):=⟨_,rfl⟩
 obtain ⟨hs1,hold,hnew⟩:w1.heap.size=w.heap.size+1/\(∀ x,x<w.heap.size->w1.heap[x]?=w.heap[x]?)/\w1.heap[w.heap.size]?=some (.cells #[nm] T (0,0)):=by rw [hw1];exact jQ w _
 have hos:w1.os=w.os/\w1.tape=w.tape/\w1.output=w.output:=by rw [hw1];exact ⟨rfl,rfl,rfl⟩
 rw [<- hw1]
 have hr1:w1.heap[b]?=some (.cells arr TB fz):=by rw [hold b hb];exact hrow
 have hcell:∀ j,w1.cell? ⟨b,j,none⟩=arr[j]?:=by intro j;simp [World.cell?,hr1]
 have hcs:∀ j v,cs[j]?=some v->w1.cell? ⟨b,0+j,none⟩=some v:=by intro j v hj;rw [Nat.zero_add,hcell];exact harr j v hj
 have hvs:∀ j v,[nm][j]?=some v->w1.cell? ⟨w.heap.size,0+j,none⟩=some v:=by
  intro j v hj
  cases j with
  | zero=>simp at hj;subst hj;simp [World.cell?,hnew]
  | succ j=>simp at hj
 have hsp:∀ j,j<c->(w1.cell? ⟨b,j,none⟩).isSome=true:=by
  intro j hj;rw [hcell,Array.getElem?_eq_getElem (by omega)];rfl
 have hfrz:∀ j,j<c->w1.frozen? ⟨b,j,none⟩=false:=by
  intro j hj
  have:=hfz j hj
  simp only [World.frozen?,hr1]
  rw [Bool.eq_false_iff]
  intro h
  rw [Bool.and_eq_true,decide_eq_true_eq,decide_eq_true_eq] at h
  exact this h
 have hbig16:(n+1)*16<=140737488355328:=by omega
 have h1v':∀ v∈[nm],v.oneCell'=true:=by intro v hv;rw [List.mem_singleton] at hv;subst hv;exact h1v
 -- what a list of facts about the last world tells
 have fin:∀ (b' c':Nat) (w':World),n+1<=c'->c'<=9223372036854775807->(b'=b∨w.heap.size<=b') ->
   (∃ arr T fz,w'.heap[b']?=some (.cells arr T fz)/\c'<=arr.size/\(∀ i,i<c'->¬ (fz.1<=i/\i<fz.2))/\∀ (j:Nat) (v:Value),(insL cs i nm)[j]?=some v->arr[j]?=some v) ->
   (∀ x,x<w.heap.size->x≠b->w'.heap[x]?=w1.heap[x]?)->w.heap.size<=w'.heap.size->w'.os=w1.os/\w'.tape=w1.tape/\w'.output=w1.output->vQ w b (insL cs i nm) (.slice (some ⟨b',0,none⟩) (n+1) c') w':=by
  intro b' c' w' g1 g2 g3 g4 g5 g6 g7
  refine ⟨⟨b',c',by rw [hrl],by omega,g2,g3,g4⟩,fun x hx hne=>(g5 x hx hne).trans (hold x hx),g6,g7.1.trans hos.1,g7.2.1.trans hos.2.1,g7.2.2.trans hos.2.2⟩
 by_cases hroom:n+1<=c
 ·by_cases hin:i<n
  ·have key:=Any2.slices_Insert_string_shift L b 0 n c i w.heap.size 0 1 1 cs [nm] w1 hin (by omega) hroom hc63 (by omega) hcl rfl hcs (fun j hj=>by rw [Nat.zero_add];exact hsp j (by omega)) (fun j hj=>by rw [Nat.zero_add];exact hfrz j (by omega))
    hvs h1c h1v' T TB 1 arr.size (by simp [World.shape?,hnew]) (by simp [World.shape?,hr1]) (by omega) (by simp [World.frozen?,hnew]) (by simp [World.frozen?,hnew])
   refine key.mono ?_
   rintro e w' ⟨rfl,rfl⟩
   refine ⟨_,rfl,?_⟩
   obtain ⟨p1,p2,p3,p4,p5,p6⟩:=kN b (cs.drop i) (0+(i+1)) w1.drew
   obtain ⟨q1,q2,q3,q4,q5,q6⟩:=kN b [nm] (0+i) (w1.drew.setCells b (0+(i+1)) (cs.drop i))
   obtain ⟨a1,k1,k2,k3⟩:=p6 arr TB fz hr1
   obtain ⟨a2,m1,m2,m3⟩:=q6 a1 TB fz k1
   refine fin b c _ hroom hc63 (.inl rfl) ⟨a2,TB,fz,m1,by omega,hfz,?_⟩ (fun x hx hne=>(q2 x hne).trans (p2 x hne)) (by rw [q1,p1];show w.heap.size<=w1.heap.size;omega) ⟨q3.trans p3,q4.trans p4,q5.trans p5⟩
   intro j v hj
   have hjl:=(List.getElem?_eq_some_iff.1 hj).1
   rw [hrl] at hjl
   rw [aPD cs i nm (by omega)] at hj
   rw [m3 j,k3 j]
   simp only [Nat.zero_add,List.length_singleton,List.length_drop]
   by_cases e1:j<i
   ·rw [if_pos e1] at hj
    rw [if_neg (by omega),if_neg (by omega)]
    exact harr j v hj
   ·rw [if_neg e1] at hj
    by_cases e2:j=i
    ·subst e2
     rw [if_pos rfl] at hj
     rw [if_pos (by omega),Nat.sub_self];exact hj
    ·rw [if_neg e2] at hj
     rw [if_neg (by omega),if_pos (by omega),List.getElem?_drop,show i+(j-(i+1))=j-1 by omega]
     exact hj
  ·obtain rfl:i=n:=by omega
   have key:=Any2.slices_Insert_string_end_room L b 0 i c w.heap.size 0 1 1 [nm] w1 (by omega) hroom hc63 rfl (fun j hj=>by rw [Nat.zero_add];exact hsp _ (by omega)) (fun j hj=>by rw [Nat.zero_add];exact hfrz _ (by omega)) hvs h1v'
   refine key.mono ?_
   rintro e w' ⟨rfl,rfl⟩
   refine ⟨_,rfl,?_⟩
   obtain ⟨q1,q2,q3,q4,q5,q6⟩:=kN b [nm] (0+i) w1
   obtain ⟨a2,m1,m2,m3⟩:=q6 arr TB fz hr1
   refine fin b c _ hroom hc63 (.inl rfl) ⟨a2,TB,fz,m1,by omega,hfz,?_⟩ (fun x hx hne=>q2 x hne) (by rw [q1];omega) ⟨q3,q4,q5⟩
   intro j v hj
   have hjl:=(List.getElem?_eq_some_iff.1 hj).1
   rw [hrl] at hjl
   rw [aPD cs i nm (by omega)] at hj
   rw [m3 j]
   simp only [Nat.zero_add,List.length_singleton]
   by_cases e1:j<i
   ·rw [if_pos e1] at hj
    rw [if_neg (by omega)]
    exact harr j v hj
   ·obtain rfl:j=i:=by omega
    rw [if_neg e1,if_pos rfl] at hj
    rw [if_pos (by omega),Nat.sub_self];exact hj
 ·have hcn:c=n:=by omega
  have hg1:=grownCap_ge w1 (n+1) c (ρ.t 9)
  have hg2:=grownCap_le_maxLen w1 (n+1) c (ρ.t 9) (by unfold maxLen;omega)
  unfold maxLen at hg2
  by_cases hin:i<n
  ·have key:=Any2.slices_Insert_string_grow L b 0 n c i w.heap.size 0 1 1 cs [nm] w1 hin (by omega) hnc (by omega) hbig16 hcl rfl hcs hvs h1c h1v'
   refine key.mono ?_
   rintro e w' ⟨rfl,rfl⟩
   refine ⟨_,rfl,?_⟩
   generalize grownCap w1 (n+1) c (ρ.t 9)=G at hg1 hg2
   obtain ⟨ROW,hROW⟩:∃ ROW:Array Value,ROW=(cs.take i).toArray++Builtin.zeroCells (Value.string ⟨#[]⟩).cells (n+1-i)++Builtin.zeroCells (Value.string ⟨#[]⟩).cells (G-(n+1)):=⟨_,rfl⟩
   rw [<- hROW]
   have hRs:ROW.size=G:=by rw [hROW];simp [Builtin.zeroCells,Value.cells];omega
   have hRt:∀ j,j<i->ROW[j]?=cs[j]?:=by
    intro j hj
    have e1:(cs.take i).toArray.size=i:=by simp;omega
    rw [hROW,Array.getElem?_append_left (by simp;omega),Array.getElem?_append_left (by omega)]
    simp [hj]
   obtain ⟨w2,hw2⟩:∃ w2,w2=(w1.alloc (.cells ROW (ρ.t 9))).drew:=⟨_,rfl⟩
   rw [<- hw2]
   obtain ⟨hs2,hold2,hnew2⟩:w2.heap.size=w1.heap.size+1/\(∀ x,x<w1.heap.size->w2.heap[x]?=w1.heap[x]?)/\w2.heap[w1.heap.size]?=some (.cells ROW (ρ.t 9) (0,0)):=by rw [hw2];exact jQ w1 _
   have hos2:w2.os=w1.os/\w2.tape=w1.tape/\w2.output=w1.output:=by rw [hw2];exact ⟨rfl,rfl,rfl⟩
   obtain ⟨p1,p2,p3,p4,p5,p6⟩:=kN w1.heap.size [nm] i w2
   obtain ⟨q1,q2,q3,q4,q5,q6⟩:=kN w1.heap.size (cs.drop i) (i+1) (w2.setCells w1.heap.size i [nm]).drew
   obtain ⟨a1,k1,k2,k3⟩:=p6 ROW _ _ hnew2
   obtain ⟨a2,m1,m2,m3⟩:=q6 a1 _ _ k1
   refine fin w1.heap.size G _ hg1 hg2 (.inr (by omega)) ⟨a2,_,_,m1,by omega,by simp,?_⟩ (fun x hx hne=>(q2 x (by omega)).trans ((p2 x (by omega)).trans (hold2 x (by omega)))) (by rw [q1];show _<=(w2.setCells w1.heap.size i [nm]).heap.size;rw [p1];omega)
    ⟨q3.trans (p3.trans hos2.1),q4.trans (p4.trans hos2.2.1),q5.trans (p5.trans hos2.2.2)⟩
   intro j v hj
   have hjl:=(List.getElem?_eq_some_iff.1 hj).1
   rw [hrl] at hjl
   rw [aPD cs i nm (by omega)] at hj
   rw [m3 j,k3 j]
   simp only [List.length_singleton,List.length_drop]
   by_cases e1:j<i
   ·rw [if_pos e1] at hj
    rw [if_neg (by omega),if_neg (by omega),hRt j e1]
    exact hj
   ·rw [if_neg e1] at hj
    by_cases e2:j=i
    ·subst e2
     rw [if_pos rfl] at hj
     rw [if_neg (by omega),if_pos (by omega),Nat.sub_self];exact hj
    ·rw [if_neg e2] at hj
     rw [if_pos (by omega),List.getElem?_drop,show i+(j-(i+1))=j-1 by omega]
     exact hj
  ·obtain rfl:i=n:=by omega
   have key:=Any2.slices_Insert_string_end_grow L (some ⟨b,0,none⟩) i c w.heap.size 0 1 1 cs [nm] w1 (by omega) hnc (by omega) hbig16 hcl rfl (by simp) (by rintro a ⟨rfl⟩ j v hj;rw [Addr.add_lit];exact hcs j v hj) hvs h1v'
   refine key.mono ?_
   rintro e w' ⟨rfl,rfl⟩
   refine ⟨_,rfl,?_⟩
   generalize grownCap w1 (i+1) c (ρ.t 9)=G at hg1 hg2
   refine fin w1.heap.size G _ hg1 hg2 (.inr (by omega)) ⟨_,_,(0,0),(jQ w1.drew _).2.2,?_,by simp,?_⟩ (fun x hx hne=>(jQ w1.drew _).2.1 x (by show x<w1.heap.size;omega)) (by rw [(jQ w1.drew _).1];show _<=w1.heap.size+1;omega) ⟨rfl,rfl,rfl⟩
   ·simp [Builtin.zeroCells,Value.cells,hcl];omega
   ·intro j v hj
    have hjl:=(List.getElem?_eq_some_iff.1 hj).1
    rw [hrl] at hjl
    have hl:insL cs i nm=cs++[nm]:=by unfold insL;rw [<- hcl,List.take_length,List.drop_length]
    rw [Array.getElem?_append_left (by simp;omega)]
    rw [hl] at hj
    simpa using hj
theorem aZ9 (L : Lays2.n22 P ρ) (oa : Option Addr) (b : Nat) (nm : Value) (T : TypeId) (w : World) (h1v : nm.oneCell' = true) :
    Calls P (ρ.f 22) #[.slice oa 0 0, .int .i64 0, .slice (some ⟨w.heap.size, 0, none⟩) 1 1] (w.alloc (.cells #[nm] T)) fun e w' => ∃ v', e = .returned v' /\ vQ w b [nm] v' w' := by
  obtain ⟨w1, hw1⟩ : ∃ w1, w1 = w.alloc (.cells #[nm] T) := ⟨_, rfl⟩
  obtain ⟨hs1, hold, hnew⟩ : w1.heap.size = w.heap.size + 1 /\ (∀ x, x < w.heap.size -> w1.heap[x]? = w.heap[x]?) /\ w1.heap[w.heap.size]? = some (.cells #[nm] T (0, 0)) := by rw [hw1]; exact jQ w _
  have hos : w1.os = w.os /\ w1.tape = w.tape /\ w1.output = w.output := by rw [hw1]; exact ⟨rfl, rfl, rfl⟩
  rw [<- hw1]
  have key := Any2.slices_Insert_string_end_grow L oa 0 0 w.heap.size 0 1 1 [] [nm] w1 (by omega) (by omega) (by omega) (by omega) rfl rfl (fun _ => rfl) (by intro a _ j v hj; simp at hj)
    (by intro j v hj
        cases j with
        | zero => simp at hj; subst hj; simp [World.cell?, hnew]
        | succ j => simp at hj) (by intro v hv; rw [List.mem_singleton] at hv; subst hv; exact h1v)
  refine key.mono ?_
  rintro e w' ⟨rfl, rfl⟩
  have hg1 := grownCap_ge w1 (0 + 1) 0 (ρ.t 9)
  have hg2 := grownCap_le_maxLen w1 (0 + 1) 0 (ρ.t 9) (by unfold maxLen; omega)
  unfold maxLen at hg2
  generalize grownCap w1 (0 + 1) 0 (ρ.t 9) = G at hg1 hg2
  refine ⟨_, rfl, ⟨_, G, rfl, hg1, hg2, .inr (by omega), _, _, (0, 0), (jQ w1.drew _).2.2, ?_, by simp, ?_⟩, ?_, ?_, hos⟩
  · simp [Builtin.zeroCells, Value.cells]; omega
  · intro j v hj
    have hjl := (List.getElem?_eq_some_iff.1 hj).1
    simp only [List.length_singleton] at hjl
    obtain rfl : j = 0 := by omega
    simp at hj; subst hj
    rw [Array.getElem?_append_left (by simp)]
    simp
  · intro x hx _
    exact ((jQ w1.drew _).2.1 x (by show x < w1.heap.size; omega)).trans (hold x hx)
  · rw [(jQ w1.drew _).1]; show _ <= w1.heap.size + 1; omega
end
def insS:List Str->Str->List Str
 | [],s=>[s]
 | x::r,s=>if Op.bytesLess x s=true then x::insS r s else if x=s then x::r else s::x::r
theorem bC3 (l:List Str) (s:Str):insS l s≠[]:=by
 cases l with
 | nil=>simp [insS]
 | cons x r=>simp only [insS];split<;>(try split)<;>simp
theorem aPE:∀ (l:List Str) (s:Str),(insS l s).length<=l.length+1
 | [],s=>by simp [insS]
 | x::r,s=>by
  have:=aPE r s
  simp only [insS]
  split
  ·simp only [List.length_cons];omega
  ·split<;>simp
def aK6 (l:List Str) (s:Str):Option (List Str):=if l.length<lim then some (insS l s) else none
def aER:List PV->UP->Option (PV×UP)
 | [.vec 1 es,.str s],[]=>bnd (strL es) fun l=>bnd (aK6 l s) fun r=>some (.vec 1 (r.map PV.str),[])
 | _,_=>none
theorem bAa {l r:List Str} {s:Str} (h:aK6 l s=some r):aER [.vec 1 (List.map PV.str l),.str s] []=some (.vec 1 (List.map PV.str r),[]):=by simp only [aER,aYx,h,bnd]
def sVal (s:Str):Value := .string ⟨s.toArray⟩
theorem aSp (l:List Str):(l.map PV.str).flatMap cells=l.map PV.str:=by
 induction l with
 | nil=>rfl
 | cons x l ih=>rw [List.map_cons,List.flatMap_cons,ih];rfl
theorem bC4 (l:List Str):∀ e∈l.map PV.str,okVe 1 e=true:=by
 intro e he
 obtain ⟨x,_,rfl⟩:=List.mem_map.1 he
 rfl
theorem aYy {base:Base} {M:Mem} {B:BM} {args:List PV} {vals:Array Value} {w:World} (hp:CallPre base M B args [] vals w) {b:Nat} (hfree:∀ i,M b i=none) (hown:(base:Nat)<=b/\1<=cA args vals b∨w.heap.size<=b) {r:List Str} (hr:r≠[]) {v':Value} {w':World}
  (h:vQ w b (r.map sVal) v' w'):gM base M B args [] vals w (.vec 1 (r.map PV.str)) [] v' w':=by
 obtain ⟨⟨b',c',rfl,g1,g2,g3,arr,T,fz,g4,g5,g6,g7⟩,k1,k2,k3,k4,k5⟩:=h
 have hMlt:∀ x i v,M x i=some v->x<w.heap.size:=by
  intro x i v hx
  obtain ⟨a1,T1,f1,h1,_⟩:=hp.cons x i v hx
  exact (Array.getElem?_eq_some_iff.1 h1).1
 have hfree':∀ i,M b' i=none:=by
  intro i
  rcases g3 with rfl | g3
  ·exact hfree i
  ·cases hx:M b' i with
   | none=>rfl
   | some v=>have:=hMlt b' i v hx;omega
 have hlen:(r.map sVal).length=(r.map PV.str).length:=by simp
 obtain ⟨x0,r0,rfl⟩:∃ x0 r0,r=x0::r0:=by
  cases r with
  | nil=>exact absurd rfl hr
  | cons x l=>exact ⟨x,l,rfl⟩
 have hc1:∀ x,cV (.vec 1 ((x0::r0).map PV.str)) (.slice (some ⟨b',0,none⟩) ((x0::r0).map sVal).length c') x=if b'=x then 1 else 0:=by
  intro x
  rw [zO (by simp) (by simp)]
  simp [c1,own1]
 have hbase:(base:Nat)<=b':=by
  have hb:=hp.base
  rcases g3 with rfl | g3
  ·rcases hown with ⟨h,_⟩ | h
   ·exact h
   ·exact Nat.le_trans hb h
  ·exact Nat.le_trans hb g3
 refine ⟨M,?_,?_,bE1 hp.box,?_,?_,?_⟩
 ·rw [hlen]
  exact .vec 1 _ b' c' (by simp) (by rw [<- hlen];exact g1) (by omega) (bC4 _) g2
 ·intro x hx
  simp only [atoms,zipA,List.mem_singleton] at hx
  subst hx
  refine ⟨⟨hbase,fun d id hB => ?_,⟨arr,T,fz,g4,by omega,fun i hi=>g6 i (by omega)⟩,fun i _=>hfree' i⟩,?_⟩
  ·rw [bC2 hp.box d id] at hB;simp at hB
  ·intro j c hj
   rw [show (PV.str x0::List.map PV.str r0)=(x0::r0).map PV.str from rfl,aSp,List.getElem?_map,Option.map_eq_some_iff] at hj
   obtain ⟨x,hx,rfl⟩:=hj
   have:=g7 j (sVal x) (by rw [List.getElem?_map,hx];rfl)
   have hcv:bT w' b' j=sVal x:=by simp [bT,World.cell?,g4,this]
   show Rv M _ (.str x) (bT w' b' j)
   rw [hcv];exact .str x
 ·intro x i v hx
  obtain ⟨a1,T1,f1,h1,h2⟩:=hp.cons x i v hx
  have hne:x≠b:=by rintro rfl;rw [hfree i] at hx;simp at hx
  exact ⟨a1,T1,f1,by rw [k1 x (hMlt x i v hx) hne];exact h1,h2⟩
 ·intro x
  rw [hc1 x]
  show _+0<=1
  split<;>omega
 ·refine ⟨k3,k4,k5,k2,fun _ _ _ h=>h,fun x hx hn=>⟨k1 x hx ?_,fun _=>rfl⟩,fun x hx => ?_,fun d id b h _=>⟨d,id,h⟩,fun _ _=>rfl⟩
  ·rintro rfl
   rcases hown with ⟨_,h⟩ | h
   ·exact hn (.inl (Nat.le_trans h (Nat.le_add_right _ _)))
   ·omega
  ·rw [hc1 x]
   show _+0<=cA args vals x+0
   split
   ·rename_i e
    subst e
    rcases g3 with rfl | g3
    ·rcases hown with ⟨_,h⟩ | h
     ·omega
     ·omega
    ·omega
   ·omega
theorem bAb {P : Program} {G : Mem} {f : FuncId} (hf : ∀ vals w, (callFunc f vals).run P w = .ok (.enter f vals) w)
  (hn : ∀ (oa : Option Addr) (b : Nat) (s : Str) (w : World), Calls P f #[.slice oa 0 0, sVal s] w fun e w' => ∃ v', e = .returned v' /\ vQ w b [sVal s] v' w')
  (hc : ∀ (b c : Nat) (l : List Str) (s : Str) (w : World), l ≠ [] -> l.length < lim -> l.length <= c -> c <= 9223372036854775807 ->
   (∃ arr T fz, w.heap[b]? = some (.cells arr T fz) /\ c <= arr.size /\ (∀ i, i < c -> ¬ (fz.1 <= i /\ i < fz.2)) /\ ∀ (j : Nat) (v : Value), (l.map sVal)[j]? = some v -> arr[j]? = some v) ->
   Calls P f #[.slice (some ⟨b, 0, none⟩) l.length c, sVal s] w fun e w' => ∃ v', e = .returned v' /\ vQ w b ((insS l s).map sVal) v' w') :
  ∀ args up r up', aER args up = some (r, up') -> ∀ (n : Nat) w M B vals, CallPre ⟨n, G⟩ M B args up vals w -> tJ P f vals w (gM ⟨n, G⟩ M B args up vals w r up') := by
 intro args up r up' h nb w M B vals hp
 unfold aER at h
 split at h
 ·rename_i es s
  obtain ⟨l, hl, h⟩ := aC h
  obtain ⟨q, hq, h⟩ := aC h
  cases h
  have := aSo hl
  subst this
  unfold aK6 at hq
  split at hq
  ·rename_i hlen
   cases hq
   obtain ⟨v0, h0, r0⟩ := hp.arg 0 (p := .vec 1 (l.map PV.str)) rfl
   obtain ⟨v1, h1, r1⟩ := hp.arg 1 (p := .str s) rfl
   have hh0 := (hp.rel 0 (.vec 1 (l.map PV.str)) rfl).2
   have e1 := r1.str_inv
   subst e1
   have hs : vals.size = 2 := hp.size
   have hv : vals = #[v0, sVal s] := by
    apply Array.ext_getElem?
    intro i
    match i with
    | 0 => simpa using h0
    | 1 => simpa [sVal] using h1
    | i + 2 => rw [Array.getElem?_eq_none (by omega), Array.getElem?_eq_none (by simp)]
   subst hv
   generalize hE : l.map PV.str = E at r0 hh0 hp
   cases r0 with
   | vecNil _ oa =>
    have hl0 : l = [] := List.map_eq_nil_iff.1 hE
    subst hl0
    refine .inl ⟨f, _, hf _ _, (hn oa w.heap.size s w).mono ?_⟩
    rintro e w' ⟨v', rfl, hpost⟩
    refine ⟨v', rfl, aYy hp (fun i => ?_) (.inr (Nat.le_refl _)) (r := insS [] s) (bC3 _ _) hpost⟩
    cases hx : M w.heap.size i with
    | none => rfl
    | some v =>
     obtain ⟨a1, T1, f1, h1, _⟩ := hp.cons _ i v hx
     have := (Array.getElem?_eq_some_iff.1 h1).1
     omega
   | vec _ _ b cap hne hcap h01 hEl hm =>
    have hl0 : l ≠ [] := by rintro rfl; exact hne hE.symm
    have hEl' : E.length = l.length := by rw [<- hE, List.length_map]
    obtain ⟨x0, l0, rfl⟩ : ∃ x0 l0, l = x0 :: l0 := by
     cases l with
     | nil => exact absurd rfl hl0
     | cons x l => exact ⟨x, l, rfl⟩
    have hv0 : (#[Value.slice (some ⟨b, 0, none⟩) E.length cap, sVal s] : Array Value).getD 0 undef = .slice (some ⟨b, 0, none⟩) E.length cap := rfl
    rw [hv0] at hh0
    have hh1 : Ev.h1 M w ⟨nb, G⟩ B (.vec 1 E) (.slice (some ⟨b, 0, none⟩) E.length cap) := hh0 (.vec 1 E, .slice (some ⟨b, 0, none⟩) E.length cap) (by simp [atoms, zipA])
    rw [List.map_cons] at hE
    have hh2 : HOk M w ⟨nb, G⟩ B b 0 (cap * 1) /\ ∀ (j : Nat) (c : PV), (E.flatMap cells)[j]? = some c -> Rv M (fun _ _ => none) c (bT w b j) := by
     rw [<- hE] at hh1 ⊢
     exact hh1
    obtain ⟨hok, hcont⟩ := hh2
    obtain ⟨arr, T, fz, hrow, hsz, hfz⟩ := hok.row
    rw [<- List.map_cons] at hE
    have hrow' : ∃ arr T fz, w.heap[b]? = some (.cells arr T fz) /\ cap <= arr.size /\ (∀ i, i < cap -> ¬ (fz.1 <= i /\ i < fz.2)) /\ ∀ (j : Nat) (v : Value), ((x0 :: l0).map sVal)[j]? = some v -> arr[j]? = some v := by
     refine ⟨arr, T, fz, hrow, by omega, fun i hi => hfz i (by omega), ?_⟩
     intro j v hj
     rw [List.getElem?_map, Option.map_eq_some_iff] at hj
     obtain ⟨x, hx, rfl⟩ := hj
     have hjl := (List.getElem?_eq_some_iff.1 hx).1
     have := hcont j (.str x) (by rw [<- hE, aSp, List.getElem?_map, hx]; rfl)
     have := this.str_inv
     have hja : j < arr.size := by omega
     simp only [bT, World.cell?, hrow] at this
     rw [Array.getElem?_eq_getElem hja] at this ⊢
     simpa [sVal] using this
    have key := hc b cap (x0 :: l0) s w hl0 hlen (by omega) hm hrow'
    rw [<- hEl'] at key
    refine .inl ⟨f, _, hf _ _, key.mono ?_⟩
    rintro e w' ⟨v', rfl, hpost⟩
    have hcA : 1 <= cA [.vec 1 E, .str s] #[.slice (some ⟨b, 0, none⟩) E.length cap, sVal s] b := by
     have : cV (.vec 1 E) (.slice (some ⟨b, 0, none⟩) E.length cap) b = 1 := by
      rw [zO (by simp) (by simp), <- hE, List.map_cons]; simp [c1, own1]
     show 1 <= cC 2 _
     simp only [cC]
     have e0 : cV (([.vec 1 E, .str s] : List PV).getD 0 .bot) ((#[.slice (some ⟨b, 0, none⟩) E.length cap, sVal s] : Array Value).getD 0 undef) b = 1 := this
     omega
    exact ⟨v', rfl, aYy hp (fun i => hok.free i (Nat.zero_le _)) (.inl ⟨hok.old, hcA⟩) (bC3 _ _) hpost⟩
  ·simp at hq
 ·simp at h
section
variable {P : Program} {ops : Array Oper} {Q : Exit -> Act -> World -> Prop} {md : Region.Mode} {S T : World -> Prop} {b : Nat -> Bool}
def wpB (P:Program) (md:Region.Mode) (ops:Array Oper) (Q:Exit->Act->World->Prop) (S:World->Prop) (b:Nat->Bool):Nat->Array Bool->Act->World->Prop
 | 0,l,a,w=>Region.ready md ops l=[]/\Q .normal a w
 | n+1,l,a,w=>(Region.ready md ops l=[]->Q .normal a w)/\∀ i∈Region.ready md ops l,wpOp P ops Q i (fun a' w'=>(b i=false->S w')/\wpB P md ops Q S b n (l.setIfInBounds i true) a' w') a w
theorem bC5:∀ n l a w,wpB P md ops Q S b n l a w->wpAny P md ops Q n l a w
 | 0,_,_,_,h=>h
 | n+1,_,_,_,h=>⟨h.1,fun i c=>wpOp_mono (fun d w' k=>bC5 n _ d w' k.2) (h.2 i c)⟩
def bIX (md:Region.Mode) (ops:Array Oper) (i j:Nat):Bool:=match ops[j]? with | some o=>o.after.any (fun e=>Region.binds md e&&e.on==i) | none=>true
def aOw (md:Region.Mode) (ops:Array Oper) (b:Nat->Bool) (i:Nat):Bool:=(List.range ops.size).all fun j => !b j||bIX md ops i j
theorem aVA {i j} (h:aOw md ops b i=true) {o} (d:ops[j]?=some o) (c:b j=true):∃ e∈o.after,Region.binds md e=true/\e.on=i:=by
 have a:=List.all_eq_true.1 h j (by grind);simp [bIX] at a;grind
theorem bAc {l:Array Bool} {i} (b:l.getD i true=false) (a:l.getD i false=true):False:=by
 grind
theorem bC6 {i oi v} (m : ops[i]? = some oi) (q : ∀ (j : Nat) o cs d, ops[j]? = some o -> o.op ≠ .select cs d) (B : ∀ c a w, Q (.panic c) (a.put oi.dst v) w -> Q (.panic c) a w)
  (D : aOw md ops b i = true) : ∀ n l a w,
   (∀ j oj, ops[j]? = some oj -> j ≠ i -> l.getD j true = false -> (∀ e ∈ oj.after, Region.binds md e = true -> e.on ≠ i) -> oi.apart ops oj = true) ->
   i ∈ Region.ready md ops l -> YieldsIf P ops S oi v a -> S w -> wpB P md ops Q S b n (l.setIfInBounds i true) (a.put oi.dst v) w -> wpB P md ops Q S b (n + 1) l a w := by
 intro n;induction n with
 | zero =>
  intro l a w hfree hr hy hSw H;refine ⟨fun h => (by rw [h] at hr; cases hr), fun j hj => ?_⟩;by_cases e : j = i;· subst e; exact hy.wpOp m hSw ⟨fun _ => hSw, H⟩
  have p := ready_mono hj e;rw [H.1] at p; cases p
 | succ n t =>
  intro l a w hfree hr hy hSw H;refine ⟨fun h => (by rw [h] at hr; cases hr), fun j hj => ?_⟩;by_cases e : j = i;· subst e; exact hy.wpOp m hSw ⟨fun _ => hSw, H⟩
  obtain ⟨hju, oj, hoj, g⟩ := mem_ready.1 hj;have y : ∀ e ∈ oj.after, Region.binds md e = true -> e.on ≠ i := fun C F s heq => bAc (mem_ready.1 hr).1 (heq ▸ by grind);have hbj : b j = false := by
   cases hbj : b j with
   | false => rfl
   | true =>
    obtain ⟨C, z, h3, E⟩ := aVA D hoj hbj;exact by grind
  have A := wpOp_putIf hoj (by grind) (fun cs d => by grind) (fun cs d => by grind) B hy (H.2 j (ready_mono hj e));have hfree' : ∀ k ok, ops[k]? = some ok -> k ≠ i -> (l.setIfInBounds j true).getD k true = false -> (∀ e ∈ ok.after, Region.binds md e = true -> e.on ≠ i) -> oi.apart ops ok = true := fun k ok u f hun r => by
   refine hfree k ok u f ?_ r;by_cases hjk : j = k;· subst hjk; exact hju
   rwa [getD_set_ne true hjk] at hun
  refine wpOp_mono (fun x w' h3 => ⟨h3.2.1, t _ x w' hfree' (ready_mono hr (Ne.symm e)) h3.1 (h3.2.1 hbj) ?_⟩) A;rw [Array.setIfInBounds_comm _ _ e];exact h3.2.2
theorem aPF i {d v n l a w} (g:YieldsIf P ops S d v a) (e:S w) (f:ops[i]?=some d) (o:Region.noSelect ops=true) (m:Region.free md ops l i=true) (p:(Region.ready md ops l).contains i=true) (k:aOw md ops b i=true)
  (j:∀ c a w,Q (.panic c) (a.put d.dst v) w->Q (.panic c) a w) (h:wpB P md ops Q S b n (l.setIfInBounds i true) (a.put d.dst v) w):wpB P md ops Q S b (n+1) l a w :=
 bC6 f (Region.noSelect_spec o) j k n l a w (Region.free_spec f m) (by grind) g e h
theorem aPG {c n l a w} (d:Region.ready md ops l=c) (f:c≠[]) (h:∀ i∈c,wpOp P ops Q i (fun e w'=>(b i=false->S w')/\wpB P md ops Q S b n (l.setIfInBounds i true) e w') a w):wpB P md ops Q S b (n+1) l a w :=
 ⟨fun g=>by grind,d ▸ h⟩
theorem bHI i {o n l a w} (c:Region.ready md ops l=[i]) (e:ops[i]?=some o)
  (h:∀ K,Shut (∀ a w,S w->(S w->wpB P md ops Q S b n (l.setIfInBounds i true) a w)->K a w)->if Region.wanted o (yielded ops a.tmps)=true then Oper.wp P o a w K Q else K (a.put o.dst undef) w):wpB P md ops Q S b (n+1) l a w :=
 aPG c (by simp) fun j d=>by
  rw [List.mem_singleton.1 d];exact wpOp_step e fun K k=>h K fun a w g f=>by grind
theorem bE6 i {o n l a w} (c:Region.ready md ops l=[i]) (e:ops[i]?=some o) (g:b i=true)
  (h:∀ K,Shut (∀ a w,wpB P md ops Q S b n (l.setIfInBounds i true) a w->K a w)->if Region.wanted o (yielded ops a.tmps)=true then Oper.wp P o a w K Q else K (a.put o.dst undef) w):wpB P md ops Q S b (n+1) l a w :=
 aPG c (by simp) fun j d=>by
  rw [List.mem_singleton.1 d];exact wpOp_step e fun K k=>h K fun a w f=>by grind
theorem aHo {i o a w b} (c:ops[i]?=some o) (h:∀ K,Shut (∀ a w,b a w->K a w)->if Region.wanted o (yielded ops a.tmps)=true then Oper.wp P o a w K Q else K (a.put o.dst undef) w):wpOp P ops Q i b a w :=
 wpOp_step c fun K d=>h K d
theorem aGq {l a w} (c:Region.ready md ops l=[]) (h:Q .normal a w):∀ n,wpB P md ops Q S b n l a w
 | 0=>⟨c,h⟩
 | n+1=>⟨fun _=>h,by grind⟩
theorem tk i {d v n l a f w} (e:S w) (h:wpB P md ops Q S b n (l.setIfInBounds i true) f w) (p:ops[i]?=some d:=by rfl)
  (g:YieldsIf P ops S d v a:=by exact Or.inl ⟨by rfl,by intro w' hS';obtain ⟨q1,q2⟩:=hS';go_simp;try with_reducible rfl⟩)
  (r:a.put d.dst v=f:=by first | (simp only [Act.put,List.setIfInBounds_toArray,List.set_cons_zero,List.set_cons_succ];done) | (simp only [Act.put,List.setIfInBounds_toArray,List.set_cons_zero,List.set_cons_succ];rfl) | rfl)
  (m:Region.noSelect ops=true:=by kernel_rfl) (k:Region.free md ops l i=true:=by kernel_rfl) (j:(Region.ready md ops l).contains i=true:=by kernel_rfl) (q:aOw md ops b i=true:=by kernel_rfl)
  (o:∀ c a w,Q (.panic c) (a.put d.dst v) w->Q (.panic c) a w:=by exact fun _ _ _ h=>h):wpB P md ops Q S b (n+1) l a w :=
 aPF i g e p m k j q o (by grind)
theorem on1 i {o n l a w}
  (h:∀ K,Shut (∀ a w,S w->(S w->wpB P md ops Q S b n (l.setIfInBounds i true) a w)->K a w)->if Region.wanted o (yielded ops a.tmps)=true then Oper.wp P o a w K Q else K (a.put o.dst undef) w) (c:Region.ready md ops l=[i]:=by kernel_rfl) (d:ops[i]?=some o:=by rfl):wpB P md ops Q S b (n+1) l a w :=
 bHI i c d h
theorem onL i {o n l a w}
  (h:∀ K,Shut (∀ a w,wpB P md ops Q S b n (l.setIfInBounds i true) a w->K a w)->if Region.wanted o (yielded ops a.tmps)=true then Oper.wp P o a w K Q else K (a.put o.dst undef) w) (c:Region.ready md ops l=[i]:=by kernel_rfl) (e:ops[i]?=some o:=by rfl) (d:b i=true:=by rfl):wpB P md ops Q S b (n+1) l a w :=
 bE6 i c e d h
theorem vR S b {id a w} (c:P.follows .mixedOrders=true) (h:wpB P .any ops Q S b ops.size (Array.replicate ops.size false) a w.drew):(Code.region id ops true).wp P Q a w :=
 wp_region_any c (bC5 _ _ _ _ h)
end
end Go.Ev
