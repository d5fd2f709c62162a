import Derived.Test.YtphmfillajagdaaGreatEd
import Derived.Below
import Derived.OrdersHeld
import Derived.Deep.RegionHeld3
import Derived.Deep.RegionLaw
import Derived.KernelRfl
import Derived.WalkKit
set_option linter.unusedVariables false
set_option linter.unusedSimpArgs false
set_option linter.unusedSimpArgs false
open Go.RowKit
namespace Go.Ev
open PV
open PV Go.RowKit
def aXU (P:Program) (G:Mem) (f:FuncId) (args:List PV) (q:PV):Prop :=
 ∀ n w M B vals,CallPre ⟨n,G⟩ M B args [] vals w→tD P f vals w (gP ⟨n,G⟩ M B args [] vals w q [])
def Self {α β:Type} (P:Program) (G:Mem) (f:FuncId) (A:α→List PV) (R:β→PV) (F:α→Option β) (args:List PV) (q:PV):Prop :=
 ∃ x r,args.map PV.plain=A x∧F x=some r∧q=R r∧aXU P G f args q
open Classical in
noncomputable def aTy {α β} (P:Program) (G:Mem) (f:FuncId) (A:α→List PV) (R:β→PV) (F:α→Option β):List PV→UP→Option (PV×UP):=fun args up =>
 if h:up=[]∧∃ q,Self P G f A R F args q then some (Classical.choose h.2,[]) else none
theorem aXV {α β} {P G f} {A:α→List PV} {R:β→PV} {F} :
  ∀ args b r a,aTy P G f A R F args b=some (r,a)→∀ n w M B vals,CallPre ⟨n,G⟩ M B args b vals w→tD P f vals w (gP ⟨n,G⟩ M B args b vals w r a):=by
 intro args b r a h n w M B vals i;unfold aTy at h;split at h;· rename_i c;obtain ⟨e,d⟩:=c;cases h;subst e;obtain ⟨x,r,l,k,j,g⟩:=Classical.choose_spec d;exact g n w M B vals i
 grind
theorem aXW {α β} {P G f} {A:α→List PV} {R:β→PV} {F} (l:∀ a b,A a=A b→a=b) {args x r}
  (g:args.map PV.plain=A x) (e:F x=some r) (d:aXU P G f args (R r)):aTy P G f A R F args []=some (R r,[]):=by
 unfold aTy;have c:([]:UP)=[]∧∃ q,Self P G f A R F args q:=⟨rfl,R r,x,r,g,e,rfl,d⟩;obtain ⟨x',j,i,h,k,_⟩:=Classical.choose_spec c.2;grind
structure Quiet (M:Mem) (w:World) (M':Mem) (w':World):Prop where
 mem:∀ b i v,M b i=some v→M' b i=some v
 old:∀ b,b<w.heap.size→w'.heap[b]?=w.heap[b]?∧∀ i,M' b i=M b i
 size:w.heap.size≤w'.heap.size
 os:w'.os=w.os
 tape:w'.tape=w.tape
 output:w'.output=w.output
theorem Quiet.refl M w:Quiet M w M w:=⟨fun _ _ _ h=>h,fun _ _=>⟨rfl,fun _=>rfl⟩,by omega,rfl,rfl,rfl⟩
theorem Quiet.trans {M M1 f w g e} (h:Quiet M w M1 g) (a:Quiet M1 g f e):Quiet M w f e:=by
 refine ⟨fun b i v hv=>a.mem _ _ _ (h.mem _ _ _ hv),fun b d => ?_,Nat.le_trans h.size a.size,a.os.trans h.os,a.tape.trans h.tape,a.output.trans h.output⟩;have c  := Nat.lt_of_lt_of_le d h.size;exact ⟨(a.old b c).1.trans (h.old b d).1,fun i=>((a.old b c).2 i).trans ((h.old b d).2 i)⟩
structure Plains (M:Mem) (args:List PV) (vals:Array Value):Prop where
 size:vals.size=args.length
 rel:∀ (i:Nat) (p:PV),args[i]?=some p→Rv M noB p (vals.getD i undef)∧dU p (vals.getD i undef)
theorem jH {P X Mt} (u:POk P) (y:aOZ P (fun _ _=>none) X) {f args r} (h:OL P Mt X f args []=some (r,[]))
  {M w vals} (q:(callFunc f vals).run P w = .ok (.enter f vals) w) (z:Cons M w) (l:Plains M args vals) :
  Calls P f vals w fun e w'=>∃ v M',e = .returned v∧Rv M' noB r v∧Cons M' w'∧Quiet M w M' w':=by
 have t:∀ b,cA args vals b=0:=by
  intro b;refine iG _ (fun i E => ?_);have A:args[i]?=some (args.getD i .bot):=by grind
  exact (l.rel i _ A).2.c b
 have B:∀ w b,cBx w noB [] b=0:=by simp [cBx,fW]
 have pre:CallPre ⟨0,fun _ _=>none⟩ M noB args [] vals w:=by
  refine ⟨z,l.size,fun i p s=>⟨by rw [aGu];exact (l.rel i p s).1,(l.rel i p s).2.h _ _ _ _⟩,⟨fun d f q=>by grind,fun _ _ _=>rfl,fun d id cs m=>by simp [bB,nth] at m,fun d id G C blk k=>by simp [noB] at k⟩,fun b => ?_,fun b i v hv=>by grind,Nat.zero_le _⟩;grind
 have key:=bBu (P:=P) (Mt:=Mt) (X:=X) u y f args [] r [] h 0 w M noB vals pre;have o:∀ v w',gP ⟨0,fun _ _=>none⟩ M noB args [] vals w r [] v w'→∃ M',Rv M' noB r v∧Cons M' w'∧Quiet M w M' w':=by
  rintro v w' ⟨M',j,n,F,x,H,a⟩;refine ⟨M',j,x,⟨a.mono,fun b k=>a.keep b k ?_,a.size,a.os,a.tape,a.output⟩⟩;rintro (D | ⟨d,id,k⟩);· grind
  simp [noB] at k
 rcases key with ⟨g,gs,j,n⟩ | ⟨v,w',j,n⟩;· rw [q] at j;cases j;refine n.mono ?_;grind
 grind
theorem aH7 {P G f args q} (t : ∀ p ∈ args, ∀ v, dU p v) (s : ∀ p ∈ args, p.solid = true) (a : q.plain = q) (m : q.solid = true)
  (r : ∀ vals w, (callFunc f vals).run P w = .ok (.enter f vals) w)
  (g : ∀ M w vals, Cons M w → vals.size = args.length → (∀ i p, args[i]? = some p → Rv M noB p.plain (vals.getD i undef)) →
   Calls P f vals w fun e w' => ∃ v M', e = .returned v ∧ Rv M' noB q v ∧ Cons M' w' ∧ Quiet M w M' w') : aXU P G f args q := by
 intro n w M B vals l;have x  := fun d id => l.box.dom d id (by simp [bB, nth]);have k : ∀ w b, cBx w B [] b = 0 := by simp [cBx, fW]
 refine .inl ⟨f, vals, r vals w, (g M w vals l.cons l.size fun i p h => ((l.rel i p h).1.anyB noB (by grind)).plain).mono ?_⟩;rintro e w' ⟨v, M', rfl, hv, y, j⟩;refine ⟨v, rfl, M', hv.anyB B m, (aT a).h _ _ _ _, ⟨fun d f r => by grind, fun d id _ => x d id, fun d id cs o => by simp [bB, nth] at o, fun d id A z blk u => by grind⟩, y, fun b => ?_, ?_⟩;· rw [(aT a).c b, k]; omega
 exact ⟨j.os, j.tape, j.output, j.size, j.mem, fun b u _ => j.old b u, fun b _ => by rw [(aT a).c b, k]; omega, fun d id b h _ => ⟨d, id, h⟩, fun _ _ => rfl⟩
section
variable {P : Program} {ops : Array Oper} {Q : Exit → Act → World → Prop} {md : Region.Mode} {S T : World → Prop} {b : Nat → Bool}
def wpB (P:Program) (md:Region.Mode) (ops:Array Oper) (Q:Exit→Act→World→Prop) (S:World→Prop) (b:Nat→Bool):Nat→Array Bool→Act→World→Prop
 | 0,l,a,w=>Region.ready md ops l=[]∧Q .normal a w
 | n+1,l,a,w=>(Region.ready md ops l=[]→Q .normal a w)∧∀ i∈Region.ready md ops l,wpOp P ops Q i (fun a' w'=>(b i=false→S w')∧wpB P md ops Q S b n (l.setIfInBounds i true) a' w') a w
def bBF (md:Region.Mode) (ops:Array Oper) (i j:Nat):Bool:=match ops[j]? with | some o=>o.after.any (fun e=>Region.binds md e&&e.on==i) | none=>true
def aR7 (md:Region.Mode) (ops:Array Oper) (b:Nat→Bool) (i:Nat):Bool:=(List.range ops.size).all fun j => !b j||bBF md ops i j
theorem aPi {i j} (h:aR7 md ops b i=true) {o} (d:ops[j]?=some o) (c:b j=true):∃ e∈o.after,Region.binds md e=true∧e.on=i:=by
 have a:=List.all_eq_true.1 h j (by grind);simp [bBF] at a;grind
theorem aTz {l:Array Bool} {i} (b:l.getD i true=false) (a:l.getD i false=true):False:=by
 grind
theorem aWa {i oi v} (m : ops[i]? = some oi) (q : ∀ (j : Nat) o cs d, ops[j]? = some o → o.op ≠ .select cs d) (B : ∀ c a w, Q (.panic c) (a.put oi.dst v) w → Q (.panic c) a w)
  (D : aR7 md ops b i = true) : ∀ n l a w,
   (∀ j oj, ops[j]? = some oj → j ≠ i → l.getD j true = false → (∀ e ∈ oj.after, Region.binds md e = true → e.on ≠ i) → oi.apart ops oj = true) →
   i ∈ Region.ready md ops l → YieldsIf P ops S oi v a → S w → wpB P md ops Q S b n (l.setIfInBounds i true) (a.put oi.dst v) w → wpB P md ops Q S b (n + 1) l a w := by
 intro n;induction n with
 | zero =>
  intro l a w hfree hr hy hSw H;refine ⟨fun h => (by rw [h] at hr; cases hr), fun j hj => ?_⟩;by_cases e : j = i;· subst e; exact hy.wpOp m hSw ⟨fun _ => hSw, H⟩
  have p := ready_mono hj e;rw [H.1] at p; cases p
 | succ n t =>
  intro l a w hfree hr hy hSw H;refine ⟨fun h => (by rw [h] at hr; cases hr), fun j hj => ?_⟩;by_cases e : j = i;· subst e; exact hy.wpOp m hSw ⟨fun _ => hSw, H⟩
  obtain ⟨hju, oj, hoj, g⟩ := mem_ready.1 hj;have y : ∀ e ∈ oj.after, Region.binds md e = true → e.on ≠ i := fun C F s heq => aTz (mem_ready.1 hr).1 (heq ▸ by grind);have hbj : b j = false := by
   cases hbj : b j with
   | false => rfl
   | true =>
    obtain ⟨C, z, h3, E⟩ := aPi D hoj hbj;exact by grind
  have A := wpOp_putIf hoj (by grind) (fun cs d => by grind) (fun cs d => by grind) B hy (H.2 j (ready_mono hj e));have hfree' : ∀ k ok, ops[k]? = some ok → k ≠ i → (l.setIfInBounds j true).getD k true = false → (∀ e ∈ ok.after, Region.binds md e = true → e.on ≠ i) → oi.apart ops ok = true := fun k ok u f hun r => by
   refine hfree k ok u f ?_ r;by_cases hjk : j = k;· subst hjk; exact hju
   rwa [getD_set_ne true hjk] at hun
  refine wpOp_mono (fun x w' h3 => ⟨h3.2.1, t _ x w' hfree' (ready_mono hr (Ne.symm e)) h3.1 (h3.2.1 hbj) ?_⟩) A;rw [Array.setIfInBounds_comm _ _ e];exact h3.2.2
theorem aXX i {d v n l a w} (g:YieldsIf P ops S d v a) (e:S w) (f:ops[i]?=some d) (o:Region.noSelect ops=true) (m:Region.free md ops l i=true) (p:(Region.ready md ops l).contains i=true) (k:aR7 md ops b i=true)
  (j:∀ c a w,Q (.panic c) (a.put d.dst v) w→Q (.panic c) a w) (h:wpB P md ops Q S b n (l.setIfInBounds i true) (a.put d.dst v) w):wpB P md ops Q S b (n+1) l a w :=
 aWa f (Region.noSelect_spec o) j k n l a w (Region.free_spec f m) (by grind) g e h
theorem tk i {d v n l a f w} (e:S w) (h:wpB P md ops Q S b n (l.setIfInBounds i true) f w) (p:ops[i]?=some d:=by rfl)
  (g:YieldsIf P ops S d v a:=by exact Or.inl ⟨by rfl,by intro w' hS';obtain ⟨q1,q2⟩:=hS';go_simp;try with_reducible rfl⟩)
  (r:a.put d.dst v=f:=by first | (simp only [Act.put,List.setIfInBounds_toArray,List.set_cons_zero,List.set_cons_succ];done) | (simp only [Act.put,List.setIfInBounds_toArray,List.set_cons_zero,List.set_cons_succ];rfl) | rfl)
  (m:Region.noSelect ops=true:=by kernel_rfl) (k:Region.free md ops l i=true:=by kernel_rfl) (j:(Region.ready md ops l).contains i=true:=by kernel_rfl) (q:aR7 md ops b i=true:=by kernel_rfl)
  (o:∀ c a w,Q (.panic c) (a.put d.dst v) w→Q (.panic c) a w:=by exact fun _ _ _ h=>h):wpB P md ops Q S b (n+1) l a w :=
 aXX i g e p m k j q o (by grind)
end
end Go.Ev
