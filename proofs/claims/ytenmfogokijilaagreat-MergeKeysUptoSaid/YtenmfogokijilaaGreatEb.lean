import Derived.Test.YtenmfogokijilaaGreatEa
import Derived.WideKeyRuns
import Derived.Orders
set_option linter.unusedVariables false
set_option linter.unusedSimpArgs false
set_option linter.unusedSimpArgs false
namespace Go.Ev
theorem abj:type_of% @List.length_replicate:=@List.length_replicate
theorem aaG:type_of% @Nat.lt_or_ge:=@Nat.lt_or_ge
theorem aap:type_of% @Nat.eq_of_beq_eq_true:=@Nat.eq_of_beq_eq_true
theorem ab3:type_of% @Nat.le_of_ble_eq_true:=@Nat.le_of_ble_eq_true
theorem aaK:type_of% @List.getElem_mem:=@List.getElem_mem
theorem abI:type_of% @MapKept.run_getObj_map:=@MapKept.run_getObj_map
theorem abx:type_of% @Array.getElem?_setIfInBounds:=@Array.getElem?_setIfInBounds
theorem ab4:type_of% @Nat.sub_zero:=@Nat.sub_zero
theorem aa6:type_of% @List.mem_append:=@List.mem_append
theorem abk:type_of% @List.nodup_nil:=@List.nodup_nil
theorem aaP:type_of% @Nat.zero_le:=@Nat.zero_le
theorem aal:type_of% @Nat.le_of_eq:=@Nat.le_of_eq
theorem aaL:type_of% @List.all_cons:=@List.all_cons
theorem aaY:type_of% @Prod.mk.injEq:=@Prod.mk.injEq
theorem aay:type_of% @Bool.or_eq_true:=@Bool.or_eq_true
theorem abl:type_of% @List.foldl_append:=@List.foldl_append
theorem aby:type_of% @List.getElem?_range:=@List.getElem?_range
theorem abz:type_of% @Array.all_eq_true':=@Array.all_eq_true'
theorem abJ:type_of% @List.filter_eq_nil_iff:=@List.filter_eq_nil_iff
theorem aaM:type_of% @List.mem_filter:=@List.mem_filter
theorem abm:type_of% @Bool.not_true:=@Bool.not_true
end Go.Ev
namespace Go.Ev
open PV
def nV (B:BM):BM:=fun d id=>match d with | 0=>none | d+1=>B d id
def noB:BM:=fun _ _=>none
def cA (args:List PV) (vals:Array Value) (b:Nat):Nat:=dA args.length fun i=>cV (args.getD i .bot) (vals.getD i undef) b
def aBm (P:Program) (f:FuncId) (vals:Array Value) (w:World) (R:Value->World->Prop):Prop :=
 (∃ g gs,(callFunc f vals).run P w = .ok (.enter g gs) w/\Calls P g gs w fun e w'=>∃ v,e = .returned v/\R v w') ∨
 ∃ v w',(callFunc f vals).run P w = .ok (.value v) w'/\R v w'
structure CallPre (base:Base) (M:Mem) (B:BM) (args:List PV) (up:UP) (vals:Array Value) (w:World):Prop where
 cons:Cons M w
 size:vals.size=args.length
 rel:∀ (i:Nat) (p:PV),args[i]?=some p->Rv M (nV B) p (vals.getD i undef)/\hV M w base B p (vals.getD i undef)
 box:BRel M w base B up
 one:∀ b,cA args vals b+cBx w B up b<=1
 glob:Glob base M
 base:base<=w.heap.size
def iO (base:Base) (M:Mem) (B:BM) (args:List PV) (up:UP) (vals:Array Value) (w:World) (r:PV) (up':UP) (v:Value) (w':World):Prop :=
 ∃ M',Rv M' B r v/\hV M' w' base B r v/\BRel M' w' base B up'/\Cons M' w'/\(∀ b,cV r v b+cBx w' B up' b<=1) /\
 Evo w M (fun b=>cA args vals b+cBx w B up b) B w' M' (fun b=>cV r v b+cBx w' B up' b) B
def aQk (P:Program) (G:Mem) (O:Orc):Prop :=
 ∀ f args up r up',O f args up=some (r,up')->∀ n w M B vals,CallPre ⟨n,G⟩ M B args up vals w->aBm P f vals w (iO ⟨n,G⟩ M B args up vals w r up')
section
variable {P : Program} {base : Base} {M : Mem} {B : BM} {st : St} {tm : Array Value} {w : World} {next : Act -> World -> Prop} {Q : Exit -> Act -> World -> Prop}
theorem aBm.mono {f vals R d} (h:aBm P f vals w R) (c:∀ v w',R v w'->d v w'):aBm P f vals w d:=by
 rcases h with ⟨g,gs,b,a⟩ | ⟨v,w',b,a⟩;· exact .inl ⟨g,gs,b,a.mono fun e w' ⟨v,i,hv⟩=>⟨v,i,c v w' hv⟩⟩
 exact .inr ⟨v,w',b,c v w' a⟩
theorem aSj (h:SR base M B st tm w) d:∀ xs,aAy (uB xs)=true ->
  SR base M B {st with fr:=xs.flatMap (left st.fr true)++st.fr} tm w /\
  ∀ b,tot (xs.flatMap (left st.fr true)++st.fr) tm w B st.bx b+sumL (fun x=>cV (opv st.fr true x) ((Act.mk tm d).eval x) b) xs=tot st.fr tm w B st.bx b
 | [],_=>⟨h,fun b=>rfl⟩
 | x::xs,k=>by
  have u:aAy (uB xs)=true:=by
   cases x<;>simp [uB,List.filterMap_cons] at k ⊢ <;> first | exact k | (simp [aAy,aa0] at k;grind)
  obtain ⟨m,l⟩:=aSj h d xs u;cases x with
  | tmp t =>
   -- the slot is none of the others
   have j:t∉uB xs:=by
    simp [uB,List.filterMap_cons,aAy,aa0,Bool.not_eq_true'] at k;intro z;have o:=k.1;unfold has at o;rw [List.any_eq_false] at o;exact o t z (by simp)
   have e:∀ ys,t∉uB ys->gets (ys.flatMap (left st.fr true)++st.fr) t=gets st.fr t:=by
    intro ys;induction ys with
    | nil=>simp
    | cons y ys a =>
     intro i;cases y with
     | tmp s =>
      simp only [uB,List.filterMap_cons,aa3,not_or] at i;simp [ab2,left,aaj,gL];rw [if_neg (Ne.symm i.1)];exact a i.2
     | const v=>simpa [left] using a (by simpa [uB] using i)
     | global g=>simpa [left] using a (by simpa [uB] using i)
     | func f=>simpa [left] using a (by simpa [uB] using i)
   have r:=e xs j;obtain ⟨p,q⟩:=m.take t;simp only [r] at p q;refine ⟨by simpa [left] using p,fun b => ?_⟩;have A:=q b;have n:=l b;show tot ((t,(gets st.fr t).plain)::(xs.flatMap (left st.fr true)++st.fr)) tm w B st.bx b+(cV (gets st.fr t) (tm.getD t undef) b+sumL (fun x=>cV (opv st.fr true x) ((Act.mk tm d).eval x) b) xs)=_;omega
  | const v =>
   refine ⟨by simpa [left] using m,fun b => ?_⟩;have n:=l b;have:cV (opv st.fr true (.const v)) ((Act.mk tm d).eval (.const v)) b=0:=(lX v).c b;simp [left,sumL];omega
  | global g =>
   refine ⟨by simpa [left] using m,fun b => ?_⟩;have n:=l b;have:cV (opv st.fr true (.global g)) ((Act.mk tm d).eval (.global g)) b=0:=(aBC st.fr (.global g) ⟨tm,d⟩ (by simp)).c b;simp [left,sumL];omega
  | func f =>
   refine ⟨by simpa [left] using m,fun b => ?_⟩;have n:=l b;have:cV (opv st.fr true (.func f)) ((Act.mk tm d).eval (.func f)) b=0:=(aBC st.fr (.func f) ⟨tm,d⟩ (by simp)).c b;simp [left,sumL];omega
theorem bGL (h:SR base M B st tm w) d xs :
  xs.flatMap (left st.fr false)=[]/\∀ b,sumL (fun x=>cV (opv st.fr false x) ((Act.mk tm d).eval x) b) xs=0:=by
 constructor
 ·induction xs with
  | nil=>rfl
  | cons x xs a=>rw [ab2,a];cases x<;>rfl
 intro b;exact aDD _ fun x _=>(h.opvF d x).2.c b
theorem aO4 {α} [Inhabited α] (f:α->Nat):∀ l,sumL f l=dA l.length fun i=>f (l.getD i default)
 | []=>rfl
 | a::l=>by
  have sh:∀ n f,dA (n+1) f=f 0+dA n (fun j=>f (j+1)):=by
   intro n f;induction n with
   | zero=>simp [dA]
   | succ n b=>rw [dA,b];simp [dA];omega
  simp [sumL];rw [sh,aO4 f l];simp
theorem aBF {f}:∀ m n,dA (m+n) f=dA m f+dA n (fun i=>f (m+i))
 | m,0=>by simp [dA]
 | m,n+1=>by rw [<- Nat.add_assoc];simp [dA];rw [aBF m n];omega
theorem aL6:nV noB=noB:=by funext d id;cases d<;>rfl
theorem bI4 (h:SR base M B st tm w) d {A j k v} (hv:Rv M B (.func A j k) v) o xs :
  ∃ m n,v = .func A m n /\
   (m++(xs.map (Act.mk tm d).eval).toArray++n).size=(j++xs.map (opv st.fr o)++k).length /\
   (∀ i p,(j++xs.map (opv st.fr o)++k)[i]?=some p->Rv M B p ((m++(xs.map (Act.mk tm d).eval).toArray++n).getD i undef)/\hV M w base B p ((m++(xs.map (Act.mk tm d).eval).toArray++n).getD i undef)) /\
   ∀ b,cA (j++xs.map (opv st.fr o)++k) (m++(xs.map (Act.mk tm d).eval).toArray++n) b=sumL (fun x=>cV (opv st.fr o x) ((Act.mk tm d).eval x) b) xs:=by
 cases hv with
 | func _ _ _ m n f g C s I y t J u =>
  refine ⟨m,n,rfl,by simp [s,t],?_,?_⟩
  ·intro i p l;by_cases z:i<j.length
   ·rw [aax,aaq z] at l;have q:=C p (by simp [aad l]);have:(m++(xs.map (Act.mk tm d).eval).toArray++n).getD i undef=f i:=by
     rw [aaB,Array.append_assoc,abw (by omega),I i z];rfl
    rw [this];exact ⟨y i p l,(cD q).h M w base B⟩
   by_cases N:i<j.length+xs.length
   ·rw [aax,aaJ (by omega),aaq (by simp;omega),aa9,aan] at l;obtain ⟨x,F,rfl⟩:=l;have:(m++(xs.map (Act.mk tm d).eval).toArray++n).getD i undef=(Act.mk tm d).eval x:=by
     rw [aaB,Array.append_assoc,abH (by omega),abw (by simp;omega)];simp [s,F]
    rw [this];obtain ⟨H,L,_⟩:=h.opvT d o x;exact ⟨H,L⟩
   rw [aaJ (by simp;omega)] at l;have q:=C p (by simp [aad l]);have r  := (aa2.1 l).1;have:(m++(xs.map (Act.mk tm d).eval).toArray++n).getD i undef=g (i-(j++xs.map (opv st.fr o)).length):=by
    rw [aaB,abH (by simp;omega)];have e:i-(m++(xs.map (Act.mk tm d).eval).toArray).size=i-(j++xs.map (opv st.fr o)).length:=by simp [s]
    rw [e,J _ r];rfl
   rw [this];exact ⟨u _ p l,(cD q).h M w base B⟩
  intro b;unfold cA;rw [aar,aar,aBF,aBF,aau];have E:dA j.length (fun i=>cV ((j++xs.map (opv st.fr o)++k).getD i .bot) ((m++(xs.map (Act.mk tm d).eval).toArray++n).getD i undef) b)=0:=by
   apply nB;intro i l;exact (cD (by grind)).c b
  have K:dA k.length (fun i=>cV ((j++xs.map (opv st.fr o)++k).getD (j.length+xs.length+i) .bot) ((m++(xs.map (Act.mk tm d).eval).toArray++n).getD (j.length+xs.length+i) undef) b)=0:=by
   apply nB;intro i l;exact (cD (by grind)).c b
  rw [E,K,aae,Nat.add_zero,aO4];apply gW;intro i l;have D:(j++xs.map (opv st.fr o)++k).getD (j.length+i) .bot=opv st.fr o xs[i]:=by
   rw [aaX,aax,aaJ (by omega),aaq (by simp;omega)];simp [l]
  have G:(m++(xs.map (Act.mk tm d).eval).toArray++n).getD (j.length+i) undef=(Act.mk tm d).eval xs[i]:=by
   rw [aaB,Array.append_assoc,abH (by omega),abw (by simp;omega)];simp [s,l]
  rw [D,G];simp [l]
end
section
variable {P : Program} {base : Base} {M : Mem} {B : BM} {st : St} {tm : Array Value} {w : World} {next : Act -> World -> Prop} {Q : Exit -> Act -> World -> Prop}
theorem aXG {args vals b} (h:1<=cA args vals b):∃ (i:Nat) (p:PV),args[i]?=some p/\1<=cV p (vals.getD i undef) b:=by
 obtain ⟨i,a,c⟩:=aHx _ h;grind
theorem aXH {p v} (h:hV M w base B p v) {b} (g:1<=cV p v b):(∀ d id,B d id≠some b)/\b<w.heap.size/\base<=b:=by
 obtain ⟨x,e,c⟩:=bGJ g;have a:=h x e;have:=a.nobox c;obtain ⟨j,i,f⟩:=a.hok c;exact ⟨this.1,this.2,f.old⟩
theorem aQl {M' w' B' p v} (h:hV M w base B p v) (j:∀ b i v,M b i=some v->M' b i=some v)
  (e:∀ b,1<=cV p v b->b<w.heap.size->w'.heap[b]?=w.heap[b]?/\(∀ i,M' b i=M b i)/\∀ d id,B' d id=some b->B d id=some b):hV M' w' base B' p v:=by
 intro x c;refine (h x c).world j fun b g a=>e b ?_ a;have:c1 x.1 x.2 b=1:=by simp [c1,g]
 have k:c1 x.1 x.2 b<=cV p v b:=aI1 (f:=fun y=>c1 y.1 y.2 b) _ c;omega
theorem aSk (h : SR base M B st tm w) {dst lv} (h1s : SR base M B { st with fr := lv ++ st.fr } tm w) {args vals r v w'}
  (F : vals.size = args.length) (hrel : ∀ i p, args[i]? = some p -> Rv M B p (vals.getD i undef) /\ hV M w base B p (vals.getD i undef))
  (ht : ∀ b, tot (lv ++ st.fr) tm w B st.bx b + cA args vals b <= tot st.fr tm w B st.bx b) (hpost : iO base M noB args [] vals w r [] v w') :
  Aft base M B st tm w { ws := dstW tm.size dst r ++ lv } (putT tm dst v) w' := by
 obtain ⟨M', m, C, D, s, hone, evo⟩ := hpost;have hcb : ∀ w b, cBx w noB [] b = 0 := fun w b => rfl;have hAown : ∀ b, 1 <= cA args vals b -> (∀ d id, B d id ≠ some b) /\ b < w.heap.size := by
  intro b hb;obtain ⟨i, p, G, hcv⟩ := aXG hb;have := aXH (hrel i p G).2 hcv;exact ⟨this.1, this.2.1⟩
 have htouch : ∀ b, touch (fun b => cA args vals b + cBx w noB [] b) noB b ↔ 1 <= cA args vals b := by
  intro b;constructor
  ·rintro (c | ⟨d, id, e⟩);· have h1' : 1 <= cA args vals b + cBx w noB [] b := c;rw [hcb] at h1'; omega
   simp [noB] at e
  intro c; left;show 1 <= cA args vals b + cBx w noB [] b;omega
 have hkeep : ∀ b, b < w.heap.size -> cA args vals b = 0 -> w'.heap[b]? = w.heap[b]? /\ ∀ i, M' b i = M b i := by
  intro b hb J;exact evo.keep b hb (by rw [htouch]; omega)
 obtain ⟨t, z⟩ := h1s.world (M' := M') (w' := w') s evo.mono
  (fun d id b hB => hkeep b (h.box_lt hB).1 (by
   grind))
  (fun b hb => hkeep b (h1s.tot_own hb).1 (by have := ht b; have := h.one b; simp at hb; omega)) evo.size
 have a : Rv M' B r v := m.mono (fun _ _ _ hx => hx) (fun d id b hb => by simp [noB] at hb);have hcr : ∀ b, b < w.heap.size -> cV r v b <= cA args vals b := by
  intro b hb;have := evo.tle b hb;simp [hcb] at this; omega
 have hhB : hV M' w' base B r v := by
  intro x hx;have hx1 := C x hx;refine hx1.world (fun _ _ _ hx => hx) fun b k j => ⟨rfl, fun _ => rfl, fun d id hB => ?_⟩
  -- the block is no variable of ours
  have g : 1 <= cV r v b := by
   have : c1 x.1 x.2 b = 1 := by simp [c1, k]
   have e : c1 x.1 x.2 b <= cV r v b := aI1 (f := fun y => c1 y.1 y.2 b) _ hx;omega
  have l := (h.box_lt hB).1;exact by grind
 have hsum : ∀ b, tot (lv ++ st.fr) tm w' B st.bx b + cV r v b <= 1 /\ (b < w.heap.size -> tot (lv ++ st.fr) tm w' B st.bx b + cV r v b <= tot st.fr tm w B st.bx b) := by
  intro b;have e1 := z b;have q := ht b;have H := h.one b;have I := hone b;simp at e1;by_cases hb : b < w.heap.size;· have := hcr b hb; exact ⟨by omega, fun _ => by omega⟩
  have : tot (lv ++ st.fr) tm w B st.bx b = 0 := by
   cases hx : tot (lv ++ st.fr) tm w B st.bx b with
   | zero => rfl
   | succ n => have := (h1s.tot_own (b := b) (by simp; omega)).1; omega
  exact ⟨by omega, fun E => by omega⟩
 obtain ⟨o, u⟩ := t.put dst a hhB (fun b => (hsum b).1);unfold Aft;rw [aJ6, aax];refine ⟨iH _ _ _, M', B, o, evo.os, evo.tape, evo.output, evo.size, evo.mono, ?_, ?_, fun d i b hB _ => ⟨d, i, hB⟩, fun _ _ => rfl⟩
 ·intro b hb hnt;refine hkeep b hb ?_;cases hx : cA args vals b with
  | zero => rfl
  | succ n => exfalso; apply hnt; left; have := ht b; omega
 intro b hb;have e1 := u b;have q := (hsum b).2 hb;simp at e1 ⊢;omega
theorem aL7 (h:SR base M B st tm w) {dst lv} (h1s:SR base M B {st with fr:=lv++st.fr} tm w) {args vals r u v w'}
  (hrel:∀ i p,args[i]?=some p->hV M w base B p (vals.getD i undef))
  (ht:∀ b,tot (lv++st.fr) tm w B st.bx b+cA args vals b<=tot st.fr tm w B st.bx b) (hpost:iO base M B args st.bx vals w r u v w') :
  Aft base M B st tm w {ws:=dstW tm.size dst r++lv,up:=some u} (putT tm dst v) w':=by
 obtain ⟨M',q,l,hbx,t,g,evo⟩:=hpost;have c:∀ b,1<=cA args vals b->(∀ d id,B d id≠some b)/\b<w.heap.size:=by
  intro b hb;obtain ⟨i,p,x,hcv⟩:=aXG hb;have:=aXH (hrel i p x) hcv;exact ⟨this.1,this.2.1⟩
 have hFown:∀ b,1<=cF (lv++st.fr) tm b->b<w.heap.size/\w'.heap[b]?=w.heap[b]?/\(∀ i,M' b i=M b i):=by
  intro b hb;have j:=h1s.tot_own (b:=b) (by simp [tot];omega);refine ⟨j.1,evo.keep b j.1 ?_⟩;rintro (h1 | ⟨d,id,k⟩);· have e1:=ht b;have a:=h.one b;simp [tot] at e1 a;simp at h1;omega
  exact by grind
 have o:∀ b i,i<tm.size->cV (gets (lv++st.fr) i) (tm.getD i undef) b<=cF (lv++st.fr) tm b:=fun b i hi=>aHs (f:=fun i=>cV (gets (lv++st.fr) i) (tm.getD i undef) b) tm.size hi;have e:SR base M' B ⟨lv++st.fr,u⟩ tm w'/\∀ b,tot (lv++st.fr) tm w' B u b+cV r v b<=1/\(b<w.heap.size->tot (lv++st.fr) tm w' B u b+cV r v b<=tot st.fr tm w B st.bx b):=by
  have hsum:∀ b,tot (lv++st.fr) tm w' B u b+cV r v b<=1/\(b<w.heap.size->tot (lv++st.fr) tm w' B u b+cV r v b<=tot st.fr tm w B st.bx b):=by
   intro b;have e1:=ht b;have a:=h.one b;simp [tot] at e1 a ⊢;by_cases hb:b<w.heap.size;· have y:=evo.tle b hb;exact ⟨by omega,fun _=>by omega⟩
   grind
  refine ⟨⟨t,fun i=>(h1s.slot i).mono evo.mono (fun _ _ _ n=>n),?_,hbx,fun b=>by have:=(hsum b).1;show tot (lv++st.fr) tm w' B u b<=1;omega,h.glob.mono evo.mono,aa5 h.base evo.size⟩,hsum⟩;intro i;by_cases hi:i<tm.size;· refine aQl (h1s.slotH i) evo.mono fun b hcv _ => ?_;grind
  have:tm.getD i undef=undef:=by simp [hi]
  rw [this];exact (uE _).h M' w' base B
 obtain ⟨e,hsum⟩:=e;obtain ⟨s,z⟩:=e.put dst q l (fun b=>(hsum b).1);have happ:({ws:=dstW tm.size dst r++lv,up:=some u}:Eff).app st=⟨dstW tm.size dst r++(lv++st.fr),u⟩:=by simp [Eff.app]
 unfold Aft;rw [happ];refine ⟨iH _ _ _,M',B,s,evo.os,evo.tape,evo.output,evo.size,evo.mono,?_,?_,fun d i b m _=>⟨d,i,m⟩,fun _ _=>rfl⟩
 ·intro b hb hnt;refine evo.keep b hb ?_;rintro (h1 | k);· apply hnt;left;have e1:=ht b;simp [tot] at e1 ⊢;simp at h1;omega
  exact hnt (.inr k)
 grind
end
section
variable {P : Program} {mt : Hints} {O : Orc} {base : Base} {M : Mem} {B : BM} {st : St} {w : World} {next : Act -> World -> Prop} {Q : Exit -> Act -> World -> Prop}
theorem bBh {o a op t x y u e} (j:o.op = .binOp op t x y u) (h:SR base M B st a.tmps w)
  (he:yT P a.tmps.size o op t (opd st.fr x) (opd st.fr y) some=some e) (l:∀ tm' w',Aft base M B st a.tmps w e tm' w'->next ⟨tm',a.defers⟩ w') :
  o.upon P a next Q ((execOp a.eval o).run P w):=by
 have hx:=h.opd a.defers x;have hy:=h.opd a.defers y;have plainCase:∀ r,bin op (opd st.fr x) (opd st.fr y)=some r->e={ws:=dstW a.tmps.size o.dst r}->o.upon P a next Q ((execOp a.eval o).run P w):=by
  intro r hr he;subst he;obtain ⟨v,hv,G,J,K,F⟩:=bHg (P:=P) w t hr hx hy;refine upon_value (v:=v) (w':=w) ?_ (pE h (G M B) (J.no v)) l;simp [execOp,j];simp [aBE (P:=P) w op t x y K F,hv]
 have boolCase:∀ (neg:Bool) b,op=(if neg then .neq else .eql)->eqB (opd st.fr x) (opd st.fr y)=some b->P.underlying t=some .bool->e={ws:=dstW a.tmps.size o.dst (.bool (if neg then !b else b))}->o.upon P a next Q ((execOp a.eval o).run P w):=by
  intro neg b hop hb hu he;subst he;unfold eqB at hb;split at hb
  ·rename_i p q m z;cases hb;rw [m] at hx;rw [z] at hy;have C:=hx.bool_inv;have E:=hy.bool_inv;refine upon_value (v := .bool (if neg then !(p==q) else (p==q))) (w':=w) ?_ (pE h (.bool _) (Flat.no (.inl ⟨_,rfl⟩) _)) l;simp [execOp,j];rw [C,E];have hg:=aBE (P:=P) w op t x y (a := .bool p) (b := .bool q) (by simp) (by simp);have heq  := run_equal_bool w t p q hu;cases neg;· simp [abv,if_false] at hop;subst hop;simp [hg,binOp,heq]
   simp [if_true] at hop;subst hop;simp [hg,binOp,heq]
  simp at hb
 have structCase:∀ (neg:Bool) b fs ls n,op=(if neg then .neq else .eql)->P.underlying t=some (.struct fs)->szOf P t=some n->aFY P 20 t 0=some ls->P.eqGuardType P.depth t=false->eqs n ls (opd st.fr x) (opd st.fr y)=some b->e={ws:=dstW a.tmps.size o.dst (.bool (if neg then !b else b))}->o.upon P a next Q ((execOp a.eval o).run P w):=by
  intro neg b fs ls n hop hu hsz hls hgt hb he;subst he;unfold eqs at hb;split at hb
  ·rename_i X Y m z;split at hb
   ·rename_i A;rw [m] at hx;rw [z] at hy;obtain ⟨xs,g,D⟩:∃ xs,(Act.mk a.tmps a.defers).eval x = .agg xs/\(xs.size=X.length/\∀ (i:Nat) c,X[i]?=some c->∃ v,xs[i]?=some v/\Rv M B c v):=by
     generalize (Act.mk a.tmps a.defers).eval x=N at hx;cases hx with
     | agg _ xs f s L hr=>exact ⟨xs,rfl,s,fun i c k=>⟨f i,by grind,hr i c k⟩⟩
    obtain ⟨ys,d,I⟩:∃ ys,(Act.mk a.tmps a.defers).eval y = .agg ys/\(ys.size=Y.length/\∀ (i:Nat) c,Y[i]?=some c->∃ v,ys[i]?=some v/\Rv M B c v):=by
     generalize (Act.mk a.tmps a.defers).eval y=R at hy;cases hy with
     | agg _ ys f s L hr=>exact ⟨ys,rfl,s,fun i c k=>⟨f i,by grind,hr i c k⟩⟩
    have O:∀ zs,zs.size=n->aL0 t true n 0 zs (.agg zs):=by
     intro zs H;refine ⟨?_,by omega⟩;rw [aae,<- H,Array.extract_size]
    have heq:(Op.equalIn 10000 t (.agg xs) (.agg ys)).run P w = .ok b w :=
     aL2 (P:=P) w D.2 I.2 20 10000 t 0 n true ls b _ _ hls hb hsz (by simp [agOf,hu]) (by grind) (by grind) (by omega)
    refine upon_value (v := .bool (if neg then !b else b)) (w':=w) ?_ (pE h (.bool _) (Flat.no (.inl ⟨_,rfl⟩) _)) l;have hg:=run_eqGuard_agg (P:=P) w op t x y xs ys hgt;simp only [execOp,j];change (do pure (Next.value (<- (do eqGuard op t x y ((Act.mk a.tmps a.defers).eval x) ((Act.mk a.tmps a.defers).eval y);binOp op t ((Act.mk a.tmps a.defers).eval x) ((Act.mk a.tmps a.defers).eval y)))):Sem Next).run P w=_;rw [g,d];cases neg;· simp at hop;subst hop;simp [hg,run_eql_struct,heq]
    simp at hop;subst hop;simp [hg,run_neq_struct,heq]
   simp at hb
  simp at hb
 unfold yT at he;split at he
 ·split at he;· obtain ⟨r,hr,he⟩:=aB he;exact by grind
  ·obtain ⟨r,hr,he⟩:=aB he;exact by grind
  ·rename_i hu;obtain ⟨b,hb,he⟩:=aB he;exact boolCase false b rfl hb hu (aaa he).symm
  ·rename_i fs hu;split at he;· rename_i n ls hsz hls hgt;obtain ⟨b,hb,he⟩:=aB he;exact structCase false b fs ls n rfl hu hsz hls hgt hb (aaa he).symm
   simp at he
  simp at he
 ·split at he;· obtain ⟨r,hr,he⟩:=aB he;exact by grind
  ·obtain ⟨r,hr,he⟩:=aB he;exact by grind
  ·rename_i hu;obtain ⟨b,hb,he⟩:=aB he;exact boolCase true b rfl hb hu (aaa he).symm
  ·rename_i fs hu;split at he;· rename_i n ls hsz hls hgt;obtain ⟨b,hb,he⟩:=aB he;exact structCase true b fs ls n rfl hu hsz hls hgt hb (aaa he).symm
   simp at he
  simp at he
 obtain ⟨r,hr,he⟩:=aB he;exact by grind
end
theorem bHj {c} (h:c.solid1=true) (a:c.plain1=c):okVc c=true:=by
 cases c with
 | slice es bs o=>obtain ⟨rfl,rfl⟩:=a;rfl
 | mk0 sz=>simp [PV.plain1] at a
 | _=>first | rfl | simp [PV.solid1] at h
theorem okEl.ve {s e} (h:okEl s e):okVe s e=true:=by
 rw [vS];refine ⟨h.2.2.1,fun c b => ?_⟩;obtain ⟨j,f⟩:=aao.1 b;refine bHj (h.cell f) ?_;have d:=h.2.1;cases e with
 | agg cs =>
  simp [PV.plain,PV.plainA] at d;have a:cs[j]?=some c:=f;rw [<- d,aa9,aan] at a;obtain ⟨g,_,rfl⟩:=a;exact by grind
 | tuple cs=>have:=h.1;simp [PV.solid,PV.solid1] at this
 | _=>simp [PV.cells] at b;subst b;exact d
theorem okVe.el {s e} (h:okVe s e=true) (d:0<s):okEl s e:=by
 obtain ⟨f,a⟩:=vS.1 h;refine ⟨?_,?_,f,d⟩
 ·cases e with
  | agg cs=>simp [PV.solid];exact fun c b=>uG (a c b)
  | _=>exact uG (a _ (aaw.2 rfl))
 cases e with
 | agg cs =>
  simp [PV.plain,PV.plainA];conv=>rhs;rw [<- List.map_id cs]
  exact aaU fun c b=>bBd (a c b)
 | tuple cs=>have:=a (.tuple cs) (aaw.2 rfl);simp [okVc] at this
 | _=>exact bBd (a _ (aaw.2 rfl))
section
variable {P : Program} {base : Base} {M : Mem} {B : BM} {st : St} {tm : Array Value} {w : World}
theorem SR.noRow (h:SR base M B st tm w) {j r} (c:st.bx=j::r) {id} (l:look j id=none) {sz} (n:0<sz) :
  SR base M B {st with bx:=((id,[.vec sz []])::j)::r} tm w/\∀ b,tot st.fr tm w B (((id,[.vec sz []])::j)::r) b=tot st.fr tm w B st.bx b:=by
 have k  := h.box.dom 0 id (by rw [c,bI];omega);have g:∀ b,tot st.fr tm w B (((id,[.vec sz []])::j)::r) b=tot st.fr tm w B st.bx b:=by
  intro b;simp [tot,cBx,c,jL,fS,k,cBox]
 refine ⟨⟨h.cons,h.slot,h.slotH,⟨?_,?_,?_,h.box.inj⟩,fun b=>by rw [g];exact h.one b,h.glob,h.base⟩,g⟩
 ·intro d f m;cases d with
  | zero =>
   simp at m;subst m;simp only [ab1,aaR];exact ⟨aDE.1 l,h.box.nodup 0 j (by grind)⟩
  | succ d=>exact h.box.nodup (d+1) f (by grind)
 ·intro d i a;cases d with
  | zero =>
   simp [bI,nZ] at a;split at a;· grind
   exact h.box.dom 0 i (by rw [c,bI];omega)
  | succ d=>exact h.box.dom (d+1) i (by rw [c];exact a)
 intro d i cs a;by_cases e:d=0/\i=id;· obtain ⟨rfl,rfl⟩:=e;simp [bI,nZ] at a;subst a;exact ⟨⟨n,by simp⟩,.inr ⟨k,sz,rfl⟩⟩
 refine h.box.ok d i cs ?_;rw [c];cases d with
 | zero =>
  simp [bI,nZ] at a ⊢;grind
 | succ d=>exact a
theorem aSl d id n sz v:fD (.rsl d id n sz) v:=fD.of1 (by simp) (by simp) (by cases v<;>rfl)
theorem yM (h : SR base M B st tm w) {o lv} (h1s : SR base M B { st with fr := lv ++ st.fr } tm w)
  (C : ∀ b, tot (lv ++ st.fr) tm w B st.bx b <= tot st.fr tm w B st.bx b) {sz E e} (he : sS tm.size o sz E lv st some = some e) {w' v}
  (hold : ∀ b, b < w.heap.size -> w'.heap[b]? = w.heap[b]?) (hsz : w.heap.size <= w'.heap.size) (hos : w'.os = w.os) (hta : w'.tape = w.tape) (hou : w'.output = w.output) (H : 0 < sz) (F : ∀ x ∈ E, okVe sz x = true)
  (hrow : (∃ (blk cap : Nat) (xs : Array Value) (T : TypeId) (fz : Nat × Nat), v = .slice (some ⟨blk, 0, none⟩) E.length cap /\ E.length <= cap /\ w.heap.size <= blk /\ w'.heap[blk]? = some (.cells xs T fz) /\ E.length * sz <= xs.size /\
    (∀ i, i < E.length * sz -> ¬ (fz.1 <= i /\ i < fz.2)) /\ ∀ j c, (E.flatMap cells)[j]? = some c -> Rv M B c (xs.getD j undef)) ∨ (E = [] /\ ∃ oa, v = .slice oa 0 0)) :
  Aft base M B st tm w e (putT tm o.dst v) w' := by
 unfold sS at he;split at he
 ·rename_i id y;obtain ⟨hdst, hlt, I, r, hbx, hlook⟩ := jV y;cases he;have p : ∀ n, dstW tm.size o.dst (.rsl 0 id n sz) ++ (lv ++ st.fr) = (id, .rsl 0 id n sz) :: lv ++ st.fr := by intro n; simp [dstW, hdst, hlt]
  unfold Aft;rw [aVi st _ I r (id, [.vec sz E]) hbx, <- p];rcases hrow with ⟨blk, cap, xs, T, fz, rfl, hcap, hblk, hnew, g, k, hrel⟩ | ⟨rfl, oa, rfl⟩
  ·have hE'  := fun x hx => (kR (F x hx)).1;have hok : ∀ (j : Nat) c, (E.flatMap cells)[j]? = some c -> okVc c = true := by
    intro j c hc;obtain ⟨x, hx, z⟩ := aaE.1 (aad hc);exact (vS.1 (F x hx)).2 c z
   have J : ∀ b, dA (E.flatMap cells).length (fun j => c1 ((E.flatMap cells).getD j .bot) (xs.getD j undef) b) = 0 := by
    intro b;apply nB;intro j R;have hj' : (E.flatMap cells)[j]? = some (E.flatMap cells)[j] := by simp
    simp [c1, hj', aLm (hok j _ hj')]
   obtain ⟨q, u⟩ := h1s.newRow (cs := [.vec sz E]) (xs := xs) (T := T) (fz := fz) (w' := w') (blk := blk) hbx hlook hblk hold hnew hsz (by show (E.flatMap cells).length <= _; rw [pF E hE']; exact g) (by show ∀ i, i < (E.flatMap cells).length -> _; rw [pF E hE']; exact k) rfl ⟨H, F⟩
    (fun j c hc => ⟨hrel j c hc, yL (aLm (hok j c hc) _), aGy (uG (hok j c hc))⟩) (fun b => by
     show _ + dA (E.flatMap cells).length (fun j => c1 ((E.flatMap cells).getD j .bot) (xs.getD j undef) b) <= 1;rw [J b]; exact aa5 (C b) (h.one b))
   have D : Rv M (setB B id blk) (.rsl 0 id E.length sz) (.slice (some ⟨blk, 0, none⟩) E.length cap) := .rsl 0 id _ _ _ _ (by simp [setB]) hcap;obtain ⟨m, t⟩ := q.putN o.dst D (aSl _ _ _ _ _);refine ⟨iH _ _ _, M, setB B id blk, m, hos, hta, hou, hsz, fun _ _ _ hx => hx, fun b hb _ => ⟨hold b hb, fun _ => rfl⟩, ?_, ?_, fun d L => by simp [setB]⟩;· intro b hb;have f := t b;have l := u b;have G : dA (phys [.vec sz E]).length (fun j => c1 ((phys [.vec sz E]).getD j .bot) (xs.getD j undef) b) = 0 := J b;have O := C b;simp only at f l ⊢;omega
   intro d i b hB hb;unfold setB at hB;split at hB;· simp at hB; omega
   exact ⟨d, i, hB⟩
  have hcons : Cons M w' := by
   intro b i v N;obtain ⟨arr, P, s, hx, hv⟩ := h.cons b i v N;exact ⟨arr, P, s, by rw [hold b (aag.1 hx).1]; exact hx, hv⟩
  obtain ⟨Q, K⟩ := h1s.world (M' := M) (w' := w') hcons (fun _ _ _ hx => hx) (fun d i b hB => ⟨hold b (h.box_lt hB).1, fun _ => rfl⟩) (fun b hb => ⟨hold b (h1s.tot_own hb).1, fun _ => rfl⟩) hsz;obtain ⟨q, u⟩ := Q.noRow (sz := sz) hbx hlook H;obtain ⟨m, t⟩ := q.putN o.dst (Rv.rslNil 0 id sz oa) (aSl _ _ _ _ _);refine ⟨iH _ _ _, M, B, m, hos, hta, hou, hsz, fun _ _ _ hx => hx, fun b hb _ => ⟨hold b hb, fun _ => rfl⟩, ?_, fun d i b hB _ => ⟨d, i, hB⟩, fun _ _ => rfl⟩;intro b hb;have f := t b;have l := u b;have G := K b;have O := C b;simp at f l G;show tot (dstW tm.size o.dst (.rsl 0 id ([] : List PV).length sz) ++ (lv ++ st.fr)) (putT tm o.dst (.slice oa 0 0)) w' B (((id, [.vec sz []]) :: I) :: r) b <= _;simp;omega
 simp at he
theorem aZo {z n} (h:okVe n (ofValue z)=true):∀ j c,(ofValue z).cells[j]?=some c->Rv M B c (z.cells.getD j undef):=by
 intro j c a;cases z with
 | agg cs =>
  simp [ofValue,PV.cells] at a;obtain ⟨v,hv,rfl⟩:=a;have:(Value.agg cs).cells.getD j undef=v:=by show cs.getD j undef=v;simp [hv]
  rw [this];exact .ofAtom v
 | tuple vs=>simp [ofValue,ofAtom,okVe,PV.cells,okVc] at h
 | _ =>
  have e:∀ v,(∀ cs,ofAtom v ≠ .agg cs):=by intro v cs;unfold ofAtom;split<;>simp
  simp [ofValue] at a ⊢;rw [aLX (e _)] at a;cases j with
  | zero=>simp at a;subst a;exact .ofAtom _
  | succ j=>simp at a
theorem bBi (h:SR base M B st tm w) {o t e i x y a b} (G:P.underlying t=some (.slice e)) (C:P.info? e=some i)
  (d:0<i.size) (g:i.bytes<=512) (u:aDz i=true) (hx:Rv M B x a) (hy:Rv M B y b) {E} (hE:bHf i x y=some E) {l} (F:sS tm.size o i.size E [] st some=some l) :
  ∃ r w',(Instr.makeSlice t a b).run P w = .ok r w'/\Aft base M B st tm w l (putT tm o.dst r) w':=by
 obtain ⟨z,hzz,hzs⟩:=aCh u;unfold bHf at hE;rw [hzz] at hE;simp at hE;obtain ⟨n,A,hE⟩:=aB hE;obtain ⟨m,K,hE⟩:=aB hE;split at hE
 ·rename_i H;obtain ⟨hlim,rfl,hok⟩:=H;cases hE;have num:∀ {p} {v} {k},aDx p=some k->Rv M B p v->∃ q,v = .int q k:=by
   intro p v k hk D;unfold aDx at hk;split at hk
   ·rename_i q j;split at hk;· simp at hk
    rename_i hj;have:j=k:=by simp at hk;omega
    rw [D.int_inv,this];exact ⟨q,rfl⟩
   simp at hk
  obtain ⟨J,rfl⟩:=num A hx;obtain ⟨s,rfl⟩:=num K hy;have hlim':n<=274877906944:=hlim;have hmul:(i.bytes:Int)*n<=281474976710656:=by
   have L  := Nat.mul_le_mul g hlim';have N  := by omega
   omega
  have hrun:=run_make (P:=P) w t e i z G C hzz J s n n (by omega) (by omega) hmul (by omega);have hsz:(madeCells z.cells (n*i.size)).size=n*i.size:=size_madeCells _ _;rw [Int.toNat_natCast] at hrun;refine ⟨_,_,hrun,?_⟩;have hel:∀ x∈List.replicate n (ofValue z),okVe i.size x=true:=fun x hx=>by rw [(List.mem_replicate.1 hx).2];exact hok
  have hel'  := fun x hx=>(kR (hel x hx)).1;refine yM (lv:=[]) h (by simpa using h) (fun b=>aa1 _) F (fun b O=>by show (w.heap.push _)[b]?=_;rw [abq,if_neg (by omega)]) (by simp) rfl rfl rfl d hel (.inl ⟨w.heap.size,n,madeCells z.cells (n*i.size),e,(0,0),?_,?_,by omega,?_,?_,?_,?_⟩);· rw [abj]
  ·rw [abj];exact by omega
  ·show (w.heap.push _)[w.heap.size]?=_;simp
  ·rw [abj,hsz];exact by omega
  ·simp
  intro j c hj;have hlt:=(aa2.1 hj).1;rw [pF _ hel',abj] at hlt;have hk:j=j / i.size*i.size+j % i.size:=by rw [aaI];exact (ab8 j i.size).symm
  have I  := (Nat.div_lt_iff_lt_mul d).2 hlt;rw [hk,qY _ hel' _ _ (abc _ d),List.getElem?_replicate,if_pos I] at hj;have f:=aZo (M:=M) (B:=B) hok (j % i.size) c hj;have:(madeCells z.cells (n*i.size)).getD j undef=z.cells.getD (j % i.size) undef:=by
   have hmod:j % i.size<z.cells.size:=by exact by grind
   unfold madeCells;simp [hlt,hzs];rw [getElem!_pos z.cells (j % i.size) hmod,abt hmod,aaN]
  rw [this];exact f
 simp at hE
theorem bEi (h:SR base M B st tm w) {o lv} (h1s:SR base M B {st with fr:=lv++st.fr} tm w) {p q v y} (Q:Rv M B p v)
  (K:∀ b,tot (lv++st.fr) tm w B st.bx b<=tot st.fr tm w B st.bx b) (hy:Rv M B q y)
  {t u ty e V i} (hut:P.underlying t=some (.slice e)) (O:P.underlying u=some (.slice V)) (L:P.info? e=some i)
  (hs:0<i.size) (r:i.bytes<=512) (T:aDz i=true) {E} (ha:apdV i.size p q=some E) {J} (N:sS tm.size o i.size E lv st some=some J) :
  ∃ H w',(Builtin.append_ #[t,u] ty #[v,y]).run P w = .ok H w'/\Aft base M B st tm w J (putT tm o.dst H) w':=by
 obtain ⟨z,n,U⟩:=aCh T;unfold apdV at ha;split at ha
 ·rename_i bs X bs' S;split at ha
  ·rename_i hc;cases ha;obtain ⟨hlim,hszk⟩:=hc;obtain ⟨g2,q1,m,q3⟩:∃ g2,ElRel M B i.size E g2/\(Builtin.lenOf y).run P w = .ok E.length w/\∀ w',w'.heap=w.heap->(Builtin.firstCells i.size E.length y).run P w' = .ok ((List.range (E.length*i.size)).map g2).toArray w':=by
    cases hy with
    | nil o=>exact ⟨fun _=>undef,⟨by simp,by simp⟩,rfl,fun w' _=>by simp [Builtin.firstCells]⟩
    | slice _ _ _ ad cap s f F hc g hel I hrr =>
     obtain ⟨g2,q1,m,q3⟩:=aGz (P:=P) (Rv.slice E bs' S ad cap s f F hc g hel I hrr) h.cons hszk;exact ⟨g2,q1,rfl,q3⟩
   have G:∀ x∈E,okVe i.size x=true:=fun x hx=>by
    obtain ⟨k,hk⟩:=aao.1 hx;exact (q1.el k x hk).ve
   obtain ⟨oa,rfl⟩:∃ oa,v = .slice oa 0 0:=by
    cases Q with
    | nil o=>exact ⟨none,rfl⟩
    | slice _ _ _ ad cap s f ha hc g hel I hrr=>have:=(g rfl).1 rfl;subst this;exact ⟨some ad,rfl⟩
   by_cases D:E=[];· subst D;have hf0:=q3 w rfl;simp [aaH,Nat.zero_mul] at hf0;exact ⟨_,w,aDJ (P:=P) (ty:=ty) hut O (by simp) L oa 0 0 (by omega) y m hf0,yM h h1s K N (fun _ _=>rfl) (by omega) rfl rfl rfl hs G (by simp)⟩
   have R:0<E.length:=by cases E with
    | nil=>exact by grind
    | cons a l=>simp
   have d:(Builtin.firstCells i.size 0 (.slice oa 0 0)).run P w.drew = .ok (([]:List Value).toArray) w.drew:=by
    cases oa with
    | none=>simp [Builtin.firstCells]
    | some ad=>simp [Builtin.firstCells,loadCells,loadCellsFrom]
   simp [lim] at hlim;have C  := by
    have:(0+E.length)*i.bytes<=274877906944*512:=Nat.mul_le_mul (by omega) r;omega
   obtain ⟨cap',hcap',hrun⟩:=aF0 (P:=P) (w:=w) (ty:=ty) hut O (by simp) L n oa 0 0 E.length (by omega) y [] _ m (q3 w.drew rfl) d C (by omega);rw [aae] at hcap' hrun;refine ⟨_,_,hrun,?_⟩;have hRR:=ElRel.row (A:=[]) (E:=E) (g1:=fun _=>undef) (g2:=g2) (s:=i.size) (rest:=Builtin.zeroCells z.cells (cap'-E.length)) (M:=M) (B:=B) ⟨by simp,by simp⟩ q1 hs;simp at hRR;refine yM h h1s K N (fun b W=>by show (w.heap.push _)[b]?=_;rw [abq,if_neg (by omega)]) (by simp) rfl rfl rfl hs G
    (.inl ⟨w.heap.size,cap',_,e,(0,0),rfl,hcap',by omega,by show (w.heap.push _)[w.heap.size]?=_;simp,hRR.size,by simp,?_⟩)
   intro j c hc;have hE'  := fun x hx=>(kR (G x hx)).1;have hk:j=j / i.size*i.size+j % i.size:=by rw [aaI];exact (ab8 j i.size).symm
   rw [hk,qY E hE' _ _ (abc _ hs)] at hc;cases hx:E[j / i.size]? with
   | none=>rw [hx] at hc;simp at hc
   | some x =>
    rw [hx] at hc;have:=hRR.rel (j / i.size) x (j % i.size) c hx hc;rwa [<- hk] at this
  simp at ha
 simp at ha
theorem aXI {M M' B B' c v} (h:aOe c=true) (a:Rv M B c v):Rv M' B' c v:=by
 cases a with
 | bool b=>exact .bool b
 | int k n=>exact .int k n
 | str s=>exact .str s
 | _=>simp [aOe] at h
theorem bEj (h:SR base M B st tm w) {o lv} (h1s:SR base M B {st with fr:=lv++st.fr} tm w) {args vals r v w'}
  (G:∀ i p,args[i]?=some p->hV M w base B p (vals.getD i undef))
  (S:∀ b,tot (lv++st.fr) tm w B st.bx b+cA args vals b<=tot st.fr tm w B st.bx b) (D:∀ b,cA args vals b=0) (hpost:iO base M noB args [] vals w r [] v w')
  {sz E} (hE:bHd sz r=some E) {e} (u:sS tm.size o sz E lv st some=some e) :
  Aft base M B st tm w e (putT tm o.dst v) w':=by
 obtain ⟨M',J,O,P,t,C,evo⟩:=hpost;have hcb:∀ w b,cBx w noB [] b=0:=fun w b=>rfl;have hkeep:∀ b,b<w.heap.size->w'.heap[b]?=w.heap[b]?:=by
  intro b L;refine (evo.keep b L ?_).1;rintro (h1 | ⟨d,id,h2⟩);· have l:1<=cA args vals b+cBx w noB [] b:=h1;rw [hcb,D] at l;omega
  simp [noB] at h2
 have ht':∀ b,tot (lv++st.fr) tm w B st.bx b<=tot st.fr tm w B st.bx b:=fun b=>by have:=S b;omega
 unfold bHd at hE;split at hE
 ·rename_i E0 bs;split at hE
  ·rename_i hcond;cases hE;obtain ⟨hs,hall⟩:=hcond;have hfl:∀ x∈E,x.cells.length=sz/\∀ c∈x.cells,aOe c=true:=by
    intro x hx;have:=aak.1 hall x hx;simpa using this
   have hok:∀ x∈E,okVe sz x=true:=by
    intro x hx;rw [vS];obtain ⟨h1,h2⟩:=hfl x hx;refine ⟨h1,fun c t => ?_⟩;have:=h2 c t;unfold aOe at this;split at this<;>first | rfl | simp at this
   cases J with
   | nil o=>exact yM h h1s ht' u hkeep evo.size evo.os evo.tape evo.output hs hok (by simp)
   | slice _ _ _ a cap s f W hcp q hel H hrr =>
    by_cases hne:E=[];· subst hne;have:=(q rfl).1 rfl;subst this;exact yM h h1s ht' u hkeep evo.size evo.os evo.tape evo.output hs hok (by simp)
    have y:=(q rfl).2.1;subst y;have hof:=(q rfl).2.2 hne;simp [aac,aaH] at hcp hel H hrr;obtain ⟨x0,E0,rfl⟩:∃ x0 E0,E=x0::E0:=by cases E with
     | nil=>exact absurd rfl hne
     | cons x0 E0=>exact ⟨x0,E0,rfl⟩
    have z:s=sz:=by rw [<- (hel 0 x0 rfl).2.2.1];exact (hfl x0 (by simp)).1
    subst z;have N:a.spot=none:=by grind
    have I:HOk M' w' base noB a.block (a.off+(x0::E0).length*x0.cells.length) (a.off+cap*x0.cells.length):=(aHt (by simp) (by simp)).1 O;rw [(hfl x0 (by simp)).1,hof] at I;obtain ⟨arr,T,fz,hrow,A,n⟩:=I.row;have hblk:w.heap.size<=a.block:=by
     rcases aaG a.block w.heap.size with g | m
     ·have h1:=evo.tle a.block g;have h2:cV (.slice (x0::E0) [] true) (.slice (some a) (x0::E0).length cap) a.block=1:=by rw [aDG (by simp) (by simp)];simp [c1,own1]
      simp only [hcb,D] at h1;omega
     exact m
    have U:∀ i x j,(x0::E0)[i]?=some x->j<s->arr[i*s+j]?=some (f i j):=by
     intro i x j hx Q;have:=H i x j hx Q;rw [hof,aae] at this;obtain ⟨F,X,K,q1,q2⟩:=t _ _ _ this;rw [hrow] at q1;cases q1;exact q2
    have V  := aas s hcp;have R:a=⟨a.block,0,none⟩:=by cases a;simp_all
    refine yM h h1s ht' u hkeep evo.size evo.os evo.tape evo.output hs hok
     (.inl ⟨a.block,cap,arr,T,fz,by rw [<- R],hcp,hblk,hrow,by omega,fun i Y=>n i (by omega),?_⟩)
    intro j c hc';have k  := fun x hx=>(hfl x hx).1;have hk':j=j / s*s+j % s:=by rw [aaI];exact (ab8 j s).symm
    have hmod:j % s<s:=abc _ hs;rw [hk',qY _ k _ _ hmod] at hc';cases hx:(x0::E0)[j / s]? with
    | none=>rw [hx] at hc';simp at hc'
    | some x =>
     rw [hx] at hc';have q1:=hrr (j / s) x (j % s) c hx hc';have q2:=U (j / s) x (j % s) hx hmod;rw [<- hk'] at q2;rw [aaB,q2,aaN];exact aXI (by grind) q1
  simp at hE
 simp at hE
theorem bEk {M M' B B' r v} (h:scal r=true) (d:Rv M B r v):Rv M' B' r v/\fD r v:=by
 have b:∀ {c} {v},aOe c=true->Rv M B c v->Rv M' B' c v/\fD c v:=by
  intro c v a hv;refine ⟨aXI a hv,cD ?_⟩;cases c<;>first | rfl | simp [aOe] at a
 cases r with
 | tuple vs =>
  simp [scal] at h;cases d with
  | tuple _ xs f j e g =>
   refine ⟨.tuple _ xs f j e fun i c a=>by grind,cD ?_⟩;simp [PV.plain];conv=>rhs;rw [<- List.map_id vs]
   refine aaU fun c a => ?_;have:=h c a;cases c<;>first | rfl | simp [aOe] at this
 | _=>exact b h d
noncomputable def lend (M:Mem) (w:World) (B:BM) (bx:List gP):Mem:=fun b i =>
 open Classical in
 match M b i with
 | some v=>some v
 | none=>if ∃ id sz E,bD bx 0 id=some [.vec sz E]/\B 0 id=some b then w.cell? ⟨b,i,none⟩ else none
theorem aDK {M w B bx} b i v (h:M b i=some v):lend M w B bx b i=some v:=by
 unfold lend;rw [h]
theorem bBj (h:SR base M B st tm w):Cons (lend M w B st.bx) w:=by
 intro b i v hv;unfold lend at hv;split at hv;· rename_i x a;cases hv;exact h.cons b i _ a
 split at hv;· simp [World.cell?] at hv;grind
 grind
theorem bEl (h : SR base M B st tm w) {id sz n E} (hb : bD st.bx 0 id = some [.vec sz E]) (x : n <= E.length) {v} (r : Rv M B (.rsl 0 id n sz) v) :
  Rv (lend M w B st.bx) noB (.slice (E.take n) [] false) v := by
 obtain ⟨t, l⟩ : okV [.vec sz E] := (h.box.ok 0 id _ hb).1;have hlen : (E.take n).length = n := by simp; omega
 cases r with
 | rslNil _ _ _ u =>
  simp;cases u with
  | none => exact .nil false
  | some a => exact .slice [] [] false a 0 1 (fun _ _ => undef) (fun h => absurd h (by omega)) (by simp) (by simp) (by simp) (by simp) (by simp)
 | rsl _ _ _ _ blk cap hB A =>
  obtain ⟨arr, T, fz, f, m, p, g, hcell⟩ := sU h hb hB;have hE'  := fun e he => (kR (l e he)).1;have s  := pF E hE';have y : ∀ k, k < E.length * sz -> lend M w B st.bx blk k = some (cP w blk k) := by
   intro k z;unfold lend;rw [g.free k];simp only;rw [if_pos ⟨id, sz, E, hb, hB⟩];exact hcell k (by show k < (E.flatMap cells).length; omega)
  have hin : ∀ (i : Nat) e, (E.take n ++ [])[i]? = some e -> E[i]? = some e := by
   intro i e he;rw [aac, abb] at he;split at he;· exact he
   simp at he
  have d : ∀ i j, i < E.length -> j < sz -> i * sz + j < E.length * sz := by
   intro i j o hj;have : (i + 1) * sz <= E.length * sz := aas sz o;rw [aam] at this; omega
  have key := Rv.slice (M := lend M w B st.bx) (B := noB) (E.take n) [] false ⟨blk, 0, none⟩ cap sz (fun i j => cP w blk (i * sz + j)) (fun _ => rfl) (by simp; omega) (by simp)
   (fun i e he => okVe.el (by grind) t)
   (fun i e j he hj => by
    rw [aae];exact by grind)
   (fun i e j c he hc' => by
    have he' := hin i e he;have hel := hE' e (aad he');have hj : j < sz := by rw [<- hel]; exact (aa2.1 hc').1
    have hph  := by
     show (E.flatMap cells)[i * sz + j]? = some c;rw [qY E hE' i j hj, he']; exact hc'
    have hsol := (kR (l e (aad he'))).2 c (aad hc');exact ((g.rel _ c hph).1.anyB1 noB hsol).mono (fun b i v hv => aDK b i v hv) (fun _ _ _ q => q))
  rw [hlen] at key;exact key
theorem bHk (h : SR base M B st tm w) {dst lv} (h1s : SR base M B { st with fr := lv ++ st.fr } tm w) {args args' vals r v w' Mp cr}
  (hrel : ∀ i p, args[i]? = some p -> hV M w base B p (vals.getD i undef))
  (hcA : ∀ b, cA args' vals b <= cA args vals b)
  (ht : ∀ b, tot (lv ++ st.fr) tm w B st.bx b + cA args vals b <= tot st.fr tm w B st.bx b) (hMp : ∀ b i v, M b i = some v -> Mp b i = some v) (hpost : iO base Mp noB args' [] vals w r [] v w') (hs : scal r = true) :
  Aft base M B st tm w { cr := cr, ws := dstW tm.size dst r ++ lv } (putT tm dst v) w' := by
 obtain ⟨M', hr, hh, hbx, hc, hone, evo⟩ := hpost;have hcb : ∀ w b, cBx w noB [] b = 0 := fun w b => rfl;have hAown : ∀ b, 1 <= cA args vals b -> (∀ d id, B d id ≠ some b) /\ b < w.heap.size := by
  intro b hb;obtain ⟨i, p, hp, hcv⟩ := aXG hb;have := aXH (hrel i p hp) hcv;exact ⟨this.1, this.2.1⟩
 have hkeep : ∀ b, b < w.heap.size -> cA args vals b = 0 -> w'.heap[b]? = w.heap[b]? := by
  intro b hb hz;refine (evo.keep b hb ?_).1;rintro (h1 | ⟨d, id, h2⟩);· have h1' : 1 <= cA args' vals b + cBx w noB [] b := h1;have := hcA b;rw [hcb] at h1'; omega
  simp [noB] at h2
 have hcons : Cons M w' := fun b i v hv => hc b i v (evo.mono b i v (by grind));obtain ⟨k1, k2⟩ := h1s.world (M' := M) (w' := w') hcons (fun _ _ _ hx => hx)
  (fun d id b hB => ⟨hkeep b (h.box_lt hB).1 (by
   grind), fun _ => rfl⟩)
  (fun b hb => ⟨hkeep b (h1s.tot_own hb).1 (by have := ht b; have := h.one b; simp at hb; omega), fun _ => rfl⟩) evo.size
 obtain ⟨hrB, hno⟩ := bEk (M' := M) (B' := B) hs hr;obtain ⟨q1, q2⟩ := k1.putN dst hrB hno;have happ : ({ cr := cr, ws := dstW tm.size dst r ++ lv } : Eff).app st = { st with fr := dstW tm.size dst r ++ (lv ++ st.fr) } := by
  rw [<- List.append_assoc]; exact aJ6 st _
 unfold Aft;rw [happ];refine ⟨iH _ _ _, M, B, q1, evo.os, evo.tape, evo.output, evo.size, fun _ _ _ hx => hx, ?_, ?_, fun d i b hB _ => ⟨d, i, hB⟩, fun _ _ => rfl⟩
 ·intro b hb hnt;refine ⟨hkeep b hb ?_, fun _ => rfl⟩;cases hx : cA args vals b with
  | zero => rfl
  | succ n => exfalso; apply hnt; left; have := ht b; omega
 intro b hb;have e1 := q2 b;have e2 := k2 b;have e3 := ht b;simp at e1 e2 ⊢;omega
theorem aO5 {bx p} (h:aOg bx p=true):(∃ id n sz E,p = .rsl 0 id n sz/\bD bx 0 id=some [.vec sz E]/\n<=E.length/\brwV bx p = .slice (E.take n) [] false)∨brwV bx p=p:=by
 unfold aOg at h;split at h
 ·rename_i id n sz;split at h;· rename_i b E a;simp only [aa0] at h;have c:=aap h.1;subst c;left;refine ⟨id,n,sz,E,rfl,a,ab3 h.2,?_⟩;simp [brwV,a]
  grind
 unfold brwV;simp
theorem bHl (h:SR base M B st tm w) {args vals} (o:vals.size=args.length) (l:∀ i p,args[i]?=some p->Rv M B p (vals.getD i undef)/\hV M w base B p (vals.getD i undef))
  (k:∀ b,cA args vals b<=1) (g:∀ p∈args,aOg st.bx p=true) (e:∀ p∈args.map (brwV st.bx),free p=true) :
  CallPre base (lend M w B st.bx) noB (args.map (brwV st.bx)) [] vals w/\∀ b,cA (args.map (brwV st.bx)) vals b<=cA args vals b:=by
 have f:∀ b,cA (args.map (brwV st.bx)) vals b<=cA args vals b:=by
  intro b;unfold cA;rw [aau];apply aHq;intro i r;have F:(args.map (brwV st.bx)).getD i .bot=brwV st.bx args[i]:=by
   simp [aa4 r]
  have I:args.getD i .bot=args[i]:=by simp [aa4 r]
  rw [F,I];rcases aO5 (g _ (aaK r)) with ⟨id,n,sz,E,_,_,_,a⟩ | a;· rw [a,(rH _ _ _).c b];omega
  rw [a];exact by omega
 refine ⟨⟨bBj h,by rw [aau];exact o,?_,⟨by simp,fun _ _ _=>rfl,by simp [yV],by simp [noB]⟩,?_,h.glob.mono aDK,h.base⟩,f⟩
 ·intro i p u;have m:=u;rw [aa9,aan] at u;obtain ⟨q,y,rfl⟩:=u;obtain ⟨z,D⟩:=l i q y;rcases aO5 (g q (aad y)) with ⟨id,n,sz,E,rfl,t,G,a⟩ | a;· rw [a,aL6];exact ⟨bEl h t G z,(rH _ _ _).h _ _ _ _⟩
  have A:=e _ (aad m);rw [a] at A ⊢;refine ⟨(z.anyBfree _ A).mono (fun b i v hv=>aDK b i v hv) (fun _ _ _ s=>s),?_⟩;intro x s;have j:=D x s;refine (j.world (M':=lend M w B st.bx) (w':=w) (B':=noB) (fun b i v hv=>aDK b i v hv) fun b H _=>⟨rfl,fun i => ?_,fun d id t=>by simp [noB] at t⟩);unfold lend;split;· rename_i v hv;exact hv.symm
  rename_i hv;rw [if_neg,hv];rintro ⟨id,sz,E,_,C⟩;exact (j.nobox H).1 0 id C
 intro b;have a:cBx w noB [] b=0:=rfl;have:=f b;have:=k b;omega
end
theorem oB {kd k} (h:aFJ kd k=true):(∃ s,k = .str s/\kd=0)∨∃ a b,k = .agg [.int .i64 a,.int .i64 b]/\kd=1:=by
 unfold aFJ at h;split at h;all_goals simp_all
section
variable {P : Program} {w : World}
structure MapK (P:Program) (t:TypeId) (kd:Nat) (z:PV) (kt et:TypeId):Prop where
 u:P.underlying t=some (.map kt et)
 hz:aFX P et=some z
 zs:z.solid1=true
 k:(kd=0/\P.underlying kt=some .string)∨(kd=1/\∃ i,P.underlying kt=some (.array 2 i)/\P.underlying i=some (.int .i64)/\szOf P i=some 1)
theorem aSm {t kd:Nat} {z} (h:mapT P t=some (kd,z)):∃ kt f,MapK P t kd z kt f:=by
 unfold mapT at h;split at h
 ·rename_i k e c;split at h
  ·rename_i z' b;split at h;· rename_i a d;cases h;exact ⟨k,e,c,b,a,by grind⟩
   ·rename_i i a d;split at h;· cases h;exact ⟨k,e,c,b,a,by grind⟩
    grind
   grind
  grind
 grind
theorem bBk (a b:List UInt8):((⟨a.toArray⟩:ByteArray)==⟨b.toArray⟩)=(a==b):=by
 rw [Bool.eq_iff_iff,MapKept.bytes_beq,beq_iff_eq];simp
theorem aHy {w e} (b:P.underlying e=some (.int .i64)) {xs off v} (a:xs[off]?=some v):(Go.part e xs off).run P w = .ok v w :=
 run_part_plain w (by unfold Program.plainKey;rw [b]) a
theorem bHm {kt i} (e:P.underlying kt=some (.array 2 i)) (hi:P.underlying i=some (.int .i64)) (hs:szOf P i=some 1) a b c d :
  (Op.equal kt (.agg #[.int .i64 a,.int .i64 b]) (.agg #[.int .i64 c,.int .i64 d])).run P w = .ok (a==c&&b==d) w:=by
 have h:∀ x y n,(Op.equalIn (n+1) i (.int .i64 x) (.int .i64 y)).run P w = .ok (x==y) w:=by
  simp [Op.equalIn,run_underlying hi]
 have p0:∀ x y,(Go.part i #[x,y] 0).run P w = .ok x w:=fun x y=>aHy hi rfl;have j:∀ x y,(Go.part i #[x,y] 1).run P w = .ok y w:=fun x y=>aHy hi rfl;unfold Op.equal Op.maxDepth;rw [Op.equalIn];simp [aaT,run_underlying e,ab6,eX w hs];simp [Std.Legacy.Range.forIn_eq_forIn_range',List.range',p0];cases g:a==c<;>cases f:b==d<;>simp_all
theorem aSn {t kd:Nat} {z kt p} (K:MapK P t kd z kt p) {k} (m:aFJ kd k=true) d:(Instr.checkKey d 10000 kt (keyV k)).run P w = .ok () w:=by
 rcases oB m with ⟨s,rfl,rfl⟩ | ⟨a,b,rfl,rfl⟩
 ·rcases K.k with ⟨_,e⟩ | ⟨h,_⟩
  ·have c:∀ n,(Instr.checkKey d (n+1) kt (.string ⟨s.toArray⟩)).run P w = .ok () w:=fun n=>by simp [Instr.checkKey,run_underlying e]
   exact c 9999
  cases h
 rcases K.k with ⟨h,_⟩ | ⟨_,i,e,f,j⟩;· cases h
 have l:∀ x n,(Instr.checkKey d (n+1) i (.int .i64 x)).run P w = .ok () w:=fun x n=>by simp [Instr.checkKey,run_underlying f]
 have g:∀ x y,(Go.part i #[x,y] 0).run P w = .ok x w:=fun x y=>aHy f rfl;have o:∀ x y,(Go.part i #[x,y] 1).run P w = .ok y w:=fun x y=>aHy f rfl;have c:∀ n,(Instr.checkKey d (n+1+1) kt (.agg #[.int .i64 a,.int .i64 b])).run P w = .ok () w:=by
  intro n;rw [Instr.checkKey];simp [run_underlying e];simp [List.range',g,o,l,eX w j]
 exact c 9998
theorem cmp0 {kt} (c:P.underlying kt=some .string) (a b:List UInt8):Instr.sameNow .string (.string ⟨a.toArray⟩) (.string ⟨b.toArray⟩)=some (a==b):=by
 simp [Instr.sameNow,bBk]
theorem aSo {kd k} (d:aFJ kd k=true):(Instr.keyThatStays (keyV k) (keyV k)).run P w = .ok (keyV k) w:=by
 have:Instr.sameBits 10000 (keyV k) (keyV k)=true:=by
  rcases oB d with ⟨s,rfl,rfl⟩ | ⟨a,b,rfl,rfl⟩
  ·have c:∀ n,Instr.sameBits n (.string ⟨s.toArray⟩) (.string ⟨s.toArray⟩)=true:=fun n=>by simp [Instr.sameBits,bBk]
   exact c _
  have c:∀ n,Instr.sameBits (n+1) (.agg #[.int .i64 a,.int .i64 b]) (.agg #[.int .i64 a,.int .i64 b])=true:=fun n=>by simp [Instr.sameBits]
  exact c 9999
 simp [Instr.keyThatStays,this]
theorem bKp {kd k q} (e:aFJ kd k=true) (d:aFJ kd q=true) (h:keq k q=true):keyV q=keyV k:=by
 rcases oB e with ⟨s,rfl,rfl⟩ | ⟨a,b,rfl,rfl⟩<;>rcases oB d with ⟨s',rfl,c⟩ | ⟨f,b',rfl,c⟩;· simp [keq] at h;rw [h]
 ·cases c
 ·cases c
 simp [keq] at h;grind
def aZp (k:PV) (E:List PV) (es:List MapEntry) (i:Nat) (r:Option (Nat×Value)):Prop :=
 (aOf k E=none/\r=none/\∀ v,aHl k v E=E++[.tuple [k,v]]) ∨
 ∃ j v m q,E[j]?=some (.tuple [q,v])/\es[j]?=some m/\aOf k E=some v/\r=some (i+j,m.val)/\keq k q=true/\∀ u,aHl k u E=E.set j (.tuple [k,u])
theorem aO6 {k q v E m es i r} (a:keq k q=false) (h:aZp k E es (i+1) r):aZp k (.tuple [q,v]::E) (m::es) i r:=by
 rcases h with ⟨d,c,b⟩ | ⟨j,n,l,e,d,c,b,o,f,g⟩;· exact .inl ⟨by simp [aOf,a,d],c,fun u=>by simp only [aHl,a,b];rfl⟩
 refine .inr ⟨j+1,n,l,e,d,c,by simp [aOf,a,b],by grind,f,fun u=>by simp only [aHl,a,g];rfl⟩
theorem aSp {k q v E m es i} (a:keq k q=true):aZp k (.tuple [q,v]::E) (m::es) i (some (i,m.val)) :=
 .inr ⟨0,v,m,q,rfl,rfl,by simp [aOf,a],rfl,a,fun u=>by simp only [aHl,a];rfl⟩
theorem aSq {M kd E es} (g:E.length=es.length) (f:∀ (i:Nat) e m,E[i]?=some e->es[i]?=some m->EntR M kd e m) :
  (E=[]/\es=[])∨∃ e d m c,E=e::d/\es=m::c/\EntR M kd e m/\d.length=c.length/\∀ (i:Nat) e m,d[i]?=some e->c[i]?=some m->EntR M kd e m:=by
 cases E with
 | nil=>grind
 | cons e E =>
  cases es with
  | nil=>grind
  | cons m es=>exact .inr ⟨e,E,m,es,rfl,rfl,f 0 e m rfl rfl,by grind,fun i a b j h=>f (i+1) a b (by grind) (by grind)⟩
theorem aXJ {M kt} (f:P.underlying kt=some .string) s:∀ es E i,E.length=es.length->(∀ (i:Nat) e m,E[i]?=some e->es[i]?=some m->EntR M 0 e m) ->
  ∃ r,Instr.findNow .string (.string ⟨s.toArray⟩) es i=some r/\aZp (.str s) E es i r
 | es,E,i,o,l=>by
  rcases aSq o l with ⟨rfl,rfl⟩ | ⟨e,u,m,d,rfl,rfl,⟨k,v,rfl,p,t,_⟩,h,j⟩;· exact ⟨none,rfl,.inl ⟨rfl,rfl,fun _=>rfl⟩⟩
  rcases oB p with ⟨q,rfl,_⟩ | ⟨a,b,rfl,n⟩
  ·have g:Instr.sameNow .string (.string ⟨s.toArray⟩) m.key=some (s==q):=by rw [t];exact cmp0 f s q
   cases c:s==q;· obtain ⟨r,g1,g2⟩:=aXJ f s d u (i+1) h j;exact ⟨r,by simp [Instr.findNow,g,c,g1],aO6 (by simpa [keq] using c) g2⟩
   exact ⟨_,by simp [Instr.findNow,g,c],aSp (by simpa [keq] using c)⟩
  cases n
theorem aXK {M kt} a b (j:∀ c d,(Op.equal kt (.agg #[.int .i64 a,.int .i64 b]) (.agg #[.int .i64 c,.int .i64 d])).run P w = .ok (a==c&&b==d) w):∀ es E i,E.length=es.length->(∀ (i:Nat) e m,E[i]?=some e->es[i]?=some m->EntR M 1 e m) ->
  ∃ r,(Instr.findAsking kt (.agg #[.int .i64 a,.int .i64 b]) es i).run P w = .ok r w/\aZp (.agg [.int .i64 a,.int .i64 b]) E es i r
 | es,E,i,s,o=>by
  rcases aSq s o with ⟨rfl,rfl⟩ | ⟨e,x,m,h,rfl,rfl,⟨k,v,rfl,t,u,_⟩,l,n⟩;· exact ⟨none,rfl,.inl ⟨rfl,rfl,fun _=>rfl⟩⟩
  rcases oB t with ⟨q,rfl,p⟩ | ⟨c,d,rfl,_⟩;· cases p
  have f:(Op.equal kt (.agg #[.int .i64 a,.int .i64 b]) m.key).run P w = .ok (a==c&&b==d) w:=by rw [u];exact j c d
  cases g:a==c&&b==d;· obtain ⟨r,g1,g2⟩:=aXK a b j h x (i+1) l n;exact ⟨r,by simp [Instr.findAsking,f,g,g1,Result.andThen],aO6 (by simpa [keq] using g) g2⟩
  exact ⟨_,by simp [Instr.findAsking,f,g],aSp (by simpa [keq] using g)⟩
theorem aXL {M} {t kd:Nat} {z kt o} (K:MapK P t kd z kt o) {k} (n:aFJ kd k=true) {E es} (f:EntL M kd E es) :
  ∃ r,(Instr.findKey kt (keyV k) es.toList).run P w = .ok r w/\aZp k E es.toList 0 r:=by
 have d:∀ i e m,E[i]?=some e->es.toList[i]?=some m->EntR M kd e m:=fun i e m j d=>f.2 i e m j (by grind);rcases oB n with ⟨s,rfl,rfl⟩ | ⟨a,b,rfl,rfl⟩
 ·rcases K.k with ⟨_,c⟩ | ⟨h,_⟩;· obtain ⟨r,g1,g2⟩:=aXJ (P:=P) c s es.toList E 0 (by simpa using f.1) d;exact ⟨r,MapKept.run_findKey c g1,g2⟩
  cases h
 rcases K.k with ⟨h,_⟩ | ⟨_,i,c,l,g⟩;· cases h
 obtain ⟨r,g1,g2⟩:=aXK (P:=P) (w:=w) (kt:=kt) a b (bHm c l g a b) es.toList E 0 (by simpa using f.1) d;exact ⟨r,by rw [run_findKey_eq w (by rw [c])];exact g1,g2⟩
theorem bBl {M B kd k v} (i:aFJ kd k=true) (h:Rv M B k v):v=keyV k:=by
 rcases oB i with ⟨s,rfl,rfl⟩ | ⟨a,b,rfl,rfl⟩;· cases h;rfl
 cases h with
 | agg cs vs f l d c =>
  have e:=c 0 _ rfl;have j:=c 1 _ rfl;have g:=d 0 (by simp);have g1:=d 1 (by simp);rw [e.int_inv] at g;rw [j.int_inv] at g1;congr 1;grind
section
variable {base : Base} {M : Mem} {B : BM} {st : St} {tm : Array Value}
theorem bBm (h:SR base M B st tm w) {d id blk kd E} (e:bD st.bx d id=some [.mpv kd E]) (c:B d id=some blk):BoxOk M w base B d blk [.mpv kd E]/\∃ es a,w.heap[blk]?=some (.map es a)/\EntL M kd E es:=by
 have b:=h.box.get e c;exact ⟨b,b.row⟩
theorem aZq (h:SR base M B st tm w) {dst} {t kd d id:Nat} {z k vm vk E kt et} (K:MapK P t kd z kt et) (hm:Rv M B (.mp d id) vm) (hb:bD st.bx d id=some [.mpv kd E]) (hk:Rv M B k vk) c {r0} (hr0:aJ3 kd E k z c=some r0) :
  ∃ x,(Instr.lookup t vm vk c).run P w = .ok x w/\Aft base M B st tm w {cr:=[(d,id,0,1)],ws:=dstW tm.size dst r0} (putT tm dst x) w:=by
 obtain ⟨r,hr,hr0⟩:=aB hr0;cases hr0;cases hm with
 | mp _ _ blk hB =>
  obtain ⟨ok,es,clock,hw,hE⟩:=bBm h hb hB;have hko:aFJ kd k=true:=by
   unfold bA0 at hr;split at hr<;>simp_all
  cases bBl hko hk;obtain ⟨q,g1,g2⟩:=aXL (w:=w) K hko hE;obtain ⟨zv,hz1,hz2,_⟩:=sT (P:=P) (w:=w) K.hz;have hc:=aSn (w:=w) K hko es.isEmpty;have main:∃ x,(Instr.lookup t (.map (some blk)) (keyV k) c).run P w = .ok (if c then .tuple #[x,.bool r.2] else x) w/\Rv M B r.1 x/\r.1.solid1=true/\r.1.plain1=r.1:=by
   unfold bA0 at hr;rw [hko] at hr;rcases g2 with ⟨h1,rfl,_⟩ | ⟨j,v,m,q',h1,h2,h3,rfl,_⟩
   ·rw [h1] at hr;cases hr;refine ⟨zv,?_,?_,by have:=K.zs;cases z<;>first | exact this | rfl | simp [PV.solid1] at this,aCd _⟩;· simp [Instr.lookup,run_underlying K.u,abI hw,hc,g1,hz1,Result.andThen]
    show Rv M B z.plain1 zv;rw [hz2];exact (Rv.ofValue zv).plain1
   rw [h3] at hr;cases hr;obtain ⟨k',v',e,_,_,h5,h6,h7⟩:=hE.2 j _ m h1 (by simpa using h2);cases e;refine ⟨m.val,?_,h7.anyB1 B h5,h5,h6⟩;simp [Instr.lookup,run_underlying K.u,abI hw,hc,g1]
  obtain ⟨x,hx,hrx,hs,hp⟩:=main;refine ⟨_,hx,?_⟩;have hno:fD r.1 x:=cD (by generalize r.1=p at *;cases p<;>first | exact hp | simp [PV.solid1] at hs);have fin:∀ p v,Rv M B p v->fD p v->Aft base M B st tm w {cr:=[(d,id,0,1)],ws:=dstW tm.size dst p} (putT tm dst v) w:=by
   intro p v hp hn;obtain ⟨k1,k2⟩:=h.putN dst hp hn;have happ:({cr:=[(d,id,0,1)],ws:=dstW tm.size dst p}:Eff).app st={st with fr:=dstW tm.size dst p++st.fr}:=aJ6 st _;unfold Aft;rw [happ];exact ⟨iH _ _ _,M,B,k1,aHv fun b _=>k2 b⟩
  cases c with
  | false=>exact by grind
  | true =>
   refine fin _ _ (.tuple _ _ (fun i=>(#[x,.bool r.2]:Array Value).getD i undef) rfl (fun i hi => ?_) (fun i c hc => ?_)) ?_
   ·match i,hi with
    | 0,_=>rfl
    | 1,_=>rfl
   ·match i,hc with
    | 0,hc=>cases hc;exact hrx
    | 1,hc=>cases hc;exact .bool _
   have:=cU (.tuple [r.1,.bool r.2]) (.tuple #[x,.bool r.2]);have e:(PV.tuple [r.1,.bool r.2]).plain = .tuple [r.1,.bool r.2]:=by
    simp only [PV.plain,ab1];have:r.1.plainA=r.1:=by generalize r.1=p at *;cases p<;>first | exact hp | simp [PV.solid1] at hs
    rw [this];rfl
   rwa [e] at this
theorem aQm (h:SR base M B st tm w) {t kd d id:Nat} {z k v vm vk vv E E' kt et} (K:MapK P t kd z kt et) (hm:Rv M B (.mp d id) vm) (hb:bD st.bx d id=some [.mpv kd E]) (hk:Rv M B k vk) (hv:Rv M B v vv) (hr:mput kd E k v=some E') :
  ∃ w',(Instr.mapUpdate t vm vk vv).run P w = .ok () w'/\Aft base M B st tm w {cr:=[(d,id,0,1)],cw:=[(d,id,0,[.mpv kd E'])]} tm w':=by
 cases hm with
 | mp _ _ blk hB =>
  obtain ⟨ok,es,clock,hw,hE⟩:=bBm h hb hB;unfold mput at hr;split at hr;rotate_left;· simp at hr
  rename_i hko hs;cases hr;cases bBl hko hk;obtain ⟨q,g1,g2⟩:=aXL (w:=w) K hko hE;have hc:=aSn (w:=w) K hko false;have hnew:∀ born,EntR M kd (.tuple [k,v.plain1]) ⟨keyV k,vv,born⟩:=fun born =>
   ⟨k,v.plain1,rfl,hko,rfl,by cases v<;>first | exact hs | rfl,aCd _,(hv.anyB1 _ hs).plain1⟩
  have main:∃ es' clock',(Instr.mapUpdate t (.map (some blk)) (keyV k) vv).run P w = .ok () {w with heap:=w.heap.setIfInBounds blk (.map es' clock')}/\EntL M kd (aHl k v.plain1 E) es':=by
   rcases g2 with ⟨h1,rfl,h3⟩ | ⟨j,u,m,q',h1,h2,_,rfl,h5,h6⟩
   ·refine ⟨es.push ⟨keyV k,vv,clock⟩,clock+1,?_,?_⟩;· simp [Instr.mapUpdate,run_underlying K.u,abI hw,hc,g1,MapKept.run_setObj_map _ hw,Result.andThen]
    rw [h3];refine ⟨by simp [hE.1],fun i e m' he hm' => ?_⟩;by_cases hi:i<E.length;· rw [aaq hi] at he;rw [abq,if_neg (by have:=hE.1;omega)] at hm';exact hE.2 i e m' he hm'
    have:i=E.length:=by
     have:=(aa2.1 he).1;simp at this;omega
    subst this;simp at he;rw [abq,if_pos hE.1] at hm';cases he;cases hm';exact hnew clock
   obtain ⟨k',v',e,hk',hkv,_⟩:=hE.2 j _ m h1 (by simpa using h2);cases e;have hmk:m.key=keyV k:=by rw [hkv];exact bKp hko hk' h5
   have h2'  := by simpa using h2
   refine ⟨es.modify j fun e=>{e with key:=keyV k,val:=vv},clock,?_,?_⟩;· have hst:=aSo (P:=P) (w:=w) hko;simp [Instr.mapUpdate,run_underlying K.u,abI hw,hc,g1,h2',hmk,hst,MapKept.run_setObj_map _ hw,Result.andThen]
   rw [h6];refine ⟨by simp [hE.1],fun i e m' he hm' => ?_⟩;rw [Array.getElem?_modify] at hm';by_cases hij:j=i;· subst hij;rw [if_pos rfl,h2'] at hm';rw [ab9 (aa2.1 h1).1] at he;cases he;cases hm';exact by grind
   rw [if_neg hij] at hm';rw [aaC hij] at he;exact hE.2 i e m' he hm'
  obtain ⟨es',clock',hrun,hE'⟩:=main;refine ⟨_,hrun,?_⟩;have hlt:=(aag.1 hw).1;obtain ⟨k1,k2⟩:=h.setRow (cs':=[.mpv kd (aHl k v.plain1 E)]) (w':={w with heap:=w.heap.setIfInBounds blk (.map es' clock')}) hb hB (fun b hne=>by simp [abx,Ne.symm hne]) (by simp) ⟨es',clock',by simp [abx,hlt],hE'⟩ trivial (fun j c hc=>by simp [phys] at hc) (fun b=>by simp [phys,dX];have:=h.one b;omega);have happ:({cr:=[(d,id,0,1)],cw:=[(d,id,0,[.mpv kd (aHl k v.plain1 E)])]}:Eff).app st={st with bx:=cN st.bx d id [.mpv kd (aHl k v.plain1 E)]}:=by
   simp [Eff.app,vR _ _ _ _ _ _ hb,rV,putAt,putNth]
  unfold Aft;rw [happ];refine ⟨rfl,M,B,k1,rfl,rfl,rfl,by simp,fun _ _ _ hx=>hx,?_,?_,fun d i b hB _=>⟨d,i,hB⟩,fun _ _=>rfl⟩;· intro b hlt hnt;exact ⟨by simp only [abx];rw [if_neg];rintro rfl;exact hnt (.inr ⟨d,id,hB⟩),fun _=>rfl⟩
  intro b _;have:=k2 b;simp [phys,dX] at this ⊢;omega
theorem aVr (h:SR base M B st tm w) {o:Oper} {id kd t:Nat} (k:lB tm.size st o.dst=some id) :
  ∃ w',(Instr.makeMap t none).run P w = .ok (.map (some w.heap.size)) w'/\Aft base M B st tm w {ws:=[(id,.mp 0 id)],nw:=[(id,[.mpv kd []])]} (putT tm o.dst (.map (some w.heap.size))) w':=by
 obtain ⟨g,l,G,r,f,a⟩:=jV k;refine ⟨{w with heap:=w.heap.push (.map #[] 0)},rfl,?_⟩;obtain ⟨E,u⟩:=h.newAt (cs:=[.mpv kd []]) (xs := #[]) (w':={w with heap:=w.heap.push (.map #[] 0)}) f a (aa1 _) (fun b q=>by grind) ⟨#[],0,by simp,rfl,fun i e m C=>by simp at C⟩ (by simp) (fun j x=>by simp [phys] at x) trivial (fun j c D=>by simp [phys] at D) (fun b=>by exact h.one b);have p:Rv M (setB B id w.heap.size) (.mp 0 id) (.map (some w.heap.size)) := .mp 0 id _ (by simp [setB]);obtain ⟨s,H⟩:=E.putN o.dst p (fD.of1 (by simp) (by simp) rfl);unfold Aft;rw [aVi st _ G r (id,[.mpv kd []]) f];have n:dstW tm.size o.dst (.mp 0 id)++st.fr=(id,.mp 0 id)::st.fr:=by simp [dstW,g,l]
 refine ⟨iH _ _ _,M,setB B id w.heap.size,by simp [n] at s;exact s,?_⟩;refine ⟨rfl,rfl,rfl,by simp,fun _ _ _ y=>y,fun b q _=>⟨by grind,fun _=>rfl⟩,?_,?_,fun d F=>by simp [setB]⟩;· intro b q;have z:=u b;simp only [phys,aaH,dA] at z;grind
 intro d i b v q;unfold setB at v;grind
end
end
theorem aDL v:fD .bot v:=by
 intro x a;have:atoms .bot v=[(.bot,v)]:=by cases v<;>rfl
 rw [this] at a;simp at a;subst a;cases v<;>rfl
theorem h1.boxes {M w base B B' p v} (h:h1 M w base B p v) (a:∀ b,(∀ d id,B d id≠some b)->∀ d id,B' d id≠some b):h1 M w base B' p v:=by
 unfold h1 at h ⊢;split at h;· exact ⟨h.old,a _ h.nobox,h.row,h.free⟩
 ·exact ⟨h.old,a _ h.nobox,h.row,h.free⟩
 ·exact ⟨⟨h.1.old,a _ h.1.nobox,h.1.row,h.1.free⟩,h.2⟩
 trivial
theorem hV.boxes {M w base B B' p v} (h:hV M w base B p v) (c:∀ b,(∀ d id,B d id≠some b)->∀ d id,B' d id≠some b):hV M w base B' p v :=
 fun x a=>(h x a).boxes c
def Nd (bx:List gP):Prop:=∀ (d:Nat) f,bx[d]?=some f->(f.map (·.1)).Nodup
theorem aSr w blk b:∀ l k j c,l[j]?=some c->c1 c (cP w blk (k+j)) b<=dX w blk k l b:=by
 intro l;induction l with
 | nil=>simp
 | cons a l e =>
  intro k j c d;cases j with
  | zero=>simp at d;subst d;simp [dX]
  | succ j=>have:=e (k+1) j c d;simp [dX];grind
theorem bBn {w B bx d id blk cs} (n:bD bx d id=some cs) (k:B d id=some blk) {j c} (l:(phys cs)[j]?=some c) b:c1 c (cP w blk j) b<=cBx w B bx b:=by
 have i:=aSr w blk b (phys cs) 0 j c l;rw [aae] at i;have h:∀ bx a d,bD bx d id=some cs->cBox w (B (a+d) id) cs b<=jL (fun d id cs=>cBox w (B d id) cs b) a bx:=by
  intro bx;induction bx with
  | nil=>intro a d e;simp [bD,nth] at e
  | cons f r m =>
   intro a d e;simp [jL];cases d with
   | zero =>
    have:=aDF (g:=fun id cs=>cBox w (B a id) cs b) f (nN e);grind
   | succ d =>
    have:=m (a+1) d (by simpa [bD,nth] using e);grind
 have:=h bx 0 d n;rw [aae,k] at this;unfold cBx;simp [cBox] at this ⊢;omega
section
variable {base : Base} {M : Mem} {B : BM} {w : World}
theorem CallPre.sr {args a vals} (h:CallPre base M B args a vals w):SR base M B ⟨[],a⟩ #[] w:=by
 refine ⟨h.cons,fun i => .bot _,fun i=>(aDL _).h _ _ _ _,h.box,fun b => ?_,h.glob,h.base⟩;have:=h.one b;have e:tot [] #[] w B a b=cBx w B a b:=by simp [tot,cF,dA]
 grind
theorem CallPre.own {args a vals} (h:CallPre base M B args a vals w) {b} (j:1<=cA args vals b+cBx w B a b):b<w.heap.size/\∀ d id,B d id≠some b:=by
 by_cases g:1<=cA args vals b;· obtain ⟨i,p,f,c⟩:=aXG g;have:=aXH (h.rel i p f).2 c;grind
 have e:tot [] #[] w B a b=cBx w B a b:=by simp [tot,cF,dA]
 have:=h.sr.tot_own (b:=b) (by grind);grind
end
def selB (σ:List (Nat×Nat)) (B:BM):BM:=fun d j =>
 match d with
 | 0=>match nth σ j with
  | some p=>B p.1 p.2
  | none=>none
 | _+1=>none
def ner1 (σ:List (Nat×Nat)) (d:Nat):PV->Option PV
 | .ptr e j o=>match e,nth σ j with
  | 0,some p=>if d<=p.1 then some (.ptr (p.1-d) p.2 o) else none
  | _,_=>none
 | .mp e j=>match e,nth σ j with
  | 0,some p=>if d<=p.1 then some (.mp (p.1-d) p.2) else none
  | _,_=>none
 | c=>match okVc c with
  | true=>some c
  | false=>none
def putF (σ:List (Nat×Nat)):List (Nat×Nat)->Nat->UP->UP->Option UP
 | [],_,_,u=>some u
 | (d,id)::l,j,f,u=>match bD f 0 j with
  | some cs=>match renC (ner1 σ d) cs with
   | some cs'=>putF σ l (j+1) f (cN u d id cs')
   | none=>none
  | none=>none
def bKq (d:Nat):PV->List (Nat×Nat)
 | .ptr e id _=>[(d+e,id)]
 | .mp e id=>[(d+e,id)]
 | _=>[]
def bI5:PV->List (Nat×Nat)
 | .ptr d id _=>[(d-1,id)]
 | .mp d id=>[(d-1,id)]
 | .func _ a b=>(a++b).flatMap fun c=>match c with
  | .ptr d id _=>[(d-1,id)]
  | .mp d id=>[(d-1,id)]
  | _=>[]
 | _=>[]
def aXM (u:UP):Nat->List (Nat×Nat)->List (Nat×Nat)->List (Nat×Nat)
 | 0,_,a=>a
 | _,[],a=>a
 | n+1,p::l,a=>match hasP a p with
  | true=>aXM u n l a
  | false=>match bD u p.1 p.2 with
   | some cs=>aXM u n (cs.flatMap (bKq p.1)++l) (a++[p])
   | none=>aXM u n l a
def bGM:Nat->List (Nat×Nat)->gP->Bool
 | _,[],[]=>true
 | j,p::l,b::f=>Nat.beq p.1 0&&Nat.beq p.2 j&&Nat.beq b.1 j&&bGM (j+1) l f
 | _,_,_=>false
def bKr (σ:List (Nat×Nat)):UP->Bool
 | []=>true
 | [f]=>bGM 0 σ f
 | _=>false
def yZ (b:Hints) (a:List PV) (u:UP):Option (List (Nat×Nat)×List PV×gP) :=
 match b.sel with
 | true =>
  let σ:=aXM u 60 (a.flatMap bI5) []
  match bKr σ u,ndP σ with
  | false,true=>bnd (renL (argA σ) a) fun c=>bnd (selF σ u σ 0) fun fr=>some (σ,c,fr)
  | _,_=>none
 | false=>none
theorem aE7 {d id}:∀ {l j k},aP7 l d id j=some k->j<=k/\nth l (k-j)=some (d,id)
 | [],_,_,h=>by simp [aP7] at h
 | (e,i)::l,j,k,h=>by
  simp [aP7] at h;split at h;· rename_i a;simp only [aa0] at a;cases h;cases aap a.1;cases aap a.2;exact ⟨by omega,by simp [nth]⟩
  obtain ⟨c,b⟩:=aE7 h;refine ⟨by omega,?_⟩;rw [show k-j=(k-(j+1))+1 by omega];exact b
theorem aLn {σ} {B d id j b} (h:aP7 σ d id 0=some j) (a:B d id=some b):selB σ B 0 j=some b:=by
 have:=(aE7 h).2;rw [ab4] at this;simp [selB,this];exact a
theorem aAC {f}:∀ {l m},renL f l=some m->m.length=l.length/\∀ (i:Nat) a,m[i]?=some a->∃ c,l[i]?=some c/\f c=some a
 | [],m,h=>by simp [renL] at h;grind
 | c::l,m,h=>by
  simp [renL] at h;split at h;· rename_i a r g b;obtain ⟨e,d⟩:=aAC b;grind
  grind
def Rn (f:PV->Option PV) (d b:BM):Prop:=∀ c a,f c=some a->(∀ v,own1 c v=none)/\(∀ v,own1 a v=none)/\fits 0 a=true/\nW [c]=false/\nW [a]=false/\∀ M v,Rv M d c v->Rv M b a v
theorem bBo {c g d} (b:okVc c=true):(∀ v,own1 c v=none)/\(∀ v,own1 c v=none)/\fits 0 c=true/\nW [c]=false/\nW [c]=false/\∀ M v,Rv M g c v->Rv M d c v:=by
 have a:=uG b;have hv:nW [c]=false:=by
  unfold nW;split;· rename_i e;cases e;simp [PV.solid1] at a
  ·rename_i e;cases e;simp [PV.solid1] at a
  rfl
 exact ⟨aLm b,aLm b,aGy a,hv,hv,fun M v f=>f.anyB1 _ a⟩
theorem bBp σ d B:Rn (ren1 σ d) (upB d B) (upB 0 (selB σ B)):=by
 intro c i h;unfold ren1 at h;split at h
 ·obtain ⟨j,f,h⟩:=aB h;cases h;refine ⟨fun v=>by cases v<;>rfl,fun v=>by cases v<;>rfl,rfl,rfl,rfl,fun M v a => ?_⟩;cases a with
  | ptr _ _ _ b e=>exact .ptr 0 j _ b (by simpa [upB] using aLn f e)
 ·obtain ⟨j,f,h⟩:=aB h;cases h;refine ⟨fun v=>by cases v<;>rfl,fun v=>by cases v<;>rfl,rfl,rfl,rfl,fun M v a => ?_⟩;cases a with
  | mp _ _ b e=>exact .mp 0 j b (by simpa [upB] using aLn f e)
 split at h;· rename_i g;cases h;exact bBo g
 grind
theorem bBq σ d B:Rn (ner1 σ d) (upB 0 (selB σ B)) (upB d B):=by
 intro c l h;have f:∀ {j} {p} {b},nth σ j=some p->d<=p.1->upB 0 (selB σ B) 0 j=some b->upB d B (p.1-d) p.2=some b:=by
  intro j p b k g e;simp [upB,selB] at e;show B (d+(p.1-d)) p.2=some b;grind
 unfold ner1 at h;split at h
 ·split at h
  ·split at h
   ·cases h;refine ⟨fun v=>by cases v<;>rfl,fun v=>by cases v<;>rfl,rfl,rfl,rfl,fun M v a => ?_⟩;cases a with
    | ptr _ _ _ b e=>exact .ptr _ _ _ b (by grind)
   simp at h
  simp at h
 ·split at h
  ·split at h
   ·cases h;refine ⟨fun v=>by cases v<;>rfl,fun v=>by cases v<;>rfl,rfl,rfl,rfl,fun M v a => ?_⟩;cases a with
    | mp _ _ b e=>exact .mp _ _ b (by grind)
   simp at h
  simp at h
 split at h;· rename_i i;cases h;exact bBo i
 simp at h
theorem aGA w blk b:∀ l j,(∀ c∈l,∀ v,own1 c v=none)->dX w blk j l b=0
 | [],_,_=>rfl
 | c::l,j,h=>by simp only [dX,c1,h c (by simp),aGA w blk b l (j+1) fun x a=>h x (by grind)];simp
theorem aDM {f v A} (q : Rn f v A) {cs cs'} (h : renC f cs = some cs') :
  (∀ w blk b, dX w blk 0 (phys cs) b = 0) /\ (∀ w blk b, dX w blk 0 (phys cs') b = 0) /\ okV cs' /\ (∀ M w blk, aBk M w blk cs -> aBk M w blk cs') /\ (∀ sz E, cs ≠ [.vec sz E]) /\
   ∀ (j : Nat) a, (phys cs')[j]? = some a -> ∃ c, (phys cs)[j]? = some c /\ f c = some a := by
 unfold renC at h;split at h;· cases h;exact ⟨fun _ _ _ => rfl, fun _ _ _ => rfl, trivial, fun _ _ _ h => h, by simp, fun j a d => by simp [phys] at d⟩
 obtain ⟨k, n⟩ := aAC h;have hv : ∀ l, (∀ c, l = [c] -> nW [c] = false) -> nW l = false := by
  intro l k;unfold nW; split;· have := k _ rfl; simp [nW] at this
  ·have := k _ rfl; simp [nW] at this
  rfl
 have u  := hv cs fun c e => by
  subst e;obtain ⟨a, g⟩ : ∃ a, cs'[0]? = some a := ⟨_, aa4 (by simp at k; omega)⟩;obtain ⟨s, m, i⟩ := n 0 a g;cases m;exact (q _ _ i).2.2.2.1
 have t  := hv cs' fun c e => by
  subst e;obtain ⟨s, m, i⟩ := n 0 c rfl;exact (q _ _ i).2.2.2.2.1
 have r := uF u;have p := uF t;refine ⟨fun w blk b => ?_, fun w blk b => ?_, aXC t, fun M w blk x => ?_, fun sz E e => by subst e; simp [nW] at u, fun j a d => by rw [p] at d; rw [r]; exact n j a d⟩;· rw [r]; refine aGA _ _ _ _ _ fun c d => ?_;obtain ⟨j, o⟩ := aao.1 d;obtain ⟨a, g⟩ : ∃ a, cs'[j]? = some a := ⟨_, aa4 (by have := (aa2.1 o).1; omega)⟩;obtain ⟨s, m, i⟩ := n j a g;rw [o] at m; cases m;exact (q _ _ i).1
 ·rw [p]; refine aGA _ _ _ _ _ fun c d => ?_;obtain ⟨j, o⟩ := aao.1 d;obtain ⟨s, m, i⟩ := n j c o;exact (q _ _ i).2.1
 obtain ⟨arr, T, fz, y, B, z⟩ := x.cells (yY u);exact .of (yY t) ⟨arr, T, fz, y, by rw [p, k, <- r]; exact B, by rw [p, k, <- r]; exact z⟩
theorem aXN {f B B' d b} (e:Rn f (upB d B) (upB b B')) {cs cs'} (h:renC f cs=some cs') {M w base blk} (a:BoxOk M w base B d blk cs):BoxOk M w base B' b blk cs':=by
 obtain ⟨_,_,_,o,_,q⟩:=aDM e h;refine ⟨a.old,o _ _ _ a.row,a.free,fun j n k => ?_⟩;obtain ⟨c,m,i⟩:=q j n k;obtain ⟨r,g,p,_,_,l⟩:=e _ _ i;exact ⟨l _ _ (a.rel j c m).1,yL (g _),p⟩
theorem aDN {σ} {u}:∀ {l j fr},selF σ u l j=some fr->(∀ x∈fr,j<=x.1)/\(fr.map (·.1)).Nodup /\
  (∀ i cs',look fr i=some cs'->∃ d id cs,nth l (i-j)=some (d,id)/\bD u d id=some cs/\renC (ren1 σ d) cs=some cs')/\(∀ i,j<=i->look fr i=none->nth l (i-j)=none)/\fr.length=l.length
 | [],j,fr,h=>by simp [selF] at h;subst h;simp [look,nth]
 | (d,id)::l,j,fr,h=>by
  simp [selF] at h;split at h
  ·rename_i cs y;split at h
   ·rename_i cs' r t o;cases h;obtain ⟨k,s,w,z,v⟩:=aDN o;refine ⟨?_,?_,?_,?_,by simp [v]⟩
    ·intro x b;rcases aa3.1 b with rfl | b;· exact by omega
     have:=k x b;omega
    ·simp only [ab1,aaR];refine ⟨fun A => ?_,s⟩;obtain ⟨x,b,e⟩:=aah.1 A;have:=k x b;omega
    ·intro i c a;simp [look] at a;split at a;· rename_i e;subst e;cases a;exact ⟨d,id,cs,by simp [nth],y,t⟩
     have m  := k (i,c) (nN a);obtain ⟨p,g,f,g1,g2,q⟩:=w i c a;exact ⟨p,g,f,by rw [show i-j=(i-(j+1))+1 by omega];exact g1,g2,q⟩
    intro i n a;simp [look] at a;split at a;· simp at a
    rw [show i-j=(i-(j+1))+1 by omega];exact z i (by omega) a
   simp at h
  simp at h
theorem bBr {σ} {f}:∀ {l j u a},putF σ l j f u=some a->(∀ p∈l,bD u p.1 p.2≠none)->l.Nodup ->
  (∀ (e:Nat),((a[e]?).map fun f=>f.map (·.1))=(u[e]?).map fun f=>f.map (·.1)) /\
  (∀ d id,(d,id)∉l->bD a d id=bD u d id)/\∀ i d id,nth l i=some (d,id)->∃ cs cs',bD f 0 (j+i)=some cs/\renC (ner1 σ d) cs=some cs'/\bD a d id=some cs'
 | [],j,u,a,h,k,c=>by simp [putF] at h;subst h;simp [nth]
 | (d,id)::l,j,u,a,h,k,c=>by
  simp [putF] at h;split at h
  ·split at h
   ·rename_i cs' A;obtain ⟨x,s⟩:=aaR.1 c;obtain ⟨n,w⟩:=Option.ne_none_iff_exists'.1 (k (d,id) (by simp));have z:=yW u d id;obtain ⟨q,y,r⟩:=bBr h (fun p C=>by
     grind) s
    refine ⟨fun e=>(q e).trans (aCf u d id cs' e),fun m b o => ?_,fun i m b g => ?_⟩;· grind
    cases i with
    | zero =>
     cases g;grind
    | succ i =>
     obtain ⟨t,B,g1,g2,v⟩:=r i m b g;grind
   simp at h
  simp at h
theorem aXO {g g'}:∀ (f f':gP),f'.map (·.1)=f.map (·.1)->(f.map (·.1)).Nodup->(∀ i c j,look f i=some c->look f' i=some j->g' i j<=g i c)->fS g' f'<=fS g f
 | [],f',d,_,_=>by
  have:f'=[]:=by simp_all
  subst this;exact aa1 _
 | (i,c)::f,[],d,_,_=>by grind
 | (i,c)::f,(m,j)::f',d,l,h=>by
  simp at d;obtain ⟨rfl,d⟩:=d;simp only [ab1,aaR] at l;have q:=h m c j (by simp [look]) (by simp [look]);have p:=aXO f f' d l.2 fun k a b n o=>by
   have e:m≠k:=by rintro rfl;exact l.1 (aah.2 ⟨_,nN n,rfl⟩)
   exact h k a b (by simp [look,if_neg e];exact n) (by simp [look,if_neg e];exact o)
  simp [fS];omega
theorem aXP {g g'}:∀ u k a,(∀ (e:Nat),((k[e]?).map fun f=>f.map (·.1))=(u[e]?).map fun f=>f.map (·.1))->Nd u->(∀ d id c b,bD u d id=some c->bD k d id=some b->g' (a+d) id b<=g (a+d) id c)->jL g' a k<=jL g a u
 | [],k,a,j,_,_=>by
  have:=j 0;cases k with
  | nil=>exact aa1 _
  | cons f r=>grind
 | f::r,[],a,j,_,_=>by have:=j 0;grind
 | f::r,f'::o,a,j,n,h=>by
  have s:=aXO (g:=g a) (g':=g' a) f f' (by simpa using j 0) (n 0 f rfl) fun i c b m l=>h 0 i c b (by exact m) (by rw [bI];omega);have q:=aXP (g:=g) (g':=g') r o (a+1) (fun e=>by simpa using j (e+1)) (fun d g p=>n (d+1) g (by grind)) fun d id c b m l=>by
   rw [show a+1+d=a+(d+1) by omega];exact h (d+1) id c b (by exact m) (by rw [jP];omega)
  simp [jL];omega
theorem bI6 {σ} {B}:∀ b,(∀ d id,B d id≠some b)->∀ d id,selB σ B d id≠some b:=by
 intro b h d id a;unfold selB at a;grind
theorem aQn {σ} {p e} (h:arg1 σ p=some e) {M B v} (a:Rv M (nV B) p v):Rv M (nV (selB σ B)) e v:=by
 unfold arg1 at h;split at h
 ·split at h;· grind
  obtain ⟨j,d,h⟩:=aB h;cases h;cases a with
  | ptr _ _ _ b c=>exact .ptr 1 j _ b (by simpa [nV] using aLn d (by simpa [nV] using c))
 ·split at h;· grind
  obtain ⟨j,d,h⟩:=aB h;cases h;cases a with
  | mp _ _ b c=>exact .mp 1 j b (by simpa [nV] using aLn d (by simpa [nV] using c))
 split at h;· rename_i f;cases h;exact a.anyB _ f
 grind
theorem aXQ d id v:fD (.mp d id) v:=fD.of1 (by simp) (by simp) (by cases v<;>rfl)
theorem bEm {σ} {p a} (h:arg1 σ p=some a):a=p∨∀ v,fD p v/\fD a v:=by
 unfold arg1 at h;split at h
 ·split at h;· grind
  obtain ⟨j,b,h⟩:=aB h;cases h;exact .inr fun v=>⟨oA _ _ _ _,oA _ _ _ _⟩
 ·split at h;· grind
  obtain ⟨j,b,h⟩:=aB h;cases h;exact .inr fun v=>⟨aXQ _ _ _,aXQ _ _ _⟩
 grind
theorem aO7 {σ} {p a} (h:arg1 σ p=some a) (c:p.plain=p):a.plain=a:=by
 unfold arg1 at h;split at h
 ·split at h;· grind
  obtain ⟨j,b,h⟩:=aB h;cases h;rfl
 ·split at h;· grind
  obtain ⟨j,b,h⟩:=aB h;cases h;rfl
 grind
theorem aSs {σ} {p j} (h:argA σ p=some j) B:(j=p∨∀ v,fD p v/\fD j v)/\∀ M v,Rv M (nV B) p v->Rv M (nV (selB σ B)) j v:=by
 unfold argA at h;split at h
 ·split at h
  ·rename_i z b' s t;cases h;refine ⟨.inr fun v=>⟨rU _ _ _ _,rU _ _ _ _⟩,fun M v a => ?_⟩;obtain ⟨F,q⟩:=aAC s;obtain ⟨y,o⟩:=aAC t;cases a with
   | func C l n u w f g G A D m r E k =>
    refine .func _ _ _ u w f g (fun c b => ?_) (by omega) (fun i d=>by grind) (fun i c b => ?_) (by omega) (fun i d=>by grind) (fun i c b => ?_)
    ·rcases aa6.1 b with b | b;· obtain ⟨i,d⟩:=aao.1 b;obtain ⟨x,e,a⟩:=q i c d;exact aO7 a (by grind)
     obtain ⟨i,d⟩:=aao.1 b;obtain ⟨x,e,a⟩:=o i c d;exact aO7 a (by grind)
    ·obtain ⟨x,e,a⟩:=q i c b;exact aQn a (m i x e)
    obtain ⟨x,e,a⟩:=o i c b;exact aQn a (k i x e)
  simp at h
 exact ⟨bEm h,fun M v a=>aQn h a⟩
theorem aDO:∀ {l},ndP l=true->l.Nodup
 | [],_=>abk
 | p::l,h=>by
  simp [ndP] at h;refine aaR.2 ⟨fun a => ?_,aDO h.2⟩;have:hasP l p=true:=by simp [hasP];simp_all
  grind
theorem bEn {α} {l:List α} {i x} (h:nth l i=some x):x∈l:=aad (by rw [<- jU];exact h)
theorem aSt {d a b u} {σ} {fr} (h:yZ d a u=some (σ,b,fr)):renL (argA σ) a=some b/\selF σ u σ 0=some fr/\σ.Nodup:=by
 unfold yZ at h;split at h
 ·dsimp at h;split at h;· rename_i e;obtain ⟨x,c,h⟩:=aB h;obtain ⟨y,hy,h⟩:=aB h;cases h;exact ⟨c,hy,aDO e⟩
  grind
 grind
section
variable {base : Base} {M : Mem} {B : BM} {w : World}
theorem aZr f d id:bD [f] (d+1) id=none:=rfl
theorem aVs {a a' u} {σ} {fr vals} (h:CallPre base M B a u vals w) (n:renL (argA σ) a=some a') (y:selF σ u σ 0=some fr) (s:σ.Nodup) :
  CallPre base M (selB σ B) a' [fr] vals w/\(∀ b,cA a' vals b=cA a vals b)/\∀ b,cBx w (selB σ B) [fr] b=0:=by
 obtain ⟨la,j⟩:=aAC n;obtain ⟨F,g,f3,A,I⟩:=aDN y;have hcA:∀ b,cA a' vals b=cA a vals b:=by
  intro b;unfold cA;rw [la];apply gW;intro i K;obtain ⟨c',hc'⟩:∃ c',a'[i]?=some c':=⟨_,aa4 (by omega)⟩;obtain ⟨c,hc,hr⟩:=j i c' hc';simp [hc,hc'];rcases (aSs hr B).1 with rfl | hno;· rfl
  rw [(hno _).1.c,(hno _).2.c]
 have hcB:∀ b,cBx w (selB σ B) [fr] b=0:=by
  intro b;have:fS (fun id cs=>cBox w (selB σ B 0 id) cs b) fr=fS (fun _ _=>0) fr:=by
   refine gX fr fun id cs r => ?_;obtain ⟨d,id',cs0,g1,g2,g3⟩:=f3 id cs (kL g r);unfold cBox;split;· exact (aDM (bBp σ d B) g3).2.1 _ _ _
   rfl
  have z:∀ f,fS (fun _ _=>0) f=0:=by
   intro f;induction f with
   | nil=>rfl
   | cons x f v=>obtain ⟨i,c⟩:=x;simp [fS,v]
  simp [cBx,jL,this,z]
 refine ⟨⟨h.cons,by rw [la];exact h.size,?_,⟨?_,?_,?_,?_⟩,fun b=>by rw [hcA,hcB];have:=h.one b;omega,h.glob,h.base⟩,hcA,hcB⟩
 ·intro i p hp;obtain ⟨c,hc,hr⟩:=j i p hp;obtain ⟨t,m⟩:=h.rel i c hc;obtain ⟨s1,s2⟩:=aSs hr B;refine ⟨s2 _ _ t,?_⟩;rcases s1 with rfl | hno;· exact m.boxes bI6
  exact (hno _).2.h _ _ _ _
 ·intro d f hf';cases d with
  | zero=>cases hf';exact g
  | succ d=>simp at hf'
 ·intro d id hno;cases d with
  | zero =>
   rw [bI] at hno;have:=A id (aaP _) hno;simp [selB];rw [ab4] at this;rw [this]
  | succ d=>rfl
 ·intro d id cs hcs;cases d with
  | zero =>
   rw [bI] at hcs;obtain ⟨d',id',cs0,g1,g2,g3⟩:=f3 id cs hcs;rw [ab4] at g1;obtain ⟨s1,s2,o,H,E,J⟩:=aDM (bBp σ d' B) g3;refine ⟨o,.inl ?_⟩;obtain ⟨hv,⟨blk,l,C⟩ | hno⟩:=h.box.ok d' id' cs0 g2;· exact ⟨blk,by simp [selB,g1];exact l,aXN (bBp σ d' B) g3 C⟩
   obtain ⟨_,sz,e⟩:=hno;exact by grind
  | succ d=>rw [aZr] at hcs;simp at hcs
 intro d id d' id' blk h1 h2;cases d with
 | succ d=>simp [selB] at h1
 | zero =>
  cases d' with
  | succ d'=>simp [selB] at h2
  | zero =>
   simp [selB] at h1 h2;split at h1
   ·rename_i p hp;split at h2;· rename_i q k;obtain ⟨D,G⟩:=h.box.inj _ _ _ _ _ h1 h2;rw [jU] at hp k;exact ⟨rfl,(List.getElem?_inj (aa2.1 hp).1 s).1 (by grind)⟩
    simp at h2
   simp at h1
theorem aXR {a a' u u' u2} {σ} {fr vals r v w'} (h:CallPre base M B a u vals w) (P:renL (argA σ) a=some a') (G:selF σ u σ 0=some fr) (E:σ.Nodup) (hfree:r.free=true) (hput:putF σ σ 0 u' u=some u2)
  (hp:iO base M (selB σ B) a' [fr] vals w r u' v w'):iO base M B a u vals w r u2 v w':=by
 obtain ⟨C,hcA,hcB⟩:=aVs h P G E;obtain ⟨M',K,S,l,O,hone,evo⟩:=hp;have hsr:=h.sr;obtain ⟨f1,f2,L,Y,f5⟩:=aDN G;have q:∀ i p,nth σ i=some p->∃ cs cs',bD u p.1 p.2=some cs/\look fr i=some cs':=by
  intro i p hi;cases F:look fr i with
  | none=>have:=Y i (aaP _) F;rw [ab4,hi] at this;simp at this
  | some cs' =>
   obtain ⟨d,id,cs,g1,g2,_⟩:=L i cs' F;rw [ab4,hi] at g1;cases g1;exact ⟨cs,cs',g2,rfl⟩
 obtain ⟨A,k,I⟩:=bBr hput (fun p hp=>by
  obtain ⟨i,hi⟩:=aao.1 hp;rw [<- jU] at hi;obtain ⟨cs,_,g,_⟩:=q i p hi;rw [g];simp) E
 have hkeep:∀ b,b<w.heap.size->cA a vals b=0->(∀ j p,nth σ j=some p->B p.1 p.2≠some b)->w'.heap[b]?=w.heap[b]?/\∀ i,M' b i=M b i:=by
  intro b hb hz hno;refine evo.keep b hb ?_;rintro (X | ⟨d,id,h2⟩);· have h1':1<=cA a' vals b+cBx w (selB σ B) [fr] b:=X;rw [hcA,hcB] at h1';omega
  unfold selB at h2;split at h2
  ·split at h2;· rename_i p hp;exact hno _ p hp h2
   simp at h2
  simp at h2
 have hboxkeep:∀ d id blk,B d id=some blk->(d,id)∉σ->w'.heap[blk]?=w.heap[blk]?/\∀ i,M' blk i=M blk i:=by
  intro d id blk hB hm;refine hkeep blk (hsr.box_lt hB).1 ?_ fun j p hp h2 => ?_
  ·cases hx:cA a vals blk with
   | zero=>rfl
   | succ n=>exact absurd hB ((h.own (b:=blk) (by omega)).2 d id)
  obtain ⟨e1,e2⟩:=h.box.inj _ _ _ _ _ hB h2;exact hm (by rw [e1,e2];exact bEn hp)
 have hcell:∀ d id blk j,B d id=some blk->(d,id)∉σ->cP w' blk j=cP w blk j:=fun d id blk j hB hm=>by
  simp [cP,World.cell?,(hboxkeep d id blk hB hm).1]
 have hsel:∀ i d id,nth σ i=some (d,id)->∃ cs cs',bD u' 0 i=some cs/\renC (ner1 σ d) cs=some cs'/\bD u2 d id=some cs':=fun i d id hi=>by simpa using I i d id hi
 have hle:∀ b,cBx w' B u2 b<=cBx w B u b:=by
  intro b;refine aXP (g:=fun d id cs=>cBox w (B d id) cs b) (g':=fun d id cs=>cBox w' (B d id) cs b) u u2 0 A h.box.nodup fun d id c T hc1 hc2 => ?_;rw [aae];by_cases hm:(d,id)∈σ
  ·obtain ⟨i,hi⟩:=aao.1 hm;rw [<- jU] at hi;obtain ⟨cs,cs',g1,g2,g3⟩:=hsel i d id hi;rw [hc2] at g3;cases g3;have:cBox w' (B d id) T b=0:=by
    unfold cBox;split;· exact (aDM (bBq σ d B) g2).2.1 _ _ _
    rfl
   omega
  rw [k d id hm,hc1] at hc2;cases hc2;unfold cBox;split
  ·rename_i blk hB;have:∀ cs j,dX w' blk j cs b=dX w blk j cs b:=by
    intro cs;induction cs with
    | nil=>intro j;rfl
    | cons c cs W=>intro j;simp [dX,hcell d id blk j hB hm,W]
   exact aal (this _ 0)
  exact aa1 _
 have htle:∀ b,b<w.heap.size->cV r v b+cBx w' (selB σ B) u' b<=cA a vals b:=by
  intro b hb;have m  := evo.tle b hb;rw [hcA,hcB] at m;exact m
 have hnew:∀ b,1<=cV r v b->∀ d id,B d id≠some b:=by
  intro b hb d id hB;have:=htle b (hsr.box_lt hB).1;exact (h.own (b:=b) (by omega)).2 d id hB
 refine ⟨M',K.anyBfree _ hfree,?_,⟨?_,?_,?_,h.box.inj⟩,O,?_,?_⟩
 ·intro x hx;refine (S x hx).world (fun _ _ _ hx=>hx) fun b ho _=>⟨rfl,fun _=>rfl,fun d id hB=>absurd hB (hnew b ?_ d id)⟩;have e1:c1 x.1 x.2 b=1:=by simp [c1,ho]
  have e2:c1 x.1 x.2 b<=cV r v b:=aI1 (f:=fun y=>c1 y.1 y.2 b) _ hx;omega
 ·intro d f hf';have:=A d;rw [hf'] at this;simp at this;cases t:u[d]? with
  | none=>rw [t] at this;simp at this
  | some U=>rw [t] at this;simp at this;rw [this];exact h.box.nodup d U t
 ·intro d id hno;by_cases hm:(d,id)∈σ;· obtain ⟨i,hi⟩:=aao.1 hm;rw [<- jU] at hi;obtain ⟨cs,cs',g1,g2,g3⟩:=hsel i d id hi;rw [hno] at g3;simp at g3
  rw [k d id hm] at hno;exact h.box.dom d id hno
 ·intro d id cs hcs;by_cases hm:(d,id)∈σ
  ·obtain ⟨i,hi⟩:=aao.1 hm;rw [<- jU] at hi;obtain ⟨cs0,cs',g1,g2,g3⟩:=hsel i d id hi;rw [hcs] at g3;cases g3;obtain ⟨s1,s2,R,s4,H,s6⟩:=aDM (bBq σ d B) g2;refine ⟨R,.inl ?_⟩;obtain ⟨hv,⟨blk,hB,Z⟩ | hno⟩:=l.ok 0 i cs0 g1;· refine ⟨blk,?_,aXN (bBq σ d B) g2 Z⟩;simp [selB,hi] at hB;exact hB
   obtain ⟨_,sz,e⟩:=hno;exact absurd e (H _ _)
  rw [k d id hm] at hcs;obtain ⟨hv,s⟩:=h.box.ok d id cs hcs;refine ⟨hv,?_⟩;rcases s with ⟨blk,hB,⟨o,hrow,fr',rel⟩⟩ | hno;rotate_left;· exact .inr hno
  obtain ⟨g1,g2⟩:=hboxkeep d id blk hB hm;refine .inl ⟨blk,hB,o,hrow.congr evo.mono g1,fun i=>by rw [g2];exact fr' i,fun j c D => ?_⟩;rw [hcell d id blk j hB hm];obtain ⟨V,z,r3⟩:=rel j c D;refine ⟨V.mono evo.mono (fun _ _ _ hx=>hx),z.world evo.mono fun b ho hlt => ?_,r3⟩;have e1:c1 c (cP w blk j) b=1:=by simp [c1,ho]
  have e2:=bBn (w:=w) (B:=B) (bx:=u) hcs hB D b;have N:=h.one b;obtain ⟨Q,J⟩:=hkeep b hlt (by omega) fun j p hp h2=>(z.nobox ho).1 _ _ h2;exact ⟨Q,J,fun _ _ hx=>hx⟩
 ·intro b;have e1:=h.one b;have e2:=hle b;have N:=hone b;by_cases hb:b<w.heap.size;· have:=htle b hb;omega
  have:cBx w B u b=0:=by
   cases hx:cBx w B u b with
   | zero=>rfl
   | succ n=>exact absurd (h.own (b:=b) (by omega)).1 hb
  omega
 ·refine ⟨evo.os,evo.tape,evo.output,evo.size,evo.mono,?_,?_,fun d id b hb _=>⟨d,id,hb⟩,fun _ _=>rfl⟩
  ·intro b hb hnt;refine hkeep b hb ?_ fun j p hp h2=>hnt (.inr ⟨_,_,h2⟩);cases hx:cA a vals b with
   | zero=>rfl
   | succ n =>
    refine absurd (Or.inl ?_) hnt;show 1<=cA a vals b+cBx w B u b;omega
  intro b hb;have m:=htle b hb;have e5:=hle b;omega
theorem aL8:∀ {f:gP} {i c},look f i=some c->sP f i c=f
 | [],_,_,h=>by simp [look] at h
 | (k,a)::f,i,c,h=>by
  simp [look] at h;simp [sP];split at h;· grind
  rename_i e;rw [if_neg e,aL8 h]
theorem aCi:∀ {x d id c},bD x d id=some c->cN x d id c=x
 | [],d,id,c,h=>by simp [bD,nth] at h
 | f::r,0,id,c,h=>by simp [cN];rw [aL8 (by exact h)]
 | f::r,d+1,id,c,h=>by simp [cN];rw [aCi (by exact h)]
theorem bBs {σ} {d c e} (h:ren1 σ d c=some e):ner1 σ d e=some c:=by
 unfold ren1 at h;split at h;· obtain ⟨j,a,h⟩:=aB h;cases h;have:=(aE7 a).2;rw [ab4] at this;simp only [ner1,this];simp
 ·obtain ⟨j,a,h⟩:=aB h;cases h;have:=(aE7 a).2;rw [ab4] at this;simp only [ner1,this];simp
 split at h;· rename_i b;cases h;cases c<;>first | (simp [okVc] at b;done) | simp [ner1,b]
 grind
theorem bEo {σ} {d c} (a:okVc c=true):ner1 σ d c=some c:=by
 cases c<;>first | (simp [okVc] at a;done) | simp [ner1,a]
theorem aVt {f}:∀ {l m},l.length=m.length->(∀ (i:Nat) c d,l[i]?=some c->m[i]?=some d->f c=some d)->renL f l=some m
 | [],[],_,_=>rfl
 | [],_::_,h,_=>by grind
 | _::_,[],h,_=>by grind
 | c::l,d::m,g,h=>by
  simp [renL,h 0 c d rfl rfl,aVt (l:=l) (m:=m) (by grind) fun i a b j e=>h (i+1) a b (by grind) (by grind)]
theorem aHz {σ} {d cs cs'} (h:renC (ren1 σ d) cs=some cs'):renC (ner1 σ d) cs'=some cs/\(xG cs'=xG cs):=by
 unfold renC at h;split at h;· cases h;exact ⟨rfl,rfl⟩
 obtain ⟨m,f⟩:=aAC h;have l  := aVt m fun i j c e g=>by
  obtain ⟨k,b,a⟩:=f i j e;rw [g] at b;cases b;exact bBs a
 have e:xG cs'=false:=by
  unfold xG;split;· obtain ⟨k,b,a⟩:=f 0 _ rfl;have:=bBs a;simp [ner1,okVc] at this
  rfl
 have g:xG cs=false:=by
  unfold xG;simp
 refine ⟨?_,by grind⟩;unfold renC;split;· simp [xG] at e
 exact l
theorem bEp {σ} {d off cs cs' vs} (h:renC (ren1 σ d) cs=some cs') (m:okW cs' vs=true) (j:off+vs.length<=cs'.length):renC (ner1 σ d) (putAt cs' off vs)=some (putAt cs off vs)/\(0<vs.length->xG cs'=true->off=0):=by
 obtain ⟨n,u⟩:=aHz h;unfold okW at m;split at m
 ·rename_i k E k' v;have  := by simp [renC] at n;exact n.symm
  subst this;simp at j;have  := by omega
  subst this;exact ⟨rfl,fun _ _=>rfl⟩
 simp at m;obtain ⟨hv,a⟩:=m;have g:∀ l,xG l=false->renC (ner1 σ d) l=renL (ner1 σ d) l:=by
  intro l j;unfold renC;split;· simp [xG] at j
  rfl
 rw [g _ a] at n;obtain ⟨q,t⟩:=aAC n;have o:xG (putAt cs' off vs)=false:=by
  unfold xG;split
  ·rename_i kd E e;have f  := by have:=congrArg List.length e;rw [eM] at this;simpa using this
   have b:(putAt cs' off vs)[0]?=some (.mpv kd E):=by rw [e];rfl
   rw [iX _ _ _ _ j] at b;split at b;· have:=hv _ (aad b);simp [okVc] at this
   match cs',f,b with
   | [x],_,b=>cases b;simp [xG] at a
  rfl
 rw [g _ o];refine ⟨aVt (by rw [eM,eM];omega) fun i c s f p => ?_,fun _ h=>by rw [a] at h;cases h⟩;rw [iX _ _ _ _ j] at f;rw [iX _ _ _ _ (by omega)] at p;split at f;· rename_i r;rw [if_pos r,f] at p;cases p;exact bEo (by grind)
 grind
theorem aSu {σ} {u b:UP} {J}:∀ {l j fr} {x:UP},selF σ u l j=some fr->J<j->(∀ i,j<=i->bD b 0 i=look fr i)->(∀ p∈l,bD x p.1 p.2=bD u p.1 p.2)->putF σ l j b x=some x
 | [],_,_,_,_,_,_,_=>rfl
 | (d,id)::l,j,fr,x,a,h,c,g=>by
  simp [selF] at a;split at a
  ·split at a
   ·rename_i cs' r f e;cases a;simp [putF,c j (aa1 _),look,(aHz f).1];rw [aCi (by simp_all)];refine aSu (J:=J) e (by omega) (fun i k => ?_) fun p m=>by grind
    rw [c i (by omega)];simp [look];grind
   grind
  grind
theorem aXS {σ} {u h:UP} {J p a c}:∀ {l j fr} {x:UP},selF σ u l j=some fr->j<=J->nth l (J-j)=some p->l.Nodup->bD h 0 J=some a->renC (ner1 σ p.1) a=some c->(∀ i,j<=i->i≠J->bD h 0 i=look fr i)->(∀ p∈l,bD x p.1 p.2=bD u p.1 p.2)->putF σ l j h x=some (cN x p.1 p.2 c)
 | [],_,_,_,_,_,b,_,_,_,_,_=>by simp [nth] at b
 | (d,id)::l,j,fr,x,g,B,b,w,s,f,k,z=>by
  obtain ⟨A,y⟩:=aaR.1 w;simp [selF] at g;split at g
  ·rename_i cs C;split at g
   ·rename_i cs' r v o;cases g;by_cases e:j=J
    ·subst e;rw [Nat.sub_self] at b;cases b;simp [putF,s,f];refine aSu (J:=j) o (by omega) (fun i n => ?_) fun q t => ?_;· rw [k i (Nat.le_of_succ_le n) (Nat.ne_of_gt n)];simp [look];grind
     rw [yW x d id _ _ _ cs (by simp_all),if_neg];all_goals grind
    simp [putF,k j (aa1 _) e,look,(aHz v).1];rw [aCi (by simp_all)];refine aXS o (by omega) (by rw [show J-j=(J-(j+1))+1 by omega] at b;exact b) y s f (fun i n m => ?_) fun q t=>by grind
    rw [k i (by omega) m];simp [look];grind
   grind
  grind
theorem aQo:∀ (f:gP) i k c,look f i≠none->look (sP f i c) k=if k=i then some c else look f k
 | [],i,k,c,h=>by simp [look] at h
 | (a,b)::f,i,k,c,h=>by
  simp [look] at h;simp [sP];by_cases e:a=i;· subst e;simp [look];grind
  rw [if_neg e] at h;rw [if_neg e];simp [look];by_cases d:a=k;· grind
  rw [if_neg d,aQo f i k c h,if_neg d]
theorem bEq {a q u k} {σ} {fr vals r v w' j off n vs p} (h:CallPre base M B a u vals w) (C:renL (argA σ) a=some q) (g:selF σ u σ 0=some fr) (o:ndP σ=true) (c:r.free=true) (b:wr1 fr k j off n=some vs) (l:nth σ j=some p)
  (E:iO base M (selB σ B) q [fr] vals w r k v w'):∃ cs,bD u p.1 p.2=some cs/\off+vs.length<=cs.length/\iO base M B a u vals w r (cN u p.1 p.2 (putAt cs off vs)) v w':=by
 obtain ⟨F,G,z,I,K⟩:=aDN g;unfold wr1 at b;split at b
 ·rename_i cs' f;dsimp at b;split at b
  ·rename_i A;obtain ⟨m,s,H⟩:=A;have b:=aaa b;rw [b] at m s;have y:vs.length=n:=by rw [<- b];simp
   obtain ⟨d,id,cs,g1,g2,t⟩:=z j cs' f;rw [ab4,l] at g1;cases g1;obtain ⟨D,_⟩:=bEp (off:=off) t s (by omega);have x:cs.length=cs'.length:=by
    have:=(aHz t).1;unfold renC at this;split at this;· cases this;rfl
    exact (aAC this).1
   refine ⟨cs,g2,by omega,aXR h C g (aDO o) c ?_ E⟩;rw [m];refine aXS (J:=j) g (by omega) (by exact l) (aDO o) (by rw [bI,aQo _ _ _ _ (by rw [f];simp)];simp) D (fun i _ e=>by rw [bI,aQo _ _ _ _ (by rw [f];simp),if_neg e]) fun _ _=>rfl
  simp at b
 simp at b
end
section
variable {P : Program} {mt : Hints} {O : Orc} {base : Base} {M : Mem} {B : BM} {st : St} {tm : Array Value} {w : World} {next : Act -> World -> Prop} {Q : Exit -> Act -> World -> Prop}
theorem upon_skip {o a w w' e} (f:o.dst=none) (b:(execOp a.eval o).run P w = .ok .skip w')
  (d:Aft base M B st a.tmps w e a.tmps w') (g:∀ c w',Aft base M B st a.tmps w e c w'->next ⟨c,a.defers⟩ w') :
  o.upon P a next Q ((execOp a.eval o).run P w):=by
 rw [b,Oper.upon_skip,aQd,f];exact g _ _ d
theorem aVu p v:own1 (aFW p) v=own1 p v:=by cases p<;>first | rfl | (cases v<;>rfl)
theorem bBt {M w base B} p v:h1 M w base B (aFW p) v↔h1 M w base B p v:=by cases p<;>first | exact Iff.rfl | (cases v<;>exact Iff.rfl)
theorem aLo {α β} f (g:α->β):∀ l,sumL f (l.map g)=sumL (fun x=>f (g x)) l
 | []=>rfl
 | a::l=>by simp [sumL,aLo f g l]
theorem aDP {α β γ:Type} (f:α->γ):∀ (l:List α) (m:List β),(l.map f).zip m=(l.zip m).map fun x=>(f x.1,x.2)
 | [],_=>by simp
 | _::_,[]=>by simp
 | a::l,b::m=>by simp [aDP f l m]
theorem aL9 p v (h:∀ cs,p ≠ .tuple cs):(∃ g,atoms (shift p) v=g.map (fun x=>(aFW x.1,x.2))/\atoms p v=g)∨(fD (shift p) v/\fD p v):=by
 cases p with
 | agg cs =>
  cases v with
  | agg vs=>left;exact ⟨cs.zip vs.toList,by simp [shift];exact aDP _ _ _,rfl⟩
  | _ =>
   right;constructor;· intro x c;simp [shift,atoms,zipA] at c;subst c;exact aAz _ _
   intro x c;simp [atoms,zipA] at c;subst c;exact aAz _ _
 | tuple cs=>grind
 | func f a b=>right;exact ⟨rU _ _ _ _,rU _ _ _ _⟩
 | ptr d i o=>right;exact ⟨oA _ _ _ _,oA _ _ _ _⟩
 | slice es bs o=>left;exact ⟨[(.slice es bs o,v)],by cases v<;>rfl,by cases v<;>rfl⟩
 | mk0 sz=>left;exact ⟨[(.mk0 sz,v)],by cases v<;>rfl,by cases v<;>rfl⟩
 | bot=>left;exact ⟨[(.bot,v)],by cases v<;>rfl,by cases v<;>rfl⟩
 | und=>left;exact ⟨[(.und,v)],by cases v<;>rfl,by cases v<;>rfl⟩
 | bool b=>left;exact ⟨[(.bool b,v)],by cases v<;>rfl,by cases v<;>rfl⟩
 | int k n=>left;exact ⟨[(.int k n,v)],by cases v<;>rfl,by cases v<;>rfl⟩
 | str s=>left;exact ⟨[(.str s,v)],by cases v<;>rfl,by cases v<;>rfl⟩
 | ref e=>left;exact ⟨[(.ref e,v)],by cases v<;>rfl,by cases v<;>rfl⟩
 | nilptr=>left;exact ⟨[(.nilptr,v)],by cases v<;>rfl,by cases v<;>rfl⟩
 | rsl d i n z=>left;exact ⟨[(.rsl d i n z,v)],by cases v<;>rfl,by cases v<;>rfl⟩
 | vec z E=>left;exact ⟨[(.vec z E,v)],by cases v<;>rfl,by cases v<;>rfl⟩
 | mp d i=>left;exact ⟨[(.mp d i,v)],by cases v<;>rfl,by cases v<;>rfl⟩
 | mpv kd E=>left;exact ⟨[(.mpv kd E,v)],by cases v<;>rfl,by cases v<;>rfl⟩
 | nilFunc=>left;exact ⟨[(.nilFunc,v)],by cases v<;>rfl,by cases v<;>rfl⟩
theorem bBu {p} (h:shOk p=true):∀ cs,p ≠ .tuple cs:=by
 intro cs e;subst e;simp [shOk,sh0,PV.solid,PV.solid1] at h
theorem bEr {p} (e:shOk p=true) v b:cV (shift p) v b=cV p v b:=by
 rcases aL9 p v (bBu e) with ⟨g,d,a⟩ | ⟨d,a⟩;· simp [cV,d,a,aLo,c1,aVu]
 rw [d.c,a.c]
theorem bEs {M w base B p} (d:shOk p=true) v (h:hV M w base B p v):hV M w base B (shift p) v:=by
 rcases aL9 p v (bBu d) with ⟨g,a,c⟩ | ⟨a,c⟩;· intro x b;rw [a] at b;obtain ⟨y,hy,rfl⟩:=aah.1 b;exact (bBt _ _).2 (h y (by grind))
 exact a.h M w base B
theorem Rv.shift0 {p v} (h:Rv M B p v) (t:sh0 p=true):Rv M (nV B) (aFW p) v:=by
 cases h with
 | ptr d id off b w=>exact .ptr (d+1) id off b (by simpa [nV] using w)
 | rsl d id n sz b cap w q=>exact .rsl (d+1) id n sz b cap (by simpa [nV] using w) q
 | rslNil d id sz H=>exact .rslNil (d+1) id sz H
 | mp d id b w=>exact .mp (d+1) id b (by simpa [nV] using w)
 | bot v=>exact .bot v
 | und=>exact .und
 | nilptr=>exact .nilptr
 | vec=>simp [sh0,PV.solid,PV.solid1] at t
 | vecNil=>simp [sh0,PV.solid,PV.solid1] at t
 | nilFunc=>exact .nilFunc
 | ref e a s f u i D m=>exact .ref e a s f u i D (fun j c q=>(m j c q).anyB1 _ (i.cell q))
 | func F l r I J f g K x y C z G A=>exact (Rv.func F l r I J f g K x y C z G A).anyBfree _ (by simpa [PV.free,sh0] using t)
 | bool b=>exact .bool b
 | int k n=>exact .int k n
 | str s=>exact .str s
 | agg cs vs f x y m=>exact (Rv.agg cs vs f x y m).anyB _ (by simpa [sh0] using t)
 | tuple cs vs f x y m=>simp [sh0,PV.solid,PV.solid1] at t
 | nil o=>exact .nil o
 | slice es bs o a cap s f u q E i D m=>exact (Rv.slice es bs o a cap s f u q E i D m).anyB _ rfl
 | mk0 sz a cap u=>exact .mk0 sz a cap u
theorem aSv {c} (h:c.plain=c):(aFW c).plain=aFW c:=by cases c<;>first | rfl | exact h
theorem Rv.shift {p v} (h:Rv M B p v) (r:shOk p=true):Rv M (nV B) (Ev.shift p) v:=by
 cases h with
 | func H C F K L f g N w y D z I A =>
  simp [shOk] at r;refine .func H _ _ K L f g ?_ (by simpa using w) (by simpa using y) ?_ (by simpa using z) (by simpa using I) ?_;· intro c j;rw [<- List.map_append] at j;obtain ⟨x,l,rfl⟩:=aah.1 j;exact aSv (N x l)
  ·intro i c j;rw [aa9,aan] at j;obtain ⟨x,l,rfl⟩:=j;exact (D i x l).shift0 (by grind)
  intro i c j;rw [aa9,aan] at j;obtain ⟨x,l,rfl⟩:=j;exact (A i x l).shift0 (by grind)
 | agg cs vs f w y q =>
  simp [shOk] at r;refine .agg _ vs f (by simpa using w) (by simpa using y) ?_;intro i c j;rw [aa9,aan] at j;obtain ⟨x,l,rfl⟩:=j;exact (q i x l).shift0 (by grind)
 | ptr d id off b u=>exact (Rv.ptr d id off b u).shift0 rfl
 | rsl d id n sz b cap u j=>exact (Rv.rsl d id n sz b cap u j).shift0 rfl
 | rslNil d id sz J=>exact (Rv.rslNil (M:=M) (B:=B) d id sz J).shift0 rfl
 | mp d id b u=>exact (Rv.mp d id b u).shift0 rfl
 | bot v=>exact .bot v
 | und=>exact .und
 | nilptr=>exact .nilptr
 | vec=>simp [shOk,sh0,PV.solid,PV.solid1] at r
 | vecNil=>simp [shOk,sh0,PV.solid,PV.solid1] at r
 | nilFunc=>exact .nilFunc
 | ref e a s f t m E q=>exact (Rv.ref e a s f t m E q).shift0 rfl
 | bool b=>exact .bool b
 | int k n=>exact .int k n
 | str s=>exact .str s
 | tuple cs vs f w y q=>simp [shOk,sh0,PV.solid,PV.solid1] at r
 | nil o=>exact .nil o
 | slice es bs o a cap s f t j G m E q=>exact (Rv.slice es bs o a cap s f t j G m E q).shift0 rfl
 | mk0 sz a cap t=>exact .mk0 sz a cap t
theorem zA {o a f vals R} (b:(execOp a.eval o).run P w=(callFunc f vals).run P w)
  (e:aBm P f vals w R) (i:∀ v w',R v w'->next ⟨putT a.tmps o.dst v,a.defers⟩ w'):o.upon P a next Q ((execOp a.eval o).run P w):=by
 rcases e with ⟨g,h,c,d⟩ | ⟨v,w',c,d⟩;· rw [b,c,Oper.upon_enter];refine d.mono ?_;simp [aQd];grind
 rw [b,c,Oper.upon_value,aQd];grind
theorem aZs {o a c e} (hO:aQk P base.g O) (ho:o.op = .call c) (h:SR base M B st a.tmps w)
  (m:lW P mt a.tmps.size O o c st some=some e) (hn:∀ tm' w',Aft base M B st a.tmps w e tm' w'->next ⟨tm',a.defers⟩ w') :
  o.upon P a next Q ((execOp a.eval o).run P w):=by
 have V:∀ x,Rv M B (opd st.fr x) (a.eval x):=fun x=>h.opd a.defers x;have bi:∀ {b:Builtin} {v} {w'},c.callee = .builtin b->(builtin b c.argTypes o.type (c.args.map fun | .const _=>true | _=>false) (c.args.map a.eval)).run P w = .ok (.value v) w' ->
   (execOp a.eval o).run P w = .ok (.value v) w':=by
  intro b v w' W hb;simp only [execOp,ho];simp only [resolve,W,aaT,ab7,ab6,invoke];exact hb
 have G:∀ {l},c.args.toList=l->c.args=l.toArray:=by
  intro l h;subst h;simp
 have L:∀ {l},c.argTypes.toList=l->c.argTypes=l.toArray:=by
  intro l h;subst h;simp
 unfold lW at m;dsimp only at m;split at m
 ·-- a function
  rename_i f W;split at m
  ·rename_i g s D hf;have hfr:=V f;rw [hf] at hfr;obtain ⟨Y,X,hev,hsz,K,hcnt⟩:=bI4 h a.defers hfr (hasO mt.takes o.dst) c.args.toList;have H:(execOp a.eval o).run P w=(callFunc g (Y++(c.args.toList.map a.eval).toArray++X)).run P w:=by
    have Z:(Y++c.args.map a.eval++X)=(Y++(c.args.toList.map a.eval).toArray++X):=by congr 2;apply Array.ext';simp
    simp only [execOp,ho,resolve,W,Deferred.ofValue,hev,aaT,ab7,ab6,invoke];rw [Z]
   have hlv:∀ lvb:Bool,((!(hasO mt.takes o.dst))||aAy (uB c.args.toList))=true ->
     SR base M B {st with fr:=c.args.toList.flatMap (left st.fr (hasO mt.takes o.dst))++st.fr} a.tmps w /\
     ∀ b,tot (c.args.toList.flatMap (left st.fr (hasO mt.takes o.dst))++st.fr) a.tmps w B st.bx b+cA (s++c.args.toList.map (opv st.fr (hasO mt.takes o.dst))++D) (Y++(c.args.toList.map a.eval).toArray++X) b<=tot st.fr a.tmps w B st.bx b:=by
    intro _ hd;have T:∀ b,cA (s++c.args.toList.map (opv st.fr (hasO mt.takes o.dst))++D) (Y++(c.args.toList.map a.eval).toArray++X) b=_:=hcnt;generalize htk:hasO mt.takes o.dst=tk at *;cases tk with
    | true =>
     obtain ⟨t1,t2⟩:=aSj h a.defers c.args.toList (by simpa using hd);exact ⟨t1,fun b=>by rw [T b];exact aal (t2 b)⟩
    | false =>
     obtain ⟨t1,t2⟩:=bGL h a.defers c.args.toList;rw [t1];exact ⟨h,fun b=>by rw [T b,t2 b];simp⟩
   split at m;· simp at m
   ·rename_i hd hg;obtain ⟨hl1,R⟩:=hlv true hd;rcases bQ m with ⟨hsh,m⟩ | ⟨_,m⟩
    ·rw [aak] at hsh;have hcA:∀ b,cA ((s++c.args.toList.map (opv st.fr (hasO mt.takes o.dst))++D).map Ev.shift) (Y++(c.args.toList.map a.eval).toArray++X) b=cA (s++c.args.toList.map (opv st.fr (hasO mt.takes o.dst))++D) (Y++(c.args.toList.map a.eval).toArray++X) b:=by
      intro b;unfold cA;rw [aau];apply gW;intro i hi;have Z:((s++c.args.toList.map (opv st.fr (hasO mt.takes o.dst))++D).map Ev.shift).getD i .bot=Ev.shift ((s++c.args.toList.map (opv st.fr (hasO mt.takes o.dst))++D).getD i .bot):=by
       simp only [aaX,aa9,aa4 hi,aat,aaN]
      rw [Z];apply bEr;apply hsh;simp only [aaX,aa4 hi,aaN];exact aaK hi
     have I:CallPre base M B ((s++c.args.toList.map (opv st.fr (hasO mt.takes o.dst))++D).map Ev.shift) st.bx (Y++(c.args.toList.map a.eval).toArray++X) w:=by
      refine ⟨h.cons,by rw [aau];exact hsz,?_,h.box,?_,h.glob,h.base⟩;· intro i p U;rw [aa9,aan] at U;obtain ⟨q,hq,rfl⟩:=U;obtain ⟨r1,r2⟩:=K i q hq;have:=hsh q (aad hq);exact ⟨r1.shift this,bEs this _ r2⟩
      ·intro b;rw [hcA b];have Z:=R b;have e2:=h.one b;simp only [tot] at Z e2;omega
     split at m
     ·rename_i σ j off n _;rcases bQ m with ⟨hnd,m⟩ | ⟨_,m⟩
      ·obtain ⟨a',ha',m⟩:=aB m;obtain ⟨fr,hfr',m⟩:=aB m;obtain ⟨⟨r,u⟩,N,m⟩:=aB m;rcases bQ m with ⟨z,m⟩ | ⟨_,m⟩
       ·obtain ⟨vs,hvs,m⟩:=aB m;obtain ⟨p,U,m⟩:=aB m;cases m;refine zA H (hO _ _ _ _ _ N base.n w M _ _ (aVs I ha' hfr' (aDO hnd)).1) fun v w' F=>hn _ _ ?_;obtain ⟨cs,hcs,hle,hpost'⟩:=bEq I ha' hfr' hnd z hvs U F;have key:=aL7 (args:=(s++c.args.toList.map (opv st.fr (hasO mt.takes o.dst))++D).map Ev.shift) (vals:=Y++(c.args.toList.map a.eval).toArray++X) (dst:=o.dst) h hl1 (fun i p U=>(I.rel i p U).2) (fun b=>by rw [hcA b];exact R b) hpost';have happ:∀ Z e2,Z.app st=e2.app st->∀ {tm' w'},Aft base M B st a.tmps w Z tm' w'->Aft base M B st a.tmps w e2 tm' w':=fun Z e2 m tm' w' h=>by
         unfold Aft at h ⊢;rw [m] at h;exact h
        refine happ _ _ ?_ key;simp [Eff.app,vR _ _ _ _ _ _ hcs,rV]
       ·simp at m
      ·simp at m
     obtain ⟨⟨r,u⟩,N,m⟩:=aB m;cases m;refine zA H (hO _ _ _ _ _ N base.n w M B _ I) fun v w' F=>hn _ _ ?_;refine aL7 (args:=(s++c.args.toList.map (opv st.fr (hasO mt.takes o.dst))++D).map Ev.shift) (vals:=Y++(c.args.toList.map a.eval).toArray++X) h hl1 (fun i p U=>(I.rel i p U).2) (fun b=>by rw [hcA b];exact R b) F
    ·simp at m
   ·rename_i hd hg;obtain ⟨hl1,R⟩:=hlv true hd;split at m
    ·-- rows are read
     rcases bQ m with ⟨hbo,m⟩ | ⟨_,m⟩;rotate_left;· simp at m
     unfold aBA at m;rcases bQ m with ⟨z,m⟩ | ⟨_,m⟩;rotate_left;· simp at m
     obtain ⟨⟨r,u⟩,N,m⟩:=aB m;split at m
     ·rename_i hu;simp at hu;subst hu;rcases bQ m with ⟨hsc,m⟩ | ⟨_,m⟩;rotate_left;· simp at m
      cases m;rw [aak] at z hbo;obtain ⟨I,hle⟩:=bHl h hsz K (fun b=>aa5 (aa5 (Nat.le_add_left _ _) (R b)) (h.one b)) hbo z;refine zA H (hO _ _ _ _ _ N base.n w _ noB _ I) fun v w' F=>hn _ _ ?_;exact bHk h hl1 (fun i p U=>(K i p U).2) hle R aDK F hsc
     ·simp at m
    ·simp at m
    ·-- a row that may be written
     rename_i hbrw sz hvec htk;unfold aBA at m;rcases bQ m with ⟨z,m⟩ | ⟨_,m⟩
     ·obtain ⟨⟨r,u⟩,N,m⟩:=aB m;split at m
      ·rename_i hu;simp at hu;subst hu;obtain ⟨E,hE,m⟩:=aB m;rw [aak] at z;have I:CallPre base M noB (s++c.args.toList.map (opv st.fr (hasO mt.takes o.dst))++D) [] (Y++(c.args.toList.map a.eval).toArray++X) w:=by
        refine ⟨h.cons,hsz,?_,⟨by simp,fun _ _ _=>rfl,by simp [yV],by simp [noB]⟩,?_,h.glob,h.base⟩;· intro i p U;obtain ⟨r1,r2⟩:=K i p U;refine ⟨r1.anyBfree _ (z p (aad U)),?_⟩;exact aQl r2 (fun _ _ _ V=>V) fun b _ _=>⟨rfl,fun _=>rfl,fun d id hb=>by simp [noB] at hb⟩
        ·intro b;have Z:=R b;have e2:=h.one b;have e3:cBx w noB [] b=0:=rfl;omega
       refine zA H (hO _ _ _ _ _ N base.n w M noB _ I) fun v w' F=>hn _ _ ?_;have hz:∀ b,cA (s++c.args.toList.map (opv st.fr (hasO mt.takes o.dst))++D) (Y++(c.args.toList.map a.eval).toArray++X) b=0:=by
        intro b;have T:∀ b,cA (s++c.args.toList.map (opv st.fr (hasO mt.takes o.dst))++D) (Y++(c.args.toList.map a.eval).toArray++X) b=_:=hcnt;rw [T b];obtain ⟨t1,t2⟩:=bGL h a.defers c.args.toList;rw [htk];exact t2 b
       exact bEj h hl1 (fun i p U=>(K i p U).2) R hz F hE m
      ·simp at m
     ·simp at m
    ·-- any other call
     unfold aBA at m;rcases bQ m with ⟨z,m⟩ | ⟨_,m⟩
     ·obtain ⟨⟨r,u⟩,N,m⟩:=aB m;split at m
      ·rename_i hu;simp at hu;subst hu;cases m;rw [aak] at z;have I:CallPre base M noB (s++c.args.toList.map (opv st.fr (hasO mt.takes o.dst))++D) [] (Y++(c.args.toList.map a.eval).toArray++X) w:=by
        refine ⟨h.cons,hsz,?_,⟨by simp,fun _ _ _=>rfl,by simp [yV],by simp [noB]⟩,?_,h.glob,h.base⟩;· intro i p U;obtain ⟨r1,r2⟩:=K i p U;refine ⟨r1.anyBfree _ (z p (aad U)),?_⟩;exact aQl r2 (fun _ _ _ V=>V) fun b _ _=>⟨rfl,fun _=>rfl,fun d id hb=>by simp [noB] at hb⟩
        ·intro b;have Z:=R b;have e2:=h.one b;have e3:cBx w noB [] b=0:=rfl;omega
       refine zA H (hO _ _ _ _ _ N base.n w M noB _ I) fun v w' F=>hn _ _ ?_;exact aSk h hl1 hsz K R F
      ·simp at m
     ·simp at m
  ·simp at m
 ·-- len
  rename_i W;split at m
  ·rename_i x t C S;split at m;· rename_i hu;obtain ⟨r,N,m⟩:=aB m;cases m;obtain ⟨v,hv,rv,rf⟩:=bEe (P:=P) (w:=w) (ty:=o.type) N (V x) hu;refine upon_value (v:=v) (bi W ?_) (pE h (rv M B) (rf.no v)) hn;rw [G C,L S];simp [builtin,hv]
   ·rename_i el' hu;obtain ⟨r,N,m⟩:=aB m;cases m;obtain ⟨v,hv,rv,rf⟩:=bEf (P:=P) (w:=w) (ty:=o.type) N (V x) hu;refine upon_value (v:=v) (bi W ?_) (pE h (rv M B) (rf.no v)) hn;rw [G C,L S];simp [builtin,hv]
   ·simp at m
  ·simp at m
 ·-- append
  rename_i W;split at m
  ·rename_i x y t u C S;have hap:opv st.fr true x=opd st.fr x:=by cases x<;>rfl
   split at m
   ·rename_i Z e2 hut huu;split at m
    ·rename_i i hi;split at m
     ·rename_i A;obtain ⟨r1,r2,r3,r4⟩:=h.opvT a.defers true x;rw [hap] at r1 r2 r4;split at m;· obtain ⟨E,hE,m⟩:=aB m;obtain ⟨v',w',H,k⟩:=bEi (P:=P) (ty:=o.type) (o:=o) h r3 r1 (fun b=>by have:=r4 b;omega) (V y) hut huu hi A.1 A.2.1 A.2.2 hE m;refine upon_value (v:=v') (w':=w') (bi W ?_) k hn;rw [G C,L S];have J  := H;simp [builtin,J]
      obtain ⟨r,N,m⟩:=aB m;cases m;obtain ⟨v',w',H,k⟩:=bHi (P:=P) (ty:=o.type) (dst:=o.dst) h r3 r1 r2 (fun b=>aal (r4 b)) (V y) hut huu hi A.1 A.2.1 A.2.2 N;refine upon_value (v:=v') (w':=w') (bi W ?_) k hn;rw [G C,L S];have J  := H;simp [builtin,J]
     simp at m
    ·simp at m
   ·rename_i Z hut huu;split at m
    ·rename_i i hi;split at m;· rename_i A;obtain ⟨r,N,m⟩:=aB m;cases m;obtain ⟨r1,r2,r3,r4⟩:=h.opvT a.defers true x;rw [hap] at r1 r2 r4;obtain ⟨v',w',H,k⟩:=aZn (P:=P) (ty:=o.type) (dst:=o.dst) h r3 r1 r2 (fun b=>aal (r4 b)) (V y) hut huu hi A.1 A.2.1 A.2.2 N;refine upon_value (v:=v') (w':=w') (bi W ?_) k hn;rw [G C,L S];have J  := H;simp [builtin,J]
     simp at m
    simp at m
   ·simp at m
  ·simp at m
 ·rename_i W;split at m;· rename_i x y C;obtain ⟨r,N,m⟩:=aB m;cases m;obtain ⟨v,hv,rv,rf⟩:=(aO1 (P:=P) (w:=w) (V x) (V y)).1 N;refine upon_value (v:=v) (bi W ?_) (pE h (rv M B) (rf.no v)) hn;rw [G C];simp [builtin,Builtin.min_,hv]
  simp at m
 ·rename_i W;split at m;· rename_i x y C;obtain ⟨r,N,m⟩:=aB m;cases m;obtain ⟨v,hv,rv,rf⟩:=(aO1 (P:=P) (w:=w) (V x) (V y)).2 N;refine upon_value (v:=v) (bi W ?_) (pE h (rv M B) (rf.no v)) hn;rw [G C];simp [builtin,Builtin.max_,hv]
  simp at m
 ·simp at m
theorem aVv {o a t x lo i m e} (I:o.op = .slice t x lo i m) (h:SR base M B st a.tmps w)
  (he:yS P a.tmps.size o t x lo i m st some=some e) (S:∀ p w',Aft base M B st a.tmps w e p w'->next ⟨p,a.defers⟩ w') :
  o.upon P a next Q ((execOp a.eval o).run P w):=by
 have q:∀ x,Rv M B (opd st.fr x) (a.eval x):=fun x=>h.opd a.defers x;have fin:∀ {r:PV} {v:Value},(Instr.sliceAt t (a.eval x) (lo.map a.eval) (i.map a.eval) (m.map a.eval)).run P w = .ok v w->Rv M B r v->fD r v->some ({ws:=dstW a.tmps.size o.dst r}:Eff)=some e->o.upon P a next Q ((execOp a.eval o).run P w):=by
  intro r v hrun hr C he;cases he;exact upon_value (v:=v) (w':=w) (by simp only [execOp,I];simp [hrun]) (pE h hr C) S
 have nat:∀ {y} {n},aDx (opd st.fr y)=some n->∃ (k:IntKind) (z:Int),a.eval y = .int k z/\0<=z/\n=z.toNat:=by
  intro y n hy;obtain ⟨k,z,e1,e2,J⟩:=aZl hy;exact ⟨k,z,(q y).int_of e1,e2,J⟩
 unfold yS at he;dsimp only at he;split at he
 ·rename_i A;have str:∀ {l h'} {r},aIZ 0 (opd st.fr x) l h'=some r->(∀ len,lenN 0 (opd st.fr x)=some len->h'<=len->l<=h'->(Instr.sliceBounds false len len (lo.map a.eval) (i.map a.eval) none).run P w = .ok (l,h',len) w) ->
    m=none->some ({ws:=dstW a.tmps.size o.dst r}:Eff)=some e->o.upon P a next Q ((execOp a.eval o).run P w):=by
   intro l h' r D d u j;obtain ⟨v,hv,F,G⟩:=aZm (P:=P) (w:=w) A D (q x) d;rw [u] at fin;exact fin hv (F M B) (G.no v) j
  split at he;· obtain ⟨r,hr,he⟩:=aB he;obtain ⟨n,hn',hr⟩:=aB hr;exact str hr (fun len hlen _ _=>by rw [hn'] at hlen;cases hlen;exact aR7 false _ _) rfl he
  ·rename_i l;obtain ⟨r,hr,he⟩:=aB he;obtain ⟨n,hn',hr⟩:=aB hr;obtain ⟨l',hl',hr⟩:=aB hr;obtain ⟨k,z,e1,e2,rfl⟩:=nat hl';exact str hr (fun len hlen _ h2=>by rw [hn'] at hlen;cases hlen;simp [aat,Option.map_none,e1];exact aR8 false _ _ k z e2 h2) rfl he
  ·rename_i h';obtain ⟨r,hr,he⟩:=aB he;obtain ⟨l',hl',hr⟩:=aB hr;obtain ⟨k,z,e1,e2,rfl⟩:=nat hl';exact str hr (fun len hlen h1 h2=>by simp [aat,Option.map_none,e1];exact aR9 false _ _ k z e2 h1) rfl he
  ·rename_i l h';obtain ⟨r,hr,he⟩:=aB he;obtain ⟨l',hl',hr⟩:=aB hr;obtain ⟨b,hn',hr⟩:=aB hr;obtain ⟨k,z,e1,e2,rfl⟩:=nat hl';obtain ⟨k',z',e1',e2',rfl⟩:=nat hn';exact str hr (fun len hlen h1 h2=>by simp [aat,e1,e1'];exact aSa false _ _ k k' z z' e2 h2 e2' h1) rfl he
  simp at he
 ·rename_i H A;split at he;· simp at he
  ·rename_i n E g;obtain ⟨n,rfl⟩:∃ b,n=b+1:=by
    cases n with
    | zero=>exact absurd rfl E
    | succ n=>exact ⟨n,rfl⟩
   have lst:∀ {l h'} {r},aIZ (n+1) (opd st.fr x) l h'=some r->(∀ len cap,lenN (n+1) (opd st.fr x)=some len->h'<=cap->l<=h'->len<=cap->(Instr.sliceBounds true len cap (lo.map a.eval) (i.map a.eval) none).run P w = .ok (l,h',cap) w) ->
     m=none->some ({ws:=dstW a.tmps.size o.dst r}:Eff)=some e->o.upon P a next Q ((execOp a.eval o).run P w):=by
    intro l h' r D d u j;obtain ⟨v,hv,F,G⟩:=bA7 (P:=P) (w:=w) A g D (q x) d;rw [u] at fin;exact by grind
   split at he;· obtain ⟨r,hr,he⟩:=aB he;obtain ⟨b,hn',hr⟩:=aB hr;exact lst hr (fun len cap hlen _ _ _=>by rw [hn'] at hlen;cases hlen;exact aR7 true _ _) rfl he
   ·rename_i l;obtain ⟨r,hr,he⟩:=aB he;obtain ⟨b,hn',hr⟩:=aB hr;obtain ⟨l',hl',hr⟩:=aB hr;obtain ⟨k,z,e1,e2,rfl⟩:=nat hl';exact lst hr (fun len cap hlen _ h2 _=>by rw [hn'] at hlen;cases hlen;simp [aat,Option.map_none,e1];exact aR8 true _ _ k z e2 h2) rfl he
   ·rename_i h';obtain ⟨r,hr,he⟩:=aB he;obtain ⟨l',hl',hr⟩:=aB hr;obtain ⟨k,z,e1,e2,rfl⟩:=nat hl';exact lst hr (fun len cap hlen h1 h2 _=>by simp [aat,Option.map_none,e1];exact aR9 true _ _ k z e2 h1) rfl he
   ·rename_i l h';obtain ⟨r,hr,he⟩:=aB he;obtain ⟨l',hl',hr⟩:=aB hr;obtain ⟨b,hn',hr⟩:=aB hr;obtain ⟨k,z,e1,e2,rfl⟩:=nat hl';obtain ⟨k',z',e1',e2',rfl⟩:=nat hn';exact lst hr (fun len cap hlen h1 h2 _=>by simp [aat,e1,e1'];exact aSa true _ _ k k' z z' e2 h2 e2' h1) rfl he
   ·-- s[:0:0]
    obtain ⟨r,hr,he⟩:=aB he;have run0:∀ ad len cap,a.eval x = .slice ad len cap->(Instr.sliceAt t (a.eval x) none (some (.int .i64 0)) (some (.int .i64 0))).run P w = .ok (.slice ad 0 0) w:=by
     intro ad len cap hev;have d:∀ code c,(Instr.sliceBound (.int .i64 0) c code).run P w = .ok 0 w:=by
      intro code c;simp [Instr.sliceBound,asIntOf]
     simp [Instr.sliceAt,Instr.slice,hev,run_underlying A,Instr.sliceBounds,d,eX w g]
    have hp:=q x;unfold bGH at hr;split at hr
    ·rename_i es bs T hv;cases hr;rw [hv] at hp;obtain ⟨v,hev⟩:∃ v,a.eval x=v:=⟨_,rfl⟩;rw [hev] at hp;cases hp with
     | nil _=>exact fin (run0 none 0 0 hev) (.nil true) (aGx _ _ _) he
     | slice _ _ _ ad cap s f L R O N u hr =>
      exact fin (run0 _ _ _ hev) (.slice [] [] true ad 0 1 (fun _ _=>undef) (fun K=>by omega) (by simp) (by simp) (by simp) (by simp) (by simp)) (aGx _ _ _) he
    ·rename_i sz hv;cases hr;rw [hv] at hp;obtain ⟨v,hev⟩:∃ v,a.eval x=v:=⟨_,rfl⟩;rw [hev] at hp;cases hp with
     | mk0 _ ad cap L =>
      exact fin (run0 _ _ _ hev) (.slice [] [] true ad 0 1 (fun _ _=>undef) (fun K=>by omega) (by simp) (by simp) (by simp) (by simp) (by simp)) (aGx _ _ _) he
    simp at hr
   simp at he
  simp at he
 simp at he
theorem aVw {o:Oper} {a t ps cs} (m:o.op = .build t ps) (h:SR base M B st a.tmps w)
  {cells} (e:(Instr.build t (ps.map fun (i,x)=>(i,a.eval x))).run P w = .ok (.agg cells) w) (d:AggRel M w base B cs cells)
  (g:∀ b,dA cs.length (fun j=>c1 (cs.getD j .bot) (cells.getD j undef) b)=0)
  (k:∀ c w',Aft base M B st a.tmps w {ws:=dstW a.tmps.size o.dst (.agg cs)} c w'->next ⟨c,a.defers⟩ w') :
  o.upon P a next Q ((execOp a.eval o).run P w):=by
 refine upon_value (v := .agg cells) (w':=w) ?_ ?_ k;· simp [execOp];simp_all
 obtain ⟨l,f⟩:=d.done;have:=aQe (dst:=o.dst) (lv:=[]) h h l f (fun b=>by
  rw [bA3 _ _ _ d.size,g b];simp)
 grind
theorem aMa:∀ (fs:List Field),fs.all (fun f=>(P.info? f.type).isSome)=true->∃ a,fs.mapM (fun f=>(P.info? f.type).map fun i=>(f.offset,i.size))=some a /\
  ∀ (i:Nat) f n,fs[i]?=some f->szOf P f.type=some n->a[i]?=some (f.offset,n)
 | [],_=>⟨[],rfl,by simp⟩
 | f::fs,h=>by
  simp only [aaL,aa0] at h;obtain ⟨a,j,d⟩:=aMa fs h.2;obtain ⟨b,e⟩:=Option.isSome_iff_exists.1 h.1;refine ⟨(f.offset,b.size)::a,?_,?_⟩;· simp_all
  intro i g n k c;cases i with
  | zero=>simp [szOf] at c;grind
  | succ i=>grind
theorem opsF (h:SR base M B st tm w) d (ps:List (Nat×Operand)) :
  (∀ (k:Nat) x y,(ps.map fun p=>(p.1,opv st.fr false p.2))[k]?=some x->(ps.map fun p=>(p.1,(Act.mk tm d).eval p.2))[k]?=some y->x.1=y.1/\Rv M B x.2 y.2/\hV M w base B x.2 y.2) /\
  ∀ b,sumL (fun x:(Nat×PV)×(Nat×Value)=>cV x.1.2 x.2.2 b) ((ps.map fun p=>(p.1,opv st.fr false p.2)).zip (ps.map fun p=>(p.1,(Act.mk tm d).eval p.2)))=0:=by
 constructor;· intro k x y e hy;rw [aa9,aan] at e hy;obtain ⟨p,f,rfl⟩:=e;obtain ⟨q,a,rfl⟩:=hy;rw [f] at a;cases a;obtain ⟨o,m⟩:=h.opvF d p.2;exact ⟨rfl,o,m.h M w base B⟩
 intro b;apply aDD;intro x e;obtain ⟨k,j⟩:=aao.1 e;rw [abG] at j;obtain ⟨i,g⟩:=j;rw [aa9,aan] at i g;obtain ⟨p,f,n⟩:=i;obtain ⟨q,a,l⟩:=g;rw [f] at a;cases a;rw [<- n,<- l];exact (h.opvF d p.2).2.c b
theorem aDQ {o a e} (hO:aQk P base.g O) (h:SR base M B st a.tmps w)
  (j:aX P mt a.tmps.size O o st some=some e) (S:∀ tm' w',Aft base M B st a.tmps w e tm' w'->next ⟨tm',a.defers⟩ w') :
  o.upon P a next Q ((execOp a.eval o).run P w):=by
 have J:∀ x,Rv M B (opd st.fr x) (a.eval x):=fun x=>h.opd a.defers x;have F:∀ {r:PV} {v:Value},(execOp a.eval o).run P w = .ok (.value v) w->Rv M B r v->fD r v->some ({ws:=dstW a.tmps.size o.dst r}:Eff)=some e->o.upon P a next Q ((execOp a.eval o).run P w):=by
  intro r v q H hno j;cases j;exact upon_value q (pE h H hno) S
 unfold aX at j;dsimp only at j;split at j
 ·-- move
  rename_i x A;cases j;obtain ⟨r1,r2,r3,r4⟩:=h.opvT a.defers (hasO mt.takes o.dst) x;exact upon_value (v:=a.eval x) (w':=w) (by simp [execOp,A]) (aQe h r3 r1 r2 (fun b=>aal (r4 b))) S
 ·rename_i x A;cases j;obtain ⟨r1,r2,r3,r4⟩:=h.opvT a.defers true x;exact upon_value (v:=a.eval x) (w':=w) (by simp [execOp,A]) (aQe h r3 r1 r2 (fun b=>aal (r4 b))) S
 ·-- pick
  rename_i c x y A;obtain ⟨t,ht,j⟩:=aB j;have U:=J c;unfold aDy at ht;split at ht
  ·rename_i b hb;cases ht;rw [hb] at U;have U:=U.bool_inv;rcases bQ j with ⟨hb',j⟩ | ⟨hb',j⟩;· subst hb';obtain ⟨r1,r2⟩:=h.opvF a.defers x;exact F (v:=a.eval x) (by simp [execOp,A,U,asBool]) r1 r2 j
   ·subst hb';obtain ⟨r1,r2⟩:=h.opvF a.defers y;exact F (v:=a.eval y) (by simp [execOp,A,U,asBool]) r1 r2 j
  ·simp at ht
 ·-- alloc
  rename_i t A;split at j;· rename_i n ag z C X hz;obtain ⟨v,hv,rfl,_⟩:=sT (P:=P) w hz;have hk:=bBa (T:=t) h (o:=o) (lv:=[]) j h (Rv.ofValue v) ((lX v).h M w base B) (fun b=>by rw [(lX v).c];simp);refine upon_value (v := .pointer (some ⟨w.heap.size,0,none⟩)) ?_ hk S;simp only [execOp,A];simp [Instr.alloc,hv,newVar,newRow,newObj,aaT,ab7];rfl
  ·simp at j
 ·-- box
  rename_i t x A;split at j;· rename_i n ag C X;obtain ⟨r1,r2,r3,r4⟩:=h.opvT a.defers true x;have hk:=bBa (T:=t) h (o:=o) j r3 r1 r2 (fun b=>aal (r4 b));refine upon_value (v := .pointer (some ⟨w.heap.size,0,none⟩)) ?_ hk S;simp only [execOp,A];simp [Instr.box,newVar,newRow,newObj,aaT,ab7];rfl
  ·simp at j
 ·-- build
  rename_i t ps A;have hpsl:(ps.map fun (i,x)=>(i,a.eval x)).toList=ps.toList.map fun p=>(p.1,a.eval p.2):=by simp
  obtain ⟨o1,o2⟩:=opsF h a.defers ps.toList;have go:∀ {place:Nat->Option (Nat×Nat×Bool)} {place':Nat->Option (Nat×Nat)} {z:Array Value} {G:List PV},
    (∀ i off n ag,place i=some (off,n,ag)->place' i=some (off,n)) ->
    aGu place (ps.toList.map fun p=>(p.1,opv st.fr false p.2)) (z.toList.map ofAtom) some=some G ->
    (∀ xs,Instr.fill place' z (ps.toList.map fun p=>(p.1,a.eval p.2))=some xs->P.built t (ps.map fun (i,x)=>(i,a.eval x)).toList=some xs) ->
    e={ws:=dstW a.tmps.size o.dst (.agg G)}->o.upon P a next Q ((execOp a.eval o).run P w):=by
   intro place place' z G hpl R hb j;obtain ⟨z1,z2⟩:=aVp (M:=M) (w:=w) (base:=base) (B:=B) (z:=z);obtain ⟨xs,hxs,hrel,hcnt⟩:=aSi hpl _ (ps.toList.map fun p=>(p.1,a.eval p.2)) _ G z (by simp) o1 R z1;subst j;refine aVw A h (run_build w t _ xs (hb xs hxs)) hrel (fun b => ?_) S;have:=hcnt b;rw [z2 b] at this;have h0:=o2 b;have h0':sumL (fun x:(Nat×PV)×(Nat×Value)=>cV x.1.2 x.2.2 b) ((ps.toList.map fun p=>(p.1,opv st.fr false p.2)).zip (ps.toList.map fun p=>(p.1,a.eval p.2)))=0:=h0;omega
  have cpsP:∀ (place:Nat->Option (Nat×Nat×Bool)) (K:List PV->Option Eff) (l:List (Nat×PV)) (cs:List PV),aGu place l cs K=bnd (aGu place l cs some) K:=by
   intro place K l;induction l with
   | nil=>intro cs;rfl
   | cons x l ih =>
    intro cs;obtain ⟨i,v⟩:=x;simp only [aGu];split
    ·rename_i off size ag I;cases U:sR size ag v with
     | none=>rfl
     | some vs =>
      simp only [bnd];split;· rw [ih];rfl
      ·rfl
    ·rfl
  split at j
  ·rename_i fs z V hz;split at j
   ·rename_i hall;rw [cpsP] at j;obtain ⟨G,R,he2⟩:=aB j;obtain ⟨zv,hzr,L,i,hi,hiz⟩:=sT (P:=P) w hz;obtain ⟨pl,hpl,hpl2⟩:=aMa (P:=P) fs.toList hall;obtain ⟨za,rfl,rfl⟩:∃ za,zv = .agg za/\z=za.toList.map ofAtom:=by
     unfold ofValue at L;split at L;· rename_i za;exact ⟨za,rfl,by simpa using L⟩
     ·rename_i hna;exfalso;unfold ofAtom at L;split at L<;>simp at L
    refine go (place':=fun i=>pl.toArray[i]?) ?_ R ?_ (aaa he2).symm;· intro i off n ag I;obtain ⟨f,R,rfl,hs,hg⟩:=aCg I;have:=hpl2 i f n (by simpa using R) hs;simpa using this
    ·intro xs hxs;rw [hpsl];simp only [Program.built,hi,V,hiz,hpl];exact hxs
   ·simp at j
  ·rename_i len el z V hz;split at j
   ·rename_i n ag C X;rw [cpsP] at j;obtain ⟨G,R,he2⟩:=aB j;obtain ⟨zv,hzr,L,i,hi,hiz⟩:=sT (P:=P) w hz;obtain ⟨za,rfl,rfl⟩:∃ za,zv = .agg za/\z=za.toList.map ofAtom:=by
     unfold ofValue at L;split at L;· rename_i za;exact ⟨za,rfl,by simpa using L⟩
     ·rename_i hna;exfalso;unfold ofAtom at L;split at L<;>simp at L
    obtain ⟨ie,hie,hien⟩:∃ ie,P.info? el=some ie/\ie.size=n:=by
     simpa [szOf] using C
    refine go (place':=fun i=>some (i*n,n)) ?_ R ?_ (aaa he2).symm;· intro i off n' ag' I;simp only [aaQ,aaY] at I;obtain ⟨h1,h2,h3⟩:=I;rw [h1,h2]
    ·intro xs hxs;rw [hpsl];simp only [Program.built,hi,V,hiz,hie,hien];exact hxs
   ·simp at j
  ·simp at j
 ·-- buildSlice
  rename_i t n ps A;split at j
  ·rename_i W V;split at j
   ·rename_i sz z C hz;split at j
    ·rename_i U;obtain ⟨z',hz',j⟩:=aB j;have cpsE:∀ (K:List PV->Option Eff) l es,aDA sz l es K=bnd (aDA sz l es some) K:=by
      intro K l;induction l with
      | nil=>intro cs;rfl
      | cons x l ih =>
       intro cs;obtain ⟨i,v⟩:=x;simp only [aDA];cases U:el sz v with
       | none=>rfl
       | some vs =>
        simp only [bnd];split;· rw [ih];rfl
        ·rfl
     rw [cpsE] at j;obtain ⟨es,R,j⟩:=aB j;obtain ⟨arr,q,h0,h1⟩:=aOh (ps:=ps) a rfl h V C hz U.1 U.2 z' (by
      cases n with
      | zero=>exact .inl rfl
      | succ n=>exact .inr hz') R
     have j:=aaa j;subst j;refine upon_value (v := .slice (some ⟨w.heap.size,0,none⟩) n n) (w':={w with heap:=w.heap.push (.cells arr W (0,0))}) (by simp only [execOp,A];simp [q]) ?_ S;have key:∀ s,RowRel M B s es arr->es.length=n->n*s<=arr.size->Aft base M B st a.tmps w {ws:=dstW a.tmps.size o.dst (.slice es [] true)} (putT a.tmps o.dst (.slice (some ⟨w.heap.size,0,none⟩) n n)) {w with heap:=w.heap.push (.cells arr W (0,0))}:=by
      intro s hrow hlen hs;have:=aQh (dst:=o.dst) (lv:=[]) h h (fun b=>aa1 _) (cap:=n) (T:=W) (fz:=(0,0)) (w':={w with heap:=w.heap.push (.cells arr W (0,0))}) hrow (by omega) hs (by intro i _;simp) rfl rfl rfl rfl
       (.inl ⟨rfl,fun j=>by subst j;simpa using hlen.symm⟩)
      simpa [hlen] using this
     cases n with
     | zero =>
      have hes:=h0 rfl;exact key 1 ⟨by omega,by simp [hes],by simp [hes],by simp [hes]⟩ (by simp [hes]) (by simp)
     | succ n =>
      obtain ⟨k1,k2,k3⟩:=h1 (by omega);exact key sz k1 k2 (by omega)
    ·simp at j
   ·simp at j
  ·simp at j
 ·-- load
  rename_i t p A;split at j
  ·rename_i n ag C X;have I:=J p;split at j
   ·rename_i d id off hptr;rw [hptr] at I;split at j
    ·rename_i hn1;obtain ⟨cs,hcs,j⟩:=aB j;split at j
     ·rename_i sz E;obtain ⟨v,hv,j⟩:=aB j;obtain ⟨x,q,k1⟩:=aVl (P:=P) h (dst:=o.dst) C X (fun R=>by simpa [R] using hn1.2) I hcs hv;have D:(execOp a.eval o).run P w = .ok (.value x) w:=by simp only [execOp,A];simp [q]
      cases j;exact upon_value D k1 S
     ·simp at j
     ·rename_i hnv hnv2;obtain ⟨v,hv,j⟩:=aB j;have hnv':nW cs=false:=by
       unfold nW;split;· exact absurd rfl (hnv _ _)
       ·exact absurd rfl (hnv2 _ _)
       ·rfl
      obtain ⟨x,q,k1,k2⟩:=bEg (P:=P) h (e:=e) (dst:=o.dst) C X (fun R=>by simpa [R] using hn1.2) I hcs hnv' hv;have D:(execOp a.eval o).run P w = .ok (.value x) w:=by simp only [execOp,A];simp [q]
      split at j;· cases j;exact upon_value D k2 S
      ·cases j;exact upon_value D k1 S
    ·simp at j
   ·rename_i v hptr;rw [hptr] at I;obtain ⟨v',hv,j⟩:=aB j;obtain ⟨y,q,k⟩:=aVj (P:=P) h (dst:=o.dst) C X I hv;cases j;exact upon_value (v:=y) (w':=w) (by simp only [execOp,A];simp [q]) k S
   ·simp at j
  ·simp at j
 ·-- store
  rename_i t p x A;split at j
  ·rename_i n ag C X;have I:=J p;split at j
   ·rename_i d id off hptr hd;rw [hptr] at I;obtain ⟨cs,hcs,j⟩:=aB j;obtain ⟨vs,hvs,j⟩:=aB j;obtain ⟨r1,r2,r3,r4⟩:=h.opvT a.defers true x;split at j
    ·rename_i sz E;split at j;· rename_i hn0;obtain ⟨E',hE',j⟩:=aB j;cases j;obtain ⟨w',q,k⟩:=aSe (P:=P) h C I hcs hvs hn0 hE' r3 r1 r2 (fun b=>aal (r4 b));refine upon_skip hd ?_ k S;have D:(Instr.storeAt t (a.eval p) (a.eval x)).run P w = .ok () w':=q;simp only [execOp,A];simp [D]
     ·simp at j
    ·simp at j
    ·rename_i hnv hnv2;have hnv':nW cs=false:=by
      unfold nW;split;· exact absurd rfl (hnv _ _)
      ·exact absurd rfl (hnv2 _ _)
      ·rfl
     rcases bQ j with ⟨R,j⟩ | ⟨_,j⟩
     ·split at j;· rename_i U;cases j;obtain ⟨w',q,k⟩:=bBc (P:=P) h C I hcs hnv' hvs R U.1 r3 r1 r2 (fun b=>aal (r4 b));refine upon_skip hd ?_ k S;have D:(Instr.storeAt t (a.eval p) (a.eval x)).run P w = .ok () w':=q;simp only [execOp,A];simp [D]
      ·simp at j
     ·simp at j
   ·simp at j
  ·simp at j
 ·-- nilCheck
  rename_i x A;have I:=J x;split at j
  ·rename_i d id off hv;rw [hv] at I;obtain ⟨v,N⟩:∃ v,a.eval x=v:=⟨_,rfl⟩;rw [N] at I;cases I with
   | ptr d id off b hb=>exact F (by simp only [execOp,A,N];rfl) (.ptr d id off b hb) (oA _ _ _ _) j
  ·rename_i u hv;rw [hv] at I;obtain ⟨v,N⟩:∃ v,a.eval x=v:=⟨_,rfl⟩;rw [N] at I;cases I with
   | ref _ ad s f ha hel hm H=>exact F (by simp only [execOp,A,N];rfl) (.ref _ ad s f ha hel hm H) (aL3 _ _) j
  ·rename_i fn a1 b1 hv;rw [hv] at I;obtain ⟨v,N⟩:∃ v,a.eval x=v:=⟨_,rfl⟩;rw [N] at I;cases I with
   | func _ Y caps vf vc f g hp' hl R hrf hl' hg hrg=>exact F (by simp only [execOp,A,N];rfl) (.func _ _ _ vf vc f g hp' hl R hrf hl' hg hrg) (rU _ _ _ _) j
  ·simp at j
 ·-- binOp
  rename_i op t x y u A;exact bBh A h j S
 ·-- unOp
  rename_i op u x A;obtain ⟨r,H,j⟩:=aB j;obtain ⟨v,hv,Z,rf⟩:=bI3 (P:=P) (w:=w) H (J x);exact F (v:=v) (by simp only [execOp,A];simp [hv]) (Z M B) (rf.no v) j
 ·-- convert
  rename_i s d x A;unfold aHn at j;split at j;· rename_i k0 k hs hd;obtain ⟨r,H,j⟩:=aB j;obtain ⟨v,hv,Z,rf⟩:=bA8 (P:=P) (w:=w) hs hd H (J x);exact F (v:=v) (by simp only [execOp,A];simp [hv]) (Z M B) (rf.no v) j
  ·rename_i W hs hd;split at j;· rename_i hel;obtain ⟨r,H,j⟩:=aB j;obtain ⟨v,hv,Z,rf⟩:=bA9 (P:=P) hs hel hd h.cons H (J x);exact F (v:=v) (by simp only [execOp,A];simp [hv]) (Z M B) (rf.no v) j
   ·simp at j
  ·rename_i W hs hd;split at j;· rename_i hel;obtain ⟨r,H,j⟩:=aB j;obtain ⟨v',w',q,k⟩:=aVq (P:=P) h (dst:=o.dst) hs hd hel (J x) H;cases j;exact upon_value (v:=v') (w':=w') (by simp only [execOp,A];simp [q]) k S
   ·simp at j
  ·simp at j
 ·-- makeSlice
  rename_i t l c A;split at j
  ·rename_i e' V;split at j
   ·rename_i i hi;split at j
    ·rename_i hcond;obtain ⟨h0,hby,hz⟩:=hcond;obtain ⟨z,hz1,hz2⟩:=aCh hz;split at j;· obtain ⟨E,hE,j⟩:=aB j;obtain ⟨v',w',q,k⟩:=bBi (P:=P) h (o:=o) V hi h0 hby hz (J l) (J c) hE j;refine upon_value (v:=v') (w':=w') ?_ k S;simp only [execOp,A];simp [q]
     split at j
     ·obtain ⟨r0,hr0,j⟩:=aB j;unfold mkSl at hr0;obtain ⟨nn,hcn,hr0⟩:=aB hr0;split at hr0;rotate_left;· simp at hr0
      rename_i hlim;cases hr0;cases j;obtain ⟨w',q,k⟩:=aQj (P:=P) h (dst:=o.dst) V hi hz1 hz2 h0 hby hlim hcn (J c);refine upon_value (w':=w') ?_ k S;simp only [execOp,A];have:a.eval (.const (.int .i64 0)) = .int .i64 0:=rfl;rw [this];simp [q]
     ·simp at j
    ·simp at j
   ·simp at j
  ·simp at j
 ·-- makeMap
  rename_i t r A;split at j;· rename_i kd z id hT hid;cases j;obtain ⟨w',q,k⟩:=aVr h hid (kd:=kd) (t:=t) (P:=P);exact upon_value (w':=w') (by simp only [execOp,A];simp [q]) k S
  ·simp at j
 ·-- lookup
  rename_i t m k c A;split at j
  ·rename_i kd z d id hT hm;obtain ⟨kt,et,K⟩:=aSm hT;have hmv:=J m;rw [hm] at hmv;split at j
   ·rename_i kd' E hb;split at j;· rename_i hkd;cases aap hkd;obtain ⟨r,H,j⟩:=aB j;cases j;obtain ⟨x,q,k⟩:=aZq (dst:=o.dst) h K hmv hb (J k) c H;exact upon_value (v:=x) (w':=w) (by simp only [execOp,A];simp [q]) k S
    ·simp at j
   ·simp at j
  ·simp at j
 ·-- mapUpdate
  rename_i t m k v A;split at j
  ·rename_i kd z d id hT hm hd;obtain ⟨kt,et,K⟩:=aSm hT;have hmv:=J m;rw [hm] at hmv;split at j
   ·rename_i kd' E hb;split at j;· rename_i hkd;cases aap hkd;obtain ⟨E',hE',j⟩:=aB j;cases j;obtain ⟨w',q,k⟩:=aQm h K hmv hb (J k) (J v) hE';exact upon_skip hd (by simp only [execOp,A];simp [q]) k S
    ·simp at j
   ·simp at j
  ·simp at j
 ·-- makeFunc
  rename_i fn Y caps A;refine F (v := .func fn (Y.map a.eval) (caps.map a.eval)) (by simp only [execOp,A];rfl) ?_ (rU _ _ _ _) j;refine .func fn _ _ _ _ (fun i=>(Y.map a.eval).getD i undef) (fun i=>(caps.map a.eval).getD i undef) ?_ (by simp) ?_ ?_ (by simp) ?_ ?_;· intro c U;rw [<- List.map_append] at U;obtain ⟨x,_,rfl⟩:=aah.1 U;exact aOW _
  ·intro i hi;simp at hi;simp [hi]
  ·intro i c U;rw [aa9,aan] at U;obtain ⟨x,hx',rfl⟩:=U;have:(Y.map a.eval).getD i undef=a.eval x:=by
    simp only [Array.getElem?_toList] at hx';simp [aaB,hx']
   rw [this];exact (J x).plain
  ·intro i hi;simp at hi;simp [hi]
  ·intro i c U;rw [aa9,aan] at U;obtain ⟨x,hx',rfl⟩:=U;have:(caps.map a.eval).getD i undef=a.eval x:=by
    simp only [Array.getElem?_toList] at hx';simp [aaB,hx']
   rw [this];exact (J x).plain
 ·-- slice
  rename_i t x lo hi m A;exact aVv A h j S
 ·-- fieldAddr
  rename_i s x f A;split at j
  ·rename_i fs V;split at j
   ·rename_i off n ag R;split at j
    ·rename_i hpos;obtain ⟨r,H,j⟩:=aB j;obtain ⟨v,hv,Z,hno⟩:=aVf (P:=P) (w:=w) V R hpos H (J x);refine F (v:=v) (by simp only [execOp,A];simp [hv]) Z ?_ j;rcases hno with ⟨d,i,o',rfl⟩ | ⟨e',rfl⟩;· exact oA _ _ _ _
     ·exact aL3 _ _
    ·simp at j
   ·simp at j
  ·simp at j
 ·-- field
  rename_i s x f A;split at j
  ·rename_i fs V;split at j;· rename_i off n ag R;obtain ⟨r,H,j⟩:=aB j;obtain ⟨v,hv,Z⟩:=bA6 (P:=P) (w:=w) V R H (J x);exact F (v:=v) (by simp only [execOp,A];simp [hv]) Z.plain (cU _ _) j
   ·simp at j
  ·simp at j
 ·-- indexAddr
  rename_i t x i A;split at j
  ·rename_i W V;split at j
   ·rename_i n C;obtain ⟨r,H,j⟩:=aB j;obtain ⟨v,hv,Z,⟨e',rfl⟩ | ⟨d',i',o',rfl⟩⟩:=aVg (P:=P) (w:=w) V C H (J x) (J i);· exact F (v:=v) (by simp only [execOp,A];simp [hv]) Z (aL3 _ _) j
    ·exact F (v:=v) (by simp only [execOp,A];simp [hv]) Z (oA _ _ _ _) j
   ·simp at j
  ·rename_i len W V;split at j
   ·rename_i n C;split at j;· obtain ⟨r,H,j⟩:=aB j;obtain ⟨v,hv,Z,d,i',o',rfl⟩:=aR4 (P:=P) (w:=w) V C H (J x) (J i);exact F (v:=v) (by simp only [execOp,A];simp [hv]) Z (oA _ _ _ _) j
    ·simp at j
   ·simp at j
  ·simp at j
 ·-- index
  rename_i t x i A;split at j;· rename_i V;obtain ⟨r,H,j⟩:=aB j;obtain ⟨v,hv,Z,rf⟩:=aR5 (P:=P) (w:=w) V H (J x) (J i);exact F (v:=v) (by simp [execOp,A];simp [hv]) (Z M B) (rf.no v) j
  ·rename_i len W V;split at j;· rename_i n ag C X;obtain ⟨r,H,j⟩:=aB j;obtain ⟨v,hv,Z⟩:=aR6 (P:=P) (w:=w) V C X H (J x) (J i);exact F (v:=v) (by simp [execOp,A];simp [hv]) Z.plain (cU _ _) j
   simp at j
  simp at j
 ·-- extract
  rename_i x i A;obtain ⟨r,H,j⟩:=aB j;unfold ext at H;split at H
  ·rename_i vs hv;have I:=J x;rw [hv] at I;obtain ⟨v,N⟩:∃ v,a.eval x=v:=⟨_,rfl⟩;rw [N] at I;cases I with
   | tuple _ xs f hl R hrr =>
    rw [jU] at H;have hlt:=(aa2.1 H).1;exact F (v:=f i) (by simp [execOp,A,N];simp [Instr.extract,R i hlt]) (hrr i r H).plain (cU _ _) j
  simp at H
 ·rename_i c A;exact aZs hO A h j S
 ·simp at j
end
structure Eqv (s t:St):Prop where
 fr:∀ i,gets s.fr i=gets t.fr i
 bx:∀ d id,bD s.bx d id=bD t.bx d id
 len:s.bx.length=t.bx.length
theorem Eqv.refl s:Eqv s s:=⟨fun _=>rfl,fun _ _=>rfl,rfl⟩
theorem Eqv.symm {s t} (h:Eqv s t):Eqv t s:=⟨fun i=>(h.fr i).symm,fun d i=>(h.bx d i).symm,h.len.symm⟩
theorem Eqv.trans {s t u} (h:Eqv s t) (k:Eqv t u):Eqv s u:=⟨fun i=>(h.fr i).trans (k.fr i),fun d i=>(h.bx d i).trans (k.bx d i),h.len.trans k.len⟩
theorem aZt {g a b} (h:a.Perm b):fS g a=fS g b:=by
 induction h with
 | nil=>rfl
 | cons x _ c=>simp [fS,c]
 | swap x y l=>simp [fS];omega
 | trans _ _ e d=>omega
theorem xJ {α:Type}:∀ {l:List (Nat×α)},(l.map (·.1)).Nodup->l.Nodup
 | [],_=>abk
 | (i,x)::l,h=>by
  simp at h;rw [aaR];exact ⟨fun a=>by grind,xJ h.2⟩
theorem aZu {g} {a b:gP} (f:(a.map (·.1)).Nodup) (e:(b.map (·.1)).Nodup) (h:∀ i,look a i=look b i):fS g a=fS g b:=by
 apply aZt;rw [List.perm_ext_iff_of_nodup (xJ f) (xJ e)];rintro ⟨i,c⟩;constructor;· intro d;have:=kL f d;rw [h i] at this;exact nN this
 intro d;have:=kL e d;rw [<- h i] at this;exact nN this
theorem aO8 {g}:∀ a b c,Nd a->Nd b->a.length=b.length->(∀ d id,bD a d id=bD b d id)->jL g c a=jL g c b
 | [],[],_,_,_,_,_=>rfl
 | [],_::_,_,_,_,h,_=>by grind
 | _::_,[],_,_,_,h,_=>by grind
 | f::a,f'::b,c,j,e,l,h=>by
  simp [jL];rw [aZu (j 0 f rfl) (e 0 f' rfl) (fun i=>by simpa [bI] using h 0 i),
   aO8 a b (c+1) (fun d g k=>j (d+1) g (by grind)) (fun d g k=>e (d+1) g (by grind)) (by grind) (fun d id=>by simpa [jP] using h (d+1) id)]
section
variable {base : Base} {M : Mem} {B : BM} {st t : St} {tm : Array Value} {w : World}
theorem aVx (a:Eqv st t) (f:Nd st.bx) (c:Nd t.bx) b:tot t.fr tm w B t.bx b=tot st.fr tm w B st.bx b:=by
 have g:cF t.fr tm b=cF st.fr tm b:=gW _ fun i _=>by rw [a.fr i]
 have e:cBx w B t.bx b=cBx w B st.bx b:=aO8 _ _ _ c f a.len.symm (fun d id=>(a.bx d id).symm);simp [tot,g,e]
theorem SR.eqv (h:SR base M B st tm w) (a:Eqv st t) (c:Nd t.bx):SR base M B t tm w:=by
 refine ⟨h.cons,fun i=>by rw [<- a.fr i];exact h.slot i,fun i=>by rw [<- a.fr i];exact h.slotH i,⟨c,?_,?_,h.box.inj⟩,fun b=>by rw [aVx a h.box.nodup c];exact h.one b,h.glob,h.base⟩;· intro d id f;exact h.box.dom d id (by rw [a.bx];exact f)
 intro d id cs e;exact h.box.ok d id cs (by rw [a.bx];exact e)
end
structure Shp (e:Eff):Prop where
 up:e.up=none
 cw:e.cw=[]∨∃ c,e.cw=[c]
 nw:e.nw=[]∨∃ x,e.nw=[x]
def NeOk (e:Eff) (s:St):Prop:=e.nw≠[]->s.bx.length≠0
theorem NeOk.ne {e s} (h:NeOk e s):e.nw≠[]->s.bx≠[]:=fun a hy=>h a (by grind)
def zB (a:List (Nat×Nat×Nat×List PV)) (d id:Nat) (x:Option (List PV)):Option (List PV) :=
 match a with
 | []=>x
 | c::_=>if d=c.1/\id=c.2.1 then x.map fun cs=>putAt cs c.2.2.1 c.2.2.2 else x
def aFK (a:List (Nat×List PV)) (d id:Nat) (x:Option (List PV)):Option (List PV) :=
 match a with
 | []=>x
 | c::_=>if d=0/\id=c.1 then some c.2 else x
theorem Eff.bx_app {e} (h:Shp e) st (m:NeOk e st) d id:bD (e.app st).bx d id=aFK e.nw d id (zB e.cw d id (bD st.bx d id)):=by
 have i:bD (fC st.bx e.cw) d id=zB e.cw d id (bD st.bx d id):=by
  rcases h.cw with a | ⟨⟨c,g,o,vs⟩,a⟩;· rw [a];rfl
  rw [a];simp [fC,zB];cases j:bD st.bx c g with
  | none =>
   grind
  | some cs =>
   rw [yW _ _ _ _ _ _ _ j];grind
 have l:e.nw≠[]->fC st.bx e.cw≠[]:=by
  intro k;have:=m.ne k;rcases h.cw with a | ⟨⟨c,g,o,vs⟩,a⟩;· rw [a];exact this
  rw [a];simp [fC];cases j:bD st.bx c g with
  | none=>omega
  | some cs =>
   cases b:st.bx with
   | nil=>grind
   | cons f r=>cases c<;>simp [cN]
 simp [Eff.app,h.up];rcases h.nw with a | ⟨⟨g,cs⟩,a⟩;· rw [a,rV];exact i
 rw [a];cases b:fC st.bx e.cw with
 | nil=>grind
 | cons f r =>
  rw [b] at i;simp [aDf,aFK];cases d with
  | zero =>
   rw [bI] at i ⊢;simp [look];grind
  | succ d =>
   rw [jP] at i ⊢;grind
theorem aJ8:∀ bx d id cs,(cN bx d id cs).length=bx.length
 | [],_,_,_=>rfl
 | _::_,0,_,_=>rfl
 | _::r,d+1,id,cs=>by simp [cN,aJ8 r]
theorem aAD:∀ l bx,(fC bx l).length=bx.length
 | [],_=>rfl
 | (d,id,o,vs)::l,bx=>by
  simp [fC];split;· rw [aAD,aJ8]
  exact aAD l bx
theorem aZv bx a (h:a≠[]->bx≠[]):(aDf bx a).length=bx.length:=by
 cases a with
 | nil=>rw [rV]
 | cons x l =>
  cases bx with
  | nil=>grind
  | cons b r=>rfl
theorem Eff.len_app {e} (h:Shp e) st (b:NeOk e st):(e.app st).bx.length=st.bx.length:=by
 simp [Eff.app,h.up];rw [aZv,aAD];intro a hy;have:=aAD e.cw st.bx;exact b.ne a (by grind)
theorem Eff.fr_app (e:Eff) st i:gets (e.app st).fr i=match look e.ws i with | some v=>v | none=>gets st.fr i:=by
 exact bEc _ _ _
theorem Eqv.app {s t} (h:Eqv s t) {e} (b:Shp e) (c:NeOk e s):Eqv (e.app s) (e.app t):=by
 have a:NeOk e t:=fun f=>by rw [<- h.len];exact c f
 refine ⟨fun i=>by rw [Eff.fr_app,Eff.fr_app,h.fr i],fun d id => ?_,?_⟩;· rw [Eff.bx_app b s c,Eff.bx_app b t a,h.bx]
 rw [Eff.len_app b s c,Eff.len_app b t a,h.len]
section
variable {P : Program} {mt : Hints} {nt : Nat} {O : Orc}
structure EffOk (mt:Hints) (st:St) (o:Oper) (e:Eff):Prop where
 shp:Shp e
 ws:∀ x∈e.ws,x.1∈aLT mt o
 nw:∀ x∈e.nw,o.dst=some x.1/\bD st.bx 0 x.1=none/\st.bx≠[]
theorem aBG {d v}:∀ x∈dstW nt d v,d=some x.1:=by
 intro x a;unfold dstW at a;grind
theorem zC {fr a y}:∀ x∈left fr a y,a=true/\y = .tmp x.1:=by
 intro x b;unfold left at b;grind
theorem gD {o:Oper} {i:Nat} (h:o.dst=some i):i∈aLT mt o:=by simp [aLT,h]
theorem dH {st o e v cr} (h:({cr:=cr,ws:=dstW nt o.dst v}:Eff)=e):EffOk mt st o e:=by
 subst h;exact ⟨⟨rfl,.inl rfl,.inl rfl⟩,fun x a=>gD (aBG x a),by simp⟩
theorem aE8 {st o e v b} {y:Operand} (hy:∀ t,b=true->y = .tmp t->t∈gQ mt o) (h:({ws:=dstW nt o.dst v++left st.fr b y}:Eff)=e):EffOk mt st o e:=by
 subst h;refine ⟨⟨rfl,.inl rfl,.inl rfl⟩,?_,by simp⟩;intro x a;rcases aa6.1 a with a | a;· exact gD (aBG x a)
 obtain ⟨d,c⟩:=zC x a;exact aa6.2 (.inr (hy _ d c))
theorem aSw {st o e n f v lv} (k:∀ x∈lv,x.1∈gQ mt o) (h:newBox nt o n f v lv st some=some e):EffOk mt st o e:=by
 unfold newBox at h;split at h
 ·rename_i id b;obtain ⟨c,d,l,r,g,j⟩:=jV b;obtain ⟨cs,i,h⟩:=aB h;rcases bQ h with ⟨_,h⟩ | ⟨_,h⟩
  ·cases h;refine ⟨⟨rfl,.inl rfl,by simp⟩,?_,?_⟩
   ·intro x a;rcases aa3.1 a with rfl | a;· exact gD c
    exact aa6.2 (.inr (k x a))
   intro x a;simp at a;subst a;exact ⟨c,by rw [g,bI];omega,by grind⟩
  grind
 grind
theorem aMb {st o e sz E lv} (i:∀ x∈lv,x.1∈gQ mt o) (h:sS nt o sz E lv st some=some e):EffOk mt st o e:=by
 unfold sS at h;split at h
 ·rename_i id b;obtain ⟨c,d,j,r,f,g⟩:=jV b;cases h;refine ⟨⟨rfl,.inl rfl,by simp⟩,?_,?_⟩
  ·intro x a;rcases aa3.1 a with rfl | a;· exact gD c
   exact aa6.2 (.inr (i x a))
  intro x a;simp at a;subst a;exact ⟨c,by rw [f,bI];omega,by grind⟩
 grind
theorem zD {place R} (K:List PV->Option R):∀ l cs,aGu place l cs K=bnd (aGu place l cs some) K
 | [],cs=>rfl
 | (i,v)::l,cs=>by
  simp [aGu];split
  ·rename_i off size a c;cases b:sR size a v with
   | none=>rfl
   | some vs =>
    simp [bnd];split;· rw [zD K l];rfl
    rfl
  rfl
theorem aHA {sz R} (K:List PV->Option R):∀ l es,aDA sz l es K=bnd (aDA sz l es some) K
 | [],es=>rfl
 | (i,v)::l,es=>by
  simp [aDA];cases a:el sz v with
  | none=>rfl
  | some vs =>
   simp [bnd];split;· rw [aHA K l];rfl
   rfl
theorem bBv {o st e} (h:aX P mt nt O o st some=some e) (n:e.up=none):EffOk mt st o e:=by
 unfold aX at h;dsimp only at h;split at h;· rename_i x ho;refine aE8 ?_ (aaa h);intro t ht hx;simp [gQ,ho,ht,hx]
 ·rename_i x ho;refine aE8 ?_ (aaa h);intro t ht hx;simp [gQ,ho,ht,hx]
 ·obtain ⟨t,ht,h⟩:=aB h;rcases bQ h with ⟨_,h⟩ | ⟨_,h⟩<;>exact dH (aaa h)
 ·split at h;· exact aSw (by simp) h
  ·simp at h
 ·rename_i t x ho;split at h;· refine aSw ?_ h;intro y hy;obtain ⟨_,h2⟩:=zC y hy;simp [gQ,ho,h2]
  ·simp at h
 ·split at h
  ·split at h;· rw [zD] at h;obtain ⟨cs,_,h⟩:=aB h;exact dH (aaa h)
   ·simp at h
  ·split at h;· rw [zD] at h;obtain ⟨cs,_,h⟩:=aB h;exact dH (aaa h)
   ·simp at h
  ·simp at h
 ·split at h
  ·split at h
   ·split at h;· obtain ⟨z,_,h⟩:=aB h;rw [aHA] at h;obtain ⟨cs,_,h⟩:=aB h;exact dH (aaa h)
    ·simp at h
   ·simp at h
  ·simp at h
 ·-- load
  split at h
  ·split at h
   ·split at h
    ·obtain ⟨cs,_,h⟩:=aB h;split at h;· obtain ⟨v,_,h⟩:=aB h;exact dH (aaa h)
     ·simp at h
     ·obtain ⟨v,_,h⟩:=aB h;split at h;· cases h;exact ⟨⟨rfl,by simp,.inl rfl⟩,fun x hx=>gD (aBG x hx),by simp⟩
      ·exact dH (aaa h)
    ·simp at h
   ·obtain ⟨v,_,h⟩:=aB h;exact dH (aaa h)
   ·simp at h
  ·simp at h
 ·-- store
  rename_i t p x ho;split at h
  ·split at h
   ·obtain ⟨cs,_,h⟩:=aB h;obtain ⟨v,_,h⟩:=aB h;split at h
    ·split at h;· obtain ⟨q,_,h⟩:=aB h;cases h;refine ⟨⟨rfl,by simp,.inl rfl⟩,?_,by simp⟩;intro y hy;obtain ⟨_,h2⟩:=zC y (show y∈left st.fr true x from hy);exact aa6.2 (.inr (by simp [gQ,ho,h2]))
     ·simp at h
    ·simp at h
    rcases bQ h with ⟨_,h⟩ | ⟨_,h⟩
    ·split at h;· cases h;refine ⟨⟨rfl,by simp,.inl rfl⟩,?_,by simp⟩;intro y hy;obtain ⟨_,h2⟩:=zC y (show y∈left st.fr true x from hy);exact aa6.2 (.inr (by simp [gQ,ho,h2]))
     ·simp at h
    ·simp at h
   ·simp at h
  ·simp at h
 ·split at h<;>first | exact dH (aaa h) | simp at h
 ·-- binOp
  unfold yT at h;dsimp only at h;split at h<;>(try split at h)<;>(try split at h)<;>first
   | (obtain ⟨r,_,h⟩:=aB h;exact dH (aaa h))
   | (simp at h;done)
 ·obtain ⟨r,_,h⟩:=aB h;exact dH (aaa h)
 ·unfold aHn at h;dsimp only at h;split at h<;>(try split at h)<;>first
   | (obtain ⟨r,_,h⟩:=aB h;exact dH (aaa h))
   | (simp at h;done)
 ·split at h
  ·split at h
   ·split at h
    ·split at h;· obtain ⟨r,_,h⟩:=aB h;exact aMb (by simp) h
     ·split at h;· obtain ⟨r,_,h⟩:=aB h;exact dH (aaa h)
      ·simp at h
    ·simp at h
   ·simp at h
  ·simp at h
 ·split at h
  ·rename_i id _ b _;cases h;obtain ⟨j,m,s,r,k,g⟩:=jV b;refine ⟨⟨rfl,.inl rfl,by simp⟩,?_,?_⟩;· intro x hx;rw [aaw.1 hx];exact gD j
   ·intro x hx;simp at hx;subst hx;exact ⟨j,by rw [k,bI];exact g,by rw [k];simp⟩
  ·simp at h
 ·split at h
  ·split at h
   ·split at h;· obtain ⟨r,_,h⟩:=aB h;exact dH (aaa h)
    ·simp at h
   ·simp at h
  ·simp at h
 ·split at h
  ·split at h
   ·split at h;· obtain ⟨r,_,h⟩:=aB h;cases h;exact ⟨⟨rfl,by simp,.inl rfl⟩,by simp,by simp⟩
    ·simp at h
   ·simp at h
  ·simp at h
 ·exact dH (aaa h)
 ·unfold yS at h;dsimp at h;split at h<;>(try split at h)<;>(try split at h)<;>first
   | (obtain ⟨r,_,h⟩:=aB h;exact dH (aaa h))
   | (simp at h;done)
 ·split at h
  ·split at h
   ·split at h;· obtain ⟨r,_,h⟩:=aB h;exact dH (aaa h)
    ·simp at h
   ·simp at h
  ·simp at h
 ·split at h
  ·split at h;· obtain ⟨r,_,h⟩:=aB h;exact dH (aaa h)
   ·simp at h
  ·simp at h
 ·split at h
  ·split at h;· obtain ⟨r,_,h⟩:=aB h;exact dH (aaa h)
   ·simp at h
  ·split at h
   ·split at h;· obtain ⟨r,_,h⟩:=aB h;exact dH (aaa h)
    ·simp at h
   ·simp at h
  ·simp at h
 ·split at h;· obtain ⟨r,_,h⟩:=aB h;exact dH (aaa h)
  ·split at h;· obtain ⟨r,_,h⟩:=aB h;exact dH (aaa h)
   ·simp at h
  ·simp at h
 ·obtain ⟨r,_,h⟩:=aB h;exact dH (aaa h)
 ·-- call
  rename_i c ho;unfold lW at h;dsimp at h;split at h
  ·rename_i f hc;split at h
   ·split at h;· simp at h
    ·rcases bQ h with ⟨_,h⟩ | ⟨_,h⟩
     ·split at h
      ·rcases bQ h with ⟨_,h⟩ | ⟨_,h⟩
       ·obtain ⟨a,_,h⟩:=aB h;obtain ⟨fr,_,h⟩:=aB h;obtain ⟨r,_,h⟩:=aB h;rcases bQ h with ⟨_,h⟩ | ⟨_,h⟩
        ·obtain ⟨vs,_,h⟩:=aB h;obtain ⟨p,_,h⟩:=aB h;cases h;refine ⟨⟨rfl,by simp,.inl rfl⟩,fun x hx => ?_,by simp⟩;rcases aa6.1 hx with hx | hx;· exact gD (aBG x hx)
         ·obtain ⟨y,hy,hx⟩:=aaE.1 hx;obtain ⟨d,h2⟩:=zC x hx;subst h2;refine aa6.2 (.inr ?_);simp [gQ,ho,hc,d,if_true];exact by grind
        ·simp at h
       ·simp at h
      ·obtain ⟨r,_,h⟩:=aB h;cases h;simp at n
     ·simp at h
    ·have hlv:∀ x∈c.args.toList.flatMap (left st.fr (hasO mt.takes o.dst)),x.1∈gQ mt o:=by
      intro x hx;obtain ⟨y,hy,hx⟩:=aaE.1 hx;obtain ⟨d,h2⟩:=zC x hx;subst h2;simp [gQ,ho,hc,d,if_true];exact by grind
     have hws:∀ v,∀ x∈dstW nt o.dst v++c.args.toList.flatMap (left st.fr (hasO mt.takes o.dst)),x.1∈aLT mt o:=by
      intro v x hx;rcases aa6.1 hx with hx | hx;· exact gD (aBG x hx)
      ·exact aa6.2 (.inr (hlv x hx))
     split at h
     ·rcases bQ h with ⟨_,h⟩ | ⟨_,h⟩
      ·unfold aBA at h;rcases bQ h with ⟨_,h⟩ | ⟨_,h⟩
       ·obtain ⟨r,_,h⟩:=aB h;split at h
        ·rcases bQ h with ⟨_,h⟩ | ⟨_,h⟩;· cases h;exact ⟨⟨rfl,.inl rfl,.inl rfl⟩,hws _,by simp⟩
         ·simp at h
        ·simp at h
       ·simp at h
      ·simp at h
     ·simp at h
     ·unfold aBA at h;rcases bQ h with ⟨_,h⟩ | ⟨_,h⟩
      ·obtain ⟨r,_,h⟩:=aB h;split at h;· obtain ⟨E,_,h⟩:=aB h;exact aMb hlv h
       ·simp at h
      ·simp at h
     ·unfold aBA at h;rcases bQ h with ⟨_,h⟩ | ⟨_,h⟩
      ·obtain ⟨r,_,h⟩:=aB h;split at h;· cases h;exact ⟨⟨rfl,.inl rfl,.inl rfl⟩,hws _,by simp⟩
       ·simp at h
      ·simp at h
   ·simp at h
  ·split at h
   ·split at h<;>first
     | (obtain ⟨r,_,h⟩:=aB h;exact dH (aaa h))
     | (simp at h;done)
   ·simp at h
  ·rename_i hc;split at h
   ·rename_i x y t u hargs i;have hy:∀ t',true=true->x = .tmp t'->t'∈gQ mt o:=by
     intro t' _ hx;simp [gQ,ho,hc,hargs,hx]
    split at h
    ·split at h
     ·split at h
      ·split at h;· obtain ⟨r,_,h⟩:=aB h;exact aMb (fun z l=>by obtain ⟨_,h2⟩:=zC z l;exact by grind) h
       obtain ⟨r,_,h⟩:=aB h;exact aE8 hy (aaa h)
      ·simp at h
     ·simp at h
    ·split at h
     ·split at h;· obtain ⟨r,_,h⟩:=aB h;exact aE8 hy (aaa h)
      simp at h
     simp at h
    ·simp at h
   ·simp at h
  ·split at h;· obtain ⟨r,_,h⟩:=aB h;exact dH (aaa h)
   simp at h
  ·split at h;· obtain ⟨r,_,h⟩:=aB h;exact dH (aaa h)
   simp at h
  ·simp at h
 ·simp at h
end
def AgrO (c n:Nat):Option (List PV)->Option (List PV)->Prop
 | some a,some b=>a.length=b.length/\∀ k,c<=k->k<c+n->a[k]?=b[k]?
 | none,none=>True
 | _,_=>False
theorem AgrO.refl {b n} a:AgrO b n a a:=by cases a<;>simp [AgrO]
theorem AgrO.symm {c n a b} (h:AgrO c n a b):AgrO c n b a:=by
 cases a<;>cases b<;>simp [AgrO] at h ⊢;grind
def rW (x:Nat×Nat×Nat×Nat) (s t:List gP):Prop:=AgrO x.2.2.1 x.2.2.2 (bD s x.1 x.2.1) (bD t x.1 x.2.1)
structure Agr (R:List Nat) (F:Foot) (s t:St):Prop where
 fr:∀ i∈R,gets s.fr i=gets t.fr i
 acc:∀ x∈F.rd++F.wr,rW x s.bx t.bx
 nw:∀ i∈F.nw,(bD s.bx 0 i=none↔bD t.bx 0 i=none)
 len:s.bx.length=t.bx.length
theorem rW.some {x s t a} (h:rW x s t) (d:bD s x.1 x.2.1 = .some a) :
  ∃ b,bD t x.1 x.2.1 = .some b/\a.length=b.length/\∀ k,x.2.2.1<=k->k<x.2.2.1+x.2.2.2->a[k]?=b[k]?:=by
 unfold rW at h;rw [d] at h;cases c:bD t x.1 x.2.1 with
 | none=>rw [c] at h;simp [AgrO] at h
 | some b=>rw [c] at h;exact ⟨b,rfl,h⟩
theorem aZw {off n d a b v} (e:a.length=b.length) (f:∀ k,off<=k->k<off+n->a[k]?=b[k]?) (g:0<n) (h:part off n d a=some v):part off n d b=some v:=by
 unfold part at h ⊢;cases d with
 | true =>
  simp only at h ⊢;rw [<- e];split at h;· rename_i c;rw [if_pos c,<- h];congr 2;apply aaS;grind
  grind
 | false =>
  simp [jU] at h ⊢;grind
section
variable {P : Program} {mt : Hints} {nt : Nat} {O : Orc}
def aHB (fr fr':List (Nat×PV)) (x:Operand):Prop:=opd fr x=opd fr' x/\∀ a,opv fr a x=opv fr' a x/\left fr a x=left fr' a x
theorem bI7 {fr fr'} {x:Operand} (h:∀ t,x = .tmp t->gets fr t=gets fr' t):aHB fr fr' x:=by
 cases x with
 | tmp t =>
  have:=h t rfl;refine ⟨this,fun a => ?_⟩;cases a<;>simp [opv,left,this]
 | const v=>exact ⟨rfl,fun a=>⟨rfl,rfl⟩⟩
 | global g=>exact ⟨rfl,fun a=>⟨rfl,rfl⟩⟩
 | func f=>exact ⟨rfl,fun a=>⟨rfl,rfl⟩⟩
theorem bBw {o fr fr' bx} (h:∀ x∈o.op.operands.toList,aHB fr fr' x) :
  aX P mt nt O o ⟨fr,bx⟩ some=aX P mt nt O o ⟨fr',bx⟩ some:=by
 have e:∀ (l:List Operand) (tk:Bool),(∀ x∈l,aHB fr fr' x)->l.map (opv fr tk)=l.map (opv fr' tk):=by
  intro l tk hl;exact aaU fun x hx=>((hl x hx).2 tk).1
 have mapp:∀ (l:List (Nat×Operand)) (tk:Bool),(∀ x∈l.map (·.2),aHB fr fr' x)->l.map (fun p=>(p.1,opv fr tk p.2))=l.map (fun p=>(p.1,opv fr' tk p.2)):=by
  intro l tk hl;exact aaU fun p g=>by rw [((hl p.2 (aah.2 ⟨p,g,rfl⟩)).2 tk).1]
 have mapl:∀ (l:List Operand) (tk:Bool),(∀ x∈l,aHB fr fr' x)->l.flatMap (left fr tk)=l.flatMap (left fr' tk):=by
  intro l tk;induction l with
  | nil=>intro _;rfl
  | cons x l D=>intro hl;simp only [ab2];rw [((hl x (by simp)).2 tk).2,D fun y hy=>hl y (by simp [hy])]
 cases ho:o.op with
 | move x =>
  have hx:=h x (by simp [ho,Op.operands]);simp only [aX,ho,(hx.2 _).1,(hx.2 _).2]
 | assign x =>
  have hx:=h x (by simp [ho,Op.operands]);simp only [aX,ho,(hx.2 _).1,(hx.2 _).2]
 | pick c a b =>
  have h1:=h c (by simp [ho,Op.operands]);have h2:=h a (by simp [ho,Op.operands]);have z:=h b (by simp [ho,Op.operands]);simp only [aX,ho,h1.1,(h2.2 _).1,(z.2 _).1]
 | alloc t=>simp only [aX,ho,newBox,lB]
 | box t x =>
  have hx:=h x (by simp [ho,Op.operands]);simp only [aX,ho,newBox,lB,(hx.2 _).1,(hx.2 _).2]
 | build t ps =>
  have g:=mapp ps.toList false (fun x hx=>h x (by simpa [ho,Op.operands] using hx));simp only [aX,ho,g]
 | buildSlice t n ps =>
  have g:=mapp ps.toList false (fun x hx=>h x (by simpa [ho,Op.operands] using hx));simp only [aX,ho,g]
 | load t p =>
  have hx:=h p (by simp [ho,Op.operands]);simp only [aX,ho,hx.1]
 | store t p x =>
  have h1:=h p (by simp [ho,Op.operands]);have h2:=h x (by simp [ho,Op.operands]);simp only [aX,ho,h1.1,(h2.2 _).1,(h2.2 _).2]
 | nilCheck x =>
  have hx:=h x (by simp [ho,Op.operands]);simp only [aX,ho,hx.1]
 | binOp E t x y u =>
  have h1:=h x (by simp [ho,Op.operands]);have h2:=h y (by simp [ho,Op.operands]);simp only [aX,ho,h1.1,h2.1]
 | unOp E u x =>
  have hx:=h x (by simp [ho,Op.operands]);simp only [aX,ho,hx.1]
 | convert s d x =>
  have hx:=h x (by simp [ho,Op.operands]);simp only [aX,ho,hx.1]
 | makeSlice t l c =>
  have h1:=h l (by simp [ho,Op.operands]);have h2:=h c (by simp [ho,Op.operands]);simp only [aX,ho,h1.1,h2.1,sS,lB]
 | makeMap t r=>simp only [aX,ho,lB]
 | lookup t m k c =>
  have h1:=h m (by simp [ho,Op.operands]);have h2:=h k (by simp [ho,Op.operands]);simp only [aX,ho,h1.1,h2.1]
 | mapUpdate t m k v =>
  have h1:=h m (by simp [ho,Op.operands]);have h2:=h k (by simp [ho,Op.operands]);have z:=h v (by simp [ho,Op.operands]);simp only [aX,ho,h1.1,h2.1,z.1]
 | makeFunc H first caps =>
  have q:first.toList.map (fun x=>(opd fr x).plain)=first.toList.map (fun x=>(opd fr' x).plain):=aaU fun x hx=>by rw [(h x (by simp [ho,Op.operands];left;simpa using hx)).1]
  have A:caps.toList.map (fun x=>(opd fr x).plain)=caps.toList.map (fun x=>(opd fr' x).plain):=aaU fun x hx=>by rw [(h x (by simp [ho,Op.operands];right;simpa using hx)).1]
  simp only [aX,ho,q,A]
 | slice t x l C m =>
  have hx:=h x (by simp [ho,Op.operands]);have hl:∀ y,l=some y->opd fr y=opd fr' y:=fun y hy=>(h y (by simp [ho,Op.operands,hy])).1;have B:∀ y,C=some y->opd fr y=opd fr' y:=fun y hy=>(h y (by simp [ho,Op.operands,hy])).1;simp only [aX,ho,yS,hx.1];cases l<;>cases C<;>cases m<;>(try have q:=hl _ rfl)<;>(try have A:=B _ rfl)<;>(try simp only [q])<;>(try simp only [A])<;>(try rfl)<;>(repeat' split)<;>first | rfl | (exfalso;simp_all;done)
 | fieldAddr s x f =>
  have hx:=h x (by simp [ho,Op.operands]);simp only [aX,ho,hx.1]
 | field s x f =>
  have hx:=h x (by simp [ho,Op.operands]);simp only [aX,ho,hx.1]
 | indexAddr t x i =>
  have h1:=h x (by simp [ho,Op.operands]);have h2:=h i (by simp [ho,Op.operands]);simp only [aX,ho,h1.1,h2.1]
 | index t x i =>
  have h1:=h x (by simp [ho,Op.operands]);have h2:=h i (by simp [ho,Op.operands]);simp only [aX,ho,h1.1,h2.1]
 | extract x i =>
  have hx:=h x (by simp [ho,Op.operands]);simp only [aX,ho,hx.1]
 | call c =>
  have hargs:∀ x∈c.args.toList,aHB fr fr' x:=fun x hx=>h x (by simp [ho,Op.operands,Call.operands];right;simpa using hx);have hv:=fun tk=>e c.args.toList tk hargs;have hl:=fun tk=>mapl c.args.toList tk hargs;simp only [aX,ho,lW];cases G:c.callee with
  | value f =>
   have F:=h f (by simp [ho,Op.operands,Call.operands,G]);simp only [F.1,hv,hl,sS,lB]
  | invoke r n=>rfl
  | builtin b =>
   have two:∀ {x y},c.args.toList=[x,y]->aHB fr fr' x/\aHB fr fr' y:=fun hxy=>⟨by grind,by grind⟩;have w:∀ {x},c.args.toList=[x]->aHB fr fr' x:=fun hxy=>by grind
   cases b with
   | len =>
    simp only;split;· rename_i hxy j;have h1:=w hxy;rw [h1.1]
    ·rfl
   | append =>
    simp only;split;· rename_i hxy j;obtain ⟨h1,h2⟩:=two hxy;rw [h1.1,h2.1,(h1.2 _).2];simp only [sS,lB]
    ·rfl
   | min =>
    simp only;split;· rename_i hxy;obtain ⟨h1,h2⟩:=two hxy;rw [h1.1,h2.1]
    rfl
   | max =>
    simp;split;· rename_i hxy;obtain ⟨h1,h2⟩:=two hxy;rw [h1.1,h2.1]
    rfl
   | _=>rfl
 | _=>simp [aX,ho]
theorem aSx {o n g v lv fr bx a e} (h:newBox nt o n g v lv ⟨fr,bx⟩ some=some e)
  (u:bx.length=a.length) (l:∀ i∈e.foot.nw,(bD bx 0 i=none↔bD a 0 i=none)):newBox nt o n g v lv ⟨fr,a⟩ some=some e:=by
 unfold newBox at h ⊢;split at h
 ·rename_i id d;obtain ⟨k,f,t,r,j,q⟩:=jV d;simp at j;obtain ⟨cs,p,h⟩:=aB h;rcases bQ h with ⟨s,h⟩ | ⟨_,h⟩
  ·cases h;have b:=(l id (by simp [Eff.foot])).1 (by rw [j,bI];omega);cases c:a with
   | nil=>grind
   | cons b1 m =>
    rw [c,bI] at b;have:lB nt ⟨fr,b1::m⟩ o.dst=some id:=by simp [lB,k,b,f]
    grind
  grind
 grind
theorem aMc {o sz E lv fr bx a e} (h:sS nt o sz E lv ⟨fr,bx⟩ some=some e)
  (p:bx.length=a.length) (k:∀ i∈e.foot.nw,(bD bx 0 i=none↔bD a 0 i=none)):sS nt o sz E lv ⟨fr,a⟩ some=some e:=by
 unfold sS at h ⊢;split at h
 ·rename_i id d;obtain ⟨j,f,n,r,g,m⟩:=jV d;simp at g;cases h;have b:=(k id (by simp [Eff.foot])).1 (by rw [g,bI];omega);cases c:a with
  | nil=>grind
  | cons b1 l =>
   rw [c,bI] at b;have:lB nt ⟨fr,b1::l⟩ o.dst=some id:=by simp [lB,j,b,f]
   grind
 grind
theorem bHn {off n a cs v} (b:0<n) (h:part off n a cs=some v):off<cs.length:=by
 unfold part at h;split at h;· grind
 rw [jU] at h;grind
theorem aVy d vs:(vP d vs).length=vs.length:=by
 cases d<;>simp [vP]
theorem aMd {d id p bx a} (e:bD bx d id=some [p]) (k:rW (d,id,0,1) bx a):bD a d id=some [p]:=by
 obtain ⟨b,f,c,g⟩:=k.some e;match b,c with
 | [x],_ =>
  grind
theorem aVz {n a p cs} (h:sR n a p=some cs):cs.length=n:=by
 unfold sR at h;grind
theorem bBx {bx a}:∀ {l},l.all (aOg bx)=true->(∀ x∈rdV l,rW x bx a)->l.all (aOg a)=true/\l.map (brwV a)=l.map (brwV bx)
 | [],_,_=>⟨rfl,rfl⟩
 | v::l,h,g=>by
  simp only [aaL,aa0] at h;have e:aOg a v=true/\brwV a v=brwV bx v/\∀ x∈rdV l,x∈rdV (v::l):=by
   have d:=h.1;unfold aOg at d;split at d
   ·split at d;· rename_i i E f;have b:=aMd f (g _ (by simp [rdV]));refine ⟨by simp only [aOg,b];exact d,by simp [brwV,f,b],fun x c=>by simp [rdV,c]⟩
    grind
   refine ⟨?_,?_,fun x c => ?_⟩;· unfold aOg;simp
   ·unfold brwV;simp
   unfold rdV;grind
  obtain ⟨j,k⟩:=bBx h.2 fun x c=>g x (e.2.2 x c);grind
theorem aXT {σ} {bx a}:∀ {l j},(∀ q∈l,bD a q.1 q.2=bD bx q.1 q.2)->selF σ a l j=selF σ bx l j
 | [],_,_=>rfl
 | (d,id)::l,j,h=>by simp [selF,h (d,id) (by simp),aXT (l:=l) (j:=j+1) fun q b=>h q (by grind)]
theorem bHo {σ} {bx a:List gP} {fr} (f:selF σ bx σ 0=some fr) (l:∀ x∈rdP bx σ,rW x bx a):selF σ a σ 0=some fr/\rdP a σ=rdP bx σ:=by
 have c:∀ q∈σ,bD a q.1 q.2=bD bx q.1 q.2:=by
  intro q e;obtain ⟨i,g⟩:=aao.1 e;obtain ⟨s,o,k,m,r⟩:=aDN f;cases j:look fr i with
  | none=>have:=m i (aaP _) j;rw [ab4,jU,g] at this;grind
  | some cs' =>
   obtain ⟨d,id,cs,g1,g2,_⟩:=k i cs' j;rw [ab4,jU,g] at g1;cases g1;obtain ⟨b,n,h,p⟩:=(l _ (aah.2 ⟨_,e,rfl⟩)).some g2;rw [n,g2];congr 1;apply aaS;grind
 refine ⟨(aXT c).trans f,?_⟩;unfold rdP;simp_all
theorem bBy {o fr bx bx' e} (h:aX P mt nt O o ⟨fr,bx⟩ some=some e) (X:e.up=none)
  (hl:bx.length=bx'.length) (hn:∀ i∈e.foot.nw,(bD bx 0 i=none↔bD bx' 0 i=none)) (ha:∀ x∈e.foot.rd++e.foot.wr,rW x bx bx') :
  aX P mt nt O o ⟨fr,bx'⟩ some=some e:=by
 cases ho:o.op with
 | alloc t =>
  simp only [aX,ho] at h ⊢;split at h;· rename_i n M z h1 N h3;exact aSx h hl hn
  ·simp at h
 | box t x =>
  simp only [aX,ho] at h ⊢;split at h;· rename_i n M h1 N;exact aSx h hl hn
  ·simp at h
 | load t p =>
  simp only [aX,ho] at h ⊢;split at h
  ·rename_i n M h1 N;split at h
   ·rename_i d id off a;split at h
    ·rename_i hc;obtain ⟨cs,hcs,h⟩:=aB h;split at h
     ·rename_i sz E;obtain ⟨v,hv,h⟩:=aB h;have key:rW (d,id,0,1) bx bx':=by
       cases h;exact ha _ (by simp [Eff.foot])
      rw [if_pos hc,aMd hcs key];simp only [bnd,hv];exact h
     ·simp at h
     ·rename_i _ F hnv2;obtain ⟨v,hv,h⟩:=aB h;have key:rW (d,id,off,n) bx bx':=by
       split at h;· cases h;exact ha _ (by simp [Eff.foot])
       ·cases h;exact ha _ (by simp [Eff.foot])
      obtain ⟨b,hb,hlen,hcells⟩:=key.some hcs;simp only at hb hlen hcells;have hle:off<cs.length:=bHn hc.1 hv;have H:=aZw hlen hcells hc.1 hv;rw [if_pos hc,hb];simp only [bnd];split
      ·rename_i sz' E';have h0:=hcells off (by omega) (by omega);have:cs.length=1:=by simpa using hlen
       match cs,this with
       | [x],_ =>
        have:off=0:=by simp at hle;exact hle
        subst this;simp at h0;exact by grind
      ·rename_i sz' E';have h0:=hcells off (by omega) (by omega);have:cs.length=1:=by simpa using hlen
       match cs,this with
       | [x],_ =>
        have:off=0:=by simp at hle;exact hle
        subst this;simp at h0;exact by grind
      ·simp only [H];exact h
    ·simp at h
   ·rename_i v a;exact h
   ·simp at h
  ·simp at h
 | store t p x =>
  simp only [aX,ho] at h ⊢;split at h
  ·rename_i n M h1 N;split at h
   ·rename_i d id off a w;obtain ⟨cs,hcs,h⟩:=aB h;obtain ⟨vs,hvs,h⟩:=aB h;split at h
    ·rename_i sz E;split at h
     ·rename_i hn0;obtain ⟨E',s,h⟩:=aB h;have key:rW (d,id,0,1) bx bx':=by
       cases h;exact ha _ (by simp [Eff.foot])
      rw [aMd hcs key];simp only [bnd,hvs,if_pos hn0,s];exact h
     ·simp at h
    ·simp at h
    rename_i _ F hnv2;rcases bQ h with ⟨T,h⟩ | ⟨_,h⟩
    ·split at h
     ·rename_i hc;have V:(vP d vs).length=n:=by rw [aVy,aVz hvs]
      have key:rW (d,id,off,(vP d vs).length) bx bx':=by
       cases h;exact ha _ (by simp [Eff.foot])
      obtain ⟨b,hb,hlen,hcells⟩:=key.some hcs;simp only at hb hlen hcells;rw [hb];simp only [bnd,hvs];split
      ·rename_i sz' E';have h0:=hcells off (by omega) (by omega);have h1:cs.length=1:=by simpa using hlen
       match cs,h1 with
       | [x],_ =>
        have:off=0:=by simp at hc;omega
        subst this;simp at h0;exact by grind
      ·rename_i sz' E';have h0:=hcells off (by omega) (by omega);have h1:cs.length=1:=by simpa using hlen
       match cs,h1 with
       | [x],_ =>
        have:off=0:=by simp at hc;omega
        subst this;simp at h0;exact by grind
      simp only [T,cnd];rw [if_pos (by rw [<- hlen];exact hc)];exact h
     ·simp at h
    ·simp at h
   ·simp at h
  ·simp at h
 | makeMap t r =>
  simp only [aX,ho] at h ⊢;split at h
  ·rename_i kd z id K D;obtain ⟨w,q,Z,S,hb,J⟩:=jV D;simp only at hb;cases h;have hn0:=(hn id (by simp [Eff.foot])).1 (by rw [hb,bI];exact J);cases hbx':bx' with
   | nil=>rw [hb,hbx'] at hl;simp at hl
   | cons b1 S =>
    rw [hbx',bI] at hn0;have:lB nt ⟨fr,b1::S⟩ o.dst=some id:=by simp [lB,w,hn0,q]
    rw [this,K]
  ·simp at h
 | lookup t m k c =>
  simp only [aX,ho] at h ⊢;split at h
  ·rename_i kd z d id K W;split at h
   ·rename_i A E hb;split at h;· rename_i hkd;obtain ⟨r,hr,h⟩:=aB h;rw [aMd hb (by cases h;exact ha _ (by simp [Eff.foot]))];simp only [hkd,hr,bnd];exact h
    ·simp at h
   ·simp at h
  ·simp at h
 | mapUpdate t m k v =>
  simp only [aX,ho] at h ⊢;split at h
  ·rename_i kd z d id K W w;split at h
   ·rename_i A E hb;split at h;· rename_i hkd;obtain ⟨r,hr,h⟩:=aB h;rw [aMd hb (by cases h;exact ha _ (by simp [Eff.foot]))];simp only [hkd,hr,bnd];exact h
    ·simp at h
   ·simp at h
  ·simp at h
 | makeSlice t l c =>
  simp only [aX,ho] at h ⊢;split at h
  ·split at h
   ·split at h
    ·rename_i hcond;rw [if_pos hcond];split at h;· obtain ⟨E,hE,h⟩:=aB h;simp only [hE,bnd];exact aMc h hl hn
     ·exact h
    ·simp at h
   ·simp at h
  ·simp at h
 | call c =>
  simp only [aX,ho,lW] at h ⊢;cases hc:c.callee with
  | value f =>
   simp only [hc] at h ⊢;split at h
   ·rename_i g first caps T;split at h;· simp at h
    ·rcases bQ h with ⟨G,h⟩ | ⟨_,h⟩
     ·split at h
      ·rename_i σ j off n R;rcases bQ h with ⟨I,h⟩ | ⟨_,h⟩
       ·obtain ⟨Y,L,h⟩:=aB h;obtain ⟨fr',hfr',h⟩:=aB h;obtain ⟨r,hr,h⟩:=aB h;rcases bQ h with ⟨hfree,h⟩ | ⟨_,h⟩;· obtain ⟨vs,hvs,h⟩:=aB h;obtain ⟨p,a,h⟩:=aB h;obtain ⟨y,C⟩:=bHo hfr' (fun x u=>by cases h;exact ha x (by simp only [Eff.foot];exact by grind));rw [G];simp only [I,L,y,hr,hfree,hvs,a,C,cnd,bnd];exact h
        ·simp at h
       ·simp at h
      ·obtain ⟨r,_,h⟩:=aB h;cases h;simp at X
     ·simp at h
    ·split at h
     ·rcases bQ h with ⟨B,h⟩ | ⟨_,h⟩
      ·have u:∀ x∈rdV (first++c.args.toList.map (opv fr (hasO mt.takes o.dst))++caps),rW x bx bx':=by
        unfold aBA at h;rcases bQ h with ⟨hfr,h⟩ | ⟨_,h⟩
        ·obtain ⟨r,hr,h⟩:=aB h;split at h
         ·rcases bQ h with ⟨U,h⟩ | ⟨_,h⟩;· cases h;exact fun x u=>ha x (by simp only [Eff.foot];exact by grind)
          ·simp at h
         ·simp at h
        ·simp at h
       obtain ⟨y,C⟩:=bBx B u;rw [y,C];exact h
      ·simp at h
     ·exact h
     ·unfold aBA at h ⊢;rcases bQ h with ⟨hfr,h⟩ | ⟨_,h⟩
      ·obtain ⟨r,hr,h⟩:=aB h;split at h;· rename_i Q;obtain ⟨E,hE,h⟩:=aB h;simp only [hfr,cnd,hr,bnd,Q,hE];exact aMc h hl hn
       ·simp at h
      ·simp at h
     ·exact h
   ·simp at h
  | invoke r n=>simp only [hc] at h ⊢;exact h
  | builtin b =>
   cases b with
   | append =>
    simp only [hc] at h ⊢;split at h
    ·split at h
     ·split at h
      ·split at h
       ·rename_i hcond;rw [if_pos hcond];split at h;· obtain ⟨E,hE,h⟩:=aB h;simp only [hE,bnd];exact aMc h hl hn
        exact h
       simp at h
      simp at h
     ·exact h
     ·simp at h
    ·simp at h
   | _=>simp [hc] at h ⊢ <;> exact h
 | _=>simp [aX,ho] at h ⊢ <;> exact h
theorem aJ9 {o s t R e} (f:∀ x∈o.op.operands.toList,∀ i,x = .tmp i->i∈R) (h:aX P mt nt O o s some=some e) (c:e.up=none) (a:Agr R e.foot s t) :
  aX P mt nt O o t some=some e:=by
 obtain ⟨fr,bx⟩:=s;obtain ⟨fr',b⟩:=t;rw [bBw (fr:=fr) (fr':=fr') (fun x d=>bI7 fun i g=>a.fr i (by grind))] at h;exact bBy h c a.len a.nw a.acc
def aAE (a:Array Oper):Nat->Oper->List (Nat×PV)->Option Bool
 | 0,_,_=>none
 | n+1,o,fr =>
  match o.guard with
  | none=>some true
  | some (g,c) =>
   match a[g]? with
   | some q =>
    match q.dst with
    | some s =>
     match aAE a n q fr with
     | some true=>bnd (aDy (gets fr s)) fun b=>some (b==c)
     | some false=>match gets fr s with
      | .und=>some false
      | _=>none
     | none=>none
    | none=>none
   | none=>none
theorem aDR {a}:∀ n o fr fr',(∀ i∈aE4 a n o,gets fr i=gets fr' i)->aAE a n o fr=aAE a n o fr'
 | 0,_,_,_,_=>rfl
 | n+1,o,fr,fr',h=>by
  simp [aAE];simp [aE4] at h;cases f:o.guard with
  | none=>rfl
  | some d =>
   obtain ⟨g,b⟩:=d;rw [f] at h;simp at h ⊢;cases c:a[g]? with
   | none=>rfl
   | some q =>
    rw [c] at h;simp at h ⊢;cases e:q.dst with
    | none=>rfl
    | some s =>
     rw [e] at h;simp only at h ⊢;rw [aDR n q fr fr' (fun i j=>by grind),h s (by simp)]
theorem aE9 {c R}:∀ n o st (K:Bool->St->Option R) r,nX c n o st K=some r ->
  ∃ b fr',aAE c n o st.fr=some b/\(∀ i,gets fr' i=gets st.fr i)/\K b {st with fr:=fr'}=some r
 | 0,_,_,_,_,h=>by simp [nX] at h
 | n+1,o,st,K,r,h=>by
  simp [nX] at h;simp only [aAE];cases k:o.guard with
  | none=>rw [k] at h;exact ⟨true,st.fr,rfl,fun _=>rfl,h⟩
  | some l =>
   obtain ⟨g,d⟩:=l;rw [k] at h;simp only at h ⊢;cases f:c[g]? with
   | none=>rw [f] at h;simp at h
   | some q =>
    rw [f] at h;simp only at h ⊢;cases j:q.dst with
    | none=>rw [j] at h;simp at h
    | some s =>
     rw [j] at h;simp only at h ⊢;obtain ⟨b,fr',m,e,h⟩:=aE9 n q st _ r h;rw [m];cases b with
     | true =>
      obtain ⟨b,a,h⟩:=aB h;rw [e s] at a;rw [a];have p:gets st.fr s = .bool b:=by
       unfold aDy at a;grind
      refine ⟨b==d,(s,.bool b)::fr',rfl,?_,?_⟩;· intro i;rw [gL];grind
      rcases bQ h with ⟨rfl,h⟩ | ⟨rfl,h⟩<;>exact h
     | false =>
      grind
end
theorem yN {α}:∀ (vs:List α) l i j,(putAt l i vs)[j]?=if i<=j/\j<i+vs.length/\j<l.length then vs[j-i]? else l[j]?
 | [],l,i,j=>by simp [putAt];omega
 | v::vs,l,i,j=>by
  simp [putAt];rw [yN vs _ (i+1) j];simp [lC];grind
theorem aZx {α} (l vs us:List α) i j (h:i+vs.length<=j∨j+us.length<=i∨vs=[]∨us=[]):putAt (putAt l i vs) j us=putAt (putAt l j us) i vs:=by
 rcases h with h | h | h | h;· apply aaS;simp [yN,eM];grind
 ·apply aaS;simp [yN,eM];grind
 ·subst h;rfl
 subst h;rfl
theorem aVA {l i}:has l i=true↔i∈l:=by simp [has]
theorem aXU {a b}:disj a b=true↔∀ x∈a,x∉b:=by
 simp [disj];constructor;· intro h x c e;have:=h x c;rw [aVA.2 e] at this;grind
 intro h x c;cases d:has b x with
 | false=>rfl
 | true=>exact absurd (aVA.1 d) (h x c)
def Apt (a b:Nat×Nat×Nat×Nat):Prop:=¬ (a.1=b.1/\a.2.1=b.2.1/\a.2.2.1<b.2.2.1+b.2.2.2/\b.2.2.1<a.2.2.1+a.2.2.2)
structure ApF (a b:Foot):Prop where
 ww:∀ x∈a.wr,∀ y∈b.wr,Apt x y
 wr:∀ x∈a.wr,∀ y∈b.rd,Apt x y
 rw:∀ x∈a.rd,∀ y∈b.wr,Apt x y
 nn:∀ i∈a.nw,i∉b.nw
 na:∀ i∈a.nw,∀ y∈b.rd++b.wr,¬ (y.1=0/\y.2.1=i)
 an:∀ i∈b.nw,∀ y∈a.rd++a.wr,¬ (y.1=0/\y.2.1=i)
theorem Apt.symm {a b} (h:Apt a b):Apt b a:=fun ⟨f,e,d,c⟩=>h ⟨f.symm,e.symm,c,d⟩
theorem ApF.symm {a b} (h:ApF a b):ApF b a :=
 ⟨fun x d y c=>(h.ww y c x d).symm,fun x d y c=>(h.rw y c x d).symm,fun x d y c=>(h.wr y c x d).symm,fun i e f=>h.nn i f e,h.an,h.na⟩
theorem aI2 {a b} (h:aRY a b=true):∀ x∈a,∀ y∈b,Apt x y:=by
 simp only [aRY,aak] at h;intro x e y d c;have:=h x e y d;simp [bI2,c.1,c.2.1,c.2.2.1,c.2.2.2] at this
theorem aI3 {a b} (h:aXy a b=true):(∀ i∈a,i∉b.nw)/\∀ i∈a,∀ y∈b.rd++b.wr,¬ (y.1=0/\y.2.1=i):=by
 simp [aXy] at h;constructor;· intro i c d;have:=(h i c).1.1;rw [aVA.2 d] at this;grind
 grind
theorem aZy {a b} (h:aOU a b=true):ApF a b:=by
 simp [aOU] at h;obtain ⟨⟨⟨⟨f,e⟩,d⟩,c⟩,g⟩:=h;exact ⟨aI2 f,aI2 e,aI2 d,(aI3 c).1,(aI3 c).2,(aI3 g).2⟩
theorem aVB a:ApF a ⟨[],[],[]⟩:=⟨by simp,by simp,by simp,by simp,by simp,by simp⟩
structure Ind (e1 e2:Eff):Prop where
 ws:∀ x∈e1.ws,∀ y∈e2.ws,x.1≠y.1
 ft:ApF e1.foot e2.foot
theorem Ind.symm {a b} (h:Ind a b):Ind b a:=⟨fun x d y c e=>h.ws y c x d e.symm,h.ft.symm⟩
theorem aZz {a b} (j:Shp a) (i:Shp b) (h:Ind a b) d id x:zB a.cw d id (zB b.cw d id x)=zB b.cw d id (zB a.cw d id x):=by
 rcases j.cw with f | ⟨c,f⟩;· rw [f];rfl
 rcases i.cw with e | ⟨g,e⟩;· rw [e];rfl
 have:=h.ft.ww (c.1,c.2.1,c.2.2.1,c.2.2.2.length) (by simp [Eff.foot,f]) (g.1,g.2.1,g.2.2.1,g.2.2.2.length) (by simp [Eff.foot,e]);rw [f,e];simp [zB];split
 ·split
  ·cases x with
   | none=>rfl
   | some cs =>
    simp;apply aZx;simp [Apt] at this;omega
  rfl
 rfl
theorem aMe {a b} (j:Shp a) (g:Shp b) (h:Ind a b) d id x:zB a.cw d id (aFK b.nw d id x)=aFK b.nw d id (zB a.cw d id x):=by
 rcases j.cw with f | ⟨c,f⟩;· rw [f];rfl
 rcases g.nw with e | ⟨i,e⟩;· rw [e];rfl
 have:=h.ft.an i.1 (by simp [Eff.foot,e]) (c.1,c.2.1,c.2.2.1,c.2.2.2.length) (by simp [Eff.foot,f]);simp [zB,aFK];grind
theorem aZA {a b} (i:Shp a) (g:Shp b) (h:Ind a b) d id x:aFK a.nw d id (aFK b.nw d id x)=aFK b.nw d id (aFK a.nw d id x):=by
 rcases i.nw with e | ⟨f,e⟩;· rw [e];rfl
 rcases g.nw with c | ⟨j,c⟩;· rw [c];rfl
 have:=h.ft.nn f.1 (by simp [Eff.foot,e]);rw [e,c];simp [aFK];split
 ·split;· exfalso;apply this;simp [Eff.foot,c];omega
  rfl
 rfl
theorem NeOk.app {e f s} (h:NeOk e s) (b:Shp f) (c:NeOk f s):NeOk e (f.app s):=fun a=>by rw [Eff.len_app b s c];exact h a
theorem bEt {a b s} (e:Shp a) (c:Shp b) (g:NeOk a s) (f:NeOk b s) (h:Ind a b):Eqv (a.app (b.app s)) (b.app (a.app s)):=by
 refine ⟨fun i => ?_,fun d id => ?_,?_⟩
 ·simp [Eff.fr_app];cases k:look a.ws i with
  | none=>rfl
  | some v =>
   cases j:look b.ws i with
   | none=>rfl
   | some u=>exact absurd rfl (h.ws (i,v) (nN k) (i,u) (nN j))
 ·rw [Eff.bx_app e _ (g.app c f),Eff.bx_app c _ f,Eff.bx_app c _ (f.app e g),Eff.bx_app e _ g,
   aMe e c h,aZz e c h,aZA e c h,aMe c e h.symm]
 rw [Eff.len_app e _ (g.app c f),Eff.len_app c _ f,Eff.len_app c _ (f.app e g),Eff.len_app e _ g]
theorem Agr.of_eqv {s t} (h:Eqv s t) R F:Agr R F s t:=by
 refine ⟨fun i _=>h.fr i,fun x _ => ?_,fun i _=>by rw [h.bx],h.len⟩;unfold rW;rw [h.bx];exact AgrO.refl _
theorem rW.symm {x s t} (h:rW x s t):rW x t s:=AgrO.symm h
theorem Agr.symm {R F s t} (h:Agr R F s t):Agr R F t s :=
 ⟨fun i a=>(h.fr i a).symm,fun x b=>(h.acc x b).symm,fun i a=>(h.nw i a).symm,h.len.symm⟩
theorem Agr.eqv_right {R F s t u} (h:Agr R F s t) (a:Eqv t u):Agr R F s u:=by
 refine ⟨fun i b=>(h.fr i b).trans (a.fr i),fun x c => ?_,fun i b=>by rw [<- a.bx];exact h.nw i b,h.len.trans a.len⟩;have:=h.acc x c;unfold rW at *;rw [<- a.bx];omega
theorem Agr.both {R F s t} (h:Agr R F s t) {e} (b:Shp e) (d:NeOk e s):Agr R F (e.app s) (e.app t):=by
 have c:NeOk e t:=fun g=>by rw [<- h.len];exact d g
 refine ⟨fun i l=>by rw [Eff.fr_app,Eff.fr_app,h.fr i l],fun x g => ?_,fun i l => ?_,by rw [Eff.len_app b s d,Eff.len_app b t c,h.len]⟩
 ·have:=h.acc x g;unfold rW at *;rw [Eff.bx_app b s d,Eff.bx_app b t c];have f:AgrO x.2.2.1 x.2.2.2 (zB e.cw x.1 x.2.1 (bD s.bx x.1 x.2.1)) (zB e.cw x.1 x.2.1 (bD t.bx x.1 x.2.1)):=by
   rcases b.cw with a | ⟨j,a⟩;· rw [a];exact this
   rw [a];simp [zB];split
   ·cases m:bD s.bx x.1 x.2.1<;>cases o:bD t.bx x.1 x.2.1<;>rw [m,o] at this;· trivial
    ·exact this
    ·exact this
    refine ⟨by rw [eM,eM,this.1],fun k a n => ?_⟩;rw [yN,yN,this.1,this.2 k a n]
   omega
  rcases b.nw with a | ⟨j,a⟩;· rw [a];exact f
  rw [a];simp [aFK];split;· exact AgrO.refl _
  exact f
 have:=h.nw i l;rw [Eff.bx_app b s d,Eff.bx_app b t c];have f:zB e.cw 0 i (bD s.bx 0 i)=none↔zB e.cw 0 i (bD t.bx 0 i)=none:=by
  rcases b.cw with a | ⟨j,a⟩;· rw [a];exact this
  rw [a];simp [zB];split;all_goals simp_all
 rcases b.nw with a | ⟨j,a⟩;· rw [a];exact f
 simp [aFK];grind
theorem Agr.right {R F s t} (h:Agr R F s t) {e} (f:Shp e) (d:NeOk e t) (y:∀ x∈e.ws,x.1∉R) (m:ApF e.foot F):Agr R F s (e.app t):=by
 refine ⟨fun i n => ?_,fun x b => ?_,fun i n => ?_,by rw [Eff.len_app f t d,h.len]⟩
 ·rw [Eff.fr_app,h.fr i n];cases z:look e.ws i with
  | none=>rfl
  | some v=>exact absurd n (y _ (nN z))
 ·have:=h.acc x b;have l:∀ c,e.cw=[c]->Apt (c.1,c.2.1,c.2.2.1,c.2.2.2.length) x:=by
   intro c q;have p:(c.1,c.2.1,c.2.2.1,c.2.2.2.length)∈e.foot.wr:=by simp [Eff.foot,q]
   rcases aa6.1 b with b | b;· exact m.wr _ p _ b
   exact m.ww _ p _ b
  have g:aFK e.nw x.1 x.2.1 (zB e.cw x.1 x.2.1 (bD t.bx x.1 x.2.1))=zB e.cw x.1 x.2.1 (bD t.bx x.1 x.2.1):=by
   rcases f.nw with a | ⟨j,a⟩;· rw [a];rfl
   have:=m.na j.1 (by simp [Eff.foot,a]) x b;simp [aFK];grind
  unfold rW at *;rw [Eff.bx_app f t d,g];rcases f.cw with a | ⟨j,a⟩;· rw [a];exact this
  have r:=l j a;rw [a];simp [zB];split
  ·cases o:bD s.bx x.1 x.2.1<;>cases u:bD t.bx x.1 x.2.1<;>rw [o,u] at this;· trivial
   ·exact this
   ·grind
   refine ⟨by rw [eM,this.1],fun k a w => ?_⟩;rw [yN,if_neg,this.2 k a w];simp [Apt] at r;omega
  omega
 have:=h.nw i n;rw [Eff.bx_app f t d,this];have g:aFK e.nw 0 i (zB e.cw 0 i (bD t.bx 0 i))=zB e.cw 0 i (bD t.bx 0 i):=by
  rcases f.nw with a | ⟨j,a⟩;· rw [a];rfl
  have:=m.nn j.1 (by simp [Eff.foot,a]);simp [aFK];grind
 rw [g];rcases f.cw with a | ⟨j,a⟩;· rw [a];rfl
 rw [a];simp [zB];split;· simp
 rfl
section
variable {P : Program} {mt : Hints} {nt : Nat} {O : Orc}
def undE (nt:Nat) (o:Oper):Eff:={ws:=dstW nt o.dst .und}
structure Stp (P:Program) (mt:Hints) (nt:Nat) (O:Orc) (ops:Array Oper) (o:Oper) (s:St) (b:Bool) (e:Eff):Prop where
 g:aAE ops (ops.size+1) o s.fr=some b
 t:b=true->aX P mt nt O o s some=some e/\e.up=none
 f:b=false->e=undE nt o
theorem bHp {st o}:EffOk mt st o (undE nt o) :=
 ⟨⟨rfl,.inl rfl,.inl rfl⟩,fun x a=>gD (aBG x a),by simp [undE]⟩
theorem Stp.ok {a o s b e} (h:Stp P mt nt O a o s b e):EffOk mt s o e:=by
 cases b with
 | true=>exact bBv (h.t rfl).1 (h.t rfl).2
 | false=>rw [h.f rfl];exact bHp
theorem EffOk.ne {s o e} (h:EffOk mt s o e):NeOk e s:=by
 intro a;cases b:e.nw with
 | nil=>grind
 | cons x l =>
  have:=(h.nw x (by grind)).2.2;grind
theorem aHC {a} {o:Oper}:∀ x∈o.op.operands.toList,∀ i,x = .tmp i->i∈aDB a o:=by
 intro x b i c;subst c;exact aa6.2 (.inl (List.mem_filterMap.2 ⟨_,b,rfl⟩))
theorem Stp.congr {a o s t b e} (h:Stp P mt nt O a o s b e) (d:Agr (aDB a o) e.foot s t):Stp P mt nt O a o t b e:=by
 refine ⟨?_,?_,h.f⟩;· rw [<- h.g];exact (aDR _ _ _ _ fun i j=>d.fr i (aa6.2 (.inr j))).symm
 intro c;exact ⟨aJ9 aHC (h.t c).1 (h.t c).2 d,(h.t c).2⟩
theorem bO {α β γ} (x:Option α) f (g:β->Option γ):bnd (bnd x f) g=bnd x fun a=>bnd (f a) g:=by cases x<;>rfl
theorem sX {β γ} c x y (g:β->Option γ):bnd (cnd c x y) g=cnd c (bnd x g) (bnd y g):=by cases c<;>rfl
theorem bBz {β γ} c [Decidable c] x y (g:β->Option γ):bnd (if c then x else y) g=if c then bnd x g else bnd y g:=by grind
theorem cM {α β} a (g:α->Option β):bnd (some a) g=g a:=rfl
theorem sY {α β} (g:α->Option β):bnd none g=none:=rfl
theorem aI4 {R} o sz E lv st (K:Eff->Option R):sS nt o sz E lv st K=bnd (sS nt o sz E lv st some) K:=by
 unfold sS;split<;>rfl
theorem jQ {R} o st (K : Eff -> Option R) : aX P mt nt O o st K = bnd (aX P mt nt O o st some) K := by
  unfold aX;dsimp only;cases o.op <;> dsimp only <;> first
    | rfl
    | (simp only [bO, sX, cM]; done)
    | skip
  case alloc t => 
    split
    · unfold newBox; split;· simp only [bO, sX, cM, sY]
      · rfl
    · rfl
  case box t x =>
    split
    · unfold newBox; split;· simp only [bO, sX, cM, sY]
      · rfl
    · rfl
  case build t ps =>
    split
    · split;· rw [zD, zD (R := Eff), bO]; simp only [cM]
      · rfl
    · split;· rw [zD, zD (R := Eff), bO]; simp only [cM]
      · rfl
    · rfl
  case buildSlice t n ps =>
    split
    · split
      · split;· rw [bO]; congr 1; funext z; rw [aHA, aHA (R := Eff), bO]; simp only [cM]
        · rfl
      · rfl
    · rfl
  case load t p =>
    split
    · split
      · split
        · simp only [bO]; congr 1; funext cs;split;· simp only [bO, cM]
          · rfl
          · simp only [bO]; congr 1; funext v; split <;> rfl
        · rfl
      · simp only [bO, cM]
      · rfl
    · rfl
  case store t p x =>
    split
    · split
      · simp only [bO]; congr 1; funext cs; congr 1; funext vs;split;· simp only [bO, sX, bBz, cM, sY]
        · rfl
        · simp only [bO, sX, bBz, cM, sY]
      · rfl
    · rfl
  case nilCheck x => split <;> rfl
  case binOp a t x y u =>
    unfold yT; dsimp only;split <;> (try split) <;> (try split) <;> first | rfl | simp only [bO, cM]
  case convert s d x =>
    unfold aHn; dsimp only;split <;> (try split) <;> first | rfl | simp only [bO, cM]
  case makeSlice t l c =>
    split
    · split
      · split
        · split;· simp only [bO]; congr 1; funext E; exact aI4 _ _ _ _ _ _
          · split;· simp only [bO, cM]
            · rfl
        · rfl
      · rfl
    · rfl
  case makeMap t r => split <;> rfl
  case lookup t m k c =>
    split
    · split
      · split;· simp only [bO, cM]
        · rfl
      · rfl
    · rfl
  case mapUpdate t m k v =>
    split
    · split
      · split;· simp only [bO, cM]
        · rfl
      · rfl
    · rfl
  case slice t x l h m =>
    unfold yS; dsimp only;split <;> (try split) <;> (try split) <;> first | rfl | simp only [bO, cM]
  case fieldAddr s x f =>
    split
    · split
      · split;· simp only [bO, cM]
        · rfl
      · rfl
    · rfl
  case field s x f =>
    split
    · split;· simp only [bO, cM]
      · rfl
    · rfl
  case indexAddr t x i =>
    split
    · split;· simp only [bO, cM]
      · rfl
    · split
      · split;· simp only [bO, cM]
        · rfl
      · rfl
    · rfl
  case index t x i =>
    split;· simp only [bO, cM]
    · split;· simp only [bO, cM]
      · rfl
    · rfl
  case call c =>
    unfold lW; dsimp only;cases c.callee with
    | value f =>
      dsimp only;split
      · split;· rfl
        · rw [sX]; congr 1; split <;> simp only [sX, bO, cM, sY]
        · split
          · unfold aBA; simp only [sX, bO, sY]; congr 1; congr 1; congr 1; funext r;split;· simp only [sX, bO, cM, sY]
            · rfl
          · rfl
          · unfold aBA; simp only [sX, bO, sY]; congr 1; congr 1; funext r;split;· simp only [bO]; congr 1; funext E; exact aI4 _ _ _ _ _ _
            · rfl
          · unfold aBA; simp only [sX, bO, sY]; congr 1; congr 1; funext r; split <;> rfl
      · rfl
    | invoke r n => rfl
    | builtin b =>
      cases b <;> dsimp only <;> first
        | rfl
        | (split;· simp only [bO, cM]
           · rfl)
        | (split;· split <;> first | rfl | simp only [bO, cM]
           rfl)
        | (split;· split <;> (try split) <;> (try split) <;> (try split) <;> first | rfl | (simp only [bO, cM]; done) | (simp [bO]; congr 1; funext E; exact aI4 _ _ _ _ _ _)
           rfl)
abbrev fold (es:List (Bool×Eff)) (s:St):St:=es.foldl (fun s x=>x.2.app s) s
def logs:Nat->List (Bool×Eff)->List (Nat×Foot)
 | _,[]=>[]
 | i,(b,e)::es=>logs (i+1) es++(if b then [(i,e.foot)] else [])
theorem aXV {ops R} : ∀ os i log st s (K : List (Nat × Foot) -> St -> Option R) r,
    eF P mt nt O ops i os log st K = some r -> Eqv st s ->
    ∃ es, es.length <= os.length /\ (∀ k o, k < es.length -> os[k]? = some o -> ∃ x, es[k]? = some x /\ Stp P mt nt O ops o (fold (es.take k) s) x.1 x.2) /\
      ∃ st', Eqv st' (fold es s) /\ (st.bx = s.bx -> st'.bx = (fold es s).bx) /\
        ((es.length = os.length /\ K (logs i es ++ log) st' = some r) ∨
         ∃ (o : Oper) (e : Eff) (fr2 : List (Nat × PV)), os[es.length]? = some o /\ aVa (Region.before ops) ops.size (i + es.length) = true /\ aAE ops (ops.size + 1) o st'.fr = some true /\
           (∀ j, gets fr2 j = gets st'.fr j) /\ aX P mt nt O o { st' with fr := fr2 } some = some e /\
           eF P mt nt O ops (i + es.length + 1) (os.drop (es.length + 1)) (logs i es ++ log) (e.app { st' with fr := fr2 }) K = some r)
  | [], i, log, st, s, K, r, h, he => ⟨[], by omega, by simp, st, he, fun hb => hb, .inl ⟨rfl, h⟩⟩
  | o :: os, i, log, st, s, K, r, h, he => by
    simp [eF] at h;obtain ⟨b, fr', n, hfr, h⟩ := aE9 _ _ _ _ _ h;have he' : Eqv { st with fr := fr' } s := ⟨fun j => (hfr j).trans (he.fr j), he.bx, he.len⟩;have hgs : aAE ops (ops.size + 1) o s.fr = some b := by
      rw [<- n]; exact aDR _ _ _ _ fun j _ => (he.fr j).symm
    have main : ∀ e log', Stp P mt nt O ops o s b e -> log' = (if b then [(i, e.foot)] else []) ++ log ->
        eF P mt nt O ops (i + 1) os log' (e.app { st with fr := fr' }) K = some r ->
        ∃ es, es.length <= (o :: os).length /\ (∀ k o', k < es.length -> (o :: os)[k]? = some o' -> ∃ x, es[k]? = some x /\ Stp P mt nt O ops o' (fold (es.take k) s) x.1 x.2) /\
          ∃ st', Eqv st' (fold es s) /\ (st.bx = s.bx -> st'.bx = (fold es s).bx) /\
            ((es.length = (o :: os).length /\ K (logs i es ++ log) st' = some r) ∨
             ∃ (o2 : Oper) (e : Eff) (fr2 : List (Nat × PV)), (o :: os)[es.length]? = some o2 /\ aVa (Region.before ops) ops.size (i + es.length) = true /\ aAE ops (ops.size + 1) o2 st'.fr = some true /\
               (∀ j, gets fr2 j = gets st'.fr j) /\ aX P mt nt O o2 { st' with fr := fr2 } some = some e /\
               eF P mt nt O ops (i + es.length + 1) ((o :: os).drop (es.length + 1)) (logs i es ++ log) (e.app { st' with fr := fr2 }) K = some r) := by
      intro e log' g B h;have hok  := g.ok;have f  := he'.app hok.shp (fun d => by rw [he'.len]; exact hok.ne d);obtain ⟨es, A, E, st', D, y, l⟩ := aXV os (i + 1) log' _ _ K r h f;have hlogs : logs i ((b, e) :: es) ++ log = logs (i + 1) es ++ log' := by
        simp only [logs]; rw [aax, <- B]
      refine ⟨(b, e) :: es, by simpa using A, ?_, st', D, fun hb => y (by simp [Eff.app, hb]), ?_⟩
      · intro k o' a hk;cases k with
        | zero => simp at hk; subst hk; exact ⟨(b, e), rfl, g⟩
        | succ k =>
          simp at hk;obtain ⟨x, d, c⟩ := E k o' (by simpa using a) hk;exact ⟨x, by simpa using d, by simpa using c⟩
      rw [hlogs];rcases l with ⟨l, G⟩ | ⟨o2, v, fr2, w, z, t, q, C, p⟩;· exact by grind
      refine .inr ⟨o2, v, fr2, by simpa using w, ?_, t, q, C, ?_⟩;· rw [<- z]; congr 1; simp; omega
      rw [<- p];have : i + ((b, e) :: es).length + 1 = i + 1 + es.length + 1 := by simp; omega
      rw [this]; rfl
    cases b with
    | true =>
      simp at h;rw [jQ] at h;obtain ⟨e, hev, h⟩ := aB h;cases m : e.up with
      | some u =>
        rw [m] at h;simp at h;split at h;· rename_i F;refine ⟨[], by simp, by simp, st, he, fun hb => hb, .inr ⟨o, e, fr', rfl, F, n, fun j => hfr j, hev, ?_⟩⟩;exact h
        simp at h
      | none =>
        have hev'  := m;rw [hev'] at h;simp at h;have hevs  := aJ9 (R := aDB ops o) aHC hev hev' (Agr.of_eqv he' _ _);exact main e _ ⟨hgs, fun _ => ⟨hevs, hev'⟩, by simp⟩ rfl h
    | false =>
      refine main (undE nt o) log ⟨hgs, by simp, fun _ => rfl⟩ rfl ?_;exact h
theorem aGB {bs}:∀ l m,wO bs (l++m)=true->wO bs m=true
 | [],m,h=>h
 | (j,f)::l,m,h=>by
  simp [wO] at h;exact aGB l m h.2
theorem aSy {bs}:∀ es i a,wO bs (logs i es++a)=true ->
  (∀ k e,es[k]?=some (true,e)->∀ x∈a,vQ bs x.1 (i+k)=true∨aOU x.2 e.foot=true) /\
  ∀ k k' e c,k<k'->es[k]?=some (true,e)->es[k']?=some (true,c)->vQ bs (i+k) (i+k')=true∨aOU e.foot c.foot=true
 | [],i,a,_=>⟨by simp,by simp⟩
 | (b,e)::es,i,a,h=>by
  simp [logs] at h;obtain ⟨l,p⟩:=aSy es (i+1) _ h;have j:=aGB _ _ h;constructor
  ·intro k c d x g;cases k with
   | zero =>
    obtain ⟨rfl,rfl⟩:=d;simp only [if_true,List.singleton_append,wO,aa0,aak,aay] at j;exact j.1 x g
   | succ k =>
    have:=l k c d x (aa6.2 (.inr g));rw [show i+(k+1)=i+1+k by omega];exact this
  intro k k' o m n d f;cases k' with
  | zero=>omega
  | succ k' =>
   rw [show i+(k'+1)=i+1+k' by omega];cases k with
   | zero =>
    obtain ⟨rfl,rfl⟩:=d;exact l k' m f (i,e.foot) (by simp)
   | succ k =>
    exact by grind
def appL (E:Nat->Eff) (l:List Nat) (s:St):St:=l.foldl (fun s i=>(E i).app s) s
theorem rI E l m s:appL E (l++m) s=appL E m (appL E l s):=abl
theorem aLp {E}:∀ l s,(∀ i∈l,Shp (E i)/\NeOk (E i) s)->(appL E l s).bx.length=s.bx.length
 | [],_,_=>rfl
 | i::l,s,h=>by
  have a:=h i (by simp);have b:=Eff.len_app a.1 s a.2;show (appL E l ((E i).app s)).bx.length=_;rw [aLp l _ fun j c=>⟨(h j (by grind)).1,(h j (by grind)).2.app a.1 a.2⟩,b]
theorem aXW {E}:∀ l s t,(∀ i∈l,Shp (E i)/\NeOk (E i) s)->Eqv s t->Eqv (appL E l s) (appL E l t)
 | [],_,_,_,h=>h
 | i::l,s,t,h,b=>by
  have a:=h i (by simp);exact aXW l _ _ (fun j c=>⟨(h j (by grind)).1,(h j (by grind)).2.app a.1 a.2⟩) (b.app a.1 a.2)
theorem aSz {E a} (f:Shp a):∀ l s,NeOk a s->(∀ i∈l,Shp (E i)/\NeOk (E i) s)->(∀ i∈l,Ind a (E i))->Eqv (a.app (appL E l s)) (appL E l (a.app s))
 | [],_,_,_,_=>Eqv.refl _
 | i::l,s,e,h,m=>by
  have b:=h i (by simp);have d:∀ j∈l,Shp (E j)/\NeOk (E j) ((E i).app s):=fun j c=>⟨(h j (by grind)).1,(h j (by grind)).2.app b.1 b.2⟩;have k:=aSz f l ((E i).app s) (e.app b.1 b.2) d (fun j c=>by grind);have g  := bEt f b.1 e b.2 (by grind);refine k.trans (aXW l _ _ (fun j c=>⟨(d j c).1,(d j c).2.app f (e.app b.1 b.2)⟩) g)
theorem aQp {E R F} S:∀ l s t,Agr R F s t->(∀ i∈l,Shp (E i)/\NeOk (E i) s) ->
  (∀ i∈l,S i=false->(∀ x∈(E i).ws,x.1∉R)/\ApF (E i).foot F)->Agr R F (appL E l s) (appL E (l.filter S) t)
 | [],_,_,h,_,_=>h
 | i::l,s,t,h,c,b=>by
  have a:=c i (by simp);have d:∀ j∈l,Shp (E j)/\NeOk (E j) ((E i).app s):=fun j e=>⟨(c j (by grind)).1,(c j (by grind)).2.app a.1 a.2⟩;cases f:S i with
  | true =>
   rw [List.filter_cons_of_pos f];exact aQp S l _ _ (h.both a.1 a.2) d (fun j e=>b j (by grind))
  | false =>
   rw [List.filter_cons_of_neg (by grind)];obtain ⟨k,g⟩:=b i (by simp) f;exact aQp S l _ _ ((h.symm.right a.1 a.2 k g).symm) d (fun j e=>b j (by grind))
theorem aSA {E R F}:∀ l s t,Agr R F s t->(∀ i∈l,Shp (E i)/\NeOk (E i) t) ->
  (∀ i∈l,(∀ x∈(E i).ws,x.1∉R)/\ApF (E i).foot F)->Agr R F s (appL E l t)
 | [],_,_,h,_,_=>h
 | i::l,s,t,h,b,e=>by
  have a:=b i (by simp);obtain ⟨d,c⟩:=e i (by simp);exact aSA l _ _ (h.right a.1 a.2 d c) (fun j f=>⟨(b j (by grind)).1,(b j (by grind)).2.app a.1 a.2⟩) (fun j f=>by grind)
theorem aVC {n i} (h:i<n):∃ rest,List.range n=List.range i++i::rest/\∀ k∈rest,i<k/\k<n:=by
 refine ⟨(List.range (n-i-1)).map (· + i+1),?_,?_⟩
 ·apply aaS;intro j;by_cases a:j<i;· rw [aaq (by simpa using a),aby (by omega),aby a]
  rw [aaJ (by simpa using a)];simp;by_cases e:j=i;· subst e;simp [h]
  obtain ⟨k,b⟩:∃ k,j-i=k+1:=⟨j-i-1,by omega⟩;rw [b,abi,aa9];by_cases c:j<n;· rw [aby c,aby (by omega)];simp;omega
  rw [List.getElem?_eq_none (by simpa using c),List.getElem?_eq_none (by simp;omega)];rfl
 intro k b;obtain ⟨x,d,rfl⟩:=aah.1 b;simp at d;omega
end
def Rch (base:Base) (M:Mem) (B:BM) (st:St) (tm:Array Value) (w:World) (st':St) (tm':Array Value) (w':World):Prop :=
 tm'.size=tm.size/\∃ M' B',SR base M' B' st' tm' w'/\Evo w M (tot st.fr tm w B st.bx) B w' M' (tot st'.fr tm' w' B' st'.bx) B'
theorem Rch.refl {base M B st a w} (h:SR base M B st a w):Rch base M B st a w st a w:=⟨rfl,M,B,h,Evo.refl _ _ _ _⟩
theorem Rch.trans {base M B st c st'' e b a w w' d} (h:Rch base M B st e w c b w')
  (k:∀ M' B',SR base M' B' c b w'->Rch base M' B' c b w' st'' a d):Rch base M B st e w st'' a d:=by
 obtain ⟨o,M',B',l,g⟩:=h;obtain ⟨n,i,j,f,m⟩:=k M' B' l;exact ⟨by omega,i,j,f,g.trans m⟩
theorem Rch.eqv {base M B st c st'' e a w w'} (h:Rch base M B st e w c a w') (d:Eqv c st'') (f:Nd st''.bx):Rch base M B st e w st'' a w':=by
 obtain ⟨i,M',B',g,j⟩:=h;refine ⟨i,M',B',g.eqv d f,?_⟩;have:tot st''.fr a w' B' st''.bx=tot c.fr a w' B' c.bx:=funext fun b=>aVx d g.box.nodup f b;grind
theorem Rch.of_eqv {base M B st a d e c w w'} (h:Rch base M B a e w d c w') (f:Eqv st a) (g:Nd st.bx) (i:Nd a.bx):Rch base M B st e w d c w':=by
 obtain ⟨k,M',B',j,l⟩:=h;have:tot st.fr e w B st.bx=tot a.fr e w B a.bx:=funext fun b=>(aVx f g i b).symm;exact ⟨k,M',B',j,by grind⟩
section
variable {P : Program} {mt : Hints} {nt : Nat} {O : Orc} {ops : Array Oper} {bs : Array Nat} {s0 : St} {E : Nat -> Eff} {W : Nat -> Bool} {lo tp : Nat}
structure SlotsOk (mt:Hints) (ops:Array Oper) (bs:Array Nat) (j:Nat) (y:Oper):Prop where
 aft:∀ e∈y.after,Region.binds .any e=true->e.on<j
 grd:∀ g want,y.guard=some (g,want)->g<j/\vQ bs g j=true
 cls:∀ i,i<j->vQ bs i j=true->∃ e∈y.after,Region.binds .any e=true/\(e.on=i∨(i<e.on/\vQ bs i e.on=true))
 apt:∀ i x,i<j->ops[i]?=some x->vQ bs i j=true∨bA2 mt ops x y=true
theorem zE (h:aCc mt ops bs=true) {j y} (l:ops[j]?=some y):SlotsOk mt ops bs j y:=by
 unfold aCc at h;rw [aak] at h;have c  := (aag.1 l).1;have:=h j (aav.2 c);rw [l] at this;simp only [aa0,aak,abz] at this;obtain ⟨⟨q,d⟩,k⟩:=this;refine ⟨?_,?_,?_,?_⟩;· intro e b a;have:=q e b;simp [a] at this;exact this
 ·intro g m o;rw [o] at d;simp at d;exact d
 ·intro i f p;have:=k i (aav.2 f);split at this;· simp at this
  simp only [aa0,aay,p] at this;have:=this.1.resolve_left (by simp);rw [Array.any_eq_true'] at this;obtain ⟨e,b,a⟩:=this;simp at a;exact ⟨e,b,a.1,a.2⟩
 intro i x f n;have:=k i (aav.2 f);rw [n] at this;simp at this;exact this.2
structure Txt (P:Program) (mt:Hints) (nt:Nat) (O:Orc) (ops:Array Oper) (bs:Array Nat) (s0:St) (E:Nat->Eff) (W:Nat->Bool) (lo tp:Nat):Prop where
 stp:∀ (j:Nat) (o:Oper),lo<=j->j<tp->ops[j]?=some o->Stp P mt nt O ops o (appL E (List.range j) s0) (W j) (E j)
 out:∀ j,j<lo∨tp<=j->E j={}
 ft:∀ i j,lo<=i->i<j->j<tp->W i=true->W j=true->vQ bs i j=true∨aOU (E i).foot (E j).foot=true
theorem aQq s:({}:Eff).app s=s:=by
 rfl
theorem bEu:Shp {}:=⟨rfl,.inl rfl,.inl rfl⟩
theorem bBA s:NeOk {} s:=fun h=>by grind
theorem bEv e:Ind {} e:=⟨by simp,(aVB _).symm⟩
theorem Txt.all (h:Txt P mt nt O ops bs s0 E W lo tp):∀ j,j<=ops.size->(∀ i,i<j->Shp (E i)/\NeOk (E i) s0)/\(appL E (List.range j) s0).bx.length=s0.bx.length/\(Nd s0.bx->Nd (appL E (List.range j) s0).bx)
 | 0,_=>⟨by simp,rfl,fun h=>h⟩
 | j+1,G=>by
  obtain ⟨H,v,y⟩:=h.all j (by omega);obtain ⟨o,C⟩:∃ o,ops[j]?=some o:=⟨ops[j],by simp⟩;by_cases q:j<lo∨tp<=j
  ·have z:=h.out j q;have p:List.range (j+1)=List.range j++[j]:=List.range_succ;have c:appL E (List.range (j+1)) s0=appL E (List.range j) s0:=by
    rw [p,rI];show (E j).app (appL E (List.range j) s0)=_;rw [z,aQq]
   rw [c];refine ⟨fun i B => ?_,v,y⟩;by_cases e:i=j;· subst e;rw [z];exact ⟨bEu,bBA _⟩
   exact by grind
  have a:=(h.stp j o (by omega) (by omega) C).ok;have t:NeOk (E j) s0:=fun u=>by rw [<- v];exact a.ne u
  have p:List.range (j+1)=List.range j++[j]:=List.range_succ;have c:appL E (List.range (j+1)) s0=(E j).app (appL E (List.range j) s0):=by rw [p,rI];rfl
  refine ⟨?_,?_,?_⟩
  ·intro i B;by_cases e:i=j;· subst e;exact ⟨a.shp,t⟩
   exact by grind
  ·rw [c,Eff.len_app a.shp _ a.ne,v]
  intro A;rw [c];have n:=y A;generalize appL E (List.range j) s0=T at *
  -- the keys
  have w:Nd (fC T.bx (E j).cw):=by
   rcases a.shp.cw with k | ⟨⟨d,id,F,vs⟩,k⟩;· rw [k];exact n
   rw [k];simp [fC];split;· exact aFZ n d id _
   exact n
  have m:∀ x∈(E j).nw,bD (fC T.bx (E j).cw) 0 x.1=none:=by
   intro x u;have:=(a.nw x u).2.1;rcases a.shp.cw with k | ⟨⟨d,id,F,vs⟩,k⟩;· rw [k];exact this
   rw [k];simp [fC];split
   ·rename_i cs l;rw [yW _ _ _ _ _ _ _ l,if_neg];· exact this
    rintro ⟨rfl,D⟩;rw [D] at this;rw [this] at l;simp at l
   exact this
  intro d f g;simp [Eff.app,a.shp.up] at g;rcases a.shp.nw with k | ⟨x,k⟩;· rw [k,rV] at g;exact w d f g
  rw [k] at g m;cases s:fC T.bx (E j).cw with
  | nil=>rw [s] at g;simp [aDf] at g
  | cons b r =>
   rw [s] at g m;simp [aDf] at g;cases d with
   | zero =>
    simp at g;subst g;simp only [ab1,aaR];refine ⟨?_,w 0 b (by rw [s];rfl)⟩;have:=m x (by simp);exact aDE.1 this
   | succ d=>exact w (d+1) f (by rw [s];simpa using g)
theorem Txt.apart (h:Txt P mt nt O ops bs s0 E W lo tp) (C:aCc mt ops bs=true) {i j x y} (l:lo<=i/\i<tp) (g:lo<=j/\j<tp) (o:ops[i]?=some x) (m:ops[j]?=some y) (A:i≠j)
  (H:i<j->vQ bs i j=false) (G:j<i->vQ bs j i=false):Ind (E i) (E j)/\(∀ z∈(E i).ws,z.1∉aDB ops y)/\(∀ z∈(E j).ws,z.1∉aDB ops x):=by
 have key:∀ {i j} {x y},lo<=i/\i<tp->lo<=j/\j<tp->ops[i]?=some x->ops[j]?=some y->i<j->vQ bs i j=false->Ind (E i) (E j)/\(∀ z∈(E i).ws,z.1∉aDB ops y)/\(∀ z∈(E j).ws,z.1∉aDB ops x):=by
  intro i j x y l g o m d v;have q:=(h.stp i x l.1 l.2 o).ok;have c:=(h.stp j y g.1 g.2 m).ok;have k:=((zE C m).apt i x d o).resolve_left (by simp [v]);simp [bA2] at k;have d1:=aXU.1 k.1;have D:=aXU.1 k.2;refine ⟨⟨?_,?_⟩,?_,?_⟩;· intro a t b s e;exact d1 _ (q.ws a t) (aa6.2 (.inr (e ▸ c.ws b s)))
  ·cases u:W i with
   | false=>rw [(h.stp i x l.1 l.2 o).f u];exact (aVB _).symm
   | true =>
    cases n:W j with
    | false=>rw [(h.stp j y g.1 g.2 m).f n];exact aVB _
    | true=>exact aZy ((h.ft i j l.1 d g.2 u n).resolve_left (by simp [v]))
  ·intro z r p;exact d1 _ (q.ws z r) (by grind)
  intro z r p;exact D _ (c.ws z r) p
 by_cases d:i<j;· grind
 obtain ⟨F,w,B⟩:=key g l m o (by omega) (G (by omega));exact ⟨F.symm,B,w⟩
theorem aMf {base M B s f w} (h:SR base M B s f w):∀ n o b,aAE ops n o s.fr=some b->Region.wanted o (yielded ops f)=b
 | 0,_,_,c=>by simp [aAE] at c
 | n+1,o,b,c=>by
  simp [aAE] at c;unfold Region.wanted;cases j:o.guard with
  | none=>grind
  | some z =>
   obtain ⟨g,t⟩:=z;rw [j] at c;simp at c ⊢;cases i:ops[g]? with
   | none=>grind
   | some q =>
    rw [i] at c;simp at c;cases l:q.dst with
    | none=>grind
    | some d =>
     rw [l] at c;simp at c;have a:=h.slot d;have u:∀ v,f.getD d undef=v->v≠undef->f[d]?=some v:=by
      intro v hv A;by_cases k:d<f.size;all_goals simp_all
     cases m:aAE ops n q s.fr with
     | none=>grind
     | some x =>
      rw [m] at c;cases x with
      | true =>
       obtain ⟨b',p,c⟩:=aB c;have r:gets s.fr d = .bool b':=by
        unfold aDy at p;grind
       rw [r] at a;have:=u _ a.bool_inv (by simp [undef]);cases c;simp [yielded,i,l,this]
      | false =>
       simp at c;split at c
       ·rename_i y;cases c;rw [y] at a;have hv:f.getD d undef=undef:=by
         generalize f.getD d undef=v at a;cases a;rfl
        have:f[d]?=none∨f[d]?=some undef:=by
         by_cases k:d<f.size;all_goals simp_all
        rcases this with e | e<;>simp [yielded,i,l,e,undef]
       grind
def Cut (ops:Array Oper) (bs:Array Nat) (tp:Nat):Prop:=∀ i,tp<=i->i<ops.size->(i=tp/\∀ k,k<tp->vQ bs k tp=true)∨(tp<i/\vQ bs tp i=true)
theorem bBB {base} (hO:aQk P base.g O) (hT:Txt P mt nt O ops bs s0 E W lo tp) (A:tp<=ops.size) (hcut:Cut ops bs tp) (hs:aCc mt ops bs=true) {Q} :
  ∀ n b s a w M B,b.size=ops.size ->
  (∀ k,k<ops.size->b.getD k false=true->∀ i,i<k->vQ bs i k=true->b.getD i false=true) ->
  (∀ k,k<lo->b.getD k false=true)->(∀ k,tp<=k->b.getD k false=false) ->
  ((List.range ops.size).filter fun i=>b.getD i false).length+n=tp ->
  Eqv s (appL E ((List.range ops.size).filter fun i=>b.getD i false) s0)->a.tmps.size=nt->SR base M B s a.tmps w ->
  (∀ q Z a' w',q.size=ops.size->(∀ k,q.getD k false=decide (k<tp))->Eqv Z (appL E (List.range ops.size) s0)->Rch base M B s a.tmps w Z a'.tmps w'->a'.defers=a.defers->wpAny P .any ops Q (ops.size-tp) q a' w') ->
  wpAny P .any ops Q (n+(ops.size-tp)) b a w:=by
 intro n;have hall:=hT.all ops.size (aa1 _);have outs:∀ p l s,(∀ k∈l,p k=false->E k={})->appL E (l.filter p) s=appL E l s:=by
  intro p l;induction l with
  | nil=>intro s _;rfl
  | cons k l ih =>
   intro s h;cases hp:p k with
   | true=>rw [List.filter_cons_of_pos hp];exact ih _ fun j hj=>h j (by simp [hj])
   | false =>
    rw [List.filter_cons_of_neg (by simp [hp])];show _=appL E l ((E k).app s);rw [h k (by simp) hp,aQq];exact ih _ fun j hj=>h j (by simp [hj])
 have cnt:∀ (b:Array Bool),(∀ k,tp<=k->b.getD k false=false)->((List.range ops.size).filter fun i=>b.getD i false).length=((List.range tp).filter fun i=>b.getD i false).length:=by
  intro b h;obtain ⟨d,hd⟩:∃ d,ops.size=tp+d:=⟨ops.size-tp,by omega⟩;rw [hd,List.range_add,List.filter_append];have:((List.range d).map (tp + ·)).filter (fun i=>b.getD i false)=[]:=by
   refine abJ.2 fun x R => ?_;obtain ⟨y,_,rfl⟩:=aah.1 R;rw [h (tp+y) (by omega)];simp
  rw [this];simp
 -- nothing ready: all are done
 have F:∀ b,b.size=ops.size->Region.ready .any ops b=[]->∀ k,k<ops.size->b.getD k false=true:=by
  intro b T hr k;induction k using Nat.strongRecOn with
  | _ k ih =>
   intro c;cases hlk:b.getD k false with
   | true=>rfl
   | false =>
    exfalso;obtain ⟨o,ho⟩:∃ o,ops[k]?=some o:=⟨ops[k],abt c⟩;have hm:k∈Region.ready .any ops b:=by
     unfold Region.ready;refine aaM.2 ⟨aav.2 c,?_⟩;have e1:b.getD k true=false:=by
      have m:k<b.size:=by omega
      simp [Array.getD,m,dif_pos] at hlk ⊢;exact hlk
     simp only [e1,Bool.not_false,Bool.true_and,ho,aat,aaN];rw [abz];intro e he;cases hb:Region.binds .any e with
     | false=>simp
     | true =>
      have A:=(zE hs ho).aft e he hb;simp [ih e.on A (by omega)]
    rw [hr] at hm;simp at hm
 induction n with
 | zero =>
  intro b s a w M B T hcl hlo J u he htm S hQ;rw [cnt b J] at u;have N:∀ k,k<tp->b.getD k false=true:=by
   have:((List.range tp).filter fun i=>b.getD i false).length=(List.range tp).length:=by simpa using u
   have:=List.length_filter_eq_length_iff.1 this;intro k c;exact this k (aav.2 c)
  rw [aae];refine hQ b s a w T (fun k => ?_) ?_ (Rch.refl S) rfl
  ·by_cases c:k<tp;· simp [c,N k c]
   ·simp [c,J k (by omega)]
  ·rw [outs _ _ _ (fun k c hp=>hT.out k (.inr ?_))] at he;· exact he
   ·by_cases h:k<tp;· rw [N k h] at hp;simp at hp
    ·omega
 | succ n ih =>
  intro b s a w M B T hcl hlo J u he htm S hQ;have K:¬ ∀ k,k<tp->b.getD k false=true:=by
   intro h;rw [cnt b J,List.filter_eq_self.2 (fun k c=>h k (aav.1 c))] at u;simp at u
  rw [show n+1+(ops.size-tp)=(n+(ops.size-tp))+1 by omega];refine ⟨fun hr=>absurd (fun k c=>F b T hr k (by omega)) K,?_⟩;intro i hi;unfold Region.ready at hi;obtain ⟨hi1,hi2⟩:=aaM.1 hi;have L:=aav.1 hi1;obtain ⟨o,ho⟩:∃ o,ops[i]?=some o:=⟨ops[i],abt L⟩;rw [ho] at hi2;simp only [aat,aaN,aa0,Bool.not_eq_true'] at hi2;obtain ⟨hnl,hrd⟩:=hi2;have I:b.getD i false=false:=by
   have hk2:i<b.size:=by omega
   simp [Array.getD,hk2] at hnl ⊢;exact hnl
  rw [abz] at hrd;have hso:=zE hs ho
  -- what is vQ of it is done
  have hah:∀ k,k<i->vQ bs k i=true->b.getD k false=true:=by
   intro k c Y;obtain ⟨e,he',hb,hon⟩:=hso.cls k c Y;have h1:=hrd e he';simp only [hb] at h1;rcases hon with rfl | ⟨A,ha'⟩;· exact h1
   exact hcl e.on (Nat.lt_trans (hso.aft e he' hb) L) h1 k A ha'
  have hil:lo<=i:=by
   by_cases h:i<lo;· rw [hlo i h] at I;simp at I
   omega
  have hit:i<tp:=by
   by_cases h:i<tp;· exact h
   exfalso;rcases hcut i (by omega) L with ⟨rfl,c⟩ | ⟨h1,h2⟩;· exact K fun k m=>hah k m (c k m)
   have:=hah tp h1 h2;rw [J tp (aa1 _)] at this;simp at this
  obtain ⟨rest,G,r⟩:=aVC L;have U:(List.range ops.size).filter (fun k=>b.getD k false)=(List.range i).filter (fun k=>b.getD k false)++rest.filter (fun k=>b.getD k false):=by
   rw [G,List.filter_append,List.filter_cons_of_neg (by simp [I])]
  have C:∀ k,(b.setIfInBounds i true).getD k false=if k=i then true else b.getD k false:=by
   intro k;by_cases c:k=i
   ·subst c;have:k<b.size:=by omega
    simp [this]
   simp [c];simp [abx];rw [if_neg (fun e=>c e.symm)]
  have V:(List.range ops.size).filter (fun k=>(b.setIfInBounds i true).getD k false)=(List.range i).filter (fun k=>b.getD k false)++i::rest.filter (fun k=>b.getD k false):=by
   rw [G,List.filter_append];congr 1;· apply List.filter_congr;intro k c;rw [C,if_neg (by have:=aav.1 c;omega)]
   rw [List.filter_cons_of_pos (by rw [C];simp)];congr 1;apply List.filter_congr;intro k c;rw [C,if_neg (by have:=r k c;omega)]
  -- who is not ordered with it
  have X:∀ k,k<ops.size->k≠i->(k<i->b.getD k false=false)->(i<k->b.getD k false=true)->Ind (E k) (E i)/\(∀ z∈(E k).ws,z.1∉aDB ops o):=by
   intro k c hne h1 h2;by_cases hout:k<lo∨tp<=k;· rw [hT.out k hout];exact ⟨bEv _,by simp⟩
   obtain ⟨x,R⟩:∃ x,ops[k]?=some x:=⟨ops[k],abt c⟩;have:=hT.apart hs (by omega) ⟨hil,hit⟩ R ho hne (fun A=>by
    cases Y:vQ bs k i with
    | false=>rfl
    | true=>have:=hah k A Y;rw [h1 A] at this;simp at this) (fun A=>by
    cases Y:vQ bs i k with
    | false=>rfl
    | true=>have:=hcl k c (h2 A) i A Y;rw [I] at this;simp at this)
   exact ⟨this.1,this.2.1⟩
  have D  := hall.1;have hA:∀ k∈List.range i,Shp (E k)/\NeOk (E k) s0:=fun k c=>D k (by have:=aav.1 c;omega);have hstp:=hT.stp i o hil hit ho
  -- it does here what it does in the order of the text
  have hagr  := by
   have e1:=aQp (fun k=>b.getD k false) (List.range i) s0 s0 (Agr.of_eqv (Eqv.refl _) (aDB ops o) (E i).foot) hA (fun k c hS=>by
    have hki:=aav.1 c;have:=X k (by omega) (by omega) (fun _=>hS) (fun h=>by omega);exact ⟨this.2,this.1.ft⟩)
   have H:(appL E ((List.range i).filter fun k=>b.getD k false) s0).bx.length=s0.bx.length:=aLp _ _ fun k c=>hA k (aaM.1 c).1;have e2:=aSA (rest.filter fun k=>b.getD k false) _ _ e1 (fun k c=>by
    have m:=aaM.1 c;have:=D k (r k m.1).2;exact ⟨this.1,fun R=>by rw [H];exact this.2 R⟩) (fun k c=>by
    have m:=aaM.1 c;have hb:=r k m.1;have:=X k hb.2 (by omega) (fun h=>by omega) (fun _=>m.2);exact ⟨this.2,this.1.ft⟩)
   rw [<- rI,<- U] at e2;exact e2.eqv_right he.symm
  have hst  := hstp.congr hagr;have hmg:Eqv ((E i).app s) (appL E ((List.range ops.size).filter fun k=>(b.setIfInBounds i true).getD k false) s0):=by
   have hmem:∀ k∈(List.range ops.size).filter (fun k=>b.getD k false),Shp (E k)/\NeOk (E k) s0:=fun k c=>D k (aav.1 (aaM.1 c).1);have lenF  := aLp _ _ hmem;have hi0:=D i L;have e1  := he.app hi0.1 (fun R=>by rw [he.len,lenF];exact hi0.2 R);have H:(appL E ((List.range i).filter fun k=>b.getD k false) s0).bx.length=s0.bx.length:=aLp _ _ fun k c=>hA k (aaM.1 c).1;rw [U,rI] at e1;rw [V,rI];refine e1.trans (aSz hi0.1 _ _ (fun R=>by rw [H];exact hi0.2 R) (fun k c => ?_) (fun k c => ?_));· have m:=aaM.1 c;have:=D k (r k m.1).2;exact ⟨this.1,fun R=>by rw [H];exact this.2 R⟩
   have m:=aaM.1 c;have hb:=r k m.1;exact (X k hb.2 (by omega) (fun h=>by omega) (fun _=>m.2)).1.symm
  have next:∀ a' w',a'.defers=a.defers->Rch base M B s a.tmps w ((E i).app s) a'.tmps w'->wpAny P .any ops Q (n+(ops.size-tp)) (b.setIfInBounds i true) a' w':=by
   intro a' w' hd hr;obtain ⟨r1,M',B',r2,r3⟩:=hr;refine ih (b.setIfInBounds i true) ((E i).app s) a' w' M' B' (by simp [T]) ?_ ?_ ?_ ?_ hmg (by rw [r1];exact htm) r2 ?_
   ·intro k c hl j hj Y;rw [C] at hl ⊢;by_cases e1:j=i;· simp [e1]
    rw [if_neg e1];by_cases e2:k=i;· subst e2;exact hah j hj Y
    rw [if_neg e2] at hl;exact hcl k c hl j hj Y
   ·intro k c;rw [C,if_neg (by omega)];exact hlo k c
   ·intro k c;rw [C,if_neg (by omega)];exact J k c
   ·rw [V];rw [U] at u;simp at u ⊢;omega
   intro l' Z a'' w'' l1 l2 h1 h2 h3;obtain ⟨q1,M3,B3,q2,q3⟩:=h2;exact hQ l' Z a'' w'' l1 l2 h1 ⟨q1.trans r1,M3,B3,q2,r3.trans q3⟩ (h3.trans hd)
  unfold wpOp;rw [ho];simp;have hwant:=aMf S _ _ _ hst.g;rw [hwant];cases hw:W i with
  | true =>
   left;obtain ⟨hev,hup⟩:=hst.t hw;refine aDQ hO S (by rw [htm];exact hev) fun tm' w' Y=>next _ _ rfl Y
  | false =>
   refine next _ _ (aOY _ _ _) ?_;rw [hst.f hw,aXz];have:=pE (dst:=o.dst) S (p := .und) (v:=undef) .und (uE _);rw [htm] at this;exact this
theorem jW {α β} {x} {f g:α->Option β} (h:∀ a,f a=g a):bnd x f=bnd x g:=by cases x<;>simp [bnd,h]
theorem bBC {R S} v k (g:R->Option S):bnd (brB v k) g=brB v fun b=>bnd (k b) g:=by
 unfold brB;rw [bO];apply jW;intro b;rw [sX]
theorem bBD {R v} {f g:Bool->Option R} (h:∀ b,f b=g b):brB v f=brB v g:=by
 unfold brB;grind
theorem lY {ops R}:∀ n o st (K:Bool->St->Option R),nX ops n o st K=bnd (nX ops n o st fun b s=>some (b,s)) fun x=>K x.1 x.2
 | 0,_,_,_=>rfl
 | n+1,o,st,K=>by
  simp [nX];cases o.guard with
  | none=>rfl
  | some c =>
   obtain ⟨g,a⟩:=c;simp;cases ops[g]? with
   | none=>rfl
   | some q =>
    simp;cases q.dst with
    | none=>rfl
    | some s =>
     simp;conv=>lhs;rw [lY]
     conv=>rhs;rw [lY,bO]
     apply jW;rintro ⟨b,s'⟩;cases b with
     | true=>simp [bBC];rfl
     | false=>simp;split<;>rfl
theorem oC {ops R}:∀ c i a st (K:List (Nat×Foot)->St->Option R),
  eF P mt nt O ops i c a st K=bnd (eF P mt nt O ops i c a st fun l s=>some (l,s)) fun x=>K x.1 x.2
 | [],i,a,st,K=>rfl
 | o::c,i,a,st,K=>by
  simp [eF];rw [lY,lY (R:=List (Nat×Foot)×St),bO];apply jW;rintro ⟨b,s⟩;cases b with
  | true =>
   rw [jQ,jQ (R:=List (Nat×Foot)×St),bO];apply jW;intro e;cases e.up with
   | some u =>
    simp;split;· exact oC c _ _ _ K
    rfl
   | none=>exact oC c _ _ _ K
  | false=>exact oC c _ _ _ K
theorem aHD {E}:∀ l s,(∀ k∈l,E k={})->appL E l s=s
 | [],_,_=>rfl
 | k::l,s,h=>by
  show appL E l ((E k).app s)=s;rw [h k (by simp),aQq];exact aHD l s fun j a=>by grind
def sect (es:List (Bool×Eff)) (lo i:Nat):Bool×Eff:=if lo<=i then (es[i-lo]?).getD (false,{}) else (false,{})
theorem aQr {es lo i} k x (a:i=lo+k) (h:es[k]?=some x):sect es lo i=x:=by
 unfold sect;grind
theorem aLq {es lo i} (h:i<lo∨lo+es.length<=i):sect es lo i=(false,{}):=by
 unfold sect;grind
theorem aSB es lo s:∀ k,k<=es.length->fold (es.take k) s=appL (fun i=>(sect es lo i).2) (List.range (lo+k)) s:=by
 intro k;induction k with
 | zero =>
  intro _;rw [aHD];· rfl
  intro j c;have:=aav.1 c;rw [aLq (by omega)]
 | succ k b =>
  intro h;have a  := by omega
  rw [<- Nat.add_assoc,List.range_succ,rI,<- b (by omega),List.take_succ_eq_append_getElem a];show fold _ s=(sect es lo (lo+k)).2.app _;rw [aQr k es[k] rfl (by simp)];grind
theorem aQs es lo n s (h:lo+es.length<=n):fold es s=appL (fun i=>(sect es lo i).2) (List.range n) s:=by
 have a:=aSB es lo s es.length (by omega);rw [List.take_length] at a;obtain ⟨d,rfl⟩:∃ d,n=lo+es.length+d:=⟨n-(lo+es.length),by omega⟩;rw [List.range_add,rI,<- a,aHD];intro j b;obtain ⟨y,_,rfl⟩:=aah.1 b;rw [aLq (by omega)]
theorem aLr:∀ d i a st c l,eF P mt nt O ops i d a st (fun l s=>some (l,s))=some (l,c)->∃ x,l=x++a
 | [],i,a,st,c,l,h=>by simp [eF] at h;simp_all
 | o::d,i,a,st,c,l,h=>by
  obtain ⟨b,fr',j,g,h⟩:=aE9 _ _ _ _ _ h;cases b with
  | false=>exact aLr d _ _ _ _ _ h
  | true =>
   rw [jQ] at h;obtain ⟨e,_,h⟩:=aB h;cases f:e.up with
   | some u =>
    rw [f] at h;simp at h;split at h;· exact aLr d _ _ _ _ _ h
    grind
   | none =>
    rw [f] at h;obtain ⟨x,rfl⟩:=aLr d _ _ _ _ _ h;exact ⟨x++[(i,e.foot)],by simp⟩
theorem aSC {n i} (h:aVa bs n i=true) (a:i<n):(∀ k,k<i->vQ bs k i=true)/\∀ k,i<k->k<n->vQ bs i k=true:=by
 unfold aVa at h;grind
theorem bBE {base} (L:aQk P base.g O) (hs:aCc mt ops (Region.before ops)=true):∀ n i log l st st' a w M B listed,i<=ops.size->ops.size-i<=n ->
  listed.size=ops.size->(∀ k,listed.getD k false=decide (k<i)) ->
  eF P mt a.tmps.size O ops i (ops.toList.drop i) log st (fun l s=>some (l,s))=some (l,st')->wO (Region.before ops) l=true->SR base M B st a.tmps w ->
  ∀ Q,(∀ a' w',Rch base M B st a.tmps w st' a'.tmps w'->a'.defers=a.defers->Q .normal a' w')->wpAny P .any ops Q (ops.size-i) listed a w:=by
 intro n;induction n with
 | zero =>
  intro i log l st st' a w M B listed u hn hsz hl h hf hsr Q hQ;have u:i=ops.size:=by omega
  subst u;have hd:ops.toList.drop ops.size=[]:=by simp
  rw [hd] at h;simp only [eF,aaQ,aaY] at h;obtain ⟨_,rfl⟩:=h;rw [Nat.sub_self];refine ⟨?_,hQ a w (Rch.refl hsr) rfl⟩;unfold Region.ready;rw [abJ];intro k hk;have hk':=aav.1 hk;have:=hl k;have q:listed.getD k true=true:=by
   have hk2:k<listed.size:=by omega
   simp only [Array.getD,hk2,dif_pos] at this ⊢;rw [this];simp [hk']
  simp only [q,abm,Bool.false_and];simp
 | succ n W =>
  intro i log l st st' a w M B listed u hn hsz hl h hf hsr Q hQ;obtain ⟨es,hle,hstp,st1,A,t,halt⟩:=aXV _ i log st st _ _ h (Eqv.refl _);have hle':i+es.length<=ops.size:=by simp at hle;omega
  have hlog:wO (Region.before ops) (logs i es++log)=true:=by
   rcases halt with ⟨_,h2⟩ | ⟨_,_,_,_,_,_,_,_,h2⟩;· simp [aaQ,aaY] at h2;rw [h2.1];exact hf
   ·obtain ⟨x,rfl⟩:=aLr _ _ _ _ _ _ h2;exact aGB _ _ hf
  have hget:∀ k,(ops.toList.drop i)[k]?=ops[i+k]?:=by intro k;simp
  have H:Txt P mt a.tmps.size O ops (Region.before ops) st (fun j=>(sect es i j).2) (fun j=>(sect es i j).1) i (i+es.length):=by
   refine ⟨?_,?_,?_⟩;· intro j o h1 h2 ho;obtain ⟨k,rfl⟩:∃ k,j=i+k:=⟨j-i,by omega⟩;obtain ⟨x,hx,hx2⟩:=hstp k o (by omega) (by rw [hget];exact ho);rw [aSB es i st k (by omega)] at hx2;rw [aQr k x rfl hx];exact hx2
   ·intro j hj;show (sect es i j).2={};rw [aLq hj]
   intro j k hj Y hk hwj hwk;obtain ⟨c,rfl⟩:∃ c,j=i+c:=⟨j-i,by omega⟩;obtain ⟨d,rfl⟩:∃ d,k=i+d:=⟨k-i,by omega⟩;obtain ⟨F,hxi⟩:∃ x,es[c]?=some x:=⟨es[c],by simp⟩;obtain ⟨N,hxj⟩:∃ x,es[d]?=some x:=⟨es[d],by simp⟩;rw [aQr c F rfl hxi] at hwj ⊢;rw [aQr d N rfl hxj] at hwk ⊢;obtain ⟨bi,ei⟩:=F;obtain ⟨bj,ej⟩:=N;simp at hwj hwk ⊢;subst hwj;subst hwk;exact (aSy es i log hlog).2 c d ei ej (by omega) hxi hxj
  have hfin:=aQs es i ops.size st hle';have hnd:Nd st1.bx:=by
   rw [t rfl,hfin];exact (H.all ops.size (aa1 _)).2.2 hsr.box.nodup
  have hcut:Cut ops (Region.before ops) (i+es.length):=by
   rcases halt with ⟨h1,_⟩ | ⟨o,e,fr2,h1,h2,_⟩;· intro k h3 p;simp at h1;omega
   have hlt:i+es.length<ops.size:=by
    rw [hget] at h1;exact (aag.1 h1).1
   obtain ⟨f,D⟩:=aSC h2 hlt;intro k h3 p;by_cases hk:k=i+es.length;· exact .inl ⟨hk,f⟩
   exact by grind
  have hfl:((List.range ops.size).filter fun j=>listed.getD j false)=List.range i:=by
   obtain ⟨d,hd⟩:∃ d,ops.size=i+d:=⟨ops.size-i,by omega⟩;rw [hd,List.range_add,List.filter_append];have q:((List.range d).map (i + ·)).filter (fun j=>listed.getD j false)=[]:=by
    refine abJ.2 fun x hx => ?_;obtain ⟨y,_,rfl⟩:=aah.1 hx;rw [hl];simp
   rw [q,aac,List.filter_eq_self.2];intro x hx;rw [hl];simpa using hx
  have hfuel:ops.size-i=es.length+(ops.size-(i+es.length)):=by omega
  rw [hfuel];refine bBB (Q:=Q) L H hle' hcut hs es.length listed st a w M B hsz ?_ ?_ ?_ ?_ ?_ rfl hsr ?_;· intro k hk h1 j hj _;rw [hl] at h1 ⊢;simp at h1 ⊢;omega
  ·intro k hk;rw [hl];simpa using hk
  ·intro k hk;rw [hl];simp;omega
  ·rw [hfl];simp
  ·rw [hfl,aHD];· exact Eqv.refl _
   intro j hj;have:=aav.1 hj;show (sect es i j).2=_;rw [aLq (.inl (by omega))]
  ·intro l2 s2 a' w' l1 l3 h1 h2 h3;have C:=h2.eqv (st'':=st1) (h1.trans (by rw [<- hfin];exact A.symm)) hnd;obtain ⟨q1,T,B3,b,I⟩:=C;have hdone:∀ k,k<ops.size->l2.getD k true=decide (k<i+es.length):=by
    intro k hk;have hk2:k<l2.size:=by omega
    have:=l3 k;simp [Array.getD,hk2,dif_pos] at this ⊢;exact this
   rcases halt with ⟨k1,k2⟩ | ⟨o,e,fr2,k1,k2,S,R,G,k6⟩
   ·simp [aaQ,aaY] at k2;obtain ⟨_,rfl⟩:=k2;have:i+es.length=ops.size:=by simp at k1;omega
    rw [this,Nat.sub_self];refine ⟨?_,hQ a' w' ⟨q1,T,B3,b,I⟩ h3⟩;unfold Region.ready;rw [abJ];intro k hk;have hk':=aav.1 hk;rw [hdone k hk',this];simp [hk']
   rw [hget] at k1;generalize htp:i+es.length=tp at *;have hlt  := (aag.1 k1).1;have m:=zE hs k1;rw [show ops.size-tp=(ops.size-(tp+1))+1 by omega];constructor
   ·intro hr;exfalso;have K:tp∈Region.ready .any ops l2:=by
     unfold Region.ready;refine aaM.2 ⟨aav.2 hlt,?_⟩;rw [hdone tp hlt];simp only [Nat.lt_irrefl,decide_false,Bool.not_false,Bool.true_and,k1,aat,aaN];rw [abz];intro e A;cases r:Region.binds .any e with
     | false=>simp
     | true=>have:=m.aft e A r;simp [l3,this]
    rw [hr] at K;simp at K
   intro x hx;unfold Region.ready at hx;obtain ⟨v,hx2⟩:=aaM.1 hx;have hxn:=aav.1 v;obtain ⟨ox,hox⟩:∃ o,ops[x]?=some o:=⟨ops[x],by simp⟩;rw [hox,hdone x hxn] at hx2;simp only [aat,aaN,aa0,Bool.not_eq_true',decide_eq_false_iff_not] at hx2;obtain ⟨hx3,hx4⟩:=hx2;rw [abz] at hx4;have hxe:x=tp:=by
    by_cases V:x=tp;· exact V
    exfalso;have:=(aSC k2 hlt).2 x (by omega) hxn;obtain ⟨e',he',r,hon⟩:=(zE hs hox).cls tp (by omega) this;have h1:=hx4 e' he';simp [r,abm,l3] at h1;rcases hon with hon | ⟨hon,_⟩<;>omega
   subst hxe;rw [hox] at k1;cases k1;have heq:Eqv st1 {st1 with fr:=fr2}:=⟨fun j=>(R j).symm,fun _ _=>rfl,rfl⟩;have hsr2  := b.eqv heq hnd;unfold wpOp;rw [hox];simp;rw [aMf b _ _ _ S];simp;left;unfold Oper.wp;rw [<- q1] at G;refine aDQ L hsr2 G fun tm' w2 ha => ?_;have z:=Rch.of_eqv ha heq hnd hnd;obtain ⟨E,M4,B4,r2,r3⟩:=z;have k6':eF P mt tm'.size O ops (x+1) (ops.toList.drop (x+1)) (logs i es++log) (e.app {st1 with fr:=fr2}) (fun l s=>some (l,s))=some (l,st'):=by
    rw [show tm'.size=a.tmps.size from E.trans q1,<- k6,List.drop_drop];congr 2;omega
   refine W (x+1) _ l _ st' ⟨tm',a'.defers⟩ w2 M4 B4 (l2.setIfInBounds x true) (by omega) (by omega) (by simp [l1]) ?_ k6' hf r2 Q ?_
   ·intro k;by_cases hk:k=x
    ·subst hk;have:k<l2.size:=by omega
     simp [this]
    have J:=l3 k;simp [abx] at J ⊢;rw [if_neg (fun e=>hk e.symm),J];by_cases h':k<x<;>simp<;>omega
   intro a3 w3 p h5;obtain ⟨f,U,Z,D,X⟩:=p;exact hQ a3 w3 ⟨f.trans (E.trans q1),U,Z,D,I.trans (r3.trans X)⟩ (h5.trans h3)
theorem aZB {base} (y:P.follows .mixedOrders=true) (p:aQk P base.g O) {M B st a w id R} {K:St->Option R} {r}
  (q:aCc mt ops (Region.before ops)=true)
  (h:eF P mt a.tmps.size O ops 0 ops.toList [] st (fun k st=>match wO (Region.before ops) k with | true=>K st | false=>none)=some r) (e:SR base M B st a.tmps w) :
  ∃ b,K b=some r/\∀ Q,(∀ d w',Rch base M B st a.tmps w b d.tmps w'->d.defers=a.defers->Q .normal d w')->(Code.region id ops true).wp P Q a w:=by
 rw [oC] at h;obtain ⟨⟨l,b⟩,x,h⟩:=aB h;split at h;· rename_i j;refine ⟨b,h,?_⟩;intro Q t;refine wp_region_any y ?_;obtain ⟨i,f⟩:=e.world (M':=M) (w':={w with drawn:=w.drawn+1}) e.cons (fun _ _ _ h=>h) (fun _ _ _ _=>⟨rfl,fun _=>rfl⟩) (fun _ _=>⟨rfl,fun _=>rfl⟩) (aa1 _);refine bBE p q ops.size 0 [] l st b a _ M B (Array.replicate ops.size false) (by omega) (by omega) (by simp) (by simp [Array.getD]) (by grind) j i Q ?_;intro d w' s m;refine t d w' ?_ m;obtain ⟨n,o,u,v,c⟩:=s;refine ⟨n,o,u,v,?_⟩;rw [show tot st.fr a.tmps {w with drawn:=w.drawn+1} B st.bx=tot st.fr a.tmps w B st.bx from funext f] at c;exact ⟨c.os,c.tape,c.output,c.size,c.mono,c.keep,c.tle,c.bxs,c.outer⟩
 grind
end
end Go.Ev
