import Derived.Test.YtenmfogokijilaaGreatEb
import Derived.LoopN
import Derived.Scope
import Derived.Below
import Derived.ChangeSame
import Derived.ChangeArms
import Derived.DataReads
import Derived.Carry
import Derived.RowKit
import Derived.OpenShut
import Derived.IntWalk
import Derived.OrdersHeld
import Derived.Deep.RegionHeld3
import Derived.Deep.RegionLaw
import Derived.KernelRfl
import Derived.WalkKit
noncomputable section
set_option linter.unusedVariables false
set_option linter.unusedSimpArgs false
set_option linter.unusedSimpArgs false
namespace Go.Ev
theorem abA:type_of% @List.filter_cons:=@List.filter_cons
theorem aaV:type_of% @List.length_cons:=@List.length_cons
theorem aaZ:type_of% @List.any_eq_true:=@List.any_eq_true
theorem abn:type_of% @Classical.choose_spec:=@Classical.choose_spec
theorem aaD:type_of% @Prod.mk.inj:=@Prod.mk.inj
theorem aba:type_of% @List.map_append:=@List.map_append
theorem aa7:type_of% @List.setIfInBounds_toArray:=@List.setIfInBounds_toArray
theorem aa8:type_of% @List.set_cons_zero:=@List.set_cons_zero
theorem aab:type_of% @List.set_cons_succ:=@List.set_cons_succ
theorem abK:type_of% @List.mem_of_find?_eq_some:=@List.mem_of_find?_eq_some
theorem aai:type_of% @List.nil_append:=@List.nil_append
end Go.Ev
namespace Go.Ev
open PV
theorem aDS {g}:∀ a f,a.Nodup->(∀ x∈a,x∈f)->fS g a<=fS g f
 | [],f,_,_=>by simp [fS]
 | (i,c)::a,f,b,h=>by
  obtain ⟨e,d,rfl⟩:=List.append_of_mem (h (i,c) (by simp));rw [aaR] at b;have:=aDS (g:=g) a (e++d) b.2 (fun x j=>by
   grind)
  rw [aJ5] at this ⊢;simp [fS];omega
theorem aBH bx id:bD bx 0 id=look (uC bx) id:=by
 cases bx with
 | nil=>simp [yV,uC,look]
 | cons f r=>rfl
def delB (id:Nat) (B:BM):BM:=fun d i=>if d=0/\i=id then none else B d i
theorem aLs {id B d i b} (h:delB id B d i=some b):B d i=some b:=by
 unfold delB at h;grind
theorem aCj {id B d i} (h:¬ (d=0/\i=id)):delB id B d i=B d i:=by
 unfold delB;grind
theorem Rv.del1 {M B id p v} (h:Rv M B p v) (r:aP8 id p=false):Rv M (delB id B) p v:=by
 cases h with
 | bot v=>exact .bot v
 | und=>exact .und
 | bool b=>exact .bool b
 | int k n=>exact .int k n
 | str s=>exact .str s
 | agg cs=>simp [aP8] at r
 | tuple cs=>simp [aP8] at r
 | nil o=>exact .nil o
 | slice es bs o a cap s f u m I l A D=>exact (Rv.slice es bs o a cap s f u m I l A D).anyB _ rfl
 | mk0 sz a cap u=>exact .mk0 sz a cap u
 | ref e a s f u l A D=>exact .ref e a s f u l A (fun j c m=>(D j c m).anyB1 _ (l.cell m))
 | ptr d i off b w=>exact .ptr d i off b (by rw [aCj (by rintro ⟨rfl,rfl⟩;simp [aP8] at r)];exact w)
 | rsl d i n sz b cap w m=>exact .rsl d i n sz b cap (by rw [aCj (by rintro ⟨rfl,rfl⟩;simp [aP8] at r)];exact w) m
 | rslNil d i sz F=>exact .rslNil d i sz F
 | mp d i b w=>exact .mp d i b (by rw [aCj (by rintro ⟨rfl,rfl⟩;simp [aP8] at r)];exact w)
 | nilptr=>exact .nilptr
 | func J q t O Q f g R H L G y N C =>
  refine (Rv.func J q t O Q f g R H L G y N C).anyBfree _ ?_;simpa [aP8,PV.free] using r
 | vec sz E b cap x m K P z=>exact .vec sz E b cap x m K P z
 | vecNil sz F=>exact .vecNil sz F
 | nilFunc=>exact .nilFunc
theorem Rv.del {M B id}:∀ n {p v},Rv M B p v->ment id n p=false->Rv M (delB id B) p v:=by
 intro n;induction n with
 | zero =>
  intro p v h d;cases p with
  | agg cs =>
   simp [ment,List.any_eq_false] at d;cases h with
   | agg _ vs f j e k =>
    exact .agg _ vs f j e fun i c m=>(k i c m).del1 (by grind)
  | tuple cs =>
   simp only [ment,List.any_eq_false] at d;have:cs=[]:=by
    cases cs with
    | nil=>rfl
    | cons c l=>exact absurd trivial (d c (by simp))
   subst this;cases h with
   | tuple _ vs f j e k=>exact .tuple [] vs f j e (by simp)
  | func f a b=>simp [ment] at d
  | _=>exact h.del1 (by simpa [ment] using d)
 | succ n z =>
  intro p v h d;cases p with
  | agg cs =>
   simp [ment] at d;cases h with
   | agg _ vs f j e k =>
    exact .agg _ vs f j e fun i c m=>(k i c m).del1 (by grind)
  | tuple cs =>
   simp only [ment,List.any_eq_false] at d;have:cs=[]:=by
    cases cs with
    | nil=>rfl
    | cons c l=>exact absurd trivial (d c (by simp))
   subst this;cases h with
   | tuple _ vs f j e k=>exact .tuple [] vs f j e (by simp)
  | func f a b =>
   simp [ment] at d;cases h with
   | func A o r w x f g y j e u q t s =>
    exact .func _ _ _ w x f g y j e (fun i c m=>by grind) q t (fun i c m=>by grind)
  | _=>exact h.del1 (by simpa [ment] using d)
theorem Rv.kill {M B id p v} (h:Rv M B p v):Rv M (delB id B) (aGv id p) v:=by
 unfold aGv;split;· exact .bot _
 rename_i a;exact h.del 3 a
theorem aSD id fr i:gets (fr.map fun x=>(x.1,aGv id x.2)) i=aGv id (gets fr i):=by
 induction fr with
 | nil=>rfl
 | cons x l a =>
  obtain ⟨j,v⟩:=x;simp [gL];grind
theorem aGC id:∀ (b:gP) i,look (b.filter fun x => !(x.1==id)) i=if i=id then none else look b i
 | [],i=>by simp [look]
 | (j,c)::b,i=>by
  simp only [abA];by_cases e:j=id;· subst e;simp [aGC j b i,nZ];grind
  have:(!(j==id))=true:=by simp [e]
  simp [this,nZ,aGC id b i];grind
theorem aO9 bx id d i:bD (uD bx id) d i=if d=0/\i=id then none else bD bx d i:=by
 cases bx with
 | nil=>simp [uD,yV]
 | cons b r =>
  cases d with
  | zero=>simp [uD,bI,aGC]
  | succ d=>simp only [uD,jP];simp
theorem bHq id p v b:cV (aGv id p) v b<=cV p v b:=by
 unfold aGv;split;· rw [(fD.of1 (p := .bot) (v:=v) (by simp) (by simp) (by cases v<;>rfl)).c b];omega
 simp
theorem bHr {M w base B} id {p v} (h:hV M w base B p v):hV M w base B (aGv id p) v:=by
 unfold aGv;split;· exact (fD.of1 (p := .bot) (v:=v) (by simp) (by simp) (by cases v<;>rfl)).h _ _ _ _
 exact h
theorem aGD {R} t st (K:St->Option R):aI0 t st K=bnd (aI0 t st some) K:=by
 unfold aI0;split
 ·split
  ·split;· rw [sX];rfl
   rfl
  rfl
 ·rfl
 rfl
theorem aMg {R} t sz st (K:St->Option R):aZh t sz st K=bnd (aZh t sz st some) K:=by
 unfold aZh;split<;>rfl
theorem aGE {R}:∀ l st (K:St->Option R),aBi l st K=bnd (aBi l st some) K
 | [],st,K=>rfl
 | t::l,st,K=>by
  simp [aBi];split;· rw [aGD,aGD (R:=St) t st (fun st=>aBi l st some),bO];congr 1;funext s;exact aGE l s K
  rw [aMg,aMg (R:=St) _ _ st (fun st=>aBi l st some),bO];congr 1;funext s;exact aGE l s K
theorem oD {R} l i st (K:St->Option R):aHo l i st K=bnd (aHo l i st some) K:=by
 unfold aHo;split;· exact aGE _ _ _
 rfl
section
variable {base : Base} {M : Mem} {B : BM} {st : St} {tm : Array Value} {w : World}
def frzM (M:Mem) (w:World) (c:Option Nat) (n:Nat):Mem:=fun b i =>
 match c with
 | some blk=>if b=blk/\i<n then some (cP w blk i) else M b i
 | none=>M b i
theorem h1.frz {p v id n} (h:h1 M w base B p v) (a:∀ b i v,M b i=some v->frzM M w (B 0 id) n b i=some v):h1 (frzM M w (B 0 id) n) w base (delB id B) p v:=by
 refine h.world (M':=frzM M w (B 0 id) n) (w':=w) (B':=delB id B) a fun b f g=>⟨rfl,fun i => ?_,fun d i e=>aLs e⟩;unfold frzM;split;· rename_i blk c;rw [if_neg];rintro ⟨rfl,_⟩;exact (h.nobox f).1 0 id c
 rfl
theorem SR.reslot (h:SR base M B st tm w) t {q} (d:Rv M B q (tm.getD t undef)) (c:hV M w base B q (tm.getD t undef)) (e:∀ b,cV q (tm.getD t undef) b<=cV (gets st.fr t) (tm.getD t undef) b) :
  SR base M B {st with fr:=(t,q)::st.fr} tm w/\∀ b,tot ((t,q)::st.fr) tm w B st.bx b<=tot st.fr tm w B st.bx b:=by
 have a:∀ b,tot ((t,q)::st.fr) tm w B st.bx b<=tot st.fr tm w B st.bx b:=by
  intro b;have:cF ((t,q)::st.fr) tm b<=cF st.fr tm b:=by
   refine aHq _ fun i _ => ?_;rw [gL];grind
  simp [tot];omega
 refine ⟨⟨h.cons,fun i => ?_,fun i => ?_,h.box,fun b=>aa5 (a b) (h.one b),h.glob,h.base⟩,a⟩
 ·rw [gL];split;· grind
  exact h.slot i
 rw [gL];split;· grind
 exact h.slotH i
theorem aVD (h:SR base M B st tm w) {t sz d} (i:aZh t sz st some=some d):Rch base M B st tm w d tm w:=by
 unfold aZh at i;split at i
 ·rename_i m;cases i;have g:=h.slot t;rw [m] at g;have j:∃ k,tm.getD t undef = .slice k 0 0:=by
   generalize tm.getD t undef=v at g;cases g with
   | nil=>simp
   | slice es bs o a cap s f u r y p x g =>
    simp_all
  obtain ⟨k,hv⟩:=j;have e:fD (.vec sz []) (tm.getD t undef):=by exact fD.of1 (by simp) (by simp) rfl
  obtain ⟨n,l⟩:=h.reslot t (q := .vec sz []) (by rw [hv];exact .vecNil sz k) (e.h _ _ _ _) (fun b=>by rw [e.c b];omega);exact ⟨rfl,M,B,n,aHv fun b _=>l b⟩
 cases i;exact Rch.refl h
def frzV (M:Mem) (w:World) (blk n:Nat):Mem:=fun b i=>if b=blk/\i<n then some (cP w blk i) else M b i
theorem aQt (h : SR base M B st tm w) {t sz E} (D : gets st.fr t = .vec sz E) : Rch base M B st tm w ⟨(t, .slice E [] false) :: (t, .bot) :: st.fr, st.bx⟩ tm w := by
 have n := h.slot t;have p := h.slotH t;obtain ⟨f, k2⟩ := h.take t;rw [D] at n p;simp only [D] at f k2;have hpl : (PV.vec sz E).plain = .bot := rfl;rw [hpl] at f;simp only [hpl] at k2;have hv : ∃ v, tm.getD t undef = v := ⟨_, rfl⟩;obtain ⟨v, hv⟩ := hv;rw [hv] at n p k2;have fin : ∀ M', SR base M' B { st with fr := (t, .bot) :: st.fr } tm w -> (∀ b, tot ((t, .bot) :: st.fr) tm w B st.bx b <= tot st.fr tm w B st.bx b) -> Rv M' B (.slice E [] false) v -> (∀ b i x, M b i = some x -> M' b i = some x) ->
   (∀ b, b < w.heap.size -> ¬ touch (tot st.fr tm w B st.bx) B b -> ∀ i, M' b i = M b i) -> Rch base M B st tm w ⟨(t, .slice E [] false) :: (t, .bot) :: st.fr, st.bx⟩ tm w := by
  intro M' I N R O G;have hno : fD (.slice E [] false) (tm.getD t undef) := rH _ _ _;obtain ⟨y, C⟩ := I.reslot t (q := .slice E [] false) (by rw [hv]; exact R) (hno.h _ _ _ _) (fun b => by rw [hno.c b]; omega);exact ⟨rfl, M', B, y, rfl, rfl, rfl, aa1 _, O, fun b hb s => ⟨rfl, G b hb s⟩, fun b _ => aa5 (C b) (N b), fun d i b k _ => ⟨d, i, k⟩, fun _ _ => rfl⟩
 have hle : ∀ b, tot ((t, .bot) :: st.fr) tm w B st.bx b <= tot st.fr tm w B st.bx b := fun b => by have := k2 b; omega
 cases n with
 | vecNil _ S =>
  refine fin M f hle ?_ (fun _ _ _ hx => hx) (fun _ _ _ _ => rfl);cases S with
  | none => exact .nil false
  | some a => exact .slice [] [] false a 0 1 (fun _ _ => undef) (fun h => absurd h (by omega)) (by simp) (by simp) (by simp) (by simp) (by simp)
 | vec _ _ b cap r hc K A P =>
  obtain ⟨e0, E0, rfl⟩ : ∃ e0 E0, E = e0 :: E0 := by
   cases E with
   | nil => exact absurd rfl r
   | cons e l => exact ⟨e, l, rfl⟩
  have z : h1 M w base B (.vec sz (e0 :: E0)) (.slice (some ⟨b, 0, none⟩) (e0 :: E0).length cap) := p (.vec sz (e0 :: E0), .slice (some ⟨b, 0, none⟩) (e0 :: E0).length cap) (by simp [atoms, zipA]);obtain ⟨hok, hcont⟩ := z;generalize hEq : e0 :: E0 = E at *;have hE' : ∀ e ∈ E, e.cells.length = sz := fun e he => (kR (A e he)).1;have L : (E.flatMap cells).length = E.length * sz := pF E hE';have hcap : E.length * sz <= cap * sz := aas sz hc;have Q : tot ((t, .bot) :: st.fr) tm w B st.bx b = 0 := by
   have F := k2 b;have U := h.one b;have J : cV (.vec sz E) (.slice (some ⟨b, 0, none⟩) E.length cap) b = 1 := by
    rw [aDG (by simp) (by simp), <- hEq]; simp [c1, own1]
   omega
  have hmono : ∀ b' i x, M b' i = some x -> frzV M w b (E.length * sz) b' i = some x := by
   intro b' i x hx;unfold frzV;rw [if_neg];· exact hx
   rintro ⟨rfl, _⟩;rw [hok.free i (aaP _)] at hx; simp at hx
  obtain ⟨arr, T, fz, hrow, u, H⟩ := hok.row;have hcell : ∀ i, i < E.length * sz -> arr[i]? = some (cP w b i) := by
   intro i hi;have  := aaF hi (aa5 hcap u);simp [cP, World.cell?, hrow, this]
  have hcons : Cons (frzV M w b (E.length * sz)) w := by
   intro b' i x hx;unfold frzV at hx;split at hx;· rename_i hc;obtain ⟨rfl, hi⟩ := hc;cases hx;exact ⟨arr, T, fz, hrow, hcell i hi⟩
   exact h.cons b' i x hx
  have hsame : ∀ b', b' ≠ b -> ∀ i, frzV M w b (E.length * sz) b' i = M b' i := by
   intro b' hb i; unfold frzV; rw [if_neg (by rintro ⟨e, _⟩; exact hb e)]
  obtain ⟨y, C⟩ := f.world (M' := frzV M w b (E.length * sz)) (w' := w) hcons hmono (fun d id b' k => ⟨rfl, hsame b' (by rintro rfl; exact hok.nobox d id k)⟩) (fun b' hb => ⟨rfl, hsame b' (by rintro rfl; have hb : 1 <= tot ((t, .bot) :: st.fr) tm w B st.bx b' := hb; omega)⟩) (aa1 _);refine fin _ y hle ?_ hmono ?_
  ·have hmul : ∀ i j, i < E.length -> j < sz -> i * sz + j < E.length * sz := by
    intro i j hi g;have : (i + 1) * sz <= E.length * sz := aas sz hi;rw [aam] at this; omega
   have hin : ∀ i e, (E ++ [])[i]? = some e -> i < E.length /\ E[i]? = some e := by
    intro i e he;rw [aac] at he;exact ⟨(aa2.1 he).1, he⟩
   exact Rv.slice (M := frzV M w b (E.length * sz)) (B := B) E [] false ⟨b, 0, none⟩ cap sz (fun i j => cP w b (i * sz + j)) (fun _ => rfl) (by simpa using hc) (by simp)
    (fun i e he => okVe.el (A e (aad (hin i e he).2)) K)
    (fun i e j he g => by
     rw [aae];show frzV M w b (E.length * sz) b (i * sz + j) = _;unfold frzV;rw [if_pos ⟨rfl, hmul i j (hin i e he).1 g⟩])
    (fun i e j c he hc' => by
     have he' := (hin i e he).2;have o := hE' e (aad he');have g : j < sz := by rw [<- o]; exact (aa2.1 hc').1
     have m : (E.flatMap cells)[i * sz + j]? = some c := by
      rw [qY E hE' i j g, he']; exact hc'
     have hsol := (kR (A e (aad he'))).2 c (aad hc');exact ((hcont _ c m).anyB1 _ hsol).mono hmono (fun _ _ _ hx => hx))
  intro b' hb s i;refine hsame b' ?_ i;rintro rfl;apply s; left;have F := k2 b';have J : cV (.vec sz E) (.slice (some ⟨b', 0, none⟩) E.length cap) b' = 1 := by
   rw [aDG (by simp) (by simp), <- hEq]; simp [c1, own1]
  omega
theorem aQu (h : SR base M B st tm w) {t st'} (hf : aI0 t st some = some st') : Rch base M B st tm w st' tm w := by
 unfold aI0 at hf;split at hf;rotate_left;· rename_i F;cases hf; exact aQt h F
 ·cases hf; exact Rch.refl h
 rename_i id n sz F;split at hf;rotate_left;· simp at hf
 rename_i sz' E hb;split at hf;rotate_left;· simp at hf
 rename_i hsz hmn;have := aap hsz;subst this;rcases bQ hf with ⟨z, hf⟩ | ⟨_, hf⟩;rotate_left;· simp at hf
 cases hf;have z := ab3 z;obtain ⟨V, G⟩ : okV [.vec sz E] := (h.box.ok 0 id _ hb).1;have hE' : ∀ e ∈ E, e.cells.length = sz := fun e he => (kR (G e he)).1;have U : (E.flatMap cells).length = E.length * sz := pF E hE';have K : n * sz <= E.length * sz := aas sz z;have hcellk : ∀ blk, B 0 id = some blk -> ∀ k, k < E.length * sz -> w.cell? ⟨blk, k, none⟩ = some (cP w blk k) := by
  intro blk hB k J;obtain ⟨arr, T, fz, hrow, hsz, hfz, ok, hcell⟩ := sU h hb hB;exact hcell k (by show k < (E.flatMap cells).length; omega)
 have hmono : ∀ b i v, M b i = some v -> frzM M w (B 0 id) (n * sz) b i = some v := by
  intro b i v hv;unfold frzM;split
  ·rename_i blk hB;obtain ⟨arr, T, fz, hrow, hsz, hfz, ok, hcell⟩ := sU h hb hB;rw [if_neg];· exact hv
   ·rintro ⟨rfl, _⟩;rw [ok.free i] at hv; simp at hv
  ·exact hv
 have hcons : Cons (frzM M w (B 0 id) (n * sz)) w := by
  intro b i v hv;unfold frzM at hv;split at hv
  ·rename_i blk hB;split at hv;· rename_i hc;obtain ⟨rfl, hi⟩ := hc;cases hv;have hx := hcellk b hB i (by omega);obtain ⟨arr, T, fz, hrow, hsz, hfz, ok, hcell⟩ := sU h hb hB;refine ⟨arr, T, fz, hrow, ?_⟩;simp only [World.cell?, hrow] at hx;simpa using hx
   ·exact h.cons b i v hv
  ·exact h.cons b i v hv
 have hrel0 : ∀ p v, Rv M B p v -> ment id 3 p = false -> Rv (frzM M w (B 0 id) (n * sz)) (delB id B) p v := fun p v hr y => (hr.del 3 y).mono hmono (fun _ _ _ hx => hx)
 -- the slot itself
 have hslott : Rv (frzM M w (B 0 id) (n * sz)) (delB id B) (.slice (E.take n) [] false) (tm.getD t undef) := by
  have hr := h.slot t;rw [F] at hr;have hlen : (E.take n).length = n := by simp; omega
  generalize tm.getD t undef = v at hr;cases hr with
  | rslNil _ _ _ oa =>
   simp only [List.take_zero];cases oa with
   | none => exact .nil false
   | some a => exact .slice [] [] false a 0 1 (fun _ _ => undef) (fun h => absurd h (by omega)) (by simp) (by simp) (by simp) (by simp) (by simp)
  | rsl _ _ _ _ blk cap hB hc =>
   obtain ⟨arr, T, fz, hrow, H, hfz, ok, hcell⟩ := sU h hb hB;have Z : ∀ k, k < n * sz -> frzM M w (B 0 id) (n * sz) blk k = some (cP w blk k) := by
    intro k J;unfold frzM;rw [hB];simp only;rw [if_pos ⟨trivial, J⟩]
   have hin : ∀ i e, (E.take n ++ [])[i]? = some e -> i < n /\ E[i]? = some e := by
    intro i e he;rw [aac, abb] at he;split at he;· rename_i hi; exact ⟨hi, he⟩
    ·simp at he
   have hmul : ∀ i j, i < n -> j < sz -> i * sz + j < n * sz := by
    intro i j hi hj;have : (i + 1) * sz <= n * sz := aas sz hi;rw [aam] at this; omega
   have key := Rv.slice (M := frzM M w (B 0 id) (n * sz)) (B := delB id B) (E.take n) [] false ⟨blk, 0, none⟩ cap sz (fun i j => cP w blk (i * sz + j)) (fun _ => rfl) (by simp; omega) (by simp)
    (fun i e he => okVe.el (G e (aad (hin i e he).2)) V)
    (fun i e j he hj => by
     rw [aae];exact Z _ (hmul i j (hin i e he).1 hj))
    (fun i e j c he hc' => by
     have he' := (hin i e he).2;have s := hE' e (aad he');have hj : j < sz := by rw [<- s]; exact (aa2.1 hc').1
     have l : (phys [.vec sz E])[i * sz + j]? = some c := by
      show (E.flatMap cells)[i * sz + j]? = some c;rw [qY E hE' i j hj, he']; exact hc'
     have hsol := (kR (G e (aad he'))).2 c (aad hc');exact ((ok.rel _ c l).1.anyB1 _ hsol).mono hmono (fun _ _ _ hx => hx))
   rw [hlen] at key;exact key
 have hgets : ∀ i, gets ((t, .slice (E.take n) [] false) :: st.fr.map fun x => (x.1, aGv id x.2)) i = if t = i then .slice (E.take n) [] false else aGv id (gets st.fr i) := by
  intro i; rw [gL, aSD]
 have o : ∀ b, cF ((t, .slice (E.take n) [] false) :: st.fr.map fun x => (x.1, aGv id x.2)) tm b <= cF st.fr tm b := by
  intro b;apply aHq;intro i _;rw [hgets];split;· rw [(rH _ _ _).c b]; omega
  ·exact bHq _ _ _ _
 have u : ∀ b, cBx w (delB id B) (uD st.bx id) b <= cBx w B st.bx b := by
  intro b;cases hbx : st.bx with
  | nil => simp [uD, cBx, jL]
  | cons f r =>
   simp [uD, cBx, jL];have etail : ∀ r, jL (fun d i cs => cBox w (delB id B d i) cs b) 1 r = jL (fun d i cs => cBox w (B d i) cs b) 1 r := by
    intro r;apply yX;intro d g _;apply gX;intro i cs _;rw [aCj (by rintro ⟨S, _⟩; omega)]
   have m : fS (fun i cs => cBox w (delB id B 0 i) cs b) (f.filter fun x => !(x.1 == id)) <= fS (fun i cs => cBox w (B 0 i) cs b) f := by
    have C : (f.map (·.1)).Nodup := h.box.nodup 0 f (by rw [hbx]; rfl);rw [gX (g' := fun i cs => cBox w (B 0 i) cs b) _ (fun i cs y => by
     have := (aaM.1 y).2;rw [aCj (by rintro ⟨_, rfl⟩; simp at this)])]
    exact aDS _ _ ((xJ C).filter _) fun x hx => (aaM.1 hx).1
   rw [etail]; simp [aae] at *; omega
 have htot : ∀ b, tot ((t, .slice (E.take n) [] false) :: st.fr.map fun x => (x.1, aGv id x.2)) tm w (delB id B) (uD st.bx id) b <= tot st.fr tm w B st.bx b := by
  intro b; have := o b; have := u b; simp [tot]; omega
 refine ⟨rfl, frzM M w (B 0 id) (n * sz), delB id B, ⟨hcons, ?_, ?_, ⟨?_, ?_, ?_, ?_⟩, fun b => aa5 (htot b) (h.one b), h.glob.mono hmono, h.base⟩, rfl, rfl, rfl, aa1 _, hmono, ?_, fun b _ => htot b, fun d i b hb _ => ⟨d, i, aLs hb⟩, ?_⟩
 ·intro i;show Rv _ _ (gets ((t, .slice (E.take n) [] false) :: st.fr.map fun x => (x.1, aGv id x.2)) i) _;rw [hgets];split;· rename_i e; subst e; exact hslott
  ·exact (h.slot i).kill.mono hmono (fun _ _ _ hx => hx)
 ·intro i;show hV _ _ _ _ (gets ((t, .slice (E.take n) [] false) :: st.fr.map fun x => (x.1, aGv id x.2)) i) _;rw [hgets];split;· exact (rH _ _ _).h _ _ _ _
  ·intro x hx;exact h1.frz (bHr id (h.slotH i) x hx) hmono
 ·intro d f hf;cases hbx : st.bx with
  | nil => rw [hbx] at hf; simp [uD] at hf
  | cons Y r =>
   rw [hbx] at hf;cases d with
   | zero =>
    simp [uD] at hf; subst hf;exact (h.box.nodup 0 Y (by rw [hbx]; rfl)).sublist ((List.filter_sublist).map _)
   | succ d => exact h.box.nodup (d + 1) f (by rw [hbx]; simpa [uD] using hf)
 ·intro d i hno;show delB id B d i = none;unfold delB;split;· rfl
  ·rename_i hne;rw [show bD (uD st.bx id) d i = bD st.bx d i by rw [aO9, if_neg hne]] at hno;exact h.box.dom d i hno
 ·intro d i cs hc;have hc  := hc;rw [aO9] at hc;split at hc;· simp at hc
  rename_i hne;obtain ⟨I, X⟩ := h.box.ok d i cs hc;refine ⟨I, ?_⟩;rcases X with ⟨blk, hB, ok⟩ | ⟨hno, D⟩
  ·refine .inl ⟨blk, by rw [aCj hne]; exact hB, ok.old, ok.row.congr hmono rfl, ?_, ?_⟩
   ·intro j;unfold frzM;split
    ·rename_i L q;rw [if_neg];· exact ok.free j
     rintro ⟨rfl, _⟩;obtain ⟨O, Q⟩ := h.box.inj d i 0 id blk hB q;exact hne ⟨O, Q⟩
    exact ok.free j
   intro j c hj;obtain ⟨A, N, r3⟩ := ok.rel j c hj;refine ⟨?_, N.frz hmono, r3⟩;cases d with
   | zero =>
    rw [aQa] at A ⊢;refine hrel0 _ _ A ?_
    -- nobody speaks of it
    have hin  := by rw [aBH] at hc; exact nN hc
    rw [aak] at hmn;have hx := hmn (i, cs) hin;simp [aay] at hx;have hx := hx.resolve_left (fun e => hne ⟨rfl, e⟩);unfold phys at hj;split at hj
    ·rename_i W E2;have hsol : c.solid1 = true := by
      obtain ⟨x, hx, hc'⟩ := aaE.1 (aad hj);exact (kR (I.2 x hx)).2 c hc'
     cases c <;> first | rfl | simp [PV.solid1] at hsol
    ·simp at hj
    exact hx c (aad hj)
   | succ d =>
    have : upB (d + 1) (delB id B) = upB (d + 1) B := by funext e i2; unfold upB; rw [aCj (by rintro ⟨S, _⟩; omega)]
    rw [this];exact A.mono hmono (fun _ _ _ hx => hx)
  ·exact .inr ⟨by rw [aCj hne]; exact hno, D⟩
 ·intro d i P R blk h1 h2;exact h.box.inj d i P R blk (aLs h1) (aLs h2)
 ·intro b hb hnt;refine ⟨rfl, fun i => ?_⟩;unfold frzM;split;· rename_i blk hB;rw [if_neg];rintro ⟨rfl, _⟩;exact hnt (.inr ⟨0, id, hB⟩)
  rfl
 ·intro d i; rw [aCj (by omega)]
theorem aCk:∀ l {st b M B},SR base M B st tm w->aBi l st some=some b->Rch base M B st tm w b tm w
 | [],st,b,M,B,h,a=>by cases a;exact Rch.refl h
 | t::l,st,b,M,B,h,a=>by
  simp [aBi] at a;split at a;· rw [aGD] at a;obtain ⟨e,d,a⟩:=aB a;exact (aQu h d).trans fun M' B' c=>aCk l c a
  rw [aMg] at a;obtain ⟨e,d,a⟩:=aB a;exact (aVD h d).trans fun M' B' c=>aCk l c a
theorem aMh {l i a} (h:SR base M B st tm w) (b:aHo l i st some=some a):Rch base M B st tm w a tm w:=by
 unfold aHo at b;split at b;· exact aCk _ h b
 cases b;exact Rch.refl h
end
section cps
variable {P : Program} {mt : Hints} {nt : Nat} {O : Orc} {LP : aAv -> aAv}
theorem uH {a R}:∀ c st (K:St->Option R),qC P mt nt O a c st K=bnd (qC P mt nt O a c st some) K
 | [],st,K=>rfl
 | o::c,st,K=>by
  simp [qC];rw [lY,lY (R:=St),bO];apply jW;rintro ⟨b,s⟩;cases b with
  | true =>
   rw [jQ,jQ (R:=St),bO];apply jW;intro e;exact uH c _ K
  | false=>exact uH c _ K
theorem bEw {R S} e w x y (g:R->Option S):bnd (exIs e w x y) g=exIs e w (bnd x g) (bnd y g):=by
 cases e<;>cases w<;>simp [exIs]<;>split<;>rfl
theorem aMi {R} e s (K:Ex->St->Option R):∀ l,yU e (fun e=>K e s) l=bnd (yU e (fun e=>some (e,s)) l) fun x=>K x.1 x.2
 | []=>rfl
 | w::l=>by simp [yU];rw [bEw,aMi e s K l];rfl
theorem aFa {R} kp sh st (K:List PV->UP->Option R):pack kp sh st K=bnd (pack kp sh st fun s u=>some (s,u)) fun x=>K x.1 x.2:=by
 unfold pack;split;· rfl
 ·rw [sX];rfl
 rfl
theorem dB {R}:∀ c st (K:Ex->St->Option R),bC P mt nt O LP c st K=bnd (bC P mt nt O LP c st fun e s=>some (e,s)) fun x=>K x.1 x.2
 | .skip,st,K=>rfl
 | .label _,st,K=>rfl
 | .region id f d,st,K=>by
  cases d with
  | false =>
   simp [bC];rw [oD,oD (R:=Ex×St),bO];apply jW;intro st;rw [uH,uH (R:=Ex×St),bO];rfl
  | true =>
   simp [bC];rw [oD,oD (R:=Ex×St),bO];apply jW;intro st;split;· rw [oC,oC (R:=Ex×St),bO];apply jW;rintro ⟨l,s⟩;split<;>rfl
   rfl
 | .seq a b,st,K=>by
  simp [bC];conv=>lhs;rw [dB]
  conv=>rhs;rw [dB,bO]
  apply jW;rintro ⟨e,s⟩;cases e with
  | nrm=>exact dB b s K
  | brk i=>rfl
  | ret=>rfl
 | .cond c a b,st,K=>by
  simp [bC];rw [bBC];apply bBD;intro t;cases t with
  | true=>exact dB a _ K
  | false=>exact dB b _ K
 | .block id b,st,K=>by
  simp [bC];conv=>lhs;rw [dB]
  conv=>rhs;rw [dB,bO]
  apply jW;rintro ⟨e,s⟩;cases e with
  | nrm=>rfl
  | brk i=>simp;split<;>rfl
  | ret=>rfl
 | .scope b,st,K=>dB b st K
 | .exit id,st,K=>rfl
 | .ret,st,K=>rfl
 | .loop b,st,K=>by
  simp [bC];rw [oD,oD (R:=Ex×St),bO];apply jW;intro st;rw [aFa,aFa (R:=Ex×St),bO];apply jW;rintro ⟨s,u⟩;simp [bO];apply jW;intro r;exact aMi r.1 (dV (aBB mt b) (rE st.bx) r.2.1 r.2.2) K _
 | .rangeFunc _ _ _ _,st,K=>rfl
 | .goto _,st,K=>rfl
 | .refuse _,st,K=>rfl
end cps
def toX:Ex->Exit
 | .nrm => .normal
 | .brk i => .exit i
 | .ret => .ret
section
variable {P : Program} {mt : Hints} {O : Orc} {ops : Array Oper}
theorem aSE {base} (d:aQk P base.g O):∀ os i st st' a w M B,(∀ k,os[k]?=ops[i+k]?) ->
  qC P mt a.tmps.size O ops os st some=some st'->SR base M B st a.tmps w ->
  ∀ Q,(∀ a' w',Rch base M B st a.tmps w st' a'.tmps w'->a'.defers=a.defers->Q .normal a' w')->wpOps P ops Q ((List.range os.length).map (i + ·)) a w
 | [],i,st,st',a,w,M,B,_,h,hsr,Q,c=>by
  cases h;exact c a w (Rch.refl hsr) rfl
 | o::os,i,st,st',a,w,M,B,hos,h,hsr,Q,c=>by
  obtain ⟨b,fr',s,hfr,h⟩:=aE9 _ _ _ _ _ h;have hoi  := by have:=hos 0;simpa using this.symm
  have heq:Eqv st {st with fr:=fr'}:=⟨fun j=>(hfr j).symm,fun _ _=>rfl,rfl⟩;have hsr'  := hsr.eqv heq hsr.box.nodup;have hrng:(List.range (o::os).length).map (i + ·)=i::(List.range os.length).map ((i+1) + ·):=by
   rw [aaV,List.range_succ_eq_map];simp;omega
  rw [hrng,wpOps_cons];unfold wpOp;rw [hoi];simp;rw [aMf hsr _ _ _ s];have step:∀ (e:Eff) a1 w1,a1.defers=a.defers->Rch base M B {st with fr:=fr'} a.tmps w (e.app {st with fr:=fr'}) a1.tmps w1->qC P mt a.tmps.size O ops os (e.app {st with fr:=fr'}) some=some st' ->
    wpOps P ops Q ((List.range os.length).map ((i+1) + ·)) a1 w1:=by
   intro e a1 w1 C n hev;obtain ⟨l,M',B',f,z⟩:=n;rw [<- l] at hev;refine aSE d os (i+1) _ st' a1 w1 M' B' (fun k => ?_) hev f Q ?_;· have:=hos (k+1);rw [show i+1+k=i+(k+1) by omega,<- this];simp
   intro a' w' u m;obtain ⟨A,q,x,y,r⟩:=u;exact c a' w' (Rch.of_eqv ⟨by omega,q,x,y,z.trans r⟩ heq hsr.box.nodup hsr'.box.nodup) (by grind)
  cases b with
  | true =>
   rw [jQ] at h;obtain ⟨e,hev,h⟩:=aB h;left;exact aDQ d hsr' hev fun tm' w' t=>step e ⟨tm',a.defers⟩ w' rfl t h
  | false =>
   refine step (undE a.tmps.size o) _ _ (aOY _ _ _) ?_ (by exact h);rw [aXz];exact pE (dst:=o.dst) hsr' (p := .und) (v:=undef) .und (uE _)
end
open PV
theorem aF1 {l m i} (h:i<l.length):gt (l++m) i=gt l i:=by
 rw [aHp,aHp,aaq h]
theorem aDT {l m i} (h:l.length<=i):gt (l++m) i=gt m (i-l.length):=by
 rw [aHp,aHp,aaJ h]
theorem aDU (g:Nat->PV) s:∀ kp k,(∀ p i,kp[p]?=some i->gt s (k+p)=g i)->∀ i,gets (qD s k kp) i=if i∈kp then g i else .bot
 | [],k,_,i=>by simp [qD,gets,look]
 | j::kp,k,h,i=>by
  simp [qD];rw [gL];by_cases e:j=i;· subst e;simp;have:=h 0 j rfl;omega
  rw [if_neg e,aDU g s kp (k+1) (fun p i a=>by have:=h (p+1) i (by grind);grind) i];grind
theorem aBn {x l f} (h:nY (x::l) f=true):(∃ cs,look f x.1=some cs/\cs.length=x.2)/\nY l f=true:=by
 simp only [nY,aaL,aa0] at h;refine ⟨?_,h.2⟩;grind
theorem aMj f s:∀ sh k,nY sh f=true->(∀ j,j<(flat f sh).length->gt s (k+j)=gt (flat f sh) j) ->
  aOV s k sh=sh.map fun x=>(x.1,(look f x.1).getD [])
 | [],k,_,_=>rfl
 | (i,n)::sh,k,g,h=>by
  obtain ⟨⟨cs,b,a⟩,e⟩:=aBn g;simp at b a;have c:flat f ((i,n)::sh)=cs++flat f sh:=by
   simp [flat,b];congr 1;rw [<- a];exact aAB cs
  rw [c] at h;simp only [aOV];congr 1
  ·congr 1;rw [b];conv=>rhs;rw [<- aAB cs,a]
   apply aaU;intro j d;have d:=aav.1 d;rw [h j (by grind),aF1 (by omega)]
  refine aMj f s sh (k+n) e fun j d => ?_;have:=h (n+j) (by grind);rw [aDT (by omega)] at this;grind
theorem aHE f:∀ sh i,nY sh f=true->look (sh.map fun x=>(x.1,(look f x.1).getD [])) i=if i∈sh.map (·.1) then look f i else none
 | [],i,_=>by simp [look]
 | x::sh,i,h=>by
  obtain ⟨⟨cs,b,_⟩,a⟩:=aBn h;simp [look];by_cases e:x.1=i;· grind
  rw [if_neg e,aHE f sh i a];grind
def pG (a:List Nat) (B:BM):BM:=fun d id=>if d=0/\id∉a then none else B d id
theorem aHF {a B d id b} (h:pG a B d id=some b):B d id=some b:=by
 unfold pG at h;grind
theorem Rv.insideN {M B sh}:∀ n {p v},Rv M B p v->insideN sh n p=true->Rv M (pG (sh.map (·.1)) B) p v:=by
 intro n;induction n with
 | zero =>
  intro p v h q;cases h with
  | bot v=>exact .bot v
  | und=>simp [Ev.insideN,PV.solid1] at q
  | bool b=>exact .bool b
  | int k n=>exact .int k n
  | str s=>exact .str s
  | agg cs vs f D F u=>exact (Rv.agg cs vs f D F u).anyB _ (by simpa [Ev.insideN,PV.solid] using q)
  | tuple=>simp [Ev.insideN,PV.solid1] at q
  | nil o=>exact .nil o
  | slice es bs o a cap s f w l J m y u=>exact (Rv.slice es bs o a cap s f w l J m y u).anyB _ rfl
  | mk0 sz a cap w=>exact .mk0 sz a cap w
  | ref e a s f w m y u=>exact .ref e a s f w m y (fun j c l=>(u j c l).anyB1 _ (m.cell l))
  | ptr d id off b x =>
   refine .ptr d id off b ?_;unfold pG;rw [if_neg];· exact x
   rintro ⟨rfl,z⟩;apply z;simp [Ev.insideN,aaZ,beq_iff_eq] at q;grind
  | rsl d id n sz b cap x l =>
   refine .rsl d id n sz b cap ?_ l;unfold pG;rw [if_neg];· exact x
   rintro ⟨rfl,z⟩;apply z;simp [Ev.insideN,aaZ,beq_iff_eq] at q;grind
  | rslNil d id sz G=>exact .rslNil d id sz G
  | mp d id b x =>
   refine .mp d id b ?_;unfold pG;rw [if_neg];· exact x
   rintro ⟨rfl,z⟩;apply z;simp [Ev.insideN,aaZ,beq_iff_eq] at q;grind
  | nilptr=>exact .nilptr
  | func K r t O Q f g R D F I C N H=>exact (Rv.func K r t O Q f g R D F I C N H).anyBfree _ (by simpa [Ev.insideN,PV.free] using q)
  | vec sz E b cap A l L P y=>exact .vec sz E b cap A l L P y
  | vecNil sz G=>exact .vecNil sz G
  | nilFunc=>exact .nilFunc
 | succ n S =>
  intro p v h q;cases h with
  | bot v=>exact .bot v
  | und=>simp [Ev.insideN,PV.solid1] at q
  | bool b=>exact .bool b
  | int k n=>exact .int k n
  | str s=>exact .str s
  | agg cs vs f D F u=>exact (Rv.agg cs vs f D F u).anyB _ (by simpa [Ev.insideN,PV.solid] using q)
  | tuple=>simp [Ev.insideN,PV.solid1] at q
  | nil o=>exact .nil o
  | slice es bs o a cap s f w l J m y u=>exact (Rv.slice es bs o a cap s f w l J m y u).anyB _ rfl
  | mk0 sz a cap w=>exact .mk0 sz a cap w
  | ref e a s f w m y u=>exact .ref e a s f w m y (fun j c l=>(u j c l).anyB1 _ (m.cell l))
  | ptr d id off b x =>
   refine .ptr d id off b ?_;unfold pG;rw [if_neg];· exact x
   rintro ⟨rfl,z⟩;apply z;simp [Ev.insideN] at q;grind
  | rsl d id n sz b cap x l =>
   refine .rsl d id n sz b cap ?_ l;unfold pG;rw [if_neg];· exact x
   rintro ⟨rfl,z⟩;simp [Ev.insideN] at q;grind
  | rslNil d id sz G=>exact .rslNil d id sz G
  | mp d id b x =>
   refine .mp d id b ?_;unfold pG;rw [if_neg];· exact x
   rintro ⟨rfl,z⟩;simp [Ev.insideN] at q;grind
  | nilptr=>exact .nilptr
  | func K r t O Q f g R D F I C N H =>
   simp [Ev.insideN] at q;exact .func K r t O Q f g R D F (fun i c l=>by grind) C N (fun i c l=>by grind)
  | vec sz E b cap A l L P y=>exact .vec sz E b cap A l L P y
  | vecNil sz G=>exact .vecNil sz G
  | nilFunc=>exact .nilFunc
theorem Rv.inside {M B p v sh} (h:Rv M B p v) (a:inside sh p=true):Rv M (pG (sh.map (·.1)) B) p v:=Rv.insideN 3 h a
section
variable {base : Base} {M : Mem} {B : BM} {st : St} {tm : Array Value} {w : World}
theorem aBI bx d id:bD bx (d+1) id=bD (mQ bx) d id:=by
 cases bx with
 | nil=>simp [yV,mQ]
 | cons f r=>rfl
theorem aPa (h:SR base M B st tm w) {kp sh s u} (D:(sh.map (·.1)).Nodup)
  (hp:pack kp sh st (fun s u=>some (s,u))=some (s,u)):Rch base M B st tm w (dV kp sh s u) tm w:=by
 have core:nY sh (uC st.bx)=true->s=tX kp sh st->u=mQ st.bx->(∀ v∈tX kp sh st,∀ x,Rv M B v x->Rv M (pG (sh.map (·.1)) B) v x)->Rch base M B st tm w (dV kp sh s u) tm w:=by
  intro hh K O hin;subst K;subst O;have hfr:∀ i,gets (dV kp sh (tX kp sh st) (mQ st.bx)).fr i=if i∈kp then gets st.fr i else .bot:=by
   intro i;refine aDU (gets st.fr) _ kp 0 (fun p i hp => ?_) i;have t:=(aa2.1 hp).1;rw [aae,tX,aF1 (by simpa using t),aHp,aa9,hp];rfl
  have E:aOV (tX kp sh st) kp.length sh=sh.map fun x=>(x.1,(look (uC st.bx) x.1).getD []):=by
   refine aMj _ _ sh kp.length hh fun j hj => ?_;rw [tX,aDT (by simp)];congr 1;simp
  have hbx:(dV kp sh (tX kp sh st) (mQ st.bx)).bx=(sh.map fun x=>(x.1,(look (uC st.bx) x.1).getD []))::mQ st.bx:=by
   simp only [dV,E]
  have hb0:∀ id,bD (dV kp sh (tX kp sh st) (mQ st.bx)).bx 0 id=if id∈sh.map (·.1) then bD st.bx 0 id else none:=by
   intro id;rw [hbx,bI,aHE _ _ _ hh,aBH]
  have hbd:∀ d id,bD (dV kp sh (tX kp sh st) (mQ st.bx)).bx (d+1) id=bD st.bx (d+1) id:=by
   intro d id;rw [hbx,jP,aBI]
  have a:∀ d id cs,bD (dV kp sh (tX kp sh st) (mQ st.bx)).bx d id=some cs->bD st.bx d id=some cs/\pG (sh.map (·.1)) B d id=B d id:=by
   intro d id cs hc;cases d with
   | zero =>
    rw [hb0] at hc;split at hc;· rename_i hm;exact ⟨hc,by unfold pG;rw [if_neg];rintro ⟨_,hn⟩;exact hn hm⟩
    ·simp at hc
   | succ d=>rw [hbd] at hc;exact ⟨hc,by unfold pG;rw [if_neg];rintro ⟨k,_⟩;omega⟩
  have g:∀ id cs,bD (dV kp sh (tX kp sh st) (mQ st.bx)).bx 0 id=some cs->∀ c∈cs,c∈tX kp sh st:=by
   intro id cs hc c P;rw [hb0] at hc;split at hc
   ·rename_i hm;rw [aBH] at hc;refine aa6.2 (.inr ?_);have:∀ sh,nY sh (uC st.bx)=true->id∈sh.map (·.1)->c∈flat (uC st.bx) sh:=by
     intro sh;induction sh with
     | nil=>intro _ hm;simp at hm
     | cons x l W =>
      intro hh hm;obtain ⟨⟨cs',hcs',hlen⟩,X⟩:=aBn hh;obtain ⟨i,n⟩:=x;simp only at hcs' hlen;simp only [flat,hcs'];rcases aa3.1 hm with e | hm;· simp only at e;subst e;rw [hc] at hcs';cases hcs';rw [<- hlen,aAB];exact by grind
      ·exact by grind
    exact this sh hh hm
   ·simp at hc
  have q:∀ d,0<d->upB d (pG (sh.map (·.1)) B)=upB d B:=by
   intro d T;funext e id;unfold upB pG;rw [if_neg];rintro ⟨k,_⟩;omega
  have hh1:∀ c v,h1 M w base B c v->h1 M w base (pG (sh.map (·.1)) B) c v:=fun c v hc=>hc.world (fun _ _ _ hx=>hx) fun b _ _=>⟨rfl,fun _=>rfl,fun d id hb=>aHF hb⟩;have hslot:∀ i,Rv M (pG (sh.map (·.1)) B) (gets (dV kp sh (tX kp sh st) (mQ st.bx)).fr i) (tm.getD i undef):=by
   intro i;rw [hfr];split;· rename_i hm;exact hin _ (aa6.2 (.inl (aah.2 ⟨i,hm,rfl⟩))) _ (h.slot i)
   ·exact .bot _
  have hnew:SR base M (pG (sh.map (·.1)) B) (dV kp sh (tX kp sh st) (mQ st.bx)) tm w->(∀ b,tot (dV kp sh (tX kp sh st) (mQ st.bx)).fr tm w (pG (sh.map (·.1)) B) (dV kp sh (tX kp sh st) (mQ st.bx)).bx b<=tot st.fr tm w B st.bx b) ->
    Rch base M B st tm w (dV kp sh (tX kp sh st) (mQ st.bx)) tm w:=by
   intro h1 h2;refine ⟨rfl,M,pG (sh.map (·.1)) B,h1,rfl,rfl,rfl,aa1 _,fun _ _ _ hx=>hx,fun _ _ _=>⟨rfl,fun _=>rfl⟩,fun b _=>h2 b,fun d id b hb _=>⟨d,id,aHF hb⟩,?_⟩;intro d id;unfold pG;rw [if_neg];rintro ⟨k,_⟩;omega
  have htot:∀ b,tot (dV kp sh (tX kp sh st) (mQ st.bx)).fr tm w (pG (sh.map (·.1)) B) (dV kp sh (tX kp sh st) (mQ st.bx)).bx b<=tot st.fr tm w B st.bx b:=by
   intro b;have R:cF (dV kp sh (tX kp sh st) (mQ st.bx)).fr tm b<=cF st.fr tm b:=by
    apply aHq;intro i _;rw [hfr];split;· exact aa1 _
    ·rw [(aDL _).c];omega
   have S:cBx w (pG (sh.map (·.1)) B) (dV kp sh (tX kp sh st) (mQ st.bx)).bx b<=cBx w B st.bx b:=by
    have etail:∀ r,jL (fun d id cs=>cBox w (pG (sh.map (·.1)) B d id) cs b) 1 r=jL (fun d id cs=>cBox w (B d id) cs b) 1 r:=by
     intro r;apply yX;intro d f _;apply gX;intro id cs _;have:pG (sh.map (·.1)) B (1+d) id=B (1+d) id:=by unfold pG;rw [if_neg];rintro ⟨k,_⟩;omega
     rw [this]
    have ehead:fS (fun id cs=>cBox w (pG (sh.map (·.1)) B 0 id) cs b) (sh.map fun x=>(x.1,(look (uC st.bx) x.1).getD []))<=fS (fun id cs=>cBox w (B 0 id) cs b) (uC st.bx):=by
     have Y:((sh.map fun x=>(x.1,(look (uC st.bx) x.1).getD [])).map (·.1))=sh.map (·.1):=by simp [Function.comp_def]
     have hin':∀ x∈(sh.map fun x=>(x.1,(look (uC st.bx) x.1).getD [])),x∈uC st.bx/\x.1∈sh.map (·.1):=by
      intro x hx;obtain ⟨y,hy,rfl⟩:=aah.1 hx;simp only [nY,aak] at hh;have:=hh y hy;split at this;· rename_i cs F;refine ⟨?_,by grind⟩;have hcs':look (uC st.bx) y.1=some cs:=F;simp only [hcs',aaN];exact nN hcs'
      ·simp at this
     rw [gX (g':=fun id cs=>cBox w (B 0 id) cs b) _ (fun id cs hm=>by
      have:=(hin' _ hm).2;have:pG (sh.map (·.1)) B 0 id=B 0 id:=by unfold pG;rw [if_neg];rintro ⟨_,hn⟩;exact hn this
      rw [this])]
     exact aDS _ _ (by grind) fun x hx=>(hin' x hx).1
    unfold cBx;rw [hbx];simp only [jL];cases hb:st.bx with
    | nil=>rw [hb] at ehead;simp only [uC,fS] at ehead;simp only [uC,mQ,jL];omega
    | cons f r =>
     rw [hb] at ehead;simp only [uC,mQ,jL] at ehead ⊢;rw [aae,etail r];omega
   simp [tot];omega
  refine hnew ⟨h.cons,hslot,?_,⟨?_,?_,?_,?_⟩,fun b=>aa5 (htot b) (h.one b),h.glob,h.base⟩ htot
  ·intro i;rw [hfr];split;· intro x hx;exact hh1 _ _ (h.slotH i x hx)
   ·exact (aDL _).h _ _ _ _
  ·intro d f hf;rw [hbx] at hf;cases d with
   | zero=>simp at hf;subst hf;simpa [Function.comp_def] using D
   | succ d =>
    simp at hf;cases hb:st.bx with
    | nil=>rw [hb] at hf;simp [mQ] at hf
    | cons V r=>rw [hb] at hf;exact h.box.nodup (d+1) f (by rw [hb];simpa [mQ] using hf)
  ·intro d id hn;cases d with
   | zero =>
    unfold pG;rw [hb0] at hn;split at hn
    ·split;· rfl
     ·exact h.box.dom 0 id hn
    ·rename_i hm;rw [if_pos ⟨rfl,hm⟩]
   | succ d =>
    rw [hbd] at hn;unfold pG;rw [if_neg (by rintro ⟨k,_⟩;omega)];exact h.box.dom (d+1) id hn
  ·intro d id cs hc;obtain ⟨h1,h2⟩:=a d id cs hc;obtain ⟨hv,G⟩:=h.box.ok d id cs h1;refine ⟨hv,?_⟩;rcases G with ⟨blk,H,o⟩ | hno;rotate_left;· exact .inr ⟨by rw [h2];exact hno.1,hno.2⟩
   refine .inl ⟨blk,by rw [h2];exact H,o.old,o.row,o.free,?_⟩;intro j c hj;obtain ⟨m,I,Q⟩:=o.rel j c hj;refine ⟨?_,hh1 _ _ I,Q⟩;cases d with
   | zero =>
    rw [aQa] at m ⊢;unfold phys at hj;split at hj
    ·rename_i L Z;have hsol:c.solid1=true:=by
      obtain ⟨x,hx,C⟩:=aaE.1 (aad hj);exact (kR (hv.2 x hx)).2 c C
     exact m.anyB1 _ hsol
    ·simp at hj
    exact hin c (g id cs hc c (by grind)) _ m
   | succ d=>rw [q (d+1) (by omega)];exact m
  ·intro d id J A blk h1 h2;exact h.box.inj d id J A blk (aHF h1) (aHF h2)
 unfold pack at hp;split at hp
 ·rename_i hh hall;simp [aaQ] at hp;refine core hh hp.1.symm hp.2.symm fun v _ x hx => ?_;have:pG (sh.map (·.1)) B=B:=by
   funext d id;unfold pG;split;· rename_i hc;obtain ⟨rfl,hn⟩:=hc;symm;apply h.box.dom;rw [aBH,aDE];intro hm;obtain ⟨y,hy,rfl⟩:=aah.1 hm;rw [aak] at hall;have:=hall y hy;rw [aaZ] at this;obtain ⟨z,U,N⟩:=this;apply hn;rw [<- beq_iff_eq.1 N];exact by grind
   rfl
  rw [this];exact hx
 ·rename_i hh hall;rcases bQ hp with ⟨hin,hp⟩ | ⟨_,hp⟩;· simp at hp;rw [aak] at hin;exact core hh hp.1.symm hp.2.symm fun v hv x hx=>hx.inside (hin v hv)
  simp at hp
 ·simp at hp
end
def aXX (LP:aAv->aAv):Prop:=∀ body s u r,LP body s u=some r->∃ n,aBj n body s u=some r
theorem aDV {R e} {K:Ex->Option R} {r}:∀ {l},yU e K l=some r->K e=some r
 | [],h=>by simp [yU] at h
 | w::l,h=>by
  simp [yU] at h;unfold exIs at h;split at h
  ·split at h;· rename_i i j a;subst a;exact h
   exact aDV h
  ·exact h
  exact aDV h
section
variable {P : Program} {mt : Hints} {O : Orc} {LP : aAv -> aAv}
def bGN (P:Program) (G:Mem) (mt:Hints) (O:Orc) (LP:aAv->aAv) (c:Code):Prop :=
 ∀ st e st' base M B a w,bC P mt a.tmps.size O LP c st (fun e s=>some (e,s))=some (e,st')->SR ⟨base,G⟩ M B st a.tmps w ->
 ∀ Q,(∀ a' w',Rch ⟨base,G⟩ M B st a.tmps w st' a'.tmps w'->a'.defers=a.defers->Q (toX e) a' w')->c.wp P Q a w
theorem bEx {c b st} (h:aDy (opd st.fr c)=some b):Eqv st (aDC c b st):=by
 cases c with
 | tmp t =>
  refine ⟨fun i => ?_,fun _ _=>rfl,rfl⟩;show gets st.fr i=gets ((t,.bool b)::st.fr) i;rw [gL];split
  ·rename_i e;subst e;unfold aDy at h;split at h;· rename_i b' a;cases h;exact a
   grind
  rfl
 | _=>exact Eqv.refl _
theorem bHs {c b st}:(aDC c b st).bx=st.bx:=by cases c<;>rfl
theorem aPb {b G} (f:bGN P G mt O LP b) kp sh (hsh:(sh.map (·.1)).Nodup) {base}:∀ n s u r M B a w,
  aBj n (fun s u=>bC P mt a.tmps.size O LP b (dV kp sh s u) fun e st'=>pack kp sh st' fun s u=>some (e,s,u)) s u=some r ->
  SR ⟨base,G⟩ M B (dV kp sh s u) a.tmps w ->
  ∀ Q,(∀ a' w',Rch ⟨base,G⟩ M B (dV kp sh s u) a.tmps w (dV kp sh r.2.1 r.2.2) a'.tmps w'->a'.defers=a.defers->Q (toX r.1) a' w')->Code.rounds P b Q n a w
 | 0,_,_,_,_,_,_,_,h,_,_,_=>by simp [aBj] at h
 | n+1,s,u,r,M,B,a,w,h,hsr,Q,hQ=>by
  simp [aBj] at h;obtain ⟨⟨z,y,C⟩,hbody,h⟩:=aB h;rw [dB] at hbody;obtain ⟨⟨l,st2⟩,hev,hpk⟩:=aB hbody;rw [aFa] at hpk;obtain ⟨⟨s2,c⟩,hpk2,heq⟩:=aB hpk;simp at heq;obtain ⟨rfl,rfl,rfl⟩:=heq;have reach:∀ (a':Act) w',Rch ⟨base,G⟩ M B (dV kp sh s u) a.tmps w st2 a'.tmps w'->Rch ⟨base,G⟩ M B (dV kp sh s u) a.tmps w (dV kp sh s2 c) a'.tmps w' :=
   fun a' w' hr=>hr.trans fun M' B' p=>aPa p hsh hpk2
  refine f _ _ _ base M B a w hev hsr _ fun a' w' hr d => ?_;have hr2:=reach a' w' hr;cases l with
  | nrm =>
   obtain ⟨j,M',B',g,x⟩:=hr2;rw [<- j] at h;refine aPb f kp sh hsh n s2 c r M' B' a' w' h g Q fun a'' w'' q k => ?_;obtain ⟨A,m,t,v,o⟩:=q;exact hQ a'' w'' ⟨by omega,m,t,v,x.trans o⟩ (by grind)
  | brk i=>cases h;exact hQ a' w' hr2 d
  | ret=>cases h;exact hQ a' w' hr2 d
theorem rX {G} (hm:P.follows .mixedOrders=true) (hO:aQk P G O) (hL:aXX LP):∀ c,bGN P G mt O LP c
 | .skip=>fun st e st' base M B a w h hsr Q hQ=>by cases h;exact wp_skip (hQ a w (Rch.refl hsr) rfl)
 | .label _=>fun st e st' base M B a w h hsr Q hQ=>by cases h;exact wp_label (hQ a w (Rch.refl hsr) rfl)
 | .exit id=>fun st e st' base M B a w h hsr Q hQ=>by cases h;exact wp_exit (hQ a w (Rch.refl hsr) rfl)
 | .ret=>fun st e st' base M B a w h hsr Q hQ=>by cases h;exact wp_ret (hQ a w (Rch.refl hsr) rfl)
 | .region id m draw=>fun st e st' base M B a w h hsr Q hQ=>by
  simp [bC] at h;rw [oD] at h;obtain ⟨sf,C,h⟩:=aB h;obtain ⟨v,g,d,rf2,rf3⟩:=aMh hsr C;have hQ:∀ a' w',Rch ⟨base,G⟩ g d sf a.tmps w st' a'.tmps w'->a'.defers=a.defers->Q (toX e) a' w':=fun a' w' hr hd=>by
   obtain ⟨q1,M3,B3,q2,q3⟩:=hr;exact hQ a' w' ⟨q1,M3,B3,q2,rf3.trans q3⟩ hd
  clear hsr;have hsr:=rf2;clear rf2;generalize sf=st at h hsr hQ;generalize g=M at hsr hQ;generalize d=B at hsr hQ;cases draw with
  | false =>
   simp at h;rw [uH] at h;obtain ⟨j,hev,h⟩:=aB h;cases h;refine wp_region ?_;have:=aSE (base:=⟨base,G⟩) hO m.toList 0 st st' a w M B (by simp) hev hsr Q hQ;simp_all
  | true =>
   simp at h;split at h
   ·rename_i J;have N  := by
     exact h
    obtain ⟨j,K,A⟩:=aZB (base:=⟨base,G⟩) hm hO (id:=id) J N hsr;cases K;exact A Q hQ
   grind
 | .seq x y=>fun st e st' base M B a w h hsr Q hQ=>by
  simp [bC] at h;rw [dB] at h;obtain ⟨⟨l,j⟩,hev,h⟩:=aB h;refine wp_seq (rX hm hO hL x _ _ _ base M B a w hev hsr _ fun a' w' hr hd => ?_);cases l with
  | nrm =>
   simp at h;obtain ⟨H,M',B',k,E⟩:=hr;show y.wp P Q a' w';rw [<- H] at h;refine rX hm hO hL y _ _ _ base M' B' a' w' h k Q fun q o D R => ?_;obtain ⟨q1,M3,B3,q2,q3⟩:=D;exact hQ q o ⟨by omega,M3,B3,q2,E.trans q3⟩ (by grind)
  | brk i=>cases h;exact hQ a' w' hr hd
  | ret=>cases h;exact hQ a' w' hr hd
 | .cond c x y=>fun st e st' base M B a w h hsr Q hQ=>by
  simp [bC] at h;unfold brB at h;obtain ⟨b,hb,h⟩:=aB h;have I:=bEx hb;have hnd:Nd (aDC c b st).bx:=by rw [bHs];exact hsr.box.nodup
  have hsr':=hsr.eqv I hnd;have F  := by
   have:=hsr.opd a.defers c;unfold aDy at hb;split at hb;· rename_i b' p;cases hb;rw [p] at this;exact this.bool_inv
   grind
  have hQ'  := fun a' w' hr hd=>hQ a' w' (Rch.of_eqv hr I hsr.box.nodup hnd) hd;rcases bQ h with ⟨rfl,h⟩ | ⟨rfl,h⟩;· exact wp_cond_true F (rX hm hO hL x _ _ _ base M B a w h hsr' Q hQ')
  exact wp_cond_false F (rX hm hO hL y _ _ _ base M B a w h hsr' Q hQ')
 | .block id b=>fun st e st' base M B a w h hsr Q hQ=>by
  simp [bC] at h;rw [dB] at h;obtain ⟨⟨l,j⟩,hev,h⟩:=aB h;refine wp_block (rX hm hO hL b _ _ _ base M B a w hev hsr _ fun a' w' hr hd => ?_);cases l with
  | nrm=>cases h;exact hQ a' w' hr hd
  | brk i =>
   simp at h;show (if i=id then Q .normal a' w' else Q (.exit i) a' w');split at h;· rename_i z;cases h;rw [if_pos z];exact hQ a' w' hr hd
   rename_i z;cases h;rw [if_neg z];exact hQ a' w' hr hd
  | ret=>cases h;exact hQ a' w' hr hd
 | .scope b=>fun st e st' base M B a w h hsr Q hQ=>by
  refine wp_scope_straight (rX hm hO hL b _ _ _ base M B a w h hsr _ fun a' w' hr hd => ?_);have:=hQ a' w' hr hd;cases e<;>exact this
 | .loop b=>fun st e st' base M B a w h hsr Q hQ=>by
  simp [bC] at h;rw [oD] at h;obtain ⟨sf,C,h⟩:=aB h;obtain ⟨v,g,d,rf2,rf3⟩:=aMh hsr C;have hQ:∀ a' w',Rch ⟨base,G⟩ g d sf a.tmps w st' a'.tmps w'->a'.defers=a.defers->Q (toX e) a' w':=fun a' w' hr hd=>by
   obtain ⟨q1,M3,B3,q2,q3⟩:=hr;exact hQ a' w' ⟨q1,M3,B3,q2,rf3.trans q3⟩ hd
  have hsr:=rf2;generalize sf=st at h hsr hQ;rw [aFa] at h;obtain ⟨⟨s,u⟩,t,h⟩:=aB h;obtain ⟨r,hr,h⟩:=aB h;have:=aDV h;cases this;have hsh:((rE st.bx).map (·.1)).Nodup:=by
   unfold rE;split;· rename_i f S hb;have:=hsr.box.nodup 0 f (by grind);grind
   simp
  obtain ⟨H,M',B',k,E⟩:=aPa hsr hsh t;obtain ⟨n,L⟩:=hL _ _ _ _ hr;refine wp_loop_rounds n (aPb (rX hm hO hL b) _ _ hsh n s u r M' B' a w L k Q fun a' w' D hd => ?_);obtain ⟨q1,M3,B3,q2,q3⟩:=D;exact hQ a' w' ⟨q1,M3,B3,q2,E.trans q3⟩ hd
 | .rangeFunc _ _ _ _=>fun st e st' base M B a w h hsr Q hQ=>by simp [bC] at h
 | .goto _=>fun st e st' base M B a w h hsr Q hQ=>by simp [bC] at h
 | .refuse _=>fun st e st' base M B a w h hsr Q hQ=>by simp [bC] at h
end
def sO (B:BM):BM:=fun d id=>B (d+1) id
theorem aQv {B}:∀ b,(∀ d id,B d id≠some b)->∀ d id,sO B d id≠some b:=fun b h d id=>h (d+1) id
theorem bBF {B}:∀ b,(∀ d id,B d id≠some b)->∀ d id,nV B d id≠some b:=by
 intro b h d id;cases d with
 | zero=>simp [nV]
 | succ d=>exact h d id
theorem aKa {p q} (h:pC p=some q) v:own1 q v=own1 p v:=by
 unfold pC at h;split at h;· grind
 ·cases h;cases v<;>rfl
 ·grind
 ·cases h;cases v<;>rfl
 ·grind
 ·cases h;cases v<;>rfl
 all_goals grind
theorem aMk {M w base B p q} (h:pC p=some q) {v} (a:h1 M w base B p v):h1 M w base B q v:=by
 unfold pC at h;split at h;· grind
 ·cases h;cases v<;>trivial
 ·grind
 ·cases h;cases v<;>trivial
 ·grind
 ·cases h;cases v<;>trivial
 all_goals grind
theorem aKb {M B p q v} (h:pC p=some q) (g:Rv M B p v):Rv M (sO B) q v:=by
 unfold pC at h;split at h;· grind
 ·cases h;cases g with
  | ptr d id off b k=>exact .ptr _ _ _ b k
 ·grind
 ·cases h;cases g with
  | rsl d id n s b cap k l=>exact .rsl _ _ _ _ b cap k l
  | rslNil d id s m=>exact .rslNil _ _ _ m
 ·grind
 ·cases h;cases g with
  | mp d id b k=>exact .mp _ _ b k
 ·cases h;cases g with
  | ref e a s f t i r g=>exact .ref _ a s f t i r (fun j c l=>(g j c l).anyB1 _ (i.cell l))
 ·cases h;cases g;exact .nilptr
 split at h;· rename_i o;cases h;exact g.anyBfree _ o
 grind
theorem aDW:∀ {cs ds},uX cs=some ds->ds.length=cs.length/\∀ (i:Nat) d,ds[i]?=some d->∃ c,cs[i]?=some c/\pC c=some d
 | [],ds,h=>by simp [uX] at h;grind
 | c::cs,ds,h=>by
  simp [uX] at h;split at h;· rename_i y r hy a;obtain ⟨e,b⟩:=aDW a;grind
  grind
theorem aMl {M B p q v} (h:aBh p=some q) (e:Rv M B p v):Rv M (sO B) q v:=by
 unfold aBh at h;split at h
 ·obtain ⟨ds,a,h⟩:=aB h;cases h;obtain ⟨m,k⟩:=aDW a;cases e with
  | agg cs vs f o l b =>
   refine .agg _ vs f (by omega) (fun i n=>by grind) fun i d a => ?_;obtain ⟨c,j,g⟩:=k i d a;exact aKb g (b i c j)
 exact aKb h e
theorem aOj {p q} (h:pC p=some q):(∀ cs,p ≠ .agg cs)->(∀ cs,p ≠ .tuple cs)->(∀ cs,q ≠ .agg cs)/\(∀ cs,q ≠ .tuple cs):=by
 unfold pC at h;grind
theorem aVE {M w base B p q v} (h:aBh p=some q):(∀ b,cV q v b=cV p v b)/\(hV M w base B p v->hV M w base B q v):=by
 unfold aBh at h;split at h
 ·rename_i cs;obtain ⟨ds,i,h⟩:=aB h;cases h;obtain ⟨t,A⟩:=aDW i;cases v with
  | agg vs =>
   -- cells one by one
   have f:∀ cs ds l,uX cs=some ds->(∀ b,sumL (fun x=>c1 x.1 x.2 b) (ds.zip l)=sumL (fun x=>c1 x.1 x.2 b) (cs.zip l))/\((∀ x∈cs.zip l,h1 M w base B x.1 x.2)->∀ x∈ds.zip l,h1 M w base B x.1 x.2):=by
    intro cs;induction cs with
    | nil=>intro ds l h;simp [uX] at h;subst h;exact ⟨fun _=>rfl,fun h=>h⟩
    | cons c cs s =>
     intro ds l h;simp [uX] at h;split at h
     ·rename_i y r hy n;cases h;cases l with
      | nil=>exact ⟨fun _=>rfl,fun _=>by simp⟩
      | cons x l =>
       obtain ⟨u,D⟩:=s r l n;refine ⟨fun b=>by simp [List.zip_cons_cons,sumL];rw [u b];simp [c1,aKa hy],fun a z e => ?_⟩;rw [List.zip_cons_cons] at e a;rcases aa3.1 e with rfl | e;· exact aMk hy (a (c,x) (by simp))
       exact by grind
     simp at h
   obtain ⟨o,k⟩:=f cs ds vs.toList i;exact ⟨fun b=>o b,fun a=>k a⟩
  | _ =>
   refine ⟨fun b => ?_,fun _ => ?_⟩;· rw [fD.c (p := .agg ds),fD.c (p := .agg cs)]<;>(intro x d;simp [atoms,zipA] at d;subst d;exact aAz _ _)
   apply fD.h;intro x d;simp [atoms,zipA] at d;subst d;exact aAz _ _
 rename_i m;cases p with
 | tuple C=>simp [pC,PV.free,PV.solid,PV.solid1] at h
 | agg cs=>exact by grind
 | _ =>
  obtain ⟨g,j⟩:=aOj h (by simp) (by simp);refine ⟨fun b => ?_,fun a => ?_⟩;· rw [aDG g j,aDG (by simp) (by simp)];simp [c1,aKa h]
  rw [aHt g j];rw [aHt (by simp) (by simp)] at a;exact aMk h a
theorem aKc:∀ {cs ds},aAx cs=some ds->ds.length=cs.length/\∀ (i:Nat) d,ds[i]?=some d->∃ c,cs[i]?=some c/\aBh c=some d
 | [],ds,h=>by simp [aAx] at h;grind
 | c::cs,ds,h=>by
  simp [aAx] at h;split at h;· rename_i y r hy a;obtain ⟨e,b⟩:=aKc a;grind
  grind
section
variable {P : Program} {base : Base} {M : Mem} {B : BM} {st : St} {tm : Array Value} {w : World}
theorem xK b bx:cBx w B bx b=fS (fun id cs=>cBox w (B 0 id) cs b) (uC bx)+cBx w (sO B) (mQ bx) b:=by
 have sh:∀ l g a,jL g (a+1) l=jL (fun d=>g (d+1)) a l:=by
  intro l;induction l with
  | nil=>intro g a;rfl
  | cons f r c=>intro g a;simp [jL];rw [c]
 cases bx with
 | nil=>rfl
 | cons f r =>
  simp [cBx,jL];have:=sh r (fun d id cs=>cBox w (B d id) cs b) 0;rw [this];rfl
def aPc (tm:Array Value) (r:ResultVar):Sem Value :=
 match r with
 | .tmp t=>pure (tm.getD t undef)
 | .cell a t=>do loadVar t (<- asAddr (tm.getD a undef))
theorem aPd (h:SR base M B st tm w) {own r R} {K:PV->Option R} {x} (hr:aJ4 P own st r K=some x) :
  ∃ p v,K p=some x/\(aPc tm r).run P w = .ok v w/\Rv M B p v/\hV M w base B p v /\
   ∀ b,cV p v b+cBx w (sO B) (mQ st.bx) b<=tot st.fr tm w B st.bx b:=by
 cases r with
 | tmp t =>
  simp [aJ4] at hr;have hle:∀ b,cV (gets st.fr t) (tm.getD t undef) b<=cF st.fr tm b:=by
   intro b;by_cases ht:t<tm.size;· exact aHs (f:=fun i=>cV (gets st.fr i) (tm.getD i undef) b) tm.size ht
   have:tm.getD t undef=undef:=by simp [Array.getD,ht]
   rw [this,(uE _).c];omega
  cases own with
  | true =>
   refine ⟨_,tm.getD t undef,hr,rfl,h.slot t,h.slotH t,fun b => ?_⟩;have:=hle b;simp only [tot];rw [xK b st.bx];omega
  | false =>
   refine ⟨_,tm.getD t undef,hr,rfl,(h.slot t).plain,(cU _ _).h _ _ _ _,fun b => ?_⟩;rw [(cU _ _).c];simp [tot];rw [xK b st.bx];omega
 | cell a t =>
  simp [aJ4] at hr;split at hr
  ·rename_i n ag hsz hag;split at hr
   ·rename_i d id off hptr;split at hr
    ·rename_i hn;obtain ⟨cs,hcs,hr⟩:=aB hr;rcases bQ hr with ⟨_,hr⟩ | ⟨hnv,hr⟩;· simp at hr
     obtain ⟨v,hv,hr⟩:=aB hr;have hslot:=h.slot a;rw [hptr] at hslot;obtain ⟨blk,hB,hav⟩:∃ blk,B d id=some blk/\tm.getD a undef = .pointer (some ⟨blk,off,none⟩):=by
      generalize tm.getD a undef=va at hslot;cases hslot with
      | ptr d id off b hb=>exact ⟨b,hb,rfl⟩
     have hph:=uF hnv;obtain ⟨arr,T,fz,hrow,hlen,hfz,ok,hcell⟩:=sU h hcs hB;rw [hph] at hlen hcell;have hn1:ag=false->n=1:=fun hf=>by simpa [hf] using hn.2
     obtain ⟨p1,p2,p3,p4,p5,p6⟩:=aQf ok hph hv hn1;have hrun:(aPc tm (.cell a t)).run P w = .ok (if ag then .agg ((List.range n).map fun j=>cP w blk (off+j)).toArray else cP w blk off) w:=by
      have:=aBl (P:=P) (w:=w) (blk:=blk) (off:=off) hsz hag (fun j hj=>by grind) (fun _=>hn.1);simp [Instr.loadAt,aaT,Instr.sureAddr,ab7,ab6] at this;simp [aPc,hav];exact this
     have plainCase:K (aBg d v).plain=some x->∃ p v',K p=some x/\(aPc tm (.cell a t)).run P w = .ok v' w/\Rv M B p v'/\hV M w base B p v'/\∀ b,cV p v' b+cBx w (sO B) (mQ st.bx) b<=tot st.fr tm w B st.bx b:=by
      intro hr;refine ⟨_,_,hr,hrun,p2.plain,(cU _ _).h _ _ _ _,fun b => ?_⟩;rw [(cU _ _).c];simp [tot];rw [xK b st.bx];omega
     split at hr
     ·-- its own
      refine ⟨_,_,hr,hrun,p2,p3,fun b => ?_⟩;have e1:=p4 b;have e2:dA n (fun j=>c1 (cs.getD (off+j) .bot) (cP w blk (off+j)) b)<=dX w blk 0 cs b:=by
       rw [rT];have hs:cs.length=off+(n+(cs.length-off-n)):=by omega
       rw [hs,aBF,aBF];simp;omega
      have e3:dX w blk 0 cs b<=fS (fun id cs=>cBox w (B 0 id) cs b) (uC st.bx):=by
       have hm  := by
        rw [aBH] at hcs;exact nN hcs
       have:=aDF (g:=fun id cs=>cBox w (B 0 id) cs b) (uC st.bx) hm;simp [hB,cBox,hph] at this;exact this
      have e4:cV v (if ag then Value.agg ((List.range n).map fun j=>cP w blk (off+j)).toArray else cP w blk off) b=dA n (fun j=>c1 (cs.getD (off+j) .bot) (cP w blk (off+j)) b):=e1;simp [tot];rw [xK b st.bx,e4];omega
     exact by grind
    simp at hr
   simp at hr
  simp at hr
theorem aPe (h:SR base M B st tm w) {R} {x:R}:∀ l K,aRZ P st l K=some x ->
  ∃ (ps:List PV) (vs:List Value),K ps=some x/\(l.mapM (aPc tm)).run P w = .ok vs w/\ps.length=l.length/\vs.length=l.length/\∀ (i:Nat) p,ps[i]?=some p->∃ v,vs[i]?=some v/\Rv M B p v
 | [],K,a=>⟨[],[],a,by simp,rfl,rfl,by simp⟩
 | r::l,K,a=>by
  obtain ⟨p,v,a,c,d,_,_⟩:=aPd h a;obtain ⟨ps,vs,e,b,k,j,g⟩:=aPe h l _ a;refine ⟨p::ps,v::vs,e,by simp_all,by grind,by grind,fun i q f => ?_⟩;grind
theorem aPf a tm:results a tm=(do let vs <- a.results.mapM (aPc tm);pure (if h:vs.size=1 then vs[0] else .tuple vs)):=by
 congr 1
theorem aVF (h:SR base M B st tm w) {k o r u} (a:aLU P k o st=some (r,u)) :
  ∃ v,(results k tm).run P w = .ok v w/\Rv M (sO B) r v/\hV M w base (sO B) r v/\u=mQ st.bx /\
   ∀ b,cV r v b+cBx w (sO B) u b<=tot st.fr tm w B st.bx b:=by
 unfold aLU at a;have f:k.results=k.results.toList.toArray:=by simp
 split at a;· rename_i I n;obtain ⟨p,v,a,e,g,t,s⟩:=aPd h a;obtain ⟨q,j,a⟩:=aB a;cases a;obtain ⟨Q,A⟩:=aVE (M:=M) (w:=w) (base:=base) (B:=B) (v:=v) j;refine ⟨v,?_,aMl j g,(A t).boxes aQv,rfl,fun b=>by grind⟩;rw [aPf,f,n];simp_all
 rename_i O y;obtain ⟨ps,vs,a,e,J,H,C⟩:=aPe h _ _ a;obtain ⟨z,j,a⟩:=aB a;cases a;obtain ⟨L,E⟩:=aKc j;refine ⟨.tuple vs.toArray,?_,?_,(cU _ _).h _ _ _ _,rfl,fun b => ?_⟩
 ·rw [aPf];have N:vs.toArray.size≠1:=by
   intro m;simp at m;rw [H] at m;obtain ⟨x,K⟩:=List.length_eq_one_iff.1 m;grind
  have l:vs.length≠1:=by omega
  simp [Array.mapM_eq_mapM_toList,e,l]
 ·refine Rv.plain (.tuple z vs.toArray (fun i=>vs.getD i undef) (by grind) ?_ ?_);· grind
  intro i d G;obtain ⟨c,s,F⟩:=E i d G;obtain ⟨v,hv,D⟩:=C i c s;have:vs.getD i undef=v:=by grind
  rw [this];exact aMl F D
 rw [(cU _ _).c];simp [tot];rw [xK b st.bx];omega
end
structure POk (P : Program) : Prop where
 mixed : P.follows .mixedOrders = true
 name : ∀ (f : FuncId) (fn : Func), P.funcs[f]? = some fn -> fn.body.isSome = true -> (fn.name == "runtime.NumGoroutine") = false
section
variable {P : Program} {base : Base} {M : Mem} {B : BM} {w : World}
theorem bI8 {args up vals} (h:CallPre base M B args up vals w) {nt} (hn:args.length<=nt) :
  SR base M (nV B) (xI args up) (vals++Array.replicate (nt-vals.size) undef) w /\
  ∀ b,tot (xI args up).fr (vals++Array.replicate (nt-vals.size) undef) w (nV B) (xI args up).bx b=cA args vals b+cBx w B up b:=by
 have hsz:=h.size;have hfr:∀ i,gets (xI args up).fr i=if i<args.length then gt args i else .bot:=by
  intro i;have:=aDU (gt args) args (List.range args.length) 0 (fun p i hp=>by
   grind) i
  show gets (qD args 0 (List.range args.length)) i=_;rw [this];simp
 have htm:∀ i,(vals++Array.replicate (nt-vals.size) undef).getD i undef=vals.getD i undef:=by
  intro i;simp;grind
 have hgt:∀ i,i<args.length->args[i]?=some (gt args i):=by
  intro i hi;rw [aHp,aa4 hi];rfl
 have hslot:∀ i,Rv M (nV B) (gets (xI args up).fr i) ((vals++Array.replicate (nt-vals.size) undef).getD i undef)/\hV M w base (nV B) (gets (xI args up).fr i) ((vals++Array.replicate (nt-vals.size) undef).getD i undef):=by
  intro i;rw [hfr,htm];split;· rename_i hi;obtain ⟨r1,r2⟩:=h.rel i _ (hgt i hi);exact ⟨r1,r2.boxes bBF⟩
  exact ⟨.bot _,(aDL _).h _ _ _ _⟩
 have htot:∀ b,tot (xI args up).fr (vals++Array.replicate (nt-vals.size) undef) w (nV B) (xI args up).bx b=cA args vals b+cBx w B up b:=by
  intro b;have e1:cBx w (nV B) (xI args up).bx b=cBx w B up b:=by
   rw [xK b (xI args up).bx];have:sO (nV B)=B:=by funext d id;rfl
   rw [this];simp [xI,uC,mQ,fS]
  have e2:cF (xI args up).fr (vals++Array.replicate (nt-vals.size) undef) b=cA args vals b:=by
   unfold cF cA;have hs:(vals++Array.replicate (nt-vals.size) undef).size=args.length+(nt-args.length):=by simp;omega
   rw [hs,aBF,nB (f:=fun i=>cV (gets (xI args up).fr (args.length+i)) ((vals++Array.replicate (nt-vals.size) undef).getD (args.length+i) undef) b) _ (fun i _=>by
    rw [hfr,if_neg (by omega),(aDL _).c])]
   grind
  simp [tot,e1,e2]
 refine ⟨⟨h.cons,fun i=>(hslot i).1,fun i=>(hslot i).2,⟨?_,?_,?_,?_⟩,fun b=>by rw [htot];exact h.one b,h.glob,h.base⟩,htot⟩
 ·intro d f hf;cases d with
  | zero=>simp [xI] at hf;subst hf;simp
  | succ d=>exact h.box.nodup d f (by simpa [xI] using hf)
 ·intro d id hn';cases d with
  | zero=>rfl
  | succ d=>exact h.box.dom d id (by simpa [xI,jP] using hn')
 ·intro d id cs hc;cases d with
  | zero=>simp [xI,bI,look] at hc
  | succ d =>
   obtain ⟨hv,hbk⟩:=h.box.ok d id cs (by simpa [xI,jP] using hc);refine ⟨hv,?_⟩;rcases hbk with ⟨blk,hB,ok⟩ | hno;rotate_left;· exact .inr hno
   refine .inl ⟨blk,hB,ok.old,ok.row,ok.free,fun j c hj => ?_⟩;obtain ⟨r1,r2,r3⟩:=ok.rel j c hj;have:upB (d+1) (nV B)=upB d B:=by
    funext e id;simp [upB];rw [show d+1+e=(d+e)+1 by omega];rfl
   rw [this];exact ⟨r1,r2.boxes bBF,r3⟩
 intro d id d' id' blk h1 h2;cases d with
 | zero=>simp [nV] at h1
 | succ d =>
  cases d' with
  | zero=>simp [nV] at h2
  | succ d' =>
   have:=h.box.inj d id d' id' blk h1 h2;exact ⟨by omega,this.2⟩
theorem aZC (hP : POk P) {O LP} (hO : aQk P base.g O) (hL : aXX LP) {f fn} (hf : P.funcs[f]? = some fn) {mt args up r up'}
  (h : uY P mt fn.ntmps O LP fn args up = some (r, up')) {vals} (hpre : CallPre base M B args up vals w) : aBm P f vals w (iO base M B args up vals w r up') := by
 unfold uY at h;split at h
 ·rename_i c hc;split at h
  ·rename_i hle;left;refine ⟨f, vals, ?_, ?_⟩
   ·have hn := hP.name f fn hf (by rw [hc]; rfl);have hn' : ¬ fn.name = "runtime.NumGoroutine" := by intro e; rw [e] at hn; simp at hn
    simp [callFunc, hf, hn', hc]
   refine calls_of_wp hf hc ?_;obtain ⟨hsr, htot⟩ := bI8 hpre hle;have hsize : (vals ++ Array.replicate (fn.ntmps - vals.size) undef).size = fn.ntmps := by
    have := hpre.size; simp; omega
   rw [dB] at h;obtain ⟨⟨e, st'⟩, hev, h⟩ := aB h;rw [<- hsize] at hev;have main : aLU P fn mt.own st' = some (r, up') -> ∀ (a' : Act) w', Rch base M (nV B) (xI args up) (vals ++ Array.replicate (fn.ntmps - vals.size) undef) w st' a'.tmps w' -> a'.defers = [] ->
     a'.defers = [] /\ ∃ v, (results fn a'.tmps).run P w' = .ok v w' /\ ∃ v', Ending.returned v = .returned v' /\ iO base M B args up vals w r up' v' w' := by
    intro hl a' w' hr hd;obtain ⟨q1, M', B', q2, q3⟩ := hr;obtain ⟨v, hrun, hrel, hh, hu, hc'⟩ := aVF q2 hl;have hB : sO B' = B := by
     funext d id; exact q3.outer d id
    rw [hB] at hrel hh hc';refine ⟨hd, v, hrun, v, rfl, M', hrel, hh, ?_, q2.cons, fun b => aa5 (hc' b) (q2.one b), ?_⟩
    ·subst hu;refine ⟨?_, ?_, ?_, ?_⟩
     ·intro d f hf;cases hb : st'.bx with
      | nil => rw [hb] at hf; simp [mQ] at hf
      | cons f0 r0 => rw [hb] at hf; exact q2.box.nodup (d + 1) f (by rw [hb]; simpa [mQ] using hf)
     ·intro d id hn;rw [<- aBI] at hn;have := q2.box.dom (d + 1) id hn;rw [<- hB]; exact this
     ·intro d id cs hcs;rw [<- aBI] at hcs;obtain ⟨hv, hbk⟩ := q2.box.ok (d + 1) id cs hcs;refine ⟨hv, ?_⟩;rcases hbk with ⟨blk, hb, ok⟩ | hno;rotate_left;· exact .inr ⟨by rw [<- hB]; exact hno.1, hno.2⟩
      refine .inl ⟨blk, by rw [<- hB]; exact hb, ok.old, ok.row, ok.free, fun j c hj => ?_⟩;obtain ⟨r1, r2, r3⟩ := ok.rel j c hj;have : upB (d + 1) B' = upB d B := by
       rw [<- hB]; funext e id; simp [upB, sO]; rw [show d + 1 + e = d + e + 1 by omega]
      rw [this] at r1;exact ⟨r1, by rw [<- hB]; exact r2.boxes aQv, r3⟩
     intro d id d' id' blk h1 h2;rw [<- hB] at h1 h2;have := q2.box.inj (d + 1) id (d' + 1) id' blk h1 h2;exact ⟨by omega, this.2⟩
    have ht0 : tot (xI args up).fr (vals ++ Array.replicate (fn.ntmps - vals.size) undef) w (nV B) (xI args up).bx = fun b => cA args vals b + cBx w B up b := by grind
    rw [ht0] at q3;refine ⟨q3.os, q3.tape, q3.output, q3.size, q3.mono, ?_, ?_, fun d id b hb _ => ⟨d, id, hb⟩, fun _ _ => rfl⟩
    ·intro b hb hn;refine q3.keep b hb ?_;rintro (h1 | ⟨d, id, h2⟩);· exact hn (.inl h1)
     cases d with
     | zero => simp [nV] at h2
     | succ d => exact hn (.inr ⟨d, id, h2⟩)
    intro b hb;have := q3.tle b hb;exact by grind
   refine rX hP.mixed hO hL c _ _ _ base.n M (nV B) ⟨vals ++ Array.replicate (fn.ntmps - vals.size) undef, []⟩ w hev hsr _ fun a' w' hr hd => ?_;cases e with
   | nrm => exact main h a' w' hr hd
   | brk i => simp at h
   | ret => exact main h a' w' hr hd
  simp at h
 simp at h
end
def low1:PV->PV
 | .ptr (d+2) id o => .ptr (d+1) id o
 | v=>v
def low:PV->PV
 | .func f a b => .func f (a.map low1) (b.map low1)
 | .agg cs => .agg (cs.map low1)
 | v=>low1 v
def pZ:PV->Bool
 | .ptr 0 _ _=>false
 | .ptr 1 _ _=>false
 | .ptr (_+2) _ _=>true
 | .ref _ | .nilptr | .nilFunc | .bot | .und=>true
 | .func _ a b=>a.all solid&&b.all solid
 | v=>v.solid
def aDo:PV->Bool
 | .func _ a b=>a.all pZ&&b.all pZ
 | .agg cs=>cs.all pZ
 | v=>pZ v
theorem bBG p v:own1 (low1 p) v=own1 p v:=by
 unfold low1;split;· cases v<;>rfl
 rfl
theorem bHt {M w base B} p v:h1 M w base B (low1 p) v↔h1 M w base B p v:=by
 unfold low1;split;· cases v<;>exact Iff.rfl
 simp
theorem bEy d id o:∃ a,low1 (.ptr d id o) = .ptr a id o:=by
 cases d with
 | zero=>exact ⟨0,rfl⟩
 | succ d=>cases d with
  | zero=>exact ⟨1,rfl⟩
  | succ d=>exact ⟨d+1,rfl⟩
theorem aSF p v (j:∀ cs,p ≠ .tuple cs):(∃ g,atoms (low p) v=g.map (fun x=>(low1 x.1,x.2))/\atoms p v=g)∨(fD (low p) v/\fD p v):=by
 cases p with
 | agg cs =>
  cases v with
  | agg vs=>left;exact ⟨cs.zip vs.toList,by simp [low,atoms,zipA];exact aDP _ _ _,rfl⟩
  | _ =>
   right;constructor;· intro x c;simp [low,atoms,zipA] at c;subst c;exact aAz _ _
   intro x c;simp [atoms,zipA] at c;subst c;exact aAz _ _
 | tuple cs=>grind
 | func f a b=>right;exact ⟨rU _ _ _ _,rU _ _ _ _⟩
 | ptr d i o =>
  right;obtain ⟨l,h⟩:=bEy d i o;refine ⟨?_,oA _ _ _ _⟩;show fD (low1 (.ptr d i o)) v;rw [h];exact oA _ _ _ _
 | slice es bs o=>left;exact ⟨[(.slice es bs o,v)],by cases v<;>rfl,by cases v<;>rfl⟩
 | mk0 sz=>left;exact ⟨[(.mk0 sz,v)],by cases v<;>rfl,by cases v<;>rfl⟩
 | bot=>left;exact ⟨[(.bot,v)],by cases v<;>rfl,by cases v<;>rfl⟩
 | und=>left;exact ⟨[(.und,v)],by cases v<;>rfl,by cases v<;>rfl⟩
 | bool b=>left;exact ⟨[(.bool b,v)],by cases v<;>rfl,by cases v<;>rfl⟩
 | int k n=>left;exact ⟨[(.int k n,v)],by cases v<;>rfl,by cases v<;>rfl⟩
 | str s=>left;exact ⟨[(.str s,v)],by cases v<;>rfl,by cases v<;>rfl⟩
 | ref e=>left;exact ⟨[(.ref e,v)],by cases v<;>rfl,by cases v<;>rfl⟩
 | nilptr=>left;exact ⟨[(.nilptr,v)],by cases v<;>rfl,by cases v<;>rfl⟩
 | nilFunc=>left;exact ⟨[(.nilFunc,v)],by cases v<;>rfl,by cases v<;>rfl⟩
 | rsl d i n z=>left;exact ⟨[(.rsl d i n z,v)],by cases v<;>rfl,by cases v<;>rfl⟩
 | vec z E=>left;exact ⟨[(.vec z E,v)],by cases v<;>rfl,by cases v<;>rfl⟩
 | mp d i=>left;exact ⟨[(.mp d i,v)],by cases v<;>rfl,by cases v<;>rfl⟩
 | mpv kd E=>left;exact ⟨[(.mpv kd E,v)],by cases v<;>rfl,by cases v<;>rfl⟩
theorem aXY {p} (h:aDo p=true):∀ cs,p ≠ .tuple cs:=by
 intro cs e;subst e;simp [aDo,pZ,PV.solid,PV.solid1] at h
theorem bI9 {p} (e:aDo p=true) v b:cV (low p) v b=cV p v b:=by
 rcases aSF p v (aXY e) with ⟨g,d,a⟩ | ⟨d,a⟩;· simp [cV,d,a,aLo,c1,bBG]
 rw [d.c,a.c]
theorem bJa {M w base B p} (d:aDo p=true) v (h:hV M w base B p v):hV M w base B (low p) v:=by
 rcases aSF p v (aXY d) with ⟨g,a,c⟩ | ⟨a,c⟩;· intro x b;rw [a] at b;obtain ⟨y,hy,rfl⟩:=aah.1 b;exact (bHt _ _).2 (h y (by grind))
 exact a.h M w base B
section
variable {M : Mem} {B : BM}
theorem Rv.low0 {p v} (h:Rv M (nV B) p v) (i:pZ p=true):Rv M (nV (sO B)) (low1 p) v:=by
 cases h with
 | ptr d id off b G =>
  cases d with
  | zero=>simp [pZ] at i
  | succ d=>cases d with
   | zero=>simp [pZ] at i
   | succ d=>exact .ptr (d+1) id off b (by simpa [nV,sO] using G)
 | bot v=>exact .bot v
 | und=>exact .und
 | nilptr=>exact .nilptr
 | vec=>simp [pZ,PV.solid,PV.solid1] at i
 | vecNil=>simp [pZ,PV.solid,PV.solid1] at i
 | nilFunc=>exact .nilFunc
 | ref e a s f t l C q=>exact .ref e a s f t l C (fun j c x=>(q j c x).anyB1 _ (l.cell x))
 | func E m r H I f g J u w A y F z=>exact (Rv.func E m r H I f g J u w A y F z).anyBfree _ (by simpa [PV.free,pZ] using i)
 | bool b=>exact .bool b
 | int k n=>exact .int k n
 | str s=>exact .str s
 | agg cs vs f u w q=>exact (Rv.agg cs vs f u w q).anyB _ (by simpa [pZ] using i)
 | tuple cs vs f u w q=>simp [pZ,PV.solid,PV.solid1] at i
 | rsl=>simp [pZ,PV.solid,PV.solid1] at i
 | rslNil=>simp [pZ,PV.solid,PV.solid1] at i
 | mp=>simp [pZ,PV.solid,PV.solid1] at i
 | nil o=>exact .nil o
 | slice es bs o a cap s f t x D l C q=>exact (Rv.slice es bs o a cap s f t x D l C q).anyB _ rfl
 | mk0 sz a cap t=>exact .mk0 sz a cap t
theorem aZD {c} (h:c.plain=c):(low1 c).plain=low1 c:=by
 unfold low1;split;· rfl
 exact h
theorem Rv.low {p v} (h:Rv M (nV B) p v) (l:aDo p=true):Rv M (nV (sO B)) (Ev.low p) v:=by
 cases h with
 | func G A E J K f g L u w C y H z =>
  simp [aDo,aa0,aak] at l;refine .func G _ _ J K f g ?_ (by simpa using u) (by simpa using w) ?_ (by simpa using y) (by simpa using H) ?_;· intro c j;rw [<- List.map_append] at j;obtain ⟨x,m,rfl⟩:=aah.1 j;exact aZD (L x m)
  ·intro i c j;rw [aa9,aan] at j;obtain ⟨x,m,rfl⟩:=j;exact (C i x m).low0 (by grind)
  intro i c j;rw [aa9,aan] at j;obtain ⟨x,m,rfl⟩:=j;exact (z i x m).low0 (by grind)
 | agg cs vs f u w r =>
  simp [aDo,aak] at l;refine .agg _ vs f (by simpa using u) (by simpa using w) ?_;intro i c j;rw [aa9,aan] at j;obtain ⟨x,m,rfl⟩:=j;exact (r i x m).low0 (by grind)
 | ptr d id off b I=>exact (Rv.ptr d id off b I).low0 l
 | bot v=>exact .bot v
 | und=>exact .und
 | nilptr=>exact .nilptr
 | vec=>simp [aDo,pZ,PV.solid,PV.solid1] at l
 | vecNil=>simp [aDo,pZ,PV.solid,PV.solid1] at l
 | nilFunc=>exact .nilFunc
 | ref e a s f t q D r=>exact (Rv.ref e a s f t q D r).low0 rfl
 | bool b=>exact .bool b
 | int k n=>exact .int k n
 | str s=>exact .str s
 | tuple cs vs f u w r=>simp [aDo,pZ,PV.solid,PV.solid1] at l
 | rsl=>simp [aDo,pZ,PV.solid,PV.solid1] at l
 | rslNil=>simp [aDo,pZ,PV.solid,PV.solid1] at l
 | mp=>simp [aDo,pZ,PV.solid,PV.solid1] at l
 | nil o=>exact .nil o
 | slice es bs o a cap s f t j F q D r=>exact (Rv.slice es bs o a cap s f t j F q D r).low0 rfl
 | mk0 sz a cap t=>exact .mk0 sz a cap t
end
section
variable {base : Base} {M : Mem} {B : BM} {w : World}
theorem aSG {args vals} (d:args.all aDo=true) b:cA (args.map low) vals b=cA args vals b:=by
 unfold cA;rw [aau];apply gW;intro i c;have a:(args.map low).getD i .bot=low (args.getD i .bot):=by
  grind
 rw [a];apply bI9;grind
theorem aXZ d B:upB d (sO B)=upB (d+1) B:=by
 funext e id;simp [upB,sO];grind
theorem bEz {args t} {o:UP} {vals} (h:CallPre base M B args (t::o) vals w) (u:args.all aDo=true):CallPre base M (sO B) (args.map low) o vals w:=by
 refine ⟨h.cons,by rw [aau];exact h.size,?_,⟨?_,?_,?_,?_⟩,?_,h.glob,h.base⟩;· intro i p v;rw [aa9,aan] at v;obtain ⟨q,s,rfl⟩:=v;obtain ⟨k,g⟩:=h.rel i q s;have a:=aak.1 u q (aad s);exact ⟨k.low a,(bJa a _ g).boxes aQv⟩
 ·intro d f H;exact h.box.nodup (d+1) f (by grind)
 ·intro d id z;exact h.box.dom (d+1) id (by exact z)
 ·intro d id cs l;obtain ⟨hv,n⟩:=h.box.ok (d+1) id cs (by exact l);refine ⟨hv,?_⟩;rcases n with ⟨blk,x,e⟩ | m;rotate_left;· exact .inr m
  refine .inl ⟨blk,x,e.old,e.row,e.free,fun j c y => ?_⟩;obtain ⟨k,g,F⟩:=e.rel j c y;exact ⟨by rw [aXZ];exact k,g.boxes aQv,F⟩
 ·intro d id C r blk A E;have:=h.box.inj (d+1) id (C+1) r blk A E;omega
 intro b;rw [aSG u];have G:=h.one b;have D:=xK (w:=w) (B:=B) b (t::o);simp [mQ] at D;omega
end
section
variable {base : Base} {M : Mem} {B : BM} {w : World}
theorem bBH {args f0} {up up':UP} {vals r v w'} (h:CallPre base M B args (f0::up) vals w) (hd:args.all aDo=true) (hf:r.free=true)
  (hp:iO base M (sO B) (args.map low) up vals w r up' v w'):iO base M B args (f0::up) vals w r (f0::up') v w':=by
 obtain ⟨M',hr,hh,hbx,hc,hone,evo⟩:=hp;have hsr:=h.sr;have hsplit:∀ b,cBx w B (f0::up) b=fS (fun id cs=>cBox w (B 0 id) cs b) f0+cBx w (sO B) up b:=fun b=>xK (w:=w) (B:=B) b (f0::up)
 -- what lies in the frame that is left out is not touched
 have hown:∀ b,1<=cA args vals b+cBx w (sO B) up b->b<w.heap.size/\∀ d id,B d id≠some b:=fun b hb=>h.own (by rw [hsplit];omega);have hkeep:∀ b,b<w.heap.size->cA args vals b+cBx w (sO B) up b=0->(∀ d id,B (d+1) id≠some b)->w'.heap[b]?=w.heap[b]?/\∀ i,M' b i=M b i:=by
  intro b hb hz hn;refine evo.keep b hb ?_;rintro (h1 | ⟨d,id,h2⟩);· have h1':1<=cA (args.map low) vals b+cBx w (sO B) up b:=h1;rw [aSG hd] at h1';omega
  exact hn d id h2
 have hblk:∀ id blk,B 0 id=some blk->w'.heap[blk]?=w.heap[blk]?/\∀ i,M' blk i=M blk i:=by
  intro id blk hB;refine hkeep blk (hsr.box_lt hB).1 ?_ ?_
  ·cases hx:cA args vals blk+cBx w (sO B) up blk with
   | zero=>rfl
   | succ n=>exact by grind
  intro d id' h2;have:=h.box.inj 0 id (d+1) id' blk hB h2;omega
 have hcell:∀ id blk j,B 0 id=some blk->cP w' blk j=cP w blk j:=by
  intro id blk j hB;simp [cP,World.cell?,(hblk id blk hB).1]
 have hfr:∀ b,fS (fun id cs=>cBox w' (B 0 id) cs b) f0=fS (fun id cs=>cBox w (B 0 id) cs b) f0:=by
  intro b;apply gX;intro id cs _;unfold cBox;cases hB:B 0 id with
  | none=>rfl
  | some blk =>
   have:∀ cs j,dX w' blk j cs b=dX w blk j cs b:=by
    intro cs;induction cs with
    | nil=>intro j;rfl
    | cons c cs ih=>intro j;simp [dX,hcell id blk j hB,ih]
   exact this (phys cs) 0
 have hsplit':∀ b,cBx w' B (f0::up') b=fS (fun id cs=>cBox w (B 0 id) cs b) f0+cBx w' (sO B) up' b:=by
  intro b;rw [xK (w:=w') (B:=B) b (f0::up')];simp [uC,mQ,hfr b]
 -- what is owned behind the call is no variable
 have hnew:∀ b,1<=cV r v b+cBx w' (sO B) up' b->∀ d id,B d id≠some b:=by
  intro b hb d id hB;have hlt:=(hsr.box_lt hB).1;have:=evo.tle b hlt;have h2  := aa5 hb this;rw [aSG hd] at h2;exact (hown b h2).2 d id hB
 have hlift:∀ p x,(∀ b,own1 p x=some b->∀ d id,B d id≠some b)->h1 M' w' base (sO B) p x->h1 M' w' base B p x:=by
  intro p x hn h1p;exact h1p.world (fun _ _ _ hx=>hx) fun b ho _=>⟨rfl,fun _=>rfl,fun d id hB=>absurd hB (hn b ho d id)⟩
 refine ⟨M',hr.anyBfree _ hf,?_,⟨?_,?_,?_,h.box.inj⟩,hc,?_,?_⟩
 ·intro x hx;refine hlift _ _ (fun b ho=>hnew b ?_) (hh x hx);have e1:c1 x.1 x.2 b=1:=by simp [c1,ho]
  have e2:c1 x.1 x.2 b<=cV r v b:=aI1 (f:=fun y=>c1 y.1 y.2 b) _ hx;omega
 ·intro d f hf';cases d with
  | zero=>exact h.box.nodup 0 f (by simpa using hf')
  | succ d=>exact hbx.nodup d f (by simpa using hf')
 ·intro d id hn;cases d with
  | zero=>exact h.box.dom 0 id hn
  | succ d=>exact hbx.dom d id (by rw [aBI] at hn;exact hn)
 ·intro d id cs hcs;cases d with
  | zero =>
   obtain ⟨hv,hbk⟩:=h.box.ok 0 id cs hcs;refine ⟨hv,?_⟩;rcases hbk with ⟨blk,hB,⟨o,hrow,fr,rel⟩⟩ | hno;rotate_left;· exact .inr hno
   obtain ⟨g1,g2⟩:=hblk id blk hB;refine .inl ⟨blk,hB,o,hrow.congr evo.mono g1,fun i=>by rw [g2];exact fr i,fun j c hj => ?_⟩;rw [hcell id blk j hB];obtain ⟨r1,r2,r3⟩:=rel j c hj;refine ⟨r1.mono evo.mono (fun _ _ _ hx=>hx),r2.world evo.mono fun b ho hlt => ?_,r3⟩;have e1:c1 c (cP w blk j) b=1:=by simp [c1,ho]
   have e3:=h.one b;have e4:fS (fun id cs=>cBox w (B 0 id) cs b) f0≥1:=by
    have k1  := nN (by simpa [bD,nth] using hcs);have k2:=aDF (g:=fun id cs=>cBox w (B 0 id) cs b) f0 k1;have k3:=aSr w blk b (phys cs) 0 j c hj;rw [aae] at k3;refine aa5 ?_ k2;show 1<=cBox w (B 0 id) cs b;rw [hB];show 1<=dX w blk 0 (phys cs) b;omega
   have e5:=hsplit b;obtain ⟨x1,x2⟩:=hkeep b hlt (by omega) (fun d' id' h2=>(r2.nobox ho).1 (d'+1) id' h2);exact ⟨x1,x2,fun _ _ hx=>hx⟩
  | succ d =>
   rw [aBI] at hcs;obtain ⟨hv,hbk⟩:=hbx.ok d id cs hcs;refine ⟨hv,?_⟩;rcases hbk with ⟨blk,hB,ok⟩ | hno;rotate_left;· exact .inr hno
   refine .inl ⟨blk,hB,ok.old,ok.row,ok.free,fun j c hj => ?_⟩;obtain ⟨r1,r2,r3⟩:=ok.rel j c hj;refine ⟨by rw [<- aXZ];exact r1,hlift _ _ (fun b ho=>hnew b ?_) r2,r3⟩;have e1:c1 c (cP w' blk j) b=1:=by simp [c1,ho]
   have e2:=bBn (w:=w') (B:=sO B) (bx:=up') hcs hB hj b;omega
 ·intro b;rw [hsplit' b];have e1:=h.one b;have e2:=hsplit b;have e3:=hone b;by_cases hb:b<w.heap.size;· have e4:=evo.tle b hb;have e4'  := e4;rw [aSG hd] at e4';omega
  have:fS (fun id cs=>cBox w (B 0 id) cs b) f0=0:=by
   cases hx:fS (fun id cs=>cBox w (B 0 id) cs b) f0 with
   | zero=>rfl
   | succ n=>exact absurd (h.own (b:=b) (by omega)).1 hb
  omega
 refine ⟨evo.os,evo.tape,evo.output,evo.size,evo.mono,?_,?_,fun d id b hb _=>⟨d,id,hb⟩,fun _ _=>rfl⟩
 ·intro b hb hn;refine hkeep b hb ?_ (fun d id h2=>hn (.inr ⟨d+1,id,h2⟩));cases hx:cA args vals b+cBx w (sO B) up b with
  | zero=>rfl
  | succ n =>
   refine absurd (Or.inl ?_) hn;show 1<=cA args vals b+cBx w B (f0::up) b;rw [hsplit];omega
 intro b hb;have e4:=evo.tle b hb;have e4'  := e4;rw [aSG hd] at e4';show cV r v b+cBx w' B (f0::up') b<=cA args vals b+cBx w B (f0::up) b;rw [hsplit' b,hsplit b];omega
end
def OLe (O b:Orc):Prop:=∀ f a u r,O f a u=some r->b f a u=some r
def BLe (x y:aAv):Prop:=∀ s u r,x s u=some r->y s u=some r
def LLe (L a:aAv->aAv):Prop:=∀ x y,BLe x y->BLe (L x) (a y)
section
variable {P : Program} {mt : Hints} {nt : Nat} {O O' : Orc} {LP LP' : aAv -> aAv}
theorem aMm (k:OLe O O') {o st e} (h:aX P mt nt O o st some=some e):aX P mt nt O' o st some=some e:=by
 cases u:o.op with
 | call c =>
  simp only [aX,u,lW] at h ⊢;cases l:c.callee with
  | value f =>
   simp only [l] at h ⊢;split at h
   ·rename_i g p t x;split at h;· simp at h
    ·rcases bQ h with ⟨i,h⟩ | ⟨_,h⟩
     ·split at h
      ·rename_i σ j off n s;rcases bQ h with ⟨m,h⟩ | ⟨_,h⟩;· obtain ⟨a,v,h⟩:=aB h;obtain ⟨fr,q,h⟩:=aB h;obtain ⟨r,d,h⟩:=aB h;rw [i];simp only [m,v,q,k _ _ _ _ d,cnd,bnd];exact h
       simp at h
      obtain ⟨r,d,h⟩:=aB h;rw [i,k _ _ _ _ d];exact h
     ·simp at h
    ·split at h
     ·rcases bQ h with ⟨w,h⟩ | ⟨_,h⟩
      ·unfold aBA at h ⊢;rcases bQ h with ⟨i,h⟩ | ⟨_,h⟩;· obtain ⟨r,d,h⟩:=aB h;rw [w,i,k _ _ _ _ d];exact h
       simp at h
      simp at h
     ·simp at h
     ·unfold aBA at h ⊢;rcases bQ h with ⟨i,h⟩ | ⟨_,h⟩;· obtain ⟨r,d,h⟩:=aB h;rw [i,k _ _ _ _ d];exact h
      simp at h
     unfold aBA at h ⊢;rcases bQ h with ⟨i,h⟩ | ⟨_,h⟩;· obtain ⟨r,d,h⟩:=aB h;rw [i,k _ _ _ _ d];exact h
     simp at h
   ·simp at h
  | invoke r n=>simp only [l] at h ⊢;exact h
  | builtin b=>cases b<;>simp [l] at h ⊢ <;> exact h
 | _=>simp [aX,u] at h ⊢ <;> exact h
theorem aDX (f:OLe O O') {c}:∀ d {st a},qC P mt nt O c d st some=some a->qC P mt nt O' c d st some=some a
 | [],_,_,h=>h
 | o::d,st,a,h=>by
  simp [qC] at h ⊢;rw [lY] at h ⊢;obtain ⟨⟨b,s⟩,i,h⟩:=aB h;rw [i];simp [bnd] at h ⊢;cases b with
  | true =>
   rw [jQ] at h ⊢;obtain ⟨e,g,h⟩:=aB h;rw [aMm f g];exact aDX f d h
  | false=>exact aDX f d h
theorem xL (f:OLe O O') {d}:∀ c i a {st r},eF P mt nt O d i c a st (fun l s=>some (l,s))=some r ->
  eF P mt nt O' d i c a st (fun l s=>some (l,s))=some r
 | [],_,_,_,_,h=>h
 | o::c,i,a,st,r,h=>by
  simp [eF] at h ⊢;rw [lY] at h ⊢;obtain ⟨⟨b,s⟩,k,h⟩:=aB h;rw [k];simp [bnd] at h ⊢;cases b with
  | true =>
   rw [jQ] at h ⊢;obtain ⟨e,j,h⟩:=aB h;rw [aMm f j];simp [bnd];cases g:e.up with
   | some u =>
    rw [g] at h;simp at h ⊢;split at h;· exact xL f c _ _ h
    omega
   | none=>rw [g] at h;exact xL f c _ _ h
  | false=>exact xL f c _ _ h
theorem jX (d:OLe O O') (f:LLe LP LP'):∀ c {st r},bC P mt nt O LP c st (fun e s=>some (e,s))=some r->bC P mt nt O' LP' c st (fun e s=>some (e,s))=some r
 | .skip,_,_,h=>h
 | .label _,_,_,h=>h
 | .exit _,_,_,h=>h
 | .ret,_,_,h=>h
 | .region id v j,st,r,h=>by
  simp [bC] at h ⊢;rw [oD] at h ⊢;obtain ⟨o,l,h⟩:=aB h;rw [l];simp [cM];cases j with
  | false =>
   simp at h ⊢;rw [uH] at h ⊢;obtain ⟨s,g,h⟩:=aB h;rw [aDX d _ g];exact h
  | true =>
   simp at h ⊢;split at h;· rw [oC] at h ⊢;obtain ⟨s,g,h⟩:=aB h;rw [xL d _ _ _ g];exact h
   omega
 | .seq a b,st,r,h=>by
  simp [bC] at h ⊢;rw [dB] at h ⊢;obtain ⟨⟨e,s⟩,g,h⟩:=aB h;rw [jX d f a g];cases e with
  | nrm=>exact jX d f b h
  | brk i=>exact h
  | ret=>exact h
 | .cond c a b,st,r,h=>by
  simp [bC,brB] at h ⊢;obtain ⟨t,p,h⟩:=aB h;rw [p];cases t with
  | true=>exact jX d f a h
  | false=>exact jX d f b h
 | .block id b,st,r,h=>by
  simp [bC] at h ⊢;rw [dB] at h ⊢;obtain ⟨⟨e,s⟩,g,h⟩:=aB h;rw [jX d f b g];exact h
 | .scope b,st,r,h=>jX d f b h
 | .loop b,st,r,h=>by
  simp [bC] at h ⊢;rw [oD] at h ⊢;obtain ⟨o,l,h⟩:=aB h;rw [l];simp [cM];rw [aFa] at h ⊢;obtain ⟨⟨s,u⟩,w,h⟩:=aB h;obtain ⟨q,n,h⟩:=aB h;rw [w];simp [cM];rw [f _ _ (fun s u r k=>by
   rw [dB] at k ⊢;obtain ⟨x,m,k⟩:=aB k;rw [jX d f b m];exact k) _ _ _ n]
  exact h
 | .rangeFunc _ _ _ _,_,_,h=>by simp [bC] at h
 | .goto _,_,_,h=>by simp [bC] at h
 | .refuse _,_,_,h=>by simp [bC] at h
theorem aHG (e:OLe O O') (f:LLe LP LP') {c args b r} (h:uY P mt nt O LP c args b=some r):uY P mt nt O' LP' c args b=some r:=by
 unfold uY at h ⊢;split at h
 ·split at h;· rename_i a;rw [dB] at h;obtain ⟨x,d,h⟩:=aB h;rw [if_pos a,dB,jX e f _ d];exact h
  grind
 omega
end
theorem aPg:∀ n {x y},BLe x y->BLe (aBj n x) (aBj n y)
 | 0,_,_,_,_,_,_,h=>by simp [aBj] at h
 | n+1,x,y,a,s,u,r,h=>by
  simp [aBj] at h ⊢;obtain ⟨q,b,h⟩:=aB h;rw [a _ _ _ b];simp [bnd];split at h;· exact aPg n a _ _ _ h
  exact h
theorem aI5:∀ n m {x},n<=m->BLe (aBj n x) (aBj m x)
 | 0,_,_,_,_,_,_,h=>by simp [aBj] at h
 | n+1,0,_,a,_,_,_,_=>by omega
 | n+1,m+1,x,a,s,u,r,h=>by
  simp [aBj] at h ⊢;obtain ⟨q,b,h⟩:=aB h;rw [b];simp [bnd];split at h;· exact aI5 n m (by omega) _ _ _ h
  exact h
open Classical in
def jM (body:aAv):aAv:=fun s u=>if h:∃ n r,aBj n body s u=some r then aBj (Classical.choose h) body s u else none
theorem jY {body s u r}:jM body s u=some r↔∃ n,aBj n body s u=some r:=by
 unfold jM;constructor;· intro h;split at h;all_goals grind
 rintro ⟨n,c⟩;have a:∃ n r,aBj n body s u=some r:=⟨n,r,c⟩;obtain ⟨e,b⟩:=abn a;have f:=aI5 n (max n (Classical.choose a)) (x:=body) (by omega) _ _ _ c;have d:=aI5 (Classical.choose a) (max n (Classical.choose a)) (x:=body) (by omega) _ _ _ b;grind
theorem aZE:aXX jM:=fun _ _ _ _ h=>jY.1 h
theorem aSH:LLe jM jM:=fun x y a s u r h=>by
 obtain ⟨n,b⟩:=jY.1 h;exact jY.2 ⟨n,aPg n a _ _ _ b⟩
theorem aAF body s u:jM body s u=bnd (body s u) fun r=>match r.1 with | .nrm=>jM body r.2.1 r.2.2 | e=>some (e,r.2.1,r.2.2):=by
 have c:∀ r,jM body s u=some r↔(bnd (body s u) fun r=>match r.1 with | .nrm=>jM body r.2.1 r.2.2 | e=>some (e,r.2.1,r.2.2))=some r:=by
  intro r;constructor
  ·intro h;obtain ⟨n,a⟩:=jY.1 h;cases n with
   | zero=>simp [aBj] at a
   | succ n =>
    obtain ⟨⟨e,s',d⟩,b,a⟩:=aB a;rw [b];cases e with
    | nrm=>exact jY.2 ⟨n,a⟩
    | brk i=>exact a
    | ret=>exact a
  intro h;obtain ⟨⟨e,s',d⟩,b,h⟩:=aB h;cases e with
  | nrm =>
   obtain ⟨n,a⟩:=jY.1 h;exact jY.2 ⟨n+1,by simp [aBj,b];exact a⟩
  | brk i=>exact jY.2 ⟨1,by simp only [aBj,b];exact h⟩
  | ret=>exact jY.2 ⟨1,by simp only [aBj,b];exact h⟩
 cases g:jM body s u with
 | some r=>grind
 | none =>
  cases f:(bnd (body s u) fun r=>match r.1 with | .nrm=>jM body r.2.1 r.2.2 | e=>some (e,r.2.1,r.2.2)) with
  | none=>rfl
  | some r=>grind
abbrev Ext:=FuncId->Option (List PV->UP->Option (PV×UP))
def bBI (b:Hints) (a:List PV) (u:UP):Bool :=
 match b.drop with
 | true=>match u with
  | []=>false
  | _::_=>a.all aDo
 | false=>false
def aVG (b:Hints) (a:List PV) (u:UP):Bool :=
 match yZ b a u with
 | some _=>false
 | none=>bBI b a u
def uZ (b:Hints) (a:List PV) (u:UP):Bool :=
 match yZ b a u with
 | some _=>true
 | none=>bBI b a u
theorem aBo {b a u} (h:uZ b a u=false):yZ b a u=none/\aVG b a u=false:=by
 unfold uZ at h;unfold aVG;grind
theorem aCl {b a u} (h:aVG b a u=true):yZ b a u=none/\bBI b a u=true/\uZ b a u=true:=by
 unfold aVG at h;unfold uZ;grind
theorem aVH b a:yZ b a []=none:=by
 unfold yZ;cases b.sel<;>rfl
inductive Does (P:Program) (Mt:FuncId->Hints) (X:Ext):FuncId->List PV->UP->PV×UP->Prop
 | ext {f:FuncId} {g:List PV->UP->Option (PV×UP)} {a:List PV} {u:UP} {r:PV×UP} (hx:X f=some g) (h:g a u=some r):Does P Mt X f a u r
 | run {f:FuncId} {fn:Func} {a:List PV} {u:UP} {r:PV×UP} (hx:X f=none) (hd:uZ (Mt f) a u=false) (hf:P.funcs[f]?=some fn) (O:Orc) (LP:aAv->aAv) (hO:∀ f a u r,O f a u=some r->Does P Mt X f a u r)
   (hL:aXX LP) (hl:LLe LP jM) (h:uY P (Mt f) fn.ntmps O LP fn a u=some r):Does P Mt X f a u r
 | sel {f:FuncId} {a a':List PV} {u u' u2:UP} {σ:List (Nat×Nat)} {fr:gP} {r:PV} (hx:X f=none) (hs:yZ (Mt f) a u=some (σ,a',fr)) (hr:r.free=true) (hp:putF σ σ 0 u' u=some u2) (h:Does P Mt X f a' [fr] (r,u')):Does P Mt X f a u (r,u2)
 | drop {f:FuncId} {a:List PV} {b:gP} {u u':UP} {r:PV} (hx:X f=none) (hd:aVG (Mt f) a (b::u)=true) (hr:r.free=true) (h:Does P Mt X f (a.map low) u (r,u')):Does P Mt X f a (b::u) (r,b::u')
def aVI (P:Program) (G:Mem) (X:Ext):Prop :=
 ∀ f g,X f=some g->∀ args b r a,g args b=some (r,a)->∀ n w M B vals,CallPre ⟨n,G⟩ M B args b vals w->aBm P f vals w (iO ⟨n,G⟩ M B args b vals w r a)
theorem aSI {c a b} {u:UP} (h:aVG c a (b::u)=true):a.all aDo=true:=by
 replace h:=(aCl h).2.1;unfold bBI at h;grind
section
variable {P : Program} {Mt : FuncId -> Hints} {X : Ext}
theorem Does.sound {G} (p:POk P) (q:aVI P G X) {f a u r} (h:Does P Mt X f a u r) :
  ∀ n w M B vals,CallPre ⟨n,G⟩ M B a u vals w->aBm P f vals w (iO ⟨n,G⟩ M B a u vals w r.1 r.2):=by
 induction h with
 | ext e h=>exact q _ _ e _ _ _ _ h
 | run e l s O z C x A h d =>
  intro base w M B vals b;exact aZC (base:=⟨base,G⟩) p (fun f a u r y g base w M B vals i=>by grind) x s h b
 | sel e t g i h d =>
  intro base w M B vals b;obtain ⟨j,k,m⟩:=aSt t;exact (d base w M _ vals (aVs b j k m).1).mono fun v w' o=>aXR b j k m g i o
 | drop e l g h d =>
  intro base w M B vals b;have c:=aSI l;exact (d base w M (sO B) vals (bEz b c)).mono fun v w' i=>bBH b c g i
theorem Does.det {f a u r} (h:Does P Mt X f a u r):∀ {i},Does P Mt X f a u i->r=i:=by
 induction h with
 | ext g h =>
  intro i d;cases d with
  | ext b p=>grind
  | run b=>rw [g] at b;simp at b
  | drop b=>rw [g] at b;simp at b
  | sel b=>rw [g] at b;simp at b
 | drop g j k h l =>
  intro i d;cases d with
  | ext b=>rw [g] at b;simp at b
  | run b c=>rw [(aCl j).2.2] at c;simp at c
  | sel b e=>rw [(aCl j).1] at e;simp at e
  | drop b c n d =>
   have:=l d;cases this;rfl
 | sel g e k H h l =>
  intro i d;cases d with
  | ext b=>rw [g] at b;simp at b
  | run b c=>rw [(aBo c).1] at e;simp at e
  | drop b c=>rw [(aCl c).1] at e;simp at e
  | sel b s n x d =>
   grind
 | run g j F O C E G v h l =>
  intro i d;cases d with
  | ext b=>rw [g] at b;simp at b
  | drop b c=>rw [(aBo j).2] at c;simp at c
  | sel b e=>rw [(aBo j).1] at e;simp at e
  | run b c q o w y t m p =>
   have z:OLe O (fun f a u=>match O f a u with | some r=>some r | none=>o f a u):=by
    intro f a u r k;simp [k]
   have A:OLe o (fun f a u=>match O f a u with | some r=>some r | none=>o f a u):=by
    intro f a u r k;grind
   have B:=aHG z v h;have D:=aHG A m p;exact by grind
open Classical in
def OL (P:Program) (Mt:FuncId->Hints) (X:Ext):Orc:=fun f a u=>if h:∃ r,Does P Mt X f a u r then some (Classical.choose h) else none
theorem aDY {f a u r}:OL P Mt X f a u=some r↔Does P Mt X f a u r:=by
 unfold OL;constructor;· intro h;split at h;all_goals grind
 intro h;have b:∃ r,Does P Mt X f a u r:=⟨r,h⟩;rw [dif_pos b,(abn b).det h]
theorem bJb {G} (b:POk P) (c:aVI P G X):aQk P G (OL P Mt X):=fun f a u r e h base w M B vals d=>(aDY.1 h).sound b c base w M B vals d
theorem bBJ {f b a u r} (c:X f=none) (g:uZ (Mt f) a u=false) (e:P.funcs[f]?=some b) (h:uY P (Mt f) b.ntmps (OL P Mt X) jM b a u=some r):OL P Mt X f a u=some r :=
 aDY.2 (.run c g e _ _ (fun _ _ _ _ d=>aDY.1 d) aZE aSH h)
theorem bJc {f a c u d b} {σ} {fr r} (e:X f=none) (i:yZ (Mt f) a u=some (σ,c,fr)) (g:r.free=true) (h:OL P Mt X f c [fr]=some (r,d)) (j:putF σ σ 0 d u=some b):OL P Mt X f a u=some (r,b) :=
 aDY.2 (.sel e i g j (aDY.1 h))
theorem aQw {f a b} {u c:UP} {r} (d:X f=none) (g:aVG (Mt f) a (b::u)=true) (e:r.free=true) (h:OL P Mt X f (a.map low) u=some (r,c)):OL P Mt X f a (b::u)=some (r,b::c) :=
 aDY.2 (.drop d g e (aDY.1 h))
theorem bGO {f g a u r} (b:X f=some g) (h:g a u=some r):OL P Mt X f a u=some r:=aDY.2 (.ext b h)
end
open Classical in
def prop (p:Prop):Option Unit:=if p then some () else none
theorem nO {p}:prop p=some ()↔p:=by unfold prop;simp
def dec1 {α β:Type} (g:α->β) (v:β) (K:α->Option Unit):Option Unit:=prop (∃ a,g a=v/\K a=some ())
theorem qE {α β} {g:α->β} {a v K} (h:g a=v) (b:K a=some ()):dec1 g v K=some ():=nO.2 ⟨a,h,b⟩
inductive DH:Type 1 where
 | v {α:Type} (f:α->PV)
 | u {α:Type} (f:α->PV) (g:UP->α->UP)
 | o {α:Type} (f:α->PV) (c:α->List PV)
 | m {α:Type} (l:α->List PV)
structure XH:Type 1 where
 {α:Type}
 f:List PV->UP->α->List PV×UP
structure LHk:Type 1 where
 {α:Type}
 f:List PV->UP->α->List PV×UP
 xs:List (Option Nat×XH)
structure Dc:Type 1 where
 ds:List (Nat×DH):=[]
 ls:List (Nat×List (Nat×Nat)×LHk):=[]
def bHu {α:Type 1}:List (Nat×α)->Nat->Option α
 | [],_=>none
 | (i,x)::l,j=>match Nat.beq i j with
  | true=>some x
  | false=>bHu l j
def bGP:List (Nat×Nat)->List (Nat×Nat)->Bool
 | [],[]=>true
 | a::l,b::m=>Nat.beq a.1 b.1&&Nat.beq a.2 b.2&&bGP l m
 | _,_=>false
def bGQ:List (Nat×List (Nat×Nat)×LHk)->Nat->List (Nat×Nat)->Option LHk
 | [],_,_=>none
 | (i,sh,x)::l,j,t=>match Nat.beq i j&&bGP sh t with
  | true=>some x
  | false=>bGQ l j t
def bJd:List (Option Nat×XH)->Option Nat->Option XH
 | [],_=>none
 | (w,x)::l,v=>if w==v then some x else bJd l v
def hint (ds:Dc) (a:Nat) (b:List Oper) (o:Oper):Option DH :=
 match o.dst with
 | some d=>bHu ds.ds d
 | none=>bHu ds.ds (1000000+a*1000+b.length)
def decT (H:Option DH) (bx:List gP) (e:Eff) (K:Eff->Option Unit):Option Unit :=
 match H with
 | none=>K e
 | some (.v f)=>match e.ws with
  | x::ws=>dec1 f x.2 fun a=>K {e with ws:=(x.1,f a)::ws}
  | []=>none
 | some (.u f g)=>match e.ws,e.up with
  | x::ws,some u=>dec1 (fun a=>(f a,g bx a)) (x.2,u) fun a=>K {e with ws:=(x.1,f a)::ws,up:=some (g bx a)}
  | _,_=>none
 | some (.o f c)=>match e.ws,e.cw with
  | x::ws,[(p,q,i,vs)]=>dec1 (fun a=>(f a,c a)) (x.2,vs) fun a=>K {e with ws:=(x.1,f a)::ws,cw:=[(p,q,i,c a)]}
  | _,_=>none
 | some (.m l)=>match e.cw with
  | [(p,q,i,[.mpv kd E])]=>dec1 l E fun a=>K {e with cw:=[(p,q,i,[.mpv kd (l a)])]}
  | _=>none
theorem aX0 {R:Type} {r H bx e d} {K:Eff->Option R} (j:∀ e,d e=some ()->K e=some r) (h:decT H bx e d=some ()):K e=some r:=by
 unfold decT at h;split at h;· grind
 ·split at h
  ·rename_i x ws c;obtain ⟨a,b,h⟩:=nO.1 h;dsimp at h;rw [b] at h;have:{e with ws:=(x.1,x.2)::ws}=e:=by cases e;simp_all
   grind
  grind
 ·split at h
  ·rename_i x ws u c g;obtain ⟨a,b,h⟩:=nO.1 h;dsimp at h;obtain ⟨b,f⟩:=aaD b;rw [b,f] at h;have:{e with ws:=(x.1,x.2)::ws,up:=some u}=e:=by cases e;simp_all
   grind
  grind
 ·split at h
  ·rename_i x ws p q i vs c g;obtain ⟨a,b,h⟩:=nO.1 h;have:{e with ws:=(x.1,x.2)::ws,cw:=[(p,q,i,vs)]}=e:=by cases e;simp_all
   grind
  grind
 split at h
 ·rename_i p q i kd E c;obtain ⟨a,b,h⟩:=nO.1 h;have:{e with cw:=[(p,q,i,[.mpv kd E])]}=e:=by cases e;simp_all
  grind
 grind
abbrev bJe:=List PV->UP->(Ex×List PV×UP->Option Unit)->Option Unit
inductive LoopR (b:bJe):List PV->UP->Ex×List PV×UP->Prop
 | next {s:List PV} {u:UP} {s':List PV} {u':UP} {q:Ex×List PV×UP}:b s u (fun r=>prop (r=(.nrm,s',u')))=some ()->LoopR b s' u' q->LoopR b s u q
 | exit {s:List PV} {u:UP} {q:Ex×List PV×UP}:q.1 ≠ .nrm->b s u (fun r=>prop (r=q))=some ()->LoopR b s u q
def bJf (b:bJe) (s:List PV) (u:UP) (K:Ex×List PV×UP->Option Unit):Option Unit:=prop (∃ q,LoopR b s u q/\K q=some ())
section
variable (P : Program) (mt : Hints) (ds : Dc) (nt : Nat) (O : Orc)
def aLt (c:Nat) (a:Array Oper):List Oper->St->(St->Option Unit)->Option Unit
 | [],st,K=>K st
 | o::d,st,K=>nX a (a.size+1) o st fun b st =>
  match b with
  | true=>aX P mt nt O o st fun e=>decT (hint ds c d o) st.bx e fun e=>aLt c a d (e.app st) K
  | false=>aLt c a d {st with fr:=dstW nt o.dst .und++st.fr} K
def aDZ (d:Nat) (a:Array Oper):Nat->List Oper->List (Nat×Foot)->St->(List (Nat×Foot)->St->Option Unit)->Option Unit
 | _,[],c,st,K=>K c st
 | i,o::f,c,st,K=>nX a (a.size+1) o st fun b st =>
  match b with
  | true=>aX P mt nt O o st fun e=>decT (hint ds d f o) st.bx e fun e =>
   match e.up with
   | some _ =>
    match aVa (Region.before a) a.size i with
    | true=>aDZ d a (i+1) f c (e.app st) K
    | false=>none
   | none=>aDZ d a (i+1) f ((i,e.foot)::c) (e.app st) K
  | false=>aDZ d a (i+1) f c {st with fr:=dstW nt o.dst .und++st.fr} K
def aLu (xs:List (Option Nat×XH)) (s:List PV) (u:UP) (r:Ex×List PV×UP) (K:Ex->List PV×UP->Option Unit):List (Option Nat)->Option Unit
 | []=>none
 | w::l=>exIs r.1 w (match bJd xs w with
  | some X=>dec1 (X.f s u) r.2 fun a=>K (exOf w) (X.f s u a)
  | none=>none) (aLu xs s u r K l)
def iI:Code->St->(Ex->St->Option Unit)->Option Unit
 | .skip,st,K=>K .nrm st
 | .label _,st,K=>K .nrm st
 | .region g d j,st,K=>aHo mt.frz g st fun st =>
  match j with
  | false=>aLt P mt ds nt O g d d.toList st (K .nrm)
  | true =>
   match aCc mt d (Region.before d) with
   | true=>aDZ P mt ds nt O g d 0 d.toList [] st fun l st =>
    match wO (Region.before d) l with
    | true=>K .nrm st
    | false=>none
   | false=>none
 | .seq a b,st,K=>iI a st fun e st =>
  match e with
  | .nrm=>iI b st K
  | .brk i=>K (.brk i) st
  | .ret=>K .ret st
 | .cond c a b,st,K=>brB (opd st.fr c) fun t =>
  match t with
  | true=>iI a (aDC c true st) K
  | false=>iI b (aDC c false st) K
 | .block id b,st,K=>iI b st fun e st =>
  match e with
  | .nrm=>K .nrm st
  | .brk i=>if i=id then K .nrm st else K (.brk i) st
  | .ret=>K .ret st
 | .scope b,st,K=>iI b st K
 | .exit id,st,K=>K (.brk id) st
 | .ret,st,K=>K .ret st
 | .loop b,st,K=>aHo mt.frl (kK b) st fun st =>
  match bGQ ds.ls (kK b) (rE st.bx) with
  | none=>none
  | some h =>
   pack (aBB mt b) (rE st.bx) st fun s u =>
    bJf (fun s' m Q=>dec1 (h.f s u) (s',m) fun a=>iI b (dV (aBB mt b) (rE st.bx) (h.f s u a).1 (h.f s u a).2) fun e k=>pack (aBB mt b) (rE st.bx) k fun s u=>Q (e,s,u)) s u fun r =>
     aLu h.xs s u r (fun e v=>K e (dV (aBB mt b) (rE st.bx) v.1 v.2)) (rG b)
 | _,_,_=>none
def aMn (a:Func) (args:List PV) (b:UP) (Q:PV×UP->Option Unit):Option Unit :=
 match a.body with
 | some c=>if args.length<=nt then iI P mt ds nt O c (xI args b) fun e st =>
   match e with
   | .brk _=>none
   | .nrm=>bnd (aLU P a mt.own st) Q
   | .ret=>bnd (aLU P a mt.own st) Q
  else none
 | none=>none
end
section
variable {P : Program} {mt : Hints} {ds : Dc} {nt : Nat} {O : Orc} {R : Type} {r : R}
theorem bHv {v a K} (c:∀ b,a b=some ()->K b=some r) (h:brB v a=some ()):brB v K=some r:=by
 unfold brB at h ⊢;obtain ⟨b,d,h⟩:=aB h;rw [d];cases b with
 | true=>exact c _ h
 | false=>exact c _ h
theorem aMo {a} n o st {c K} (e:∀ b s,c b s=some ()->K b s=some r) (h:nX a n o st c=some ()):nX a n o st K=some r:=by
 rw [lY] at h ⊢;obtain ⟨x,d,h⟩:=aB h;rw [d];exact e _ _ h
theorem aPh {o st a K} (c:∀ e,a e=some ()->K e=some r) (h:aX P mt nt O o st a=some ()):aX P mt nt O o st K=some r:=by
 rw [jQ] at h ⊢;obtain ⟨x,b,h⟩:=aB h;rw [b];exact c _ h
theorem aD0 {g a}:∀ c st {d K},(∀ s,d s=some ()->K s=some r)->aLt P mt ds nt O g a c st d=some ()->qC P mt nt O a c st K=some r
 | [],st,d,K,f,h=>f _ h
 | o::c,st,d,K,f,h=>by
  refine aMo _ _ _ (fun b s h => ?_) h;cases b with
  | true=>exact aPh (fun e h=>aX0 (K:=fun e=>qC P mt nt O a c (e.app s) K) (fun e h=>aD0 c _ f h) h) h
  | false=>exact aD0 c _ f h
theorem xM {j a}:∀ d i c st {g K},(∀ l s,g l s=some ()->K l s=some r)->aDZ P mt ds nt O j a i d c st g=some ()->eF P mt nt O a i d c st K=some r
 | [],i,c,st,g,K,f,h=>f _ _ h
 | o::d,i,c,st,g,K,f,h=>by
  refine aMo _ _ _ (fun b s h => ?_) h;cases b with
  | true =>
   refine aPh (fun e h=>aX0 (K:=fun e=>match e.up with | some _=>(match aVa (Region.before a) a.size i with | true=>eF P mt nt O a (i+1) d c (e.app s) K | false=>none) | none=>eF P mt nt O a (i+1) d ((i,e.foot)::c) (e.app s) K) (fun e h => ?_) h) h;cases k:e.up with
   | some u =>
    rw [k] at h;simp at h ⊢;split at h;· exact xM d _ _ _ f h
    grind
   | none=>rw [k] at h;exact xM d _ _ _ f h
  | false=>exact xM d _ _ _ f h
theorem bEA {e w c d x y} (b:e=exOf w->c=some ()->x=some r) (hy:d=some ()->y=some r) (h:exIs e w c d=some ()):exIs e w x y=some r:=by
 cases e with
 | nrm=>cases w<;>exact hy h
 | ret=>cases w with
  | none=>exact b rfl h
  | some j=>exact hy h
 | brk i=>cases w with
  | none=>exact hy h
  | some j =>
   simp [exIs] at h ⊢;split;· rename_i a;rw [if_pos a] at h;subst a;exact b rfl h
   grind
theorem aKd {xs s u q b K} (c:∀ e,b e q.2=some ()->K e=some r):∀ l,aLu xs s u q b l=some ()->yU q.1 K l=some r
 | [],h=>by simp [aLu] at h
 | w::l,h=>by
  refine bEA (fun f h => ?_) (fun h=>aKd c l h) h;split at h;· obtain ⟨a,d,h⟩:=nO.1 h;grind
  grind
theorem aX1 {kp sh st a K} (c:∀ s u,a s u=some ()->K s u=some r) (h:pack kp sh st a=some ()):pack kp sh st K=some r:=by
 rw [aFa] at h ⊢;obtain ⟨x,b,h⟩:=aB h;rw [b];exact c _ _ h
theorem aSJ {l i st a K} (c:∀ s,a s=some ()->K s=some r) (h:aHo l i st a=some ()):aHo l i st K=some r:=by
 rw [oD] at h ⊢;obtain ⟨x,b,h⟩:=aB h;rw [b];exact c _ h
theorem bBK {b body} (a:∀ s u q,b s u (fun r=>prop (r=q))=some ()->body s u=some q) {s u q} (h:LoopR b s u q):jM body s u=some q:=by
 induction h with
 | next h _ c=>rw [aAF,a _ _ _ h];exact c
 | @exit s u q g h =>
  rw [aAF,a _ _ _ h];obtain ⟨e,d,f⟩:=q;cases e with
  | nrm=>grind
  | brk i=>rfl
  | ret=>rfl
theorem jZ:∀ {R} {r:R} c st {f K},(∀ e s,f e s=some ()->K e s=some r)->iI P mt ds nt O c st f=some ()->bC P mt nt O jM c st K=some r
 | _,_,.skip,_,_,_,d,h=>d _ _ h
 | _,_,.label _,_,_,_,d,h=>d _ _ h
 | _,_,.exit _,_,_,_,d,h=>d _ _ h
 | _,_,.ret,_,_,_,d,h=>d _ _ h
 | _,_,.region id n g,st,f,K,d,h=>by
  simp [iI] at h;simp [bC];refine aSJ (fun st h => ?_) h;cases g with
  | false=>exact aD0 _ _ (fun s h=>d _ _ h) h
  | true =>
   simp at h ⊢;split at h;· rename_i m;rw [m];refine xM _ _ _ _ (fun l s h => ?_) h;grind
   simp at h
 | _,_,.seq a b,st,f,K,d,h=>by
  simp [iI] at h;simp [bC];refine jZ a st (fun e s h => ?_) h;cases e with
  | nrm=>exact jZ b s d h
  | brk i=>grind
  | ret=>grind
 | _,_,.cond c a b,st,f,K,d,h=>by
  simp [iI] at h;simp [bC];refine bHv (fun t h => ?_) h;cases t with
  | true=>exact jZ a _ d h
  | false=>exact jZ b _ d h
 | _,_,.block id b,st,f,K,d,h=>by
  simp [iI] at h;simp [bC];refine jZ b st (fun e s h => ?_) h;grind
 | _,_,.scope b,st,f,K,d,h=>jZ b st d h
 | _,_,.loop b,st,f,K,d,h=>by
  refine aSJ (fun st h => ?_) h;split at h;· simp at h
  refine aX1 (fun s u h => ?_) h;obtain ⟨q,k,h⟩:=nO.1 h;rw [bBK (body:=fun s u=>bC P mt nt O jM b (dV (aBB mt b) (rE st.bx) s u) fun e j=>pack (aBB mt b) (rE st.bx) j fun s u=>some (e,s,u)) (fun s' p q h=>by
   obtain ⟨a,o,h⟩:=nO.1 h;dsimp at h;rw [o] at h;exact jZ b _ (fun e s h=>aX1 (fun s u h=>by rw [nO.1 h]) h) h) k]
  exact aKd (fun e h=>d _ _ h) _ h
 | _,_,.rangeFunc _ _ _ _,_,_,_,_,h=>by simp [iI] at h
 | _,_,.goto _,_,_,_,_,h=>by simp [iI] at h
 | _,_,.refuse _,_,_,_,_,h=>by simp [iI] at h
theorem bHw {Mt X f b a u r} ds (d:X f=none) (l:uZ (Mt f) a u=false) (k:P.funcs[f]?=some b)
  (h:aMn P (Mt f) ds b.ntmps (OL P Mt X) b a u (fun w=>prop (w=r))=some ()):OL P Mt X f a u=some r:=by
 refine bBJ d l k ?_;unfold aMn at h;unfold uY;have i:∀ st,bnd (aLU P b (Mt f).own st) (fun w=>prop (w=r))=some ()->aLU P b (Mt f).own st=some r:=fun st h=>by
  obtain ⟨w,g,h⟩:=aB h;rw [g,nO.1 h]
 split at h
 ·rename_i j;rw [j];split at h;· rename_i c;simp [if_pos c];refine jZ _ _ (fun e s h => ?_) h;grind
  grind
 grind
end
abbrev Str:=List UInt8
def nthI {α:Type} (l:List α) (i:Int):Option α:=if i<0 then none else l[i.toNat]?
def tapp {α:Type} (l m:List α):Option (List α):=if l.length+m.length<=lim then some (l++m) else none
def tslc {α:Type} (l:List α) (b a:Int):Option (List α):=if 0<=b/\b<=a/\a<=l.length then some ((l.take a.toNat).drop b.toNat) else none
def tshl (k:IntKind) (a b:Int):Option Int:=if b<0 then none else some (k.wrap (a*2 ^ min b.toNat k.bits))
def cX {α:Type} (f:α->PV) (l:List α):PV := .slice (l.map f) [] false
def elim {α β γ:Type} (x:α⊕β) (f:α->γ) (g:β->γ):γ :=
 match x with
 | .inl a=>f a
 | .inr b=>g b
@[simp] theorem aLv {α β γ} (a:α) f (g:β->γ):elim (.inl a) f g=f a:=rfl
@[simp] theorem aLw {α β γ} (b:β) (f:α->γ) g:elim (.inr b) f g=g b:=rfl
def wZ {σ ρ} (b:σ->Option (σ⊕ρ)):Nat->σ->Option ρ
 | 0,_=>none
 | n+1,s=>bnd (b s) fun x=>elim x (wZ b n) some
theorem aGF {σ ρ} {b:σ->Option (σ⊕ρ)}:∀ n m {s r},n<=m->wZ b n s=some r->wZ b m s=some r
 | 0,_,_,_,_,h=>by simp [wZ] at h
 | n+1,0,_,_,a,_=>by omega
 | n+1,m+1,s,r,a,h=>by
  simp [wZ] at h ⊢;obtain ⟨x,c,h⟩:=aB h;rw [c];cases x with
  | inl s'=>exact aGF n m (by omega) h
  | inr d=>exact h
open Classical in
def cW {σ ρ} (b:σ->Option (σ⊕ρ)) (s:σ):Option ρ:=if h:∃ n r,wZ b n s=some r then wZ b (Classical.choose h) s else none
theorem aFb {σ ρ} {b:σ->Option (σ⊕ρ)} {s r}:cW b s=some r↔∃ n,wZ b n s=some r:=by
 unfold cW;constructor;· intro h;split at h;all_goals grind
 rintro ⟨n,d⟩;have a:∃ n r,wZ b n s=some r:=⟨n,r,d⟩;obtain ⟨f,c⟩:=abn a;have g:=aGF n (max n (Classical.choose a)) (by omega) d;have e:=aGF (Classical.choose a) (max n (Classical.choose a)) (by omega) c;grind
theorem fL {σ ρ} {b:σ->Option (σ⊕ρ)} {s s'} (h:b s=some (.inl s')):cW b s=cW b s':=by
 have c:∀ r,cW b s=some r↔cW b s'=some r:=by
  intro r;rw [aFb,aFb];constructor
  ·rintro ⟨n,a⟩;cases n with
   | zero=>simp [wZ] at a
   | succ n=>simp [wZ,h,bnd] at a;grind
  rintro ⟨n,a⟩;exact ⟨n+1,by simp [wZ,h];exact a⟩
 cases e:cW b s' with
 | some r=>grind
 | none =>
  cases d:cW b s with
  | none=>rfl
  | some r=>grind
theorem cG {σ ρ} {b:σ->Option (σ⊕ρ)} {s r} (h:b s=some (.inr r)):cW b s=some r :=
 aFb.2 ⟨1,by simp [wZ,h,bnd]⟩
theorem aGG? {α}:∀ (l:List α) i,nth l i=l[i]?
 | [],i=>by simp [nth]
 | a::l,0=>rfl
 | a::l,i+1=>by simpa [nth] using aGG? l i
theorem bKs {α} {enc:α->PV} {l E bs o k i n a} (c:E=l.map enc) (d:((enc a).cells.length=n)/\0<n) (h:nthI l i=some a):ix n (.slice E bs o) (.int k i)=some (.ref (enc a)):=by
 unfold nthI at h;split at h;· grind
 rename_i b;simp [ix,if_neg b,aGG?,c,h,bnd,if_pos d]
theorem bEB {s:Str} {k i b} (h:nthI s i=some b):aU8 (.str s) (.int k i)=some (.int .u8 b.toNat):=by
 unfold nthI at h;split at h;· grind
 rename_i a;simp [aU8,if_neg a,aGG?,h,bnd]
theorem aX2 {α:Type} {enc n} (b:∀ a,(enc a).cells.length=n) (l:List α):szOk n (l.map enc)=true:=by
 cases l<;>simp [szOk,b]
theorem bGR {α} {enc:α->PV} {l m r A B bs b o n} (f:A=l.map enc) (c:B=m.map enc) (e:∀ a,(enc a).cells.length=n) (h:tapp l m=some r) :
  apd n (.slice A bs true) (.slice B b o)=some (.slice (r.map enc) [] true):=by
 unfold tapp at h;split at h;· rename_i d;cases h;subst f c;simp [apd,aX2 e,d]
 grind
theorem bJg {α} {enc} {l b r:List α} {E bs o n e d} (m:E=l.map enc) (k:bs=b.map enc) (p:∀ a,(enc a).cells.length=n+1) (h:tslc l e d=some r) :
  ∃ c:List α,aIZ (n+1) (.slice E bs o) e.toNat d.toNat=some (.slice (r.map enc) (c.map enc) false):=by
 unfold tslc at h;split at h
 ·cases h;subst m k;refine ⟨(l++b).drop d.toNat,?_⟩;have j:e.toNat<=d.toNat:=by omega
  have i:d.toNat<=l.length:=by omega
  have g:d.toNat<=(l.map enc).length+(b.map enc).length:=by grind
  have f:=aX2 p (l++b);rw [aba] at f;simp only [aIZ,j,g,f];simp [<- List.map_append,<- List.map_take,List.take_append_of_le_length i]
 grind
theorem bBL {k n} (h:0<=n):aDx (.int k n)=some n.toNat:=by
 simp [aDx];grind
theorem bHx {α} {l r:List α} {b a} (h:tslc l b a=some r):0<=b/\0<=a:=by
 unfold tslc at h;grind
theorem bEC {α} {enc} {l b r:List α} {E bs o n k' d} (g:E=l.map enc) (f:bs=b.map enc) (i:∀ a,(enc a).cells.length=n+1) (h:tslc l 0 d=some r) :
  ∃ c:List α,aZg (n+1) (.slice E bs o) (.int k' d)=some (.slice (r.map enc) (c.map enc) false):=by
 obtain ⟨j,e⟩:=bHx h;simp [aZg,bBL e,bnd];exact bJg g f i h
theorem bJh {s t r:Str} (h:tapp s t=some r):bin .add (.str s) (.str t)=some (.str r):=by
 unfold tapp at h;split at h;· rename_i a;cases h;simp [bin,aXx,if_pos a]
 grind
theorem bJi {k k' a b r} (h:tshl k a b=some r):bin .shl (.int k a) (.int k' b)=some (.int k r):=by
 unfold tshl at h;split at h;· grind
 rename_i c;cases h;simp [bin,if_neg c]
open Classical in
def tO {α:Type} (O:Orc) (f:FuncId) (args:List PV) (a:UP) (enc:α->PV×UP):Option α:=if h:∃ r,O f args a=some (enc r) then some (Classical.choose h) else none
theorem dW {α} {O f args a} {enc:α->PV×UP} {r} (h:tO O f args a enc=some r):O f args a=some (enc r):=by
 unfold tO at h;split at h;all_goals grind
theorem aHH {α} {O f args c} {enc:α->PV×UP} (e:∀ a b,enc a=enc b->a=b) {r} (h:O f args c=some (enc r)):tO O f args c enc=some r:=by
 unfold tO;have d:∃ r,O f args c=some (enc r):=⟨r,h⟩;grind
theorem map_inj' {α:Type} {f:α->PV} (c:∀ a b,f a=f b->a=b):∀ {l m:List α},l.map f=m.map f->l=m
 | [],[],_=>rfl
 | [],_::_,h=>by grind
 | _::_,[],h=>by grind
 | a::l,b::m,h=>by
  simp at h;rw [c _ _ h.1,map_inj' c h.2]
theorem encSl_inj {α} {f:α->PV} (c:∀ a b,f a=f b->a=b) l m (h:cX f l=cX f m):l=m:=by
 simp [cX] at h;exact map_inj' c h
theorem encSlO_inj {α:Type} {f} (c:∀ a b,f a=f b->a=b) (l m:List α) (h:PV.slice (l.map f) [] true=PV.slice (m.map f) [] true):l=m:=by
 simp at h;exact map_inj' c h
theorem str_inj (a b:Str) (h:PV.str a=PV.str b):a=b:=by grind
theorem int_inj k a b (h:PV.int k a=PV.int k b):a=b:=by grind
theorem bool_inj a b (h:PV.bool a=PV.bool b):a=b:=by grind
theorem aG {α:Type} {f:α->PV} (c:∀ a b,f a=f b->a=b) a b (h:((f a,[]):PV×UP)=(f b,[])):a=b:=by grind
def cC {K V:Type} (f:K->PV) (g:V->PV) (p:K×V):PV := .tuple [f p.1,g p.2]
def aVJ (p:Int×Int):PV := .agg [.int .i64 p.1,.int .i64 p.2]
theorem encPr_inj {K V} {f:K->PV} {g:V->PV} (c:∀ a b,f a=f b->a=b) (d:∀ a b,g a=g b->a=b) a b (h:cC f g a=cC f g b):a=b:=by
 simp [cC] at h;grind
theorem encII_inj a b (h:aVJ a=aVJ b):a=b:=by
 simp [aVJ] at h;grind
def qF {K V:Type} [BEq K] (k:K) (z:V):List (K×V)->V×Bool
 | []=>(z,false)
 | p::l=>bif k==p.1 then (p.2,true) else qF k z l
def zG {K V:Type} [BEq K] (k:K) (v:V):List (K×V)->List (K×V)
 | []=>[(k,v)]
 | p::l=>bif k==p.1 then (k,v)::l else p::zG k v l
theorem bHy (a b:Str):keq (.str a) (.str b)=(a==b):=rfl
theorem bJj a b:keq (aVJ a) (aVJ b)=(a==b):=rfl
section
variable {K V : Type} [BEq K] {f : K -> PV} {g : V -> PV}
theorem aMp (c:∀ a b,keq (f a) (f b)=(a==b)) k z:∀ l,aOf (f k) (l.map (cC f g))=(match (qF k z l).2 with | true=>some (g (qF k z l).1) | false=>none)/\((qF k z l).2=false->(qF k z l).1=z)
 | []=>⟨rfl,fun _=>rfl⟩
 | p::l=>by
  obtain ⟨e,d⟩:=aMp c k z l;simp [cC,aOf,qF];grind
theorem bHz {l k z E kp d kd} (p:E=l.map (cC f g)) (n:kp=f k) (c:aFJ kd (f k)=true) (i:∀ a b,keq (f a) (f b)=(a==b)) (o:d.plain1=g z) {a} (h:some (qF k z l)=some a):aJ3 kd E kp d true=some (.tuple [g a.1,.bool a.2]):=by
 cases h;subst p n;obtain ⟨m,j⟩:=aMp (g:=g) i k z l;simp [aJ3,bA0,c,m];cases e:(qF k z l).2;· simp [bnd,o,j e]
 rfl
theorem bED {l k z E kp d kd} (p:E=l.map (cC f g)) (n:kp=f k) (c:aFJ kd (f k)=true) (i:∀ a b,keq (f a) (f b)=(a==b)) (o:d.plain1=g z) {a} (h:some (qF k z l).1=some a):aJ3 kd E kp d false=some (g a):=by
 cases h;subst p n;obtain ⟨m,j⟩:=aMp (g:=g) i k z l;simp [aJ3,bA0,c,m];cases e:(qF k z l).2;· simp [bnd,o,j e]
 rfl
theorem aSK (c:∀ a b,keq (f a) (f b)=(a==b)) k v:∀ l,aHl (f k) (g v) (l.map (cC f g))=(zG k v l).map (cC f g)
 | []=>rfl
 | p::l=>by
  simp [cC,aHl,c,zG,aSK c k v l];cases k==p.1<;>rfl
theorem bJk {l k v E kp c kd} (m:E=l.map (cC f g)) (i:kp=f k) (d:aFJ kd (f k)=true) (e:∀ a b,keq (f a) (f b)=(a==b)) (j:c.solid1=true) (hv:c.plain1=g v) {a} (h:some (zG k v l)=some a):mput kd E kp c=some (a.map (cC f g)):=by
 cases h;subst m i;simp [mput,d,j,hv,aSK e]
end
theorem bJl {fr:gP} {u:UP} {j off n cs vs} (c:look fr j=some cs) (b:u=[sP fr j (putAt cs off vs)]) (hv:(List.range n).map (fun i=>gt ((bD u 0 j).getD []) (off+i))=vs) (a:okW cs vs=true) (d:off+n<=cs.length):wr1 fr u j off n=some vs:=by
 unfold wr1;grind
theorem xA {P Mt X f a c u d b} σ {fr r} (h:OL P Mt X f c [fr]=some (r,d)) (e:X f=none) (i:yZ (Mt f) a u=some (σ,c,fr)) (g:r.free=true) (j:putF σ σ 0 d u=some b):OL P Mt X f a u=some (r,b) :=
 bJc e i g h j
theorem eqq {α} {a b:α} (h:a=b):a=b:=h
structure Pc {γ:Type} (x:Option γ) where
 X:(γ->Option Unit)->Option Unit
 ok:∀ a,x=some a->∀ K,K a=some ()->X K=some ()
structure PcJ {γ:Type} (J:Type) (x:Option γ) where
 X:(γ->J->Option Unit)->Option Unit
 ok:∀ a,x=some a->∃ j,∀ K,K a j=some ()->X K=some ()
structure Co {ρ W:Type} (L:ρ->W->Prop) where
 x:Option ρ
 X:(W->Option Unit)->Option Unit
 ok:∀ a,x=some a->∃ w,L a w/\∀ Q,Q w=some ()->X Q=some ()
structure TK (α:Type) where
 enc:α->PV
 eta:α->PV
 n:Nat
 he:∀ a,eta a=enc a
 hn:∀ a,(enc a).cells.length=n
 h0:0<n
section
variable {α β γ J ρ W : Type} {L : ρ -> W -> Prop}
def oNth (T:TK α) (l:List α) i (bs:List PV:=[]) (o:Bool:=false) (k:IntKind := .i64):Pc (nthI l i) :=
 ⟨fun K=>bnd (ix T.n (.slice (l.map T.enc) bs o) (.int k i)) fun v=>dec1 (fun a => .ref (T.eta a)) v K,fun a h K b=>by
  rw [bKs (enc:=T.enc) rfl ⟨T.hn a,T.h0⟩ h];exact qE (congrArg PV.ref (T.he a)) b⟩
def oApp (T:TK α) (l m:List α) (o:Bool:=false) (bs:List PV:=[]) (b:List PV:=[]):Pc (tapp l m) :=
 ⟨fun K=>bnd (apd T.n (.slice (l.map T.enc) bs true) (.slice (m.map T.enc) b o)) fun v=>dec1 (fun a => .slice (List.map T.enc a) [] true) v K,fun a h K c=>by
  rw [bGR (enc:=T.enc) rfl rfl T.hn h];exact qE rfl c⟩
def aDp (T:TK α) (l m:List α) (o:Bool:=false) (bs:List PV:=[]) (b:List PV:=[]):Pc (tapp l m) :=
 ⟨fun K=>bnd (apd T.n (.slice (l.map T.enc) bs true) (.slice (m.map T.eta) b o)) fun v=>dec1 (fun a => .slice (List.map T.enc a) [] true) v K,fun a h K c=>by
  rw [bGR (enc:=T.enc) rfl (aaU fun a _=>T.he a) T.hn h];exact qE rfl c⟩
def oChr (s:Str) i (k:IntKind := .i64):Pc (nthI s i) :=
 ⟨fun K=>bnd (aU8 (.str s) (.int k i)) fun v=>dec1 (fun b:UInt8 => .int .u8 b.toNat) v K,fun a h K c=>by
  rw [bEB h];exact qE rfl c⟩
def oCat (s t:Str):Pc (tapp s t) :=
 ⟨fun K=>bnd (bin .add (.str s) (.str t)) fun v=>dec1 PV.str v K,fun a h K b=>by
  rw [bJh h];exact qE rfl b⟩
def oShl (k k':IntKind) a b:Pc (tshl k a b) :=
 ⟨fun K=>bnd (bin .shl (.int k a) (.int k' b)) fun v=>dec1 (PV.int k) v K,fun a h K c=>by
  rw [bJi h];exact qE rfl c⟩
def bJm (T:TK α) n (f:T.n=n+1) (l:List α) d (o:Bool:=false) (b:List α:=[]) (k:IntKind := .i64):PcJ (List α) (tslc l 0 d) :=
 ⟨fun K=>bnd (aZg (n+1) (.slice (l.map T.enc) (b.map T.enc) o) (.int k d)) fun v=>dec1 (fun a:List α×List α => .slice (List.map T.enc a.1) (List.map T.enc a.2) false) v fun a=>K a.1 a.2,fun a h=>by
  obtain ⟨c,e⟩:=bEC (enc:=T.enc) (b:=b) (E:=l.map T.enc) (bs:=b.map T.enc) (o:=o) (k':=k) rfl rfl (fun a=>(T.hn a).trans f) h;exact ⟨c,fun K g=>by rw [e];exact qE (a:=(a,c)) rfl g⟩⟩
structure MK (K V:Type) [BEq K] where
 f:K->PV
 g:V->PV
 eta:V->PV
 kd:Nat
 hk:∀ k,aFJ kd (f k)=true
 hq:∀ a b,keq (f a) (f b)=(a==b)
 he:∀ a,eta a=g a
section
variable {K V : Type} [BEq K] (M : MK K V)
def bHA (k:K) z l (b:PV) (d:b.plain1=M.g z:=by exact eqq rfl):Pc (some (qF k z l)) :=
 ⟨fun Q=>bnd (aJ3 M.kd (l.map (cC M.f M.g)) (M.f k) b true) fun v=>dec1 (fun a:V×Bool => .tuple [M.eta a.1,.bool a.2]) v Q,fun a h Q c=>by
  rw [bHz (f:=M.f) (g:=M.g) rfl rfl (M.hk k) M.hq d h];exact qE (by rw [M.he]) c⟩
def bBM (k:K) z l (b:PV) (d:b.plain1=M.g z:=by exact eqq rfl):Pc (some (qF k z l).1) :=
 ⟨fun Q=>bnd (aJ3 M.kd (l.map (cC M.f M.g)) (M.f k) b false) fun v=>dec1 M.eta v Q,fun a h Q c=>by
  rw [bED (f:=M.f) (g:=M.g) rfl rfl (M.hk k) M.hq d h];exact qE (M.he a) c⟩
def oPut (k:K) v l (b:PV) (hv:b.solid1=true/\b.plain1=M.g v:=by exact ⟨eqq rfl,eqq rfl⟩):Pc (some (zG k v l)) :=
 ⟨fun Q=>bnd (mput M.kd (l.map (cC M.f M.g)) (M.f k) b) fun E=>dec1 (List.map (cC M.f M.g)) E Q,fun a h Q c=>by
  rw [bJk (f:=M.f) (g:=M.g) rfl rfl (M.hk k) M.hq hv.1 hv.2 h];exact qE rfl c⟩
end
def cE O g args (f:γ->PV) x (h:x=tO O g args [] fun r=>(f r,[]):=by exact eqq rfl) (d:args.all free=true:=by exact eqq rfl):Pc (x) :=
 ⟨fun K=>aBA O g args fun v=>dec1 f v K,fun a b K c=>by
  unfold aBA;rw [d,dW (enc:=fun r=>(f r,[])) (h.symm.trans b)];exact qE rfl c⟩
def oE (O:Orc) g args b (f:γ->PV) (u:UP->γ->UP) x (h:∀ a,x=some a->O g args b=some (f a,u b a)):Pc (x) :=
 ⟨fun K=>bnd (O g args b) fun v=>dec1 (fun a=>(f a,u b a)) v K,fun a c K d=>by
  rw [h a c];exact qE rfl d⟩
def oOne (O:Orc) g args fr j off n (f:γ->PV) (c:γ->List PV) x (u:γ->UP) (h:∀ a,x=some a->O g args [fr]=some (f a,u a)) (e:∀ a,(f a).free=true:=by exact fun _=>eqq rfl) (d:∀ a,wr1 fr (u a) j off n=some (c a):=by intro _;exact bJl rfl rfl rfl rfl (ab3 rfl)):Pc (x) :=
 ⟨fun K=>bnd (O g args [fr]) fun v=>cnd v.1.free (bnd (wr1 fr v.2 j off n) fun q=>dec1 (fun a=>(f a,c a)) (v.1,q) K) none,fun a b K i=>by
  rw [h a b];simp only [bnd,e a,d a,cnd];exact qE rfl i⟩
def cRet a w (h:L a w):Co L:=⟨some a,fun Q=>Q w,fun b c=>by cases c;exact ⟨w,h,fun _ h=>h⟩⟩
def bKt:Co L:=⟨none,fun _=>none,fun a h=>by simp at h⟩
def cCnd (c:Bool) (a b:Co L):Co L:=⟨cnd c a.x b.x,fun Q=>cnd c (a.X Q) (b.X Q),fun r h=>by
 cases c;· exact b.ok r h
 ·exact a.ok r h⟩
def cOp {x:Option γ} (o:Pc x) (k:γ->Co L):Co L:=⟨bnd x fun a=>(k a).x,fun Q=>o.X fun a=>(k a).X Q,fun r h=>by
 obtain ⟨a,e,h⟩:=aB h;obtain ⟨w,d,b⟩:=(k a).ok r h;exact ⟨w,d,fun Q c=>o.ok a e _ (b Q c)⟩⟩
def cOpJ [Inhabited J] {x:Option γ} (o:PcJ J x) (k:γ->J->Co L) (e:∀ a j,(k a j).x=(k a default).x:=by exact fun _ _=>eqq rfl):Co L:=⟨bnd x fun a=>(k a default).x,fun Q=>o.X fun a j=>(k a j).X Q,fun r h=>by
 obtain ⟨a,g,h⟩:=aB h;obtain ⟨j,f⟩:=o.ok a g;obtain ⟨w,d,b⟩:=(k a j).ok r ((e a j).trans h);exact ⟨w,d,fun Q c=>f _ (b Q c)⟩⟩
abbrev LV:=Ex×List PV×UP
structure EX (E β:Type) where
 pr:E->β
 v:List PV->UP->E->LV
def ex1 (w:Option Nat) (g:List PV->UP->α×J->List PV×UP):EX (α×J) α:=⟨Prod.fst,fun l u e=>(exOf w,g l u e)⟩
def ex2 {E} (w:Option Nat) (g:List PV->UP->α×J->List PV×UP) (R:EX E β):EX ((α×J)⊕E) (α⊕β):=⟨fun e=>elim e (fun e => .inl e.1) fun e => .inr (R.pr e),fun l u e=>elim e (fun e=>(exOf w,g l u e)) fun e=>R.v l u e⟩
def LR {E} (R:EX E β):α⊕β->(α×J)⊕E->Prop:=fun o w=>elim w (fun a => .inl a.1) (fun e => .inr (R.pr e))=o
abbrev LC α J {E β} (R:EX E β):=Co (LR (α:=α) (J:=J) R)
def bH {E} {R:EX E β} (s:α) (j:J):LC α J R:=⟨some (.inl s),fun Q=>Q (.inl (s,j)),fun b a=>by cases a;exact ⟨.inl (s,j),rfl,fun _ h=>h⟩⟩
structure Lfk {E:Type} (R:EX E β) where
 p:β
 e:E
 h:R.pr e=p
def lE {w} {g:List PV->UP->α×J->List PV×UP} (p:α) (j:J):Lfk (ex1 w g):=⟨p,(p,j),rfl⟩
def lL {E w} {g:List PV->UP->α×J->List PV×UP} {R:EX E β} (p:α) (j:J):Lfk (ex2 w g R):=⟨.inl p,.inl (p,j),rfl⟩
def lR {E w} {g:List PV->UP->α×J->List PV×UP} {R:EX E β} (l:Lfk R):Lfk (ex2 w g R):=⟨.inr l.p,.inr l.e,congrArg Sum.inr l.h⟩
def aP {E} {R:EX E β} (l:Lfk R):LC α J R:=⟨some (.inr l.p),fun Q=>Q (.inr l.e),fun b a=>by cases a;exact ⟨.inr l.e,congrArg Sum.inr l.h,fun _ h=>h⟩⟩
structure Xk {E:Type} (R:EX E β) (L:ρ->W->Prop) where
 ws:List (Option Nat)
 x:β->Option ρ
 X:List PV->UP->LV->(W->Option Unit)->Option Unit
 hw:∀ l u e,∃ w∈ws,(R.v l u e).1=exOf w
 ok:∀ l u e a,x (R.pr e)=some a->∃ w,L a w/\∀ Q,Q w=some ()->X l u (R.v l u e) Q=some ()
theorem aSL {R} w (x y:Option R):exIs (exOf w) w x y=x:=by cases w<;>simp [exIs,exOf]
theorem aZF {R w v} (h:v≠w) (x y:Option R):exIs (exOf v) w x y=y:=by
 cases w<;>cases v<;>simp_all [exIs,exOf]
def kOne [Inhabited J] {w} {g:List PV->UP->α×J->List PV×UP} (k:α->J->Co L) (f:∀ p j,(k p j).x=(k p default).x:=by exact fun _ _=>eqq rfl):Xk (ex1 w g) L :=
 ⟨[w],fun p=>(k p default).x,fun l u r Q=>exIs r.1 w (dec1 (g l u) r.2 fun a=>(k a.1 a.2).X Q) none,fun l u e=>⟨w,by simp,rfl⟩,fun l u e a h=>by
  obtain ⟨p,j⟩:=e;obtain ⟨v,d,b⟩:=(k p j).ok a ((f p j).trans h);exact ⟨v,d,fun Q c=>by show exIs (exOf w) w _ _=_;rw [aSL];exact qE (a:=(p,j)) rfl (b Q c)⟩⟩
def fX [Inhabited J] {E w} {g:List PV->UP->α×J->List PV×UP} {R:EX E β} (k:α->J->Co L) (K:Xk R L) (n:∀ p j,(k p j).x=(k p default).x:=by exact fun _ _=>eqq rfl) (m:K.ws.all (fun v => !(v==w))=true:=by exact eqq rfl):Xk (ex2 w g R) L :=
 ⟨w::K.ws,fun p=>elim p (fun p=>(k p default).x) fun p=>K.x p,fun l u r Q=>exIs r.1 w (dec1 (g l u) r.2 fun a=>(k a.1 a.2).X Q) (K.X l u r Q),fun l u e=>by
  cases e with
  | inl e=>exact ⟨w,by simp,rfl⟩
  | inr e=>obtain ⟨v,c,b⟩:=K.hw l u e;exact ⟨v,List.mem_cons_of_mem _ c,b⟩,fun l u e a f=>by
  cases e with
  | inl e =>
   obtain ⟨p,j⟩:=e;obtain ⟨v,c,b⟩:=(k p j).ok a ((n p j).trans f);exact ⟨v,c,fun Q d=>by show exIs (exOf w) w _ _=_;rw [aSL];exact qE (a:=(p,j)) rfl (b Q d)⟩
  | inr e =>
   obtain ⟨v,c,b⟩:=K.hw l u e;obtain ⟨o,i,h⟩:=K.ok l u e a f;refine ⟨o,i,fun Q d => ?_⟩;show exIs (R.v l u e).1 w _ _=_;rw [b,aZF (by have:=aak.1 m v c;simpa using this)];exact h Q d⟩
def toLV {E} (f:α×J->List PV×UP) (v:E->LV) (w:(α×J)⊕E):LV:=elim w (fun a=>(.nrm,f a)) v
def cB {E} (f:List PV->UP->α×J->List PV×UP) l u {R:EX E β} (T:α->Option (α⊕β)) (b:α->J->LC α J R) z A (k:Xk R L) (B:∀ s j,(b s j).x=T s:=by exact fun _ _=>eqq rfl) (C:f l u (z,A)=(l,u):=by exact eqq rfl):Co L :=
 ⟨bnd (cW T z) k.x,fun Q=>bJf (fun s i Q=>dec1 (f l u) (s,i) fun a=>(b a.1 a.2).X fun w=>Q (toLV (f l u) (R.v l u) w)) l u fun r=>k.X l u r Q,fun r h=>by
  obtain ⟨p,I,h⟩:=aB h;obtain ⟨n,F⟩:=aFb.1 I;have q:∀ n s j p,wZ T n s=some p->∃ e,R.pr e=p/\LoopR (fun s i Q=>dec1 (f l u) (s,i) fun a=>(b a.1 a.2).X fun w=>Q (toLV (f l u) (R.v l u) w)) (f l u (s,j)).1 (f l u (s,j)).2 (R.v l u e):=by
   intro n;induction n with
   | zero=>intro s j p h;simp [wZ] at h
   | succ n G =>
    intro s j p h;simp only [wZ] at h;obtain ⟨o,M,h⟩:=aB h;obtain ⟨w,y,d⟩:=(b s j).ok o ((B s j).trans M);have c:=fun (Q:LV->Option Unit) t=>qE (g:=f l u) (a:=(s,j)) (v:=((f l u (s,j)).1,(f l u (s,j)).2)) (K:=fun a=>(b a.1 a.2).X fun w=>Q (toLV (f l u) (R.v l u) w)) rfl (d _ t);cases y;cases w with
    | inl a =>
     obtain ⟨e,m,H⟩:=G a.1 a.2 p h;exact ⟨e,m,.next (c (fun r=>prop (r=(.nrm,f l u a))) (nO.2 rfl)) H⟩
    | inr e =>
     cases h;refine ⟨e,rfl,.exit ?_ (c (fun r=>prop (r=R.v l u e)) (nO.2 rfl))⟩;obtain ⟨w,_,D⟩:=k.hw l u e;rw [D];cases w<;>simp [exOf]
  obtain ⟨e,y,d⟩:=q n z A p F;rw [C] at d;cases y;obtain ⟨w,c,m⟩:=k.ok l u e r h;exact ⟨w,c,fun Q t=>nO.2 ⟨_,d,m Q t⟩⟩⟩
end
def ln {α} (T:TK α) (l:List α):Int:=((List.map T.enc l).length:Nat)
def kStr:TK Str:=⟨PV.str,PV.str,1,fun _=>rfl,fun _=>rfl,by decide⟩
def kInt (k:IntKind):TK Int:=⟨PV.int k,PV.int k,1,fun _=>rfl,fun _=>rfl,by decide⟩
abbrev kI:TK Int:=kInt .i64
def kB:TK Bool:=⟨PV.bool,PV.bool,1,fun _=>rfl,fun _=>rfl,by decide⟩
def kSl {α} (e:α->PV):TK (List α):=⟨cX e,cX e,1,fun _=>rfl,fun _=>rfl,by decide⟩
def kmS {V} (T:TK V):MK Str V:=⟨PV.str,T.enc,T.eta,0,fun _=>rfl,bHy,T.he⟩
def kmII {V} (T:TK V):MK (Int×Int) V:=⟨aVJ,T.enc,T.eta,1,fun _=>rfl,bJj,T.he⟩
def dR {α} (T:TK α):DH := .v fun a => .ref (T.eta a)
def dL {α} (T:TK α):DH := .v fun a => .slice (List.map T.enc a) [] true
def dS {α} (T:TK α):DH := .v fun a:List α×List α => .slice (List.map T.enc a.1) (List.map T.enc a.2) false
def dC:DH := .v fun b:UInt8 => .int .u8 b.toNat
def dM {K V} [BEq K] (M:MK K V):DH := .v fun a:V×Bool => .tuple [M.eta a.1,.bool a.2]
def dP {K V} [BEq K] (M:MK K V):DH := .m (List.map (cC M.f M.g))
def cR {ρ} {e:ρ->PV} {u:ρ->UP} (a:ρ):Co fun r w=>w=(e r,u r):=cRet a _ rfl
theorem kV {P Mt X f i args g} {α} {x} {e:α->PV} {d:α->UP} {ds r} {G:Co (fun r w=>w=(e r,d r))} (h:G.x=some r) (c:∀ a b,(e a,d a)=(e b,d b)->a=b)
  (l:P.funcs[f]?=some i) (t:∀ Q,aMn P (Mt f) ds i.ntmps (OL P Mt X) i args g Q=G.X Q) (k:x=tO (OL P Mt X) f args g (fun r=>(e r,d r)):=by rfl) (j:X f=none:=by rfl) (m:uZ (Mt f) args g=false:=by rfl):x=some r:=by
 obtain ⟨w,rfl,n⟩:=G.ok r h;rw [k];exact aHH c (bHw ds j m l ((t _).trans (n _ (nO.2 rfl))))
theorem cx:(∀ α (T:TK α) l,ln T l=l.length)/\(∀ ρ (e:ρ->PV) (u:ρ->UP) a,(cR a:Co fun r w=>w=(e r,u r)).x=some a)/\(∀ ρ W (L:ρ->W->Prop),(bKt:Co L).x=none)/\(∀ ρ W (L:ρ->W->Prop) c (a b:Co L),(cCnd c a b).x=cnd c a.x b.x) /\
  (∀ γ ρ W (L:ρ->W->Prop) x (o:Pc x) (k:γ->Co L),(cOp o k).x=bnd x fun a=>(k a).x)/\(∀ γ J ρ W (L:ρ->W->Prop) [Inhabited J] x (o:PcJ J x) (k:γ->J->Co L) d,(cOpJ o k d).x=bnd x fun a=>(k a default).x) /\
  (∀ α β J E (R:EX E β) s j,(bH s j:LC α J R).x=some (.inl s))/\(∀ α β J E (R:EX E β) l,(aP l:LC α J R).x=some (.inr l.p)) /\
  (∀ α J w (g:List PV->UP->α×J->List PV×UP) p j,(lE p j:Lfk (ex1 w g)).p=p)/\(∀ α β J E w (g:List PV->UP->α×J->List PV×UP) (R:EX E β) p j,(lL p j:Lfk (ex2 w g R)).p = .inl p)/\(∀ α β J E w (g:List PV->UP->α×J->List PV×UP) (R:EX E β) l,(lR l:Lfk (ex2 w g R)).p = .inr l.p) /\
  (∀ α β J E ρ W (L:ρ->W->Prop) (f:List PV->UP->α×J->List PV×UP) l u (R:EX E β) T b h q (k:Xk R L) i n,(cB f l u T b h q k i n).x=bnd (cW T h) k.x) /\
  (∀ α J ρ W (L:ρ->W->Prop) [Inhabited J] w g (k:α->J->Co L) d,(kOne (w:=w) (g:=g) k d).x=fun p=>(k p default).x) /\
  (∀ α β J E ρ W (L:ρ->W->Prop) [Inhabited J] w (g:List PV->UP->α×J->List PV×UP) (R:EX E β) k (K:Xk R L) d m,(fX (w:=w) (g:=g) k K d m).x=fun p=>elim p (fun p=>(k p default).x) fun p=>K.x p):=by
 refine ⟨fun _ _ _=>by simp [ln],?_,?_,?_,?_,?_,?_,?_,?_,?_,?_,?_,?_,?_⟩<;>intros<;>rfl
def pu:List PV->Nat->PV->List PV
 | [],_,_=>[]
 | _::l,0,v=>v::l
 | a::l,n+1,v=>a::pu l n v
def puB:gP->Nat->Nat->PV->gP
 | [],_,_,_=>[]
 | x::l,0,q,v=>(x.1,pu x.2 q v)::l
 | x::l,n+1,q,v=>x::puB l n q v
def puU:UP->Nat->Nat->Nat->PV->UP
 | [],_,_,_,_=>[]
 | x::l,0,b,q,v=>puB x b q v::l
 | x::l,n+1,b,q,v=>x::puU l n b q v
abbrev zq {α:Type} (f:α->PV) (l:List α):PV := .slice (List.map f l) [] false
abbrev i6 (i:Int):PV := .int .i64 i
instance:Inhabited PV:=⟨.und⟩
def memW (W:World):Mem:=fun b i =>
 match W.heap[b]? with
 | some (.cells arr _ _)=>arr[i]?
 | _=>none
theorem bBN W:Cons (memW W) W:=by
 intro b i v h;unfold memW at h;grind
structure ArgsOk (W:World) (args:List PV) (vals:Array Value):Prop where
 size:vals.size=args.length
 rel:∀ (i:Nat) (p:PV),args[i]?=some p->Rv (memW W) noB p (vals.getD i undef)/\fD p (vals.getD i undef)
theorem bJn {G W args vals} (d:∀ b i v,G b i=some v->memW W b i=some v) (h:ArgsOk W args vals):CallPre ⟨W.heap.size,G⟩ (memW W) noB args [] vals W:=by
 refine ⟨bBN W,h.size,?_,⟨by simp,fun _ _ _=>rfl,by simp [yV],by simp [noB]⟩,?_,d,aa1 _⟩;· intro i p f;obtain ⟨g,e⟩:=h.rel i p f;rw [aL6];exact ⟨g,e.h _ _ _ _⟩
 intro b;have:cA args vals b=0:=by
  apply nB;intro i a;have:=(h.rel i _ (aa4 a)).2.c b;grind
 have:cBx W noB [] b=0:=rfl;omega
theorem aVK {P Mt X G} (t : POk P) (B : aVI P G X) {f m} (w : P.funcs[f]? = some m) (E : m.body.isSome = true) {W args vals}
  (x : ∀ b i v, G b i = some v -> memW W b i = some v) (h : ArgsOk W args vals) {b} (C : OL P Mt X f args [] = some (.bool b, [])) :
  Calls P f vals W fun e w' => e = .returned (.bool b) /\ RowKit.Below W.heap.size W w' := by
 have j := bJn x h;have p := bJb (Mt := Mt) t B f args [] _ _ C W.heap.size W (memW W) noB vals j;have q : (callFunc f vals).run P W = .ok (.enter f vals) W := by
  have I := t.name f m w E;have r : ¬ m.name = "runtime.NumGoroutine" := by grind
  cases o : m.body with
  | none => grind
  | some c => simp [callFunc, w, r, o]
 have s : ∀ v w', iO ⟨W.heap.size, G⟩ (memW W) noB args [] vals W (.bool b) [] v w' -> v = .bool b /\ RowKit.Below W.heap.size W w' := by
  rintro v w' ⟨M', D, F, y, J, u, a⟩;refine ⟨D.bool_inv, a.os, a.tape, a.output, a.size, fun k A => (a.keep k A ?_).1⟩;rintro (l | ⟨d, id, n⟩)
  ·have H : cA args vals k = 0 := by
    apply nB;intro i p;have := (h.rel i _ (aa4 p)).2.c k;grind
   have z : 1 <= cA args vals k + cBx W noB [] k := l;have : cBx W noB [] k = 0 := rfl;omega
  simp [noB] at n
 rcases p with ⟨g, gs, l, n⟩ | ⟨v, w', l, n⟩;· rw [q] at l;cases l;refine n.mono ?_;grind
 grind
inductive Ty where
 | bool
 | int (k:IntKind)
 | str
 | sl (e:Ty)
 | st (fs:Ty)
 | fnil
 | fcons (t r:Ty)
 | ext (i:Nat)
structure RecTy where
 D:Type
 en:D->PV
 sz:Nat
 bk:D->Nat
 gd:D->Prop
 wf:∀ x,(en x).cells.length=sz/\(∀ c∈(en x).cells,c.solid1=true/\c.plain1=c)/\(en x).solid=true/\(en x).plain=en x
abbrev REnv:=Nat->RecTy
@[reducible] def Ty.den (ρ:REnv):Ty->Type
 | .bool=>Bool
 | .int _=>Int
 | .str=>List UInt8
 | .sl e=>List (e.den ρ)
 | .st fs=>fs.den ρ
 | .fnil=>Unit
 | .fcons t r=>t.den ρ×r.den ρ
 | .ext i=>(ρ i).D
def enc ρ:(t:Ty)->t.den ρ->PV
 | .bool,b => .bool b
 | .int k,n => .int k n
 | .str,s => .str s
 | .sl e,l => .slice (l.map (enc ρ e)) [] false
 | .st fs,x=>enc ρ fs x
 | .fnil,_ => .agg []
 | .fcons t r,x => .agg ((enc ρ t x.1).cells++(enc ρ r x.2).cells)
 | .ext i,x=>(ρ i).en x
def Ty.size (ρ:REnv):Ty->Nat
 | .bool | .int _ | .str | .sl _=>1
 | .st fs=>fs.size ρ
 | .fnil=>0
 | .fcons t r=>t.size ρ+r.size ρ
 | .ext i=>(ρ i).sz
def bulk ρ:(t:Ty)->t.den ρ->Nat
 | .bool,_=>1
 | .int _,_=>1
 | .str,s=>s.length+1
 | .sl e,l=>sumL (bulk ρ e) l+1
 | .st fs,x=>bulk ρ fs x+1
 | .fnil,_=>0
 | .fcons t r,x=>bulk ρ t x.1+bulk ρ r x.2
 | .ext i,x=>(ρ i).bk x
def good ρ:(t:Ty)->t.den ρ->Prop
 | .bool,_=>True
 | .int k,n=>(Lit.int k n).wf=true
 | .str,_=>True
 | .sl e,l=>∀ x∈l,good ρ e x
 | .st fs,x=>good ρ fs x
 | .fnil,_=>True
 | .fcons t r,x=>good ρ t x.1/\good ρ r x.2
 | .ext i,x=>(ρ i).gd x
theorem qL ρ:∀ t x,(enc ρ t x).cells.length=t.size ρ/\(∀ c∈(enc ρ t x).cells,c.solid1=true/\c.plain1=c)/\(enc ρ t x).solid=true/\(enc ρ t x).plain=enc ρ t x
 | .bool,b=>⟨rfl,by intro c a;simp [enc,cells] at a;subst a;exact ⟨rfl,rfl⟩,rfl,rfl⟩
 | .int k,n=>⟨rfl,by intro c a;simp [enc,cells] at a;subst a;exact ⟨rfl,rfl⟩,rfl,rfl⟩
 | .str,s=>⟨rfl,by intro c a;simp [enc,cells] at a;subst a;exact ⟨rfl,rfl⟩,rfl,rfl⟩
 | .sl e,l=>⟨rfl,by intro c a;simp [enc,cells] at a;subst a;exact ⟨rfl,rfl⟩,rfl,rfl⟩
 | .st fs,x=>qL ρ fs x
 | .fnil,_=>⟨rfl,by intro c a;simp [enc,cells] at a,rfl,rfl⟩
 | .ext i,x=>(ρ i).wf x
 | .fcons t r,x=>by
  obtain ⟨h,g,_,_⟩:=qL ρ t x.1;obtain ⟨f,d,_,_⟩:=qL ρ r x.2;have key:∀ c∈(enc ρ t x.1).cells++(enc ρ r x.2).cells,c.solid1=true/\c.plain1=c:=by
   grind
  refine ⟨?_,key,?_,?_⟩;· show ((enc ρ t x.1).cells++(enc ρ r x.2).cells).length=t.size ρ+r.size ρ;grind
  ·simp [enc,PV.solid];grind
  simp [enc,PV.plain,PV.plainA];apply aaS;grind
def flds (ρ:REnv) (P:Program) (ok:TypeId->Ty->Bool):List Field->Nat->Ty->Bool
 | [],_,.fnil=>true
 | f::F,off,.fcons t r=>f.offset==off&&P.cellsOf f.type==t.size ρ&&ok f.type t&&flds ρ P ok F (off+t.size ρ) r
 | _,_,_=>false
def tyOk (ρ:REnv) (τ:Nat->TypeId) (P:Program):Nat->TypeId->Ty->Bool
 | 0,_,_=>false
 | n+1,t,ty =>
  match ty,P.underlying t with
  | .bool,some .bool=>true
  | .int k,some (.int k')=>decide (k=k')
  | .str,some .string=>true
  | .sl e,some (.slice u)=>tyOk ρ τ P n u e&&P.cellsOf u==e.size ρ&&decide (0<e.size ρ)
  | .st fs,some (.struct F)=>P.cellsOf t==fs.size ρ&&flds ρ P (tyOk ρ τ P n) F.toList 0 fs
  | .ext i,_=>t==τ i
  | _,_=>false
structure BlOk {H:Type} (bl:DataW H->Nat) (bla:List (DataW H)->Nat):Prop where
 lit:∀ l,1<=bl (.lit l)
 str:∀ s,s.length+1<=bl (.lit (.string s))
 nil:1<=bl .nil
 slice:∀ es sp,bla es+1<=bl (.slice es sp)
 agg:∀ ps,bla ps+1<=bl (.agg ps)
 cons:∀ d r,bla (d::r)=bl d+bla r
theorem cells?_get {W:World} {a n cs} (h:W.cells? 0 a n=some cs):cs.length=n/\∀ j,j<n->W.cell? (a.add j)=some (cs.getD j undef):=by
 have b  := by simpa using Go.mapM_some_length h
 refine ⟨b,fun j c => ?_⟩;have:=Go.mapM_some_get h j j (by grind);grind
theorem aX3 {W a v} (h:W.cell? a=some v):a.spot=none/\memW W a.block a.off=some v:=by
 unfold World.cell? at h;unfold memW;split at h;all_goals simp_all
section
variable {ρ : REnv} {τ : Nat -> TypeId} {H : Type} {e : TypeId × Value -> H} {P : Program} {W : World} {bl : DataW H -> Nat} {bla : List (DataW H) -> Nat}
def bBO (ρ:REnv) (e:TypeId×Value->H) (P:Program) (W:World) (bl:DataW H->Nat) (k:Nat) (t:TypeId) (ty:Ty):Prop :=
 ∀ fuel,fuel<=k->∀ cs x,DataW.trod e P W 0 (fun _=>true) true fuel t cs=some x ->
 ∃ v,good ρ ty v/\bulk ρ ty v<=bl x.1/\cs.length=ty.size ρ/\∀ j c,(enc ρ ty v).cells[j]?=some c->Rv (memW W) noB c (cs.getD j undef)
theorem aMq (p:BlOk bl bla) {n} {cs:List Value} {k} (o:∀ t ty,tyOk ρ τ P n t ty=true->bBO ρ e P W bl k t ty):∀ F off fs a (xs:List (DataW H×List MemPlace)),a<=k->flds ρ P (tyOk ρ τ P n) F off fs=true->xs.length=F.length ->
  (∀ (i:Nat) f,F[i]?=some f->DataW.trod e P W 0 (fun _=>true) true a f.type ((cs.drop f.offset).take (P.cellsOf f.type))=xs[i]?) ->
  ∃ v,good ρ fs v/\bulk ρ fs v<=bla (xs.map (·.1))/\∀ j c,(enc ρ fs v).cells[j]?=some c->Rv (memW W) noB c (cs.getD (off+j) undef)
 | [],off,fs,a,xs,b,h,w,d=>by
  cases fs with
  | fnil=>exact ⟨(),trivial,aaP _,by intro j c g;simp [enc,cells] at g⟩
  | _=>simp [flds] at h
 | f::F,off,fs,a,xs,b,h,w,d=>by
  cases fs with
  | fcons t r =>
   simp [flds] at h;obtain ⟨⟨⟨E,I⟩,y⟩,u⟩:=h;cases xs with
   | nil=>grind
   | cons x xs =>
    have z:=d 0 f rfl;obtain ⟨l,g1,B,J,D⟩:=o _ _ y _ b _ _ z;obtain ⟨m,g2,A,C⟩:=aMq p o F (off+t.size ρ) r a xs b u (by grind) (fun i f' G=>by
     have:=d (i+1) f' (by grind);simpa using this)
    refine ⟨(l,m),⟨g1,g2⟩,?_,?_⟩;· simp [p.cons,bulk];omega
    intro j c g;have s:((enc ρ t l).cells++(enc ρ r m).cells)[j]?=some c:=g;have q:=(qL ρ t l).1;grind
  | _=>simp [flds] at h
end
section
variable {ρ : REnv} {τ : Nat -> TypeId} {H : Type} {e : TypeId × Value -> H} {P : Program} {W : World} {bl : DataW H -> Nat} {bla : List (DataW H) -> Nat}
theorem bBP (a:BlOk bl bla):∀ l,sumL bl l<=bla l
 | []=>by simp [sumL]
 | d::l=>by simp [sumL,a.cons];have:=bBP a l;omega
theorem aSM {α β} (f:α->Nat) (g:β->Nat):∀ l m,l.length=m.length->(∀ (i:Nat) x y,l[i]?=some x->m[i]?=some y->f x<=g y)->sumL f l<=sumL g m
 | [],[],_,_=>aa1 _
 | [],_::_,h,_=>by grind
 | _::_,[],h,_=>by grind
 | a::l,b::m,h,c=>by
  simp [sumL];have:=c 0 a b rfl rfl;have:=aSM f g l m (by grind) (fun i x y e d=>c (i+1) x y (by grind) (by grind));omega
theorem aQx (hb : BlOk bl bla) {k} (hρ : ∀ i, bBO ρ e P W bl k (τ i) (.ext i)) : ∀ n t ty, tyOk ρ τ P n t ty = true -> bBO ρ e P W bl k t ty
 | 0, t, ty, h => by simp [tyOk] at h
 | n + 1, t, ty, h => by
  intro fuel d cs x hx;simp only [tyOk] at h;split at h
  ·rename_i ht;obtain ⟨b, rfl, rfl⟩ := DataW.trod_bool ht hx;refine ⟨b, trivial, hb.lit _, rfl, ?_⟩;intro j c hc;cases j with
   | zero => simp [enc, cells] at hc; subst hc; exact .bool b
   | succ j => simp [enc, cells] at hc
  ·rename_i k k' ht;have X : k = k' := by grind
   subst X;obtain ⟨m, rfl, rfl, K⟩ := DataW.trod_int ht hx;refine ⟨m, K, hb.lit _, rfl, ?_⟩;intro j c hc;cases j with
   | zero => simp [enc, cells] at hc; subst hc; exact .int k m
   | succ j => simp [enc, cells] at hc
  ·rename_i ht;obtain ⟨s, rfl, rfl, T⟩ := DataW.trod_string ht hx;refine ⟨s.data.toList, trivial, hb.str _, rfl, ?_⟩;intro j c hc;cases j with
   | zero =>
    simp [enc, cells] at hc; subst hc;have := Rv.str (M := memW W) (B := noB) s.data.toList;simpa using this
   | succ j => simp [enc, cells] at hc
  ·-- a slice
   rename_i ey u ht;simp only [aa0, beq_iff_eq, decide_eq_true_eq] at h;obtain ⟨⟨h1, h2⟩, J⟩ := h;have V := aQx hb hρ n u ey h1;rcases DataW.trod_slice ht hx with ⟨rfl, rfl⟩ | ⟨a, len, cap, elems, rest, m, A, rfl, rfl, _, o, _, w, hget, hsp, _⟩
   ·refine ⟨[], by intro x hx; simp at hx, by simp [bulk, sumL]; exact hb.nil, rfl, ?_⟩;intro j c hc;cases j with
    | zero => simp [enc, cells] at hc; subst hc; exact .nil false
    | succ j => simp [enc, cells] at hc
   rw [h2] at hget hsp;have key : ∀ i, i < len -> ∃ (v : ey.den ρ), good ρ ey v /\ (∀ y, elems[i]? = some y -> bulk ρ ey v <= bl y.1) /\ ∀ j c, (enc ρ ey v).cells[j]? = some c -> ∃ val, W.cell? ((a.add (i * (ey.size ρ))).add j) = some val /\ Rv (memW W) noB c val := by
    intro i hi;have hg := hget i hi;obtain ⟨y, I⟩ : ∃ y, elems[i]? = some y := ⟨elems[i], by simp⟩;rw [I] at hg;cases hc : W.cells? 0 (a.add (i * (ey.size ρ))) (ey.size ρ) with
    | none => rw [hc] at hg; simp at hg
    | some cs' =>
     rw [hc] at hg;simp [Option.bind_some] at hg;obtain ⟨v, g, b, l, r⟩ := V _ (by omega) _ _ hg;obtain ⟨c1, E⟩ := cells?_get hc;refine ⟨v, g, fun y' hy' => by rw [I] at hy'; cases hy'; exact b, fun j c hj => ?_⟩;have hjl : j < (ey.size ρ) := by rw [<- (qL ρ ey v).1]; exact (aa2.1 hj).1
     exact ⟨_, E j hjl, r j c hj⟩
   have hspot : 0 < cap -> a.spot = none := by
    intro G;have first : (∃ cs', W.cells? 0 (a.add (0 * (ey.size ρ))) (ey.size ρ) = some cs') := by
     by_cases S : 0 < len
     ·have hg := hget 0 S;cases hc : W.cells? 0 (a.add (0 * (ey.size ρ))) (ey.size ρ) with
      | some cs' => exact ⟨cs', rfl⟩
      | none =>
       rw [hc] at hg;have : elems[0]? = some elems[0] := by simp
       rw [this] at hg; simp at hg
     obtain ⟨L, C⟩ := hsp rfl;have z : len = 0 := by omega
     subst z;have hg := C 0 (by omega);cases hc : W.cells? 0 (a.add (0 * (ey.size ρ))) (ey.size ρ) with
     | some cs' => exact ⟨cs', rfl⟩
     | none =>
      simp only [aae] at hg;rw [hc] at hg;have : rest[0]? = some rest[0] := by simp
      rw [this] at hg; simp at hg
    obtain ⟨cs', hc⟩ := first;obtain ⟨_, E⟩ := cells?_get hc;have := E 0 J;simp [Nat.zero_mul, Addr.add, if_true] at this;exact (aX3 this).1
   refine ⟨List.ofFn fun i : Fin len => Classical.choose (key i.1 i.2), ?_, ?_, rfl, ?_⟩
   ·intro x hx;obtain ⟨i, hi⟩ := aao.1 hx;rw [List.getElem?_ofFn] at hi;split at hi;· rename_i hlt; cases hi; exact (abn (key i hlt)).1
    simp at hi
   ·have T : sumL (bulk ρ ey) (List.ofFn fun i : Fin len => Classical.choose (key i.1 i.2)) <= sumL (fun y : DataW H × List MemPlace => bl y.1) elems := by
     refine aSM _ _ _ _ (by simp [w]) fun i x y h1 h2 => ?_;rw [List.getElem?_ofFn] at h1;split at h1;· rename_i hi;cases h1;exact by grind
     simp at h1
    have D := bBP hb (elems.map (·.1));rw [aLo] at D;have R := hb.slice (elems.map (·.1)) (rest.map (·.1));simp only [bulk];omega
   intro j c hc;cases j with
   | succ j => simp [enc, cells] at hc
   | zero =>
    simp only [enc, cells, abh, aaQ] at hc;subst hc;have hlen : ((List.ofFn fun i  => Classical.choose (key i.1 i.2)).map (enc ρ ey)).length = len := by simp
    have hat : ∀ i p, ((List.ofFn fun i  => Classical.choose (key i.1 i.2)).map (enc ρ ey) ++ [])[i]? = some p -> ∃ hi, p = enc ρ ey (Classical.choose (key i hi)) := by
     intro i p hp;rw [aac, aa9, List.getElem?_ofFn] at hp;split at hp;· rename_i hi; simp only [aat, aaQ] at hp; exact ⟨hi, hp.symm⟩
     simp at hp
    have cell : ∀ i hi j c, (enc ρ ey (Classical.choose (key i hi))).cells[j]? = some c -> ∃ val, memW W a.block (a.off + i * (ey.size ρ) + j) = some val /\ Rv (memW W) noB c val := by
     intro i hi j c hc;obtain ⟨val, h1, h2⟩ := (abn (key i hi)).2.2 j c hc;have hsp0 := hspot (by omega);have O : (a.add (i * (ey.size ρ))).add j = ⟨a.block, a.off + i * (ey.size ρ) + j, none⟩ := by
      rw [Addr.add_none a _ hsp0, Addr.add_none _ _ rfl]
     rw [O] at h1;exact ⟨val, (aX3 h1).2, h2⟩
    have := Rv.slice (M := memW W) (B := noB) ((List.ofFn fun i  => Classical.choose (key i.1 i.2)).map (enc ρ ey)) [] false a cap (ey.size ρ) (fun i j => (memW W a.block (a.off + i * (ey.size ρ) + j)).getD undef) hspot
     (by rw [hlen]; simpa using o) (by simp) (fun i p hp => by
      obtain ⟨hi, rfl⟩ := hat i p hp;obtain ⟨U, Z, Q, N⟩ := qL ρ ey (Classical.choose (key i hi));exact ⟨Q, N, U, J⟩) (fun i p j hp hj => by
      obtain ⟨hi, rfl⟩ := hat i p hp;have hjl : j < (enc ρ ey (Classical.choose (key i hi))).cells.length := by rw [(qL ρ ey _).1]; exact hj
      obtain ⟨val, h1, h2⟩ := cell i hi j _ (aa4 hjl);rw [h1]; rfl) (fun i p j c hp hc => by
      obtain ⟨hi, rfl⟩ := hat i p hp;obtain ⟨val, h1, h2⟩ := cell i hi j c hc;rw [h1]; exact h2)
    rw [hlen] at this;exact this
  ·-- a struct
   rename_i fs F ht;simp at h;obtain ⟨xs, m, A, rfl, hlen, q, hget⟩ := DataW.trod_struct ht hx;obtain ⟨v, g, b, r⟩ := aMq hb (k := k) (fun t ty h => aQx hb hρ n t ty h) F.toList 0 fs m xs (by omega) h.2 (by simpa using q) (fun i f Y => hget i f (by simpa using Y));refine ⟨v, g, ?_, by rw [hlen]; exact h.1, fun j c hc => by simpa using r j c hc⟩;have := hb.agg (xs.map (·.1));simp [bulk]; omega
  ·rename_i i;have  := by simpa using h
   subst this;exact hρ i fuel d cs x hx
  simp at h
end
open PV Go.ChangeShapes Go.WideShapes Go.RowKit
def encL ρ:(fs:Ty)->fs.den ρ->List PV
 | .fcons t r,x=>enc ρ t x.1::encL ρ r x.2
 | .bool,_=>[]
 | .int _,_=>[]
 | .str,_=>[]
 | .sl _,_=>[]
 | .st _,_=>[]
 | .fnil,_=>[]
 | .ext _,_=>[]
def aZG ρ:(fs:Ty)->fs.den ρ->Nat
 | .fcons t r,x=>bulk ρ t x.1+aZG ρ r x.2
 | .bool,_=>0
 | .int _,_=>0
 | .str,_=>0
 | .sl _,_=>0
 | .st _,_=>0
 | .fnil,_=>0
 | .ext _,_=>0
def aF2 (ρ:REnv) (τ:Nat->TypeId) (P:Program) (n:Nat):List TypeId->Ty->Bool
 | [],.fnil=>true
 | t::ts,.fcons ty r=>tyOk ρ τ P n t ty&&P.readableRec t&&decide (t<P.types.size)&&aF2 ρ τ P n ts r
 | _,_=>false
section
variable {ρ : REnv} {τ : Nat -> TypeId} {H : Type} {e : TypeId × Value -> H} {P : Program} {W : World} {bl : DataW H -> Nat} {bla : List (DataW H) -> Nat}
structure ROk (ρ:REnv) (τ:Nat->TypeId) (e:TypeId×Value->H) (P:Program) (W:World) (bl:DataW H->Nat):Prop where
 op:∀ k i,bBO ρ e P W bl k (τ i) (.ext i)
 ag:∀ i x,∃ ps,(ρ i).en x = .agg ps
 st:∀ i,∃ F,P.underlying (τ i)=some (.struct F)
theorem bEE (L:BlOk bl bla) (w:ROk ρ τ e P W bl) {n t ty} (h:tyOk ρ τ P n t ty=true) {v d ps M} (f:Value.okWide P W .any M t v)
  (H:DataW.Trod e P W 0 (fun _=>true) true t v d ps):∃ x,good ρ ty x/\bulk ρ ty x<=bl d/\Rv (memW W) noB (enc ρ ty x) v:=by
 obtain ⟨s,K⟩:=H;obtain ⟨x,g,b,l,r⟩:=aQx L (w.op s) n t ty h s (by omega) _ _ K;refine ⟨x,g,b,?_⟩;cases n with
 | zero=>simp [tyOk] at h
 | succ n =>
  simp [tyOk] at h;have o:∀ p,enc ρ ty x=p->p.cells=[p]->ty.size ρ=1->(∀ cs,v ≠ .agg cs)->Rv (memW W) noB (enc ρ ty x) v:=by
   intro p R D Q hv;have I:v.cells = #[v]:=by cases v<;>first | rfl | grind
   have:=r 0 p (by grind);grind
  have agg:∀ a,enc ρ ty x = .agg a->∀ cs,v = .agg cs->Rv (memW W) noB (enc ρ ty x) v:=by
   intro a j cs hv;subst hv;have y:=(qL ρ ty x).1;have q:(enc ρ ty x).cells=a:=by rw [j];rfl
   rw [q] at y r;rw [j];have A:cs.size=a.length:=by
    have:(Value.agg cs).cells.toList.length=cs.size:=by simp [Value.cells]
    omega
   refine .agg a cs (fun i=>cs.getD i undef) A (fun i O=>by simp_all) fun i c D => ?_;have:=r i c D;have N:(Value.agg cs).cells.toList.getD i undef=cs.getD i undef:=by simp [Value.cells]
   grind
  split at h;· rename_i m;refine o (.bool x) rfl rfl rfl ?_;rintro cs rfl;simp [Value.okWide,m,Cell.okWide,Cell.ok] at f
  ·rename_i k k' m;refine o (.int k x) rfl rfl rfl ?_;rintro cs rfl;simp [Value.okWide,m,Cell.okWide,Cell.ok] at f
  ·rename_i m;refine o (.str x) rfl rfl rfl ?_;rintro cs rfl;simp [Value.okWide,m,Cell.okWide,Cell.ok] at f
  ·rename_i G u m;refine o (.slice (x.map (enc ρ G)) [] false) rfl rfl rfl ?_;rintro cs rfl;simp [Value.okWide,m,Cell.okWide,Cell.ok] at f
  ·rename_i fs F m;simp [Value.okWide,m] at f;obtain ⟨cs,rfl,z,_⟩:=f;have B:∃ ps,enc ρ fs x = .agg ps:=by
    have E:=h;cases fs with
    | fnil=>exact ⟨_,rfl⟩
    | fcons t r=>exact ⟨_,rfl⟩
    | _=>cases J:F.toList<;>rw [J] at E<;>simp [flds] at E
   obtain ⟨a,j⟩:=B;exact agg a j cs rfl
  ·rename_i i;have C:t=τ i:=by grind
   subst C;obtain ⟨F,m⟩:=w.st i;simp [Value.okWide,m] at f;obtain ⟨cs,rfl,z,_⟩:=f;obtain ⟨a,j⟩:=w.ag i x;exact agg a j cs rfl
  grind
end
section
variable {ρ : REnv} {τ : Nat -> TypeId} {H : Type} {e : TypeId × Value -> H} {P : Program} {W : World} {bl : DataW H -> Nat} {bla : List (DataW H) -> Nat}
theorem aSN (z:BlOk bl bla) (k:ROk ρ τ e P W bl) {n F}:∀ f fs vs ds ps,aF2 ρ τ P n f fs=true ->
  (∀ (j:Nat) t v,f[j]?=some t->vs[j]?=some v->Value.okWide P W .any F t v)->DataW.TrodAll e P W 0 (fun _=>true) true f vs ds ps ->
  ∃ x,good ρ fs x/\aZG ρ fs x<=bla ds/\vs.length=(encL ρ fs x).length/\∀ (i:Nat) p,(encL ρ fs x)[i]?=some p->∃ v,vs[i]?=some v/\Rv (memW W) noB p v/\p.plain=p
 | [],fs,vs,ds,ps,h,a,m=>by
  cases fs with
  | fnil =>
   obtain ⟨rfl,rfl,rfl⟩:=trodAll_nil m;exact ⟨(),trivial,aaP _,rfl,by intro i p H;simp [encL] at H⟩
  | _=>simp [aF2] at h
 | t::f,fs,vs,ds,ps,h,a,m=>by
  cases fs with
  | fcons ty r =>
   simp [aF2] at h;obtain ⟨⟨⟨A,_⟩,_⟩,D⟩:=h;obtain ⟨v,s,d,o,p,q,rfl,rfl,rfl,l,u⟩:=trodAll_cons m;obtain ⟨x,g,b,C⟩:=bEE z k A (a 0 t v rfl rfl) l;obtain ⟨y,g2,I,G,J⟩:=aSN z k f r s o q D (fun j B E A K=>a (j+1) B E (by grind) (by grind)) u;refine ⟨(x,y),⟨g,g2⟩,?_,?_,?_⟩;· simp [aZG,z.cons];omega
   ·simp [encL,G]
   intro i c w;cases i with
   | zero=>simp [encL] at w;subst w;exact ⟨v,rfl,C,(qL ρ ty x).2.2.2⟩
   | succ i=>simp [encL] at w;grind
  | _=>simp [aF2] at h
end
section
variable {ρ : REnv} {τ : Nat -> TypeId} {H : Type} {e : TypeId × Value -> H} {P : Program} {bl : DataW H -> Nat} {bla : List (DataW H) -> Nat}
theorem aHI (o:laidOutB P=true) {n W l} (m:RowKit.Below W.heap.size W l):∀ a fs vs ds ps,aF2 ρ τ P n a fs=true ->
  DataW.TrodAll e P W 0 (fun _=>true) true a vs ds ps->(∀ x∈ps,x.block<W.heap.size)->DataW.TrodAll e P l 0 (fun b=>decide (b<W.heap.size)) true a vs ds ps
 | [],fs,vs,ds,ps,h,k,j=>by
  obtain ⟨rfl,rfl,rfl⟩:=trodAll_nil k;exact trodAll_mk0
 | t::a,fs,vs,ds,ps,h,k,j=>by
  cases fs with
  | fcons ty r =>
   simp [aF2] at h;obtain ⟨⟨⟨z,y⟩,u⟩,w⟩:=h;obtain ⟨v,g,d,c,p,q,rfl,rfl,rfl,i,f⟩:=trodAll_cons k;refine ⟨p,q,Below.trod o y u i m (fun x s=>by grind),aHI o m a r g c q w f (fun x s=>by grind),rfl⟩
  | _=>simp [aF2] at h
theorem aQy (C:POk P) {Mt X G} (r:aVI P G X) (hlaid:laidOutB P=true) (w:BlOk bl bla) {f fn} (E:P.funcs[f]?=some fn) (hbody:fn.body.isSome=true)
  {n fs} (hpars:aF2 ρ τ P n fn.params.toList fs=true) {tb} (hres:fn.resultTypes.toList=[tb]) (htb:P.underlying tb=some .bool) {s:ChangeSpec} (hvars:s.vars=[])
  {W} (k:∀ b i v,G b i=some v->memW W b i=some v) {z args ds gs before}
  (hρ:ROk ρ τ e P W bl) (hs:(s.fn H (ds++gs)).results=[.lit (.bool true)]/\(s.fn H (ds++gs)).args=ds/\(s.fn H (ds++gs)).vars=[])
  (hval:∀ (j:Nat) t v,fn.params[j]?=some t->args[j]?=some v->Value.okWide P W .any z t v)
  (hW:DataW.Whole e P fn.params.toList s.vars false W args.toList ds gs before) (K:bla ds<=1048576)
  (law:∀ x,good ρ fs x->aZG ρ fs x<=1048576->OL P Mt X f (encL ρ fs x) []=some (.bool true,[])) :
  Calls P f args W fun c a=>∃ v,c = .returned v/\s.post e P fn false true false false W args v a:=by
 have hW':=hW;obtain ⟨p,q,d,hV,rfl,o,D⟩:=hW;rw [hvars] at hV;obtain ⟨rfl,rfl⟩:=trodVars_none hV;obtain ⟨x,g,b,L,u⟩:=aSN w hρ _ _ _ _ _ hpars (fun j t v J M=>hval j t v (by grind) (by grind)) d;have hargs:ArgsOk W (encL ρ fs x) args:=by
  refine ⟨by omega,fun i m F => ?_⟩;obtain ⟨v,hv,B,hpl⟩:=u i m F;have l:args.getD i undef=v:=by
   simp_all
  rw [l];exact ⟨B,cD hpl⟩
 refine (aVK C r E hbody k hargs (law x g (by omega))).mono ?_;rintro c a ⟨rfl,hbel⟩;refine ⟨_,rfl,ds,[],p++[],[],p,[],hW',?_,?_,?_,?_,fun h=>by grind⟩
 ·rw [hs.1,hres];have hsz:fn.resultTypes.size=1:=by
   have:=congrArg List.length hres;omega
  rw [hsz];exact trodAll_mk1 ⟨1,by simp [Value.cells,DataW.trod,htb]⟩
 ·rw [hs.2.1];exact aHI hlaid hbel _ _ _ _ _ hpars d (fun y I=>hW'.lt y (by grind))
 ·rw [hs.2.2,hvars];rfl
 exact hbel.frame _
theorem aQz (q:POk P) {Mt X} (u:aVI P (fun _ _=>none) X) (h:laidOutB P=true) (B:BlOk bl bla) {f c} (y:P.funcs[f]?=some c) (d:c.body.isSome=true)
  {n fs} (g:aF2 ρ τ P n c.params.toList fs=true) {tb} (k:c.resultTypes.toList=[tb]) (m:P.underlying tb=some .bool) {s:ChangeSpec} (b:s.vars=[])
  {W C args ds gs a}
  (l:ROk ρ τ e P W bl) (z:(s.fn H (ds++gs)).results=[.lit (.bool true)]/\(s.fn H (ds++gs)).args=ds/\(s.fn H (ds++gs)).vars=[])
  (i:∀ (j:Nat) t v,c.params[j]?=some t->args[j]?=some v->Value.okWide P W .any C t v)
  (p:DataW.Whole e P c.params.toList s.vars false W args.toList ds gs a) (r:bla ds<=1048576)
  (o:∀ x,good ρ fs x->aZG ρ fs x<=1048576->OL P Mt X f (encL ρ fs x) []=some (.bool true,[])) :
  Calls P f args W fun w A=>∃ v,w = .returned v/\s.post e P c false true false false W args v A :=
 aQy q u h B y d g k m b (by simp) l z i p r o
end
section
variable {ρ : REnv} {τ : Nat -> TypeId} {H : Type} {e : TypeId × Value -> H} {P : Program} {W : World} {bl : DataW H -> Nat} {bla : List (DataW H) -> Nat}
theorem bEF (B:BlOk bl bla) n (a:Nat->Ty) (d:∀ i,∃ F,P.underlying (τ i)=some (.struct F)/\P.cellsOf (τ i)=(a i).size ρ/\flds ρ P (tyOk ρ τ P n) F.toList 0 (a i)=true)
  (w:∀ i x,∃ y,(ρ i).en y=enc ρ (a i) x/\(ρ i).bk y<=bulk ρ (a i) x+1/\(good ρ (a i) x->(ρ i).gd y)) :
  ∀ k i,bBO ρ e P W bl k (τ i) (.ext i):=by
 intro k;induction k with
 | zero =>
  intro i l z cs x s;obtain ⟨F,q,_,_⟩:=d i;obtain ⟨xs,m,A,_⟩:=DataW.trod_struct q s;omega
 | succ k E =>
  intro i l z cs x s;obtain ⟨F,q,J,G⟩:=d i;obtain ⟨xs,m,A,rfl,p,u,o⟩:=DataW.trod_struct q s;obtain ⟨v,g,b,r⟩:=aMq B (k:=k) (fun t ty h=>aQx B E n t ty h) F.toList 0 (a i) m xs (by omega) G (by simpa using u) (fun i f z=>o i f (by simpa using z));obtain ⟨y,M,N,D⟩:=w i v;have H:(a i).size ρ=(ρ i).sz:=by
   have K:=(qL ρ (a i) v).1;have L:=((ρ i).wf y).1;grind
  refine ⟨y,D g,?_,?_,?_⟩;· have:=B.agg (xs.map (·.1));simp [bulk];omega
  ·simp [Ty.size];rw [p,J,H]
  intro j c I;have C:((ρ i).en y).cells[j]?=some c:=I;grind
end
def okc:PV->Bool
 | .bool _ | .int _ _ | .str _=>true
 | .slice _ [] false=>true
 | _=>false
theorem bJo {c} (h:okc c=true):c.solid1=true/\c.plain1=c:=by
 unfold okc at h;split at h;· exact ⟨rfl,rfl⟩
 ·exact ⟨rfl,rfl⟩
 ·exact ⟨rfl,rfl⟩
 ·exact ⟨rfl,rfl⟩
 grind
theorem xB {v:PV} cs (hv:v = .agg cs) (h:cs.all okc=true) {n} (d:cs.length=n):v.cells.length=n/\(∀ c∈v.cells,c.solid1=true/\c.plain1=c)/\v.solid=true/\v.plain=v:=by
 subst hv;have a:∀ c∈cs,c.solid1=true/\c.plain1=c:=fun c b=>bJo (by grind);refine ⟨d,a,?_,?_⟩;· simp [PV.solid];grind
 simp [PV.plain,PV.plainA];have  := aaU fun c b=>(a c b).2;simp_all
def bk1 {α:Type} (_:α):Nat:=1
def eV (s:Str):Nat:=s.length+1
def bkSl {α} (f:α->Nat) (l:List α):Nat:=sumL f l+1
def gd1 {α:Type} (_:α):Prop:=True
def gdI (k:IntKind) (n:Int):Prop:=(Lit.int k n).wf=true
def gdSl {α:Type} (f:α->Prop) (l:List α):Prop:=∀ x∈l,f x
open Go.RowKit
open PV Go.RowKit
def bBQ (P:Program) (G:Mem) (f:FuncId) (args:List PV) (q:PV):Prop :=
 ∀ n w M B vals,CallPre ⟨n,G⟩ M B args [] vals w->aBm P f vals w (iO ⟨n,G⟩ M B args [] vals w q [])
def Self {α β:Type} (P:Program) (G:Mem) (f:FuncId) (A:α->List PV) (R:β->PV) (F:α->Option β) (args:List PV) (q:PV):Prop :=
 ∃ x r,args.map PV.plain=A x/\F x=some r/\q=R r/\bBQ P G f args q
open Classical in
def aSO {α β} (P:Program) (G:Mem) (f:FuncId) (A:α->List PV) (R:β->PV) (F:α->Option β):List PV->UP->Option (PV×UP):=fun args up =>
 if h:up=[]/\∃ q,Self P G f A R F args q then some (Classical.choose h.2,[]) else none
theorem aX4 {α β} {P G f} {A:α->List PV} {R:β->PV} {F} :
  ∀ args b r a,aSO P G f A R F args b=some (r,a)->∀ n w M B vals,CallPre ⟨n,G⟩ M B args b vals w->aBm P f vals w (iO ⟨n,G⟩ M B args b vals w r a):=by
 intro args b r a h n w M B vals i;unfold aSO at h;split at h;· rename_i c;obtain ⟨e,d⟩:=c;cases h;subst e;obtain ⟨x,r,l,k,j,g⟩:=abn d;exact g n w M B vals i
 grind
theorem aX5 {α β} {P G f} {A:α->List PV} {R:β->PV} {F} (l:∀ a b,A a=A b->a=b) {args x r}
  (g:args.map PV.plain=A x) (e:F x=some r) (d:bBQ P G f args (R r)):aSO P G f A R F args []=some (R r,[]):=by
 unfold aSO;have c:([]:UP)=[]/\∃ q,Self P G f A R F args q:=⟨rfl,R r,x,r,g,e,rfl,d⟩;obtain ⟨x',j,i,h,k,_⟩:=abn c.2;grind
structure Quiet (M:Mem) (w:World) (M':Mem) (w':World):Prop where
 mem:∀ b i v,M b i=some v->M' b i=some v
 old:∀ b,b<w.heap.size->w'.heap[b]?=w.heap[b]?/\∀ i,M' b i=M b i
 size:w.heap.size<=w'.heap.size
 os:w'.os=w.os
 tape:w'.tape=w.tape
 output:w'.output=w.output
theorem Quiet.refl M w:Quiet M w M w:=⟨fun _ _ _ h=>h,fun _ _=>⟨rfl,fun _=>rfl⟩,by omega,rfl,rfl,rfl⟩
theorem Quiet.trans {M M1 f w g e} (h:Quiet M w M1 g) (a:Quiet M1 g f e):Quiet M w f e:=by
 refine ⟨fun b i v hv=>a.mem _ _ _ (h.mem _ _ _ hv),fun b d => ?_,aa5 h.size a.size,a.os.trans h.os,a.tape.trans h.tape,a.output.trans h.output⟩;have c  := aaF d h.size;exact ⟨(a.old b c).1.trans (h.old b d).1,fun i=>((a.old b c).2 i).trans ((h.old b d).2 i)⟩
structure Plains (M:Mem) (args:List PV) (vals:Array Value):Prop where
 size:vals.size=args.length
 rel:∀ (i:Nat) (p:PV),args[i]?=some p->Rv M noB p (vals.getD i undef)/\fD p (vals.getD i undef)
theorem aFc {P X Mt} (u:POk P) (y:aVI P (fun _ _=>none) X) {f args r} (h:OL P Mt X f args []=some (r,[]))
  {M w vals} (q:(callFunc f vals).run P w = .ok (.enter f vals) w) (z:Cons M w) (l:Plains M args vals) :
  Calls P f vals w fun e w'=>∃ v M',e = .returned v/\Rv M' noB r v/\Cons M' w'/\Quiet M w M' w':=by
 have t:∀ b,cA args vals b=0:=by
  intro b;refine nB _ (fun i E => ?_);have A:args[i]?=some (args.getD i .bot):=by grind
  exact (l.rel i _ A).2.c b
 have B:∀ w b,cBx w noB [] b=0:=by simp [cBx,jL]
 have pre:CallPre ⟨0,fun _ _=>none⟩ M noB args [] vals w:=by
  refine ⟨z,l.size,fun i p s=>⟨by rw [aL6];exact (l.rel i p s).1,(l.rel i p s).2.h _ _ _ _⟩,⟨fun d f q=>by grind,fun _ _ _=>rfl,fun d id cs m=>by simp [bD,nth] at m,fun d id G C blk k=>by simp [noB] at k⟩,fun b => ?_,fun b i v hv=>by grind,aaP _⟩;grind
 have key:=bJb (P:=P) (Mt:=Mt) (X:=X) u y f args [] r [] h 0 w M noB vals pre;have o:∀ v w',iO ⟨0,fun _ _=>none⟩ M noB args [] vals w r [] v w'->∃ M',Rv M' noB r v/\Cons M' w'/\Quiet M w M' w':=by
  rintro v w' ⟨M',j,n,F,x,H,a⟩;refine ⟨M',j,x,⟨a.mono,fun b k=>a.keep b k ?_,a.size,a.os,a.tape,a.output⟩⟩;rintro (D | ⟨d,id,k⟩);· grind
  simp [noB] at k
 rcases key with ⟨g,gs,j,n⟩ | ⟨v,w',j,n⟩;· rw [q] at j;cases j;refine n.mono ?_;grind
 grind
@[simp] theorem bF {α β} a (k:α->Option β):bnd (some a) k=k a:=rfl
@[simp] theorem bKX {α β} (k:α->Option β):bnd none k=none:=rfl
@[simp] theorem eS {β} (x y:Option β):cnd true x y=x:=rfl
@[simp] theorem jN {β} (x y:Option β):cnd false x y=y:=rfl
theorem bBR {β} c (x y:Option β):cnd c x y=if c=true then x else y:=by cases c<;>rfl
theorem aFd {β} c (x:Option β):cnd c x x=x:=by cases c<;>rfl
theorem wi {n} (h : -9223372036854775808<=n/\n<=9223372036854775807):IntKind.wrap .i64 n=n:=by rw [IntKind.wrap_i64];omega
theorem wu n:IntKind.wrap .u64 n=n % 18446744073709551616:=by simp [IntKind.wrap,IntKind.bits,IntKind.signed]
theorem wadd {n:Nat} (h:n<9223372036854775807):IntKind.wrap .i64 (n+1)=((n+1:Nat):Int):=by rw [wi (by omega)];omega
theorem dF {α} (l:List α) (k:Nat):nthI l k=l[k]?:=by
 unfold nthI;grind
theorem gM {α} {l m:List α} (h:l.length+m.length<=lim):tapp l m=some (l++m):=if_pos h
theorem bHB {α} {l:List α} {b a:Int} (h:0<=b/\b<=a/\a<=l.length):tslc l b a=some ((l.take a.toNat).drop b.toNat):=if_pos h
theorem aPi {σ ρ α β:Type} {b} (l:List α) (S:Nat->β->σ) (G:List α->β->ρ) (I:Nat->β->Prop)
  (g:∀ a,I l.length a->b (S l.length a)=some (.inr (G [] a)))
  (c:∀ k x r a,k<l.length->l[k]?=some x->l.drop k=x::r->I k a->b (S k a)=some (.inr (G (x::r) a))∨∃ e,b (S k a)=some (.inl (S (k+1) e))/\I (k+1) e/\G (x::r) a=G r e) :
  ∀ k a,k<=l.length->I k a->cW b (S k a)=some (G (l.drop k) a):=by
 have h:∀ n k a,l.length-k<=n->k<=l.length->I k a->cW b (S k a)=some (G (l.drop k) a):=by
  intro n;induction n with
  | zero =>
   intro k a q j f;have:k=l.length:=by omega
   subst this;rw [cG (g a f),List.drop_length]
  | succ n t =>
   intro k a q j f;by_cases p:k=l.length;· grind
   have d:k<l.length:=by omega
   have m:l.drop k=l[k]::l.drop (k+1):=by simp
   rw [m];rcases c k _ _ a d (aa4 d) m f with i | ⟨e,i,s,o⟩;· exact cG i
   rw [fL i,t (k+1) e (by omega) (by omega) s,o]
 exact fun k a j f=>h (l.length-k) k a (by omega) j f
theorem bG {α} (f:α->Nat) {x}:∀ {l},x∈l->f x<=sumL f l
 | a::l,h=>by
  rcases aa3.1 h with rfl | h;· simp only [sumL];omega
  have:=bG f h;simp [sumL];omega
theorem gR {α} (f:α->Nat) (h:∀ x,1<=f x):∀ l,l.length<=sumL f l
 | []=>by simp
 | a::l=>by have:=gR f h l;have:=h a;simp [sumL];omega
theorem gY:lim=274877906944:=rfl
abbrev Sm {α:Type} (l:List α):Prop:=l.length<4611686018427387904
theorem iJ {σ ρ α β : Type} {b} l (S : Nat -> β -> σ) (G : List α -> β -> ρ) (I : Nat -> β -> Prop) (m : Sm l)
  (d : ∀ a, I l.length a -> b (S l.length a) = some (.inr (G [] a)))
  (c : ∀ k x r a, x ∈ l -> k < l.length -> l.drop k = x :: r -> decide ((k : Int) < l.length) = true -> nthI l k = some x -> IntKind.wrap .i64 (k + 1) = ((k + 1 : Nat) : Int) -> I k a ->
   b (S k a) = some (.inr (G (x :: r) a)) ∨ ∃ e, b (S k a) = some (.inl (S (k + 1) e)) /\ I (k + 1) e /\ G (x :: r) a = G r e) {s a} (j : s = S 0 a) (f : I 0 a) : cW b s = some (G l a) := by
 have := aPi (b := b) l S G I d (fun k x r a h g i f => c k x r a (by grind) h i (by grind) (by exact g) (wadd (by omega)) f) 0 a (by omega) f;grind
theorem aLx {ρ α} {b : Int -> Option (Int ⊕ ρ)} l (F : List α -> ρ) (e : Sm l) (c : b l.length = some (.inr (F [])))
  (d : ∀ (k : Nat) x r, x ∈ l -> decide ((k : Int) < l.length) = true -> nthI l k = some x -> IntKind.wrap .i64 (k + 1) = ((k + 1 : Nat) : Int) ->
   b k = some (.inr (F (x :: r))) ∨ (b k = some (.inl ((k + 1 : Nat) : Int)) /\ F (x :: r) = F r)) : cW b 0 = some (F l) :=
 iJ (b := b) l (fun k (_ : Unit) => k) (fun r _ => F r) (fun _ _ => True) e (fun _ _ => c) (fun k x r a m i j h g f _ => by
  simp_all) (s := 0) (a := ()) rfl trivial
theorem aBJ {σ ρ α β : Type} {b} (l : List α) (S : Nat -> β -> σ) g (R : β -> ρ) (I : Nat -> β -> Prop) (i : Sm l)
  (c : ∀ a, I l.length a -> b (S l.length a) = some (.inr (R a)))
  (d : ∀ k x a, x ∈ l -> k < l.length -> decide ((k : Int) < l.length) = true -> nthI l k = some x -> IntKind.wrap .i64 (k + 1) = ((k + 1 : Nat) : Int) -> I k a ->
   b (S k a) = some (.inl (S (k + 1) (g a x))) /\ I (k + 1) (g a x)) {s a} (e : s = S 0 a) (h : I 0 a) : cW b s = some (R (l.foldl g a)) :=
 iJ (b := b) l S (fun r a => R (r.foldl g a)) I i (fun a f => c a f) (fun k x r a t q m p n j o => by
  grind) e h
theorem zH {ρ α} {b : Int -> Option (Int ⊕ ρ)} (l : List α) f e (d : Sm l) (a : b l.length = some (.inr e))
  (c : ∀ (k : Nat) x, x ∈ l -> decide ((k : Int) < l.length) = true -> nthI l k = some x -> IntKind.wrap .i64 (k + 1) = ((k + 1 : Nat) : Int) ->
   b k = some (match f x with | some r => .inr r | none => .inl ((k + 1 : Nat) : Int))) : cW b 0 = some ((l.findSome? f).getD e) :=
 aLx l (fun r => (r.findSome? f).getD e) d a (fun k x r j i h g => by
  grind)
theorem bBS {n:Nat}:decide ((n:Int)<n)=false:=by simp
theorem aMr {σ α} {b} l (S:Nat->List α->σ) (o:l.length<1073741824)
  (d:∀ a,b (S l.length a)=some (.inr a))
  (c:∀ (k:Nat) x a,x∈l->decide ((k:Int)<l.length)=true->nthI l k=some x->IntKind.wrap .i64 (k+1)=((k+1:Nat):Int)->(∀ y,tapp a [y]=some (a++[y]))->b (S k a)=some (.inl (S (k+1) (a++[x])))) {s} (h:s=S 0 []):cW b s=some l:=by
 have:=aBJ (b:=b) l S (fun a x=>a++[x]) id (fun k a=>a.length=k) (by omega) (fun a _=>d a) (fun k x a i n g f e m=>⟨c k x a i g f e (fun y=>gM (by simp [gY];omega)),by grind⟩) h rfl;have:∀ (l a:List α),l.foldl (fun a x=>a++[x]) a=a++l:=by
  intro l;induction l with
  | nil=>simp
  | cons x l j=>grind
 grind
theorem fQ {α} {f:α->Nat} (a:∀ x,1<=f x) l:l.length+1<=bkSl f l:=by
 have:=gR f a l;unfold bkSl;omega
theorem iY {α} {f:α->Nat} {l x} (h:x∈l):f x+1<=bkSl f l:=by
 have:=bG f h;unfold bkSl;omega
theorem aSP s:1<=eV s:=by unfold eV;omega
theorem aSQ {σ ρ} {b} (I:σ->Prop) (m:σ->Nat) (Q:ρ->Prop)
  (h:∀ s,I s->(∃ r,b s=some (.inr r)/\Q r)∨∃ s',b s=some (.inl s')/\I s'/\m s'<m s):∀ s,I s->∃ r,cW b s=some r/\Q r:=by
 have key:∀ n s,m s<=n->I s->∃ r,cW b s=some r/\Q r:=by
  intro n;induction n with
  | zero =>
   intro s f d;rcases h s d with ⟨r,a,c⟩ | ⟨s',a,c,e⟩;· exact ⟨r,cG a,c⟩
   omega
  | succ n g =>
   intro s f d;rcases h s d with ⟨r,a,c⟩ | ⟨s',a,c,e⟩;· exact ⟨r,cG a,c⟩
   rw [fL a];grind
 exact fun s d=>key (m s) s (by omega) d
theorem vT {α:Type} [DecidableEq α]:∀ (l u:List α),l.Nodup->(∀ x∈l,x∈u)->l.length<=u.length
 | [],u,_,_=>by simp
 | a::l,u,b,d=>by
  rw [aaR] at b;have:=vT l (u.erase a) b.2 (fun x c=>by
   grind)
  grind
theorem aF3 {P G f args q} (t : ∀ p ∈ args, ∀ v, fD p v) (s : ∀ p ∈ args, p.solid = true) (a : q.plain = q) (m : q.solid = true)
  (r : ∀ vals w, (callFunc f vals).run P w = .ok (.enter f vals) w)
  (g : ∀ M w vals, Cons M w -> vals.size = args.length -> (∀ i p, args[i]? = some p -> Rv M noB p.plain (vals.getD i undef)) ->
   Calls P f vals w fun e w' => ∃ v M', e = .returned v /\ Rv M' noB q v /\ Cons M' w' /\ Quiet M w M' w') : bBQ P G f args q := by
 intro n w M B vals l;have x  := fun d id => l.box.dom d id (by simp [bD, nth]);have k : ∀ w b, cBx w B [] b = 0 := by simp [cBx, jL]
 refine .inl ⟨f, vals, r vals w, (g M w vals l.cons l.size fun i p h => ((l.rel i p h).1.anyB noB (by grind)).plain).mono ?_⟩;rintro e w' ⟨v, M', rfl, hv, y, j⟩;refine ⟨v, rfl, M', hv.anyB B m, (cD a).h _ _ _ _, ⟨fun d f r => by grind, fun d id _ => x d id, fun d id cs o => by simp [bD, nth] at o, fun d id A z blk u => by grind⟩, y, fun b => ?_, ?_⟩;· rw [(cD a).c b, k]; omega
 exact ⟨j.os, j.tape, j.output, j.size, j.mem, fun b u _ => j.old b u, fun b _ => by rw [(cD a).c b, k]; omega, fun d id b h _ => ⟨d, id, h⟩, fun _ _ => rfl⟩
section
variable {P : Program} {ops : Array Oper} {Q : Exit -> Act -> World -> Prop} {md : Region.Mode} {S T : World -> Prop} {b : Nat -> Bool}
def wpB (P:Program) (md:Region.Mode) (ops:Array Oper) (Q:Exit->Act->World->Prop) (S:World->Prop) (b:Nat->Bool):Nat->Array Bool->Act->World->Prop
 | 0,l,a,w=>Region.ready md ops l=[]/\Q .normal a w
 | n+1,l,a,w=>(Region.ready md ops l=[]->Q .normal a w)/\∀ i∈Region.ready md ops l,wpOp P ops Q i (fun c w'=>(b i=false->S w')/\wpB P md ops Q S b n (l.setIfInBounds i true) c w') a w
theorem bBT:∀ n l a w,wpB P md ops Q S b n l a w->wpAny P md ops Q n l a w
 | 0,_,_,_,h=>h
 | n+1,_,_,_,h=>⟨h.1,fun i c=>wpOp_mono (fun d w' k=>bBT n _ d w' k.2) (h.2 i c)⟩
def bJp (md:Region.Mode) (ops:Array Oper) (i j:Nat):Bool:=match ops[j]? with | some o=>o.after.any (fun e=>Region.binds md e&&e.on==i) | none=>true
def aX6 (md:Region.Mode) (ops:Array Oper) (b:Nat->Bool) (i:Nat):Bool:=(List.range ops.size).all fun j => !b j||bJp md ops i j
theorem aVL {i j} (h:aX6 md ops b i=true) {o} (d:ops[j]?=some o) (c:b j=true):∃ e∈o.after,Region.binds md e=true/\e.on=i:=by
 have a:=aak.1 h j (by grind);simp [bJp] at a;grind
theorem aZH {l:Array Bool} {i} (b:l.getD i true=false) (a:l.getD i false=true):False:=by
 grind
theorem bBU {i oi v} (g : ops[i]? = some oi) (p : ∀ (j : Nat) o cs d, ops[j]? = some o -> o.op ≠ .select cs d) (A : ∀ c a w, Q (.panic c) (a.put oi.dst v) w -> Q (.panic c) a w)
  (C : aX6 md ops b i = true) : ∀ n l a w,
   (∀ j oj, ops[j]? = some oj -> j ≠ i -> l.getD j true = false -> (∀ e ∈ oj.after, Region.binds md e = true -> e.on ≠ i) -> oi.apart ops oj = true) ->
   i ∈ Region.ready md ops l -> YieldsIf P ops S oi v a -> S w -> wpB P md ops Q S b n (l.setIfInBounds i true) (a.put oi.dst v) w -> wpB P md ops Q S b (n + 1) l a w := by
 intro n;induction n with
 | zero =>
  intro l a w hfree hr hy hSw H;refine ⟨fun h => (by rw [h] at hr; cases hr), fun j hj => ?_⟩;by_cases e : j = i;· subst e; exact hy.wpOp g hSw ⟨fun _ => hSw, H⟩
  have m := ready_mono hj e;rw [H.1] at m; cases m
 | succ n s =>
  intro l a w hfree hr hy hSw H;refine ⟨fun h => (by rw [h] at hr; cases hr), fun j hj => ?_⟩;by_cases e : j = i;· subst e; exact hy.wpOp g hSw ⟨fun _ => hSw, H⟩
  obtain ⟨hju, oj, hoj, f⟩ := mem_ready.1 hj;have x : ∀ e ∈ oj.after, Region.binds md e = true -> e.on ≠ i := fun B E r heq => aZH (mem_ready.1 hr).1 (heq ▸ by grind);have hbj : b j = false := by
   cases hbj : b j with
   | false => rfl
   | true =>
    obtain ⟨B, y, h3, D⟩ := aVL C hoj hbj;exact by grind
  have z := wpOp_putIf hoj (by grind) (fun cs d => by grind) (fun cs d => by grind) A hy (H.2 j (ready_mono hj e));have hfree' : ∀ k ok, ops[k]? = some ok -> k ≠ i -> (l.setIfInBounds j true).getD k true = false -> (∀ e ∈ ok.after, Region.binds md e = true -> e.on ≠ i) -> oi.apart ops ok = true := fun k ok t hki hun q => by
   refine hfree k ok t hki ?_ q;by_cases hjk : j = k;· subst hjk; exact hju
   rwa [getD_set_ne true hjk] at hun
  refine wpOp_mono (fun u w' h3 => ⟨h3.2.1, s _ u w' hfree' (ready_mono hr (Ne.symm e)) h3.1 (h3.2.1 hbj) ?_⟩) z;rw [Array.setIfInBounds_comm _ _ e];exact h3.2.2
theorem bEG i {d v n l a w} (hy:YieldsIf P ops S d v a) (e:S w) (f:ops[i]?=some d) (m:Region.noSelect ops=true) (k:Region.free md ops l i=true) (o:(Region.ready md ops l).contains i=true) (j:aX6 md ops b i=true)
  (g:∀ c a w,Q (.panic c) (a.put d.dst v) w->Q (.panic c) a w) (h:wpB P md ops Q S b n (l.setIfInBounds i true) (a.put d.dst v) w):wpB P md ops Q S b (n+1) l a w :=
 bBU f (Region.noSelect_spec m) g j n l a w (Region.free_spec f k) (by grind) hy e h
theorem aVM {c n l a w} (d:Region.ready md ops l=c) (f:c≠[]) (h:∀ i∈c,wpOp P ops Q i (fun e w'=>(b i=false->S w')/\wpB P md ops Q S b n (l.setIfInBounds i true) e w') a w):wpB P md ops Q S b (n+1) l a w :=
 ⟨fun g=>by grind,d ▸ h⟩
theorem bHC i {o n l a w} (c:Region.ready md ops l=[i]) (e:ops[i]?=some o)
  (h:∀ K,Shut (∀ a w,S w->(S w->wpB P md ops Q S b n (l.setIfInBounds i true) a w)->K a w)->if Region.wanted o (yielded ops a.tmps)=true then Oper.wp P o a w K Q else K (a.put o.dst undef) w):wpB P md ops Q S b (n+1) l a w :=
 aVM c (by simp) fun j d=>by
  rw [aaw.1 d];exact wpOp_step e fun K k=>h K fun a w g f=>by grind
theorem bEH i {o n l a w} (c:Region.ready md ops l=[i]) (e:ops[i]?=some o) (g:b i=true)
  (h:∀ K,Shut (∀ a w,wpB P md ops Q S b n (l.setIfInBounds i true) a w->K a w)->if Region.wanted o (yielded ops a.tmps)=true then Oper.wp P o a w K Q else K (a.put o.dst undef) w):wpB P md ops Q S b (n+1) l a w :=
 aVM c (by simp) fun j d=>by
  rw [aaw.1 d];exact wpOp_step e fun K k=>h K fun a w f=>by grind
theorem bBV i j {o p n l a w} (e:Region.ready md ops l=[i,j]) (q:ops[i]?=some o) (m:ops[j]?=some p)
  (h:∀ K,Shut (∀ a w,S w->(S w->wpB P md ops Q S b n (l.setIfInBounds i true) a w)->K a w)->if Region.wanted o (yielded ops a.tmps)=true then Oper.wp P o a w K Q else K (a.put o.dst undef) w)
  (f:∀ K,Shut (∀ a w,S w->(S w->wpB P md ops Q S b n (l.setIfInBounds j true) a w)->K a w)->if Region.wanted p (yielded ops a.tmps)=true then Oper.wp P p a w K Q else K (a.put p.dst undef) w):wpB P md ops Q S b (n+1) l a w :=
 aVM e (by simp) fun k c=>by
  simp at c;rcases c with rfl | rfl;· exact wpOp_step q fun K r=>h K fun a w g d=>by grind
  exact wpOp_step m fun K r=>f K fun a w g d=>by grind
theorem aAG {l a w} (c:Region.ready md ops l=[]) (h:Q .normal a w):∀ n,wpB P md ops Q S b n l a w
 | 0=>⟨c,h⟩
 | n+1=>⟨fun _=>h,by grind⟩
theorem tk i {d v n l a f w} (e:S w) (h:wpB P md ops Q S b n (l.setIfInBounds i true) f w) (o:ops[i]?=some d:=by rfl)
  (hy:YieldsIf P ops S d v a:=by exact Or.inl ⟨by rfl,by intro w' hS';obtain ⟨q1,q2⟩:=hS';go_simp;try with_reducible rfl⟩)
  (q:a.put d.dst v=f:=by first | (simp only [Act.put,aa7,aa8,aab];done) | (simp only [Act.put,aa7,aa8,aab];rfl) | rfl)
  (k:Region.noSelect ops=true:=by kernel_rfl) (j:Region.free md ops l i=true:=by kernel_rfl) (g:(Region.ready md ops l).contains i=true:=by kernel_rfl) (p:aX6 md ops b i=true:=by kernel_rfl)
  (m:∀ c a w,Q (.panic c) (a.put d.dst v) w->Q (.panic c) a w:=by exact fun _ _ _ h=>h):wpB P md ops Q S b (n+1) l a w :=
 bEG i hy e o k j g p m (by grind)
theorem on1 i {o n l a w}
  (h:∀ K,Shut (∀ a w,S w->(S w->wpB P md ops Q S b n (l.setIfInBounds i true) a w)->K a w)->if Region.wanted o (yielded ops a.tmps)=true then Oper.wp P o a w K Q else K (a.put o.dst undef) w) (c:Region.ready md ops l=[i]:=by kernel_rfl) (d:ops[i]?=some o:=by rfl):wpB P md ops Q S b (n+1) l a w :=
 bHC i c d h
theorem onL i {o n l a w}
  (h:∀ K,Shut (∀ a w,wpB P md ops Q S b n (l.setIfInBounds i true) a w->K a w)->if Region.wanted o (yielded ops a.tmps)=true then Oper.wp P o a w K Q else K (a.put o.dst undef) w) (c:Region.ready md ops l=[i]:=by kernel_rfl) (e:ops[i]?=some o:=by rfl) (d:b i=true:=by rfl):wpB P md ops Q S b (n+1) l a w :=
 bEH i c e d h
theorem uI S b {id a w} (c:P.follows .mixedOrders=true) (h:wpB P .any ops Q S b ops.size (Array.replicate ops.size false) a w.drew):(Code.region id ops true).wp P Q a w :=
 wp_region_any c (bBT _ _ _ _ h)
end
inductive Sx where
 | root (r:Nat)
 | cell (p:Sx) (c:Nat)
 | elem (p i:Sx)
 | lit (k:IntKind) (n:Int)
 | txt (s:List UInt8)
 | len (p:Sx)
 | suc (x:Sx)
 deriving DecidableEq,Inhabited
def bBW:PV->List PV
 | .slice es _ _=>es
 | _=>[]
def lenOf:PV->Nat
 | .slice es _ _=>es.length
 | .str s=>s.length
 | _=>0
def den (env:List PV):Sx->Option PV
 | .root r=>nth env r
 | .cell p c=>bnd (den env p) fun v=>nth v.cells c
 | .elem p i=>bnd (den env p) fun v=>bnd (den env i) fun j=>match j with | .int _ n=>nth (bBW v) n.toNat | _=>none
 | .lit k n=>some (.int k n)
 | .txt s=>some (.str s)
 | .len p=>bnd (den env p) fun v=>some (.int .i64 (lenOf v))
 | .suc x=>bnd (den env x) fun v=>match v with | .int k n=>some (.int k (k.wrap (n+1))) | _=>none
inductive Lf where
 | bool
 | int (k:IntKind)
 | str
 | sl (n ub:Nat) (o:Bool)
 | rng (k:IntKind) (lo hi:Int)
 deriving DecidableEq,Inhabited
structure El where
 ag:Bool
 cs:List Lf
 deriving DecidableEq,Inhabited
def El.size (e:El):Nat:=e.cs.length
abbrev Tb:=List El
def elOf (τ:Tb) (n:Nat):El :=
 match nth τ n with
 | some e=>e
 | none=>⟨false,[]⟩
def topL:Nat:=1073741824
mutual
inductive LfOk (τ:Tb):Lf->PV->Prop
 | bool (b:Bool):LfOk τ .bool (.bool b)
 | int (k:IntKind) (n:Int):LfOk τ (.int k) (.int k n)
 | rng {k:IntKind} {lo hi n:Int} (h:lo<=n/\n<=hi):LfOk τ (.rng k lo hi) (.int k n)
 | str {s:List UInt8} (h:s.length<=topL):LfOk τ .str (.str s)
 | sl {n ub:Nat} {es:List PV} {o:Bool} (h:∀ e,e∈es->ElOk τ (elOf τ n) e) (hl:es.length<=ub):LfOk τ (.sl n ub o) (.slice es [] o)
inductive ElOk (τ:Tb):El->PV->Prop
 | ag {cs:List Lf} {vs:List PV} (h:CsOk τ cs vs):ElOk τ ⟨true,cs⟩ (.agg vs)
 | one {l:Lf} {v:PV} (h:LfOk τ l v):ElOk τ ⟨false,[l]⟩ v
inductive CsOk (τ:Tb):List Lf->List PV->Prop
 | nil:CsOk τ [] []
 | cons {l:Lf} {ls:List Lf} {v:PV} {vs:List PV} (h:LfOk τ l v) (hs:CsOk τ ls vs):CsOk τ (l::ls) (v::vs)
end
inductive CO where
 | lt
 | le
 | eq
 deriving DecidableEq
def CO.ev:CO->Int->Int->Bool
 | .lt,a,b=>decide (a<b)
 | .le,a,b=>decide (a<=b)
 | .eq,a,b=>a==b
inductive Cn where
 | k (b:Bool)
 | cmp (o:CO) (x y:Sx)
 | not (c:Cn)
 | unk
 deriving DecidableEq
def CnOk (env:List PV):Cn->Bool->Prop
 | .k c,b=>b=c
 | .cmp o x y,b=>∃ k n k' m,den env x=some (.int k n)/\den env y=some (.int k' m)/\b=o.ev n m
 | .not c,b=>CnOk env c (!b)
 | .unk,_=>True
abbrev Fact:=CO×Sx×Sx
def gN (env:List PV) (f:Fact):Prop:=CnOk env (.cmp f.1 f.2.1 f.2.2) true
inductive AV where
 | any
 | und
 | nm (x:Sx) (l:Lf)
 | sl (x:Sx) (n c m:Nat) (i:Sx) (own:Bool)
 | cn (c:Cn)
 | nil (own:Bool)
 | agg (cs:List AV)
 | tup (vs:List AV)
 | ref (v:AV)
 | ptr (id off:Nat)
 deriving Inhabited
def isSl:Lf->Bool
 | .sl _ _ _=>true
 | _=>false
mutual
inductive Mt (τ:Tb) (env:List PV):AV->PV->Prop
 | any (v:PV):Mt τ env .any v
 | und:Mt τ env .und .und
 | nm {x:Sx} {l:Lf} {v:PV} (h:den env x=some v) (hl:LfOk τ l v) (hs:isSl l=false):Mt τ env (.nm x l) v
 | sl {x:Sx} {n c m:Nat} {i:Sx} {own:Bool} {es:List PV} {o:Bool} {k:IntKind} {z:Int} (h:den env x=some (.slice es [] o)) (he:∀ e,e∈es->ElOk τ (elOf τ n) e)
   (hi:den env i=some (.int k z)) (hl:es.length<=c+m*z.toNat):Mt τ env (.sl x n c m i own) (.slice es [] own)
 | cn {c:Cn} {b:Bool} (h:CnOk env c b):Mt τ env (.cn c) (.bool b)
 | nil (own:Bool):Mt τ env (.nil own) (.slice [] [] own)
 | agg {cs:List AV} {vs:List PV} (h:Mts τ env cs vs):Mt τ env (.agg cs) (.agg vs)
 | tup {cs:List AV} {vs:List PV} (h:Mts τ env cs vs):Mt τ env (.tup cs) (.tuple vs)
 | ref {a:AV} {v:PV} (h:Mt τ env a v):Mt τ env (.ref a) (.ref v)
 | ptr (id off:Nat):Mt τ env (.ptr id off) (.ptr 0 id off)
inductive Mts (τ:Tb) (env:List PV):List AV->List PV->Prop
 | nil:Mts τ env [] []
 | cons {a:AV} {as:List AV} {v:PV} {vs:List PV} (h:Mt τ env a v) (hs:Mts τ env as vs):Mts τ env (a::as) (v::vs)
end
inductive FrOk (τ:Tb) (env:List PV):List (Nat×AV)->List (Nat×PV)->Prop
 | nil:FrOk τ env [] []
 | cons {i:Nat} {a:AV} {v:PV} {l:List (Nat×AV)} {m:List (Nat×PV)} (h:Mt τ env a v) (hs:FrOk τ env l m):FrOk τ env ((i,a)::l) ((i,v)::m)
inductive BxOk (τ:Tb) (env:List PV):List (Nat×List AV)->gP->Prop
 | nil:BxOk τ env [] []
 | cons {i:Nat} {a:List AV} {v:List PV} {l:List (Nat×List AV)} {m:gP} (h:Mts τ env a v) (hs:BxOk τ env l m):BxOk τ env ((i,a)::l) ((i,v)::m)
structure ASt where
 fr:List (Nat×AV)
 bx:List (Nat×List AV)
 fs:List Fact
 nx:Nat
structure Good (τ:Tb) (env:List PV) (A:ASt) (st:St):Prop where
 fr:FrOk τ env A.fr st.fr
 bx:∃ b,st.bx=[b]/\BxOk τ env A.bx b
 fs:∀ f,f∈A.fs->gN env f
 nx:A.nx=env.length
def AV.isNm:AV->Bool
 | .nm _ _ | .sl _ _ _ _ _ _ | .cn _ | .nil _=>true
 | _=>false
def AV.solid1 (a:AV):Bool:=a.isNm
def AV.solid:AV->Bool
 | .agg cs=>cs.all AV.solid1
 | a=>a.isNm
def AV.cells:AV->List AV
 | .agg cs=>cs
 | a=>[a]
def AV.plain1:AV->AV
 | .sl x n c m i _ => .sl x n c m i false
 | .nil _ => .nil false
 | a=>a
def AV.plainA:AV->AV
 | .agg cs => .agg (cs.map AV.plain1)
 | a=>a.plain1
def AV.plain:AV->AV
 | .tup vs => .tup (vs.map AV.plainA)
 | a=>a.plainA
def bBX:Value->AV
 | .bool b => .cn (.k b)
 | .int k n => .nm (.lit k n) (.int k)
 | .string s=>if s.data.toList.length<=topL then .nm (.txt s.data.toList) .str else .any
 | .slice none 0 0 => .nil true
 | _ => .any
def aX7:Value->AV
 | .agg cs => .agg (cs.toList.map bBX)
 | v=>bBX v
def aHJ (fr:List (Nat×AV)) (i:Nat):AV :=
 match look fr i with
 | some v=>v
 | none => .any
def aopd (fr:List (Nat×AV)):Operand->AV
 | .tmp t=>aHJ fr t
 | .const v=>aX7 v
 | _ => .any
def aopv (fr:List (Nat×AV)) (tk:Bool):Operand->AV
 | .tmp t=>match tk with | true=>aHJ fr t | false=>(aHJ fr t).plain
 | x=>aopd fr x
def aQA (fr:List (Nat×AV)) (tk:Bool):Operand->List (Nat×AV)
 | .tmp t=>match tk with | true=>[(t,(aHJ fr t).plain)] | false=>[]
 | _=>[]
def adst (nt:Nat) (d:Option Nat) (v:AV):List (Nat×AV) :=
 match d with
 | some d=>if d<nt then [(d,v)] else []
 | none=>[]
structure AEff where
 cr:List (Nat×Nat×Nat×Nat):=[]
 cw:List (Nat×Nat×Nat×List AV):=[]
 ws:List (Nat×AV):=[]
 nw:List (Nat×List AV):=[]
def sZ (bx:List (Nat×List AV)):List (Nat×Nat×Nat×List AV)->List (Nat×List AV)
 | []=>bx
 | (_,id,o,vs)::l =>
  match look bx id with
  | some cs=>sZ (aputBox bx id (putAt cs o vs)) l
  | none=>sZ bx l
where aputBox:List (Nat×List AV)->Nat->List AV->List (Nat×List AV)
 | [],_,_=>[]
 | (i,c)::l,j,c'=>if i=j then (i,c')::l else (i,c)::aputBox l j c'
def AEff.foot (e:AEff):Foot:=⟨e.cr,e.cw.map fun c=>(c.1,c.2.1,c.2.2.1,c.2.2.2.length),e.nw.map (·.1)⟩
structure Summ where
 ins:List El
 outs:List El
 cap:Nat:=0
 deriving Inhabited
abbrev STb:=List (FuncId×Summ)
def aD1:Cn->Bool->List Fact->List Fact
 | .cmp .lt x y,true,fs=>(.lt,x,y)::fs
 | .cmp .lt x y,false,fs=>(.le,y,x)::fs
 | .cmp .le x y,true,fs=>(.le,x,y)::fs
 | .cmp .le x y,false,fs=>(.lt,y,x)::fs
 | .cmp .eq x y,true,fs=>(.le,x,y)::(.le,y,x)::fs
 | .cmp .eq _ _,false,fs=>fs
 | .not c,b,fs=>aD1 c (!b) fs
 | _,_,fs=>fs
def hasF (fs:List Fact) (f:Fact):Bool:=fs.any fun g=>decide (g=f)
def leB (fs:List Fact) (p:Sx) (top:Nat):Bool:=fs.any fun f=>match f with
 | (.le,.len q,.lit _ b)=>decide (q=p)&&decide (b<=top)
 | _=>false
def ltB1 (fs:List Fact) (x:Sx) (top:Nat):Bool:=fs.any fun f=>match f with
 | (.lt,y,.len p)=>decide (y=x)&&leB fs p top
 | (.le,y,.lit _ b)=>decide (y=x)&&decide (b<top)
 | _=>false
def ltB (fs:List Fact) (x:Sx) (top:Nat):Bool:=ltB1 fs x top||fs.any fun f=>match f with
 | (.lt,y,z)=>decide (y=x)&&ltB1 fs z top
 | _=>false
def bEI (fs:List Fact) (x p:Sx):Bool:=fs.any fun f=>match f with
 | (.lt,y,z)=>decide (y=x)&&(decide (z = .len p)||hasF fs (.le,z,.len p)||hasF fs (.lt,z,.len p))
 | _=>false
def capX (fs:List Fact) (m:Nat) (i:Sx):Option Nat :=
 match m with
 | 0=>some 0
 | m=>match i with
  | .lit _ z=>some (m*z.toNat)
  | i=>match fs.find? fun f=>match f with
    | (.le,y,.lit _ b)=>decide (y=i)
    | _=>false with
   | some (_,_,.lit _ b)=>some (m*b.toNat)
   | _=>none
def nnX (fs:List Fact):Sx->Bool
 | .lit _ n=>decide (0<=n)
 | .len _=>true
 | .suc x=>nnX fs x&&ltB fs x topL
 | x=>hasF fs (.le,.lit .i64 0,x)
def aMs:Cn->Option Bool
 | .k b=>some b
 | .not c=>match aMs c with | some b=>some (!b) | none=>none
 | _=>none
def loQ (fs:List Fact) (x:Sx) (lo:Int):Bool :=
 match x with
 | .lit _ n=>decide (lo<=n)
 | x=>fs.any fun f=>match f with
  | (.le,.lit _ a,y)=>decide (y=x)&&decide (lo<=a)
  | _=>false
def hiQ1 (fs:List Fact) (x:Sx) (hi:Int):Bool :=
 match x with
 | .lit _ n=>decide (n<=hi)
 | x=>fs.any fun f=>match f with
  | (.le,y,.lit _ a)=>decide (y=x)&&decide (a<=hi)
  | (.lt,y,.lit _ a)=>decide (y=x)&&decide (a<=hi+1)
  | _=>false
def hiQ (fs:List Fact) (x:Sx) (hi:Int):Bool:=hiQ1 fs x hi||fs.any fun f=>match f with
 | (.lt,y,z)=>decide (y=x)&&hiQ1 fs z (hi+1)
 | _=>false
def notQ (fs:List Fact):Cn->Bool
 | .cmp .eq x (.lit _ c)=>hiQ fs x (c-1)||loQ fs x (c+1)
 | _=>false
def aBr (a:AV) (fs:List Fact) (K:Bool->List Fact->Bool):Bool :=
 match a with
 | .cn c=>match aMs c with
  | some b=>K b fs
  | none=>match notQ fs c with
   | true=>K false fs
   | false=>K true (aD1 c true fs)&&K false (aD1 c false fs)
 | .nm _ .bool=>K true fs&&K false fs
 | _=>false
def ofLf (x:Sx):Lf->AV
 | .sl n ub o => .sl x n ub 0 (.lit .i64 0) o
 | .rng k _ _ => .nm x (.int k)
 | l => .nm x l
def bHD (x:Sx):Nat->List Lf->List AV
 | _,[]=>[]
 | j,l::ls=>ofLf (.cell x j) l::bHD x (j+1) ls
def ofEl (x:Sx) (e:El):AV :=
 match e.ag with
 | true => .agg (bHD x 0 e.cs)
 | false=>match e.cs with
  | [l]=>ofLf x l
  | _ => .any
def aSR (fs:List Fact) (l:Lf) (a:AV):Bool :=
 match l,a with
 | .bool,.cn _=>true
 | .sl n ub o,.sl _ n' c m i own=>(o==own)&&Nat.beq n n'&&(match capX fs m i with
  | some k=>Nat.ble (c+k) ub
  | none=>false)
 | .sl _ _ o,.nil own=>o==own
 | .rng k lo hi,.nm x (.int k')=>decide (k=k')&&loQ fs x lo&&hiQ fs x hi
 | l,.nm _ l'=>decide (l=l')
 | _,_=>false
def aPj (fs:List Fact):List Lf->List AV->Bool
 | [],[]=>true
 | l::ls,a::as=>aSR fs l a&&aPj fs ls as
 | _,_=>false
def aVN (fs:List Fact) (e:El) (a:AV):Bool :=
 match e.ag,a with
 | true,.agg cs=>aPj fs e.cs cs
 | true,_=>false
 | false,a=>match e.cs with
  | [l]=>aSR fs l a
  | _=>false
def aHK (fs:List Fact):List El->List AV->Bool
 | [],[]=>true
 | e::es,a::as=>aVN fs e a&&aHK fs es as
 | _,_=>false
def bBY (r:Nat):List El->List AV
 | []=>[]
 | e::es=>ofEl (.root r) e::bBY (r+1) es
inductive HV where
 | same
 | any
 | lf (l:Lf)
 | el (e:El)
 | acc (n c m:Nat)
structure LH where
 hv:List HV
 cnt:Nat
 top:Nat
 ex:List (Option Nat×List HV)
structure Cfg where
 τ:Tb
 sums:STb
 recs:List (FuncId×Summ×Nat)
 me:Nat
 meAg:Bool
 cap:Nat:=0
 np:Nat:=0
 loops:List (Nat×LH)
def aSS (r:Nat):Sx->Bool
 | .root r'=>Nat.beq r r'
 | .cell p _=>aSS r p
 | .elem p _=>aSS r p
 | _=>false
def aAH (ag:Bool) (r:Nat):Sx->Bool
 | .cell (.root r') _=>ag&&Nat.beq r r'
 | .cell p _=>aAH ag r p
 | .elem p _=>aSS r p
 | _=>false
def aGH (q:Sx):Nat->List AV->Bool
 | _,[]=>true
 | j,a::as=>(match a with
  | .nm x _=>decide (x = .cell q j)
  | .sl x _ _ _ _ _=>decide (x = .cell q j)
  | _=>false)&&aGH q (j+1) as
def aK4 (np:Nat):Sx->Bool
 | .root r=>decide (r<np)
 | .cell p _=>aK4 np p
 | .elem p _=>aK4 np p
 | _=>false
def capA (np:Nat):AV->Bool
 | .nm x l=>(match l with | .str=>aK4 np x | _=>true)
 | .cn _=>true
 | .nil _=>true
 | .sl x _ _ _ _ _=>aK4 np x
 | .agg (.nm (.cell q j) l::a::as)=>aK4 np q&&aGH q j (.nm (.cell q j) l::a::as)
 | .agg (.sl (.cell q j) n c m i o::a::as)=>aK4 np q&&aGH q j (.sl (.cell q j) n c m i o::a::as)
 | _=>false
def capC (C:Cfg) (sm:Summ) (args:List AV):Bool:=Nat.beq sm.cap 0||(Nat.ble 1 C.cap&&Nat.ble C.cap sm.cap&&args.all (capA C.np))
def bBZ (ag:Bool) (r:Nat):AV->Bool
 | .sl x _ _ _ _ _=>aAH ag r x
 | .agg (.nm (.cell q j) l::a::as)=>aAH ag r q&&aGH q j (.nm (.cell q j) l::a::as)
 | _=>false
section
variable (P : Program) (mt : Hints) (nt : Nat) (C : Cfg)
def bB0 (t:TypeId):Option AV :=
 match P.info? t with
 | some i=>i.zero.map aX7
 | none=>none
def aX8 (A:ASt) (d:Option Nat):Option Nat :=
 match d with
 | some d=>match look A.bx d with
  | none=>if d<nt then some d else none
  | some _=>none
 | none=>none
def AV.fits:AV->Bool
 | .ptr _ _=>true
 | .ref _=>true
 | a=>a.isNm
def aMt (size:Nat) (ag:Bool) (a:AV):Option (List AV) :=
 match ag,a with
 | true,.agg cs=>if cs.length=size then some cs else none
 | true,_=>none
 | false,a=>match a.fits,size with
  | true,1=>some [a]
  | _,_=>none
abbrev AK:=AEff->List Fact->Nat->Bool
def aQB (o:Oper) (n:Nat) (ag:Bool) (v:AV) (lv:List (Nat×AV)) (A:ASt) (K:AK):Bool :=
 match aX8 nt A o.dst,aMt n ag v with
 | some id,some cs=>match cs.all AV.fits with
  | true=>K {ws:=(id,.ptr id 0)::lv,nw:=[(id,cs)]} A.fs A.nx
  | false=>false
 | _,_=>false
def apart (off size:Nat) (ag:Bool) (cs:List AV):Option AV :=
 match ag with
 | true=>if off+size<=cs.length then some (.agg ((cs.drop off).take size)) else none
 | false=>nth cs off
def afld (off size:Nat) (ag:Bool) (x:AV):Option AV :=
 match x with
 | .agg cs=>apart off size ag cs
 | _=>none
def bB1:List AV->Bool
 | [a]=>a.fits
 | _=>true
def aMu (ag:Bool) (v:AV):Option (List AV) :=
 match ag,v with
 | true,.agg cs=>some (cs.map AV.plain1)
 | true,_=>none
 | false,v=>some [v.plain1]
def aX9 (place:Nat->Option (Nat×Nat×Bool)):List (Nat×AV)->List AV->Option (List AV)
 | [],cs=>some cs
 | (i,v)::rest,cs =>
  match place i with
  | some (off,size,ag)=>match aMt size ag v with
   | some vs=>if off+size<=cs.length then aX9 place rest (putAt cs off vs) else none
   | none=>none
  | none=>none
def aMv:Tb->Nat->List AV->Option Nat
 | [],_,_=>none
 | e::τ,n,as=>match as.all (aVN [] e) with
  | true=>some n
  | false=>aMv τ (n+1) as
def aMw (sz:Nat) (l:List (Nat×AV)) (n k:Nat):Bool :=
 match l with
 | []=>Nat.beq n k
 | (i,a)::r=>Nat.beq i k&&a.solid&&Nat.beq a.cells.length sz&&aMw sz r n (k+1)
def aVO (k:Nat) (a b:AV):Bool :=
 match k,a,b with
 | 1,.nm _ (.int k),.nm _ (.int k')=>decide (k=k')
 | 2,.nm _ .str,.nm _ .str=>true
 | 0,a,b=>aSR [] .bool a&&aSR [] .bool b
 | _,_,_=>false
def isB (a:AV):Bool:=aSR [] .bool a
def nn0 (fs:List Fact):Sx->Bool
 | .lit _ c=>decide (0<=c)
 | .root r=>hasF fs (.le,.lit .i64 0,.root r)
 | _=>false
def abin (fs:List Fact) (op:BinOp) (a b:AV) (nx:Nat):Option (AV×Nat) :=
 match a,b with
 | .nm x (.int k),.nm y (.int k') =>
  match op with
  | .shl=>if nn0 fs y=true then some (.nm (.root nx) (.int k),nx+1) else none
  | .shr=>if nn0 fs y=true then some (.nm (.root nx) (.int k),nx+1) else none
  | op=>match decide (k=k') with
   | false=>none
   | true=>match op with
    | .eql=>some (.cn (.cmp .eq x y),nx)
    | .neq=>some (.cn (.not (.cmp .eq x y)),nx)
    | .lss=>some (.cn (.cmp .lt x y),nx)
    | .leq=>some (.cn (.cmp .le x y),nx)
    | .gtr=>some (.cn (.cmp .lt y x),nx)
    | .geq=>some (.cn (.cmp .le y x),nx)
    | .add=>match y with
     | .lit _ 1=>some (.nm (.suc x) (.int k),nx)
     | _=>some (.nm (.root nx) (.int k),nx+1)
    | .sub | .mul | .and | .or | .xor | .andNot=>some (.nm (.root nx) (.int k),nx+1)
    | .quo=>match y with | .lit _ c=>if c=0 then none else some (.nm (.root nx) (.int k),nx+1) | _=>none
    | .rem=>match y with | .lit _ c=>if c=0 then none else some (.nm (.root nx) (.int k),nx+1) | _=>none
    | _=>none
 | .nm x .str,.nm (.txt []) .str =>
  match op with
  | .eql=>some (.cn (.cmp .le (.len x) (.lit .i64 0)),nx)
  | .neq=>some (.cn (.not (.cmp .le (.len x) (.lit .i64 0))),nx)
  | _=>none
 | .nm _ .str,.nm _ .str =>
  match op with
  | .eql | .neq | .lss | .leq | .gtr | .geq=>some (.cn .unk,nx)
  | _=>none
 | _,_=>none
def bB2 (o:Oper) (op:BinOp) (x y:AV) (A:ASt) (K:AK):Bool :=
 match abin A.fs op x y A.nx with
 | some (v,nx)=>K {ws:=adst nt o.dst v} A.fs nx
 | none=>false
def aCmp (o:Oper) (op:BinOp) (t:TypeId) (x y:AV) (A:ASt) (K:AK):Bool :=
 match P.underlying t with
 | some (.int _)=>bB2 nt o op x y A K
 | some .string=>bB2 nt o op x y A K
 | some .bool=>match isB x&&isB y with
  | true=>K {ws:=adst nt o.dst (.cn .unk)} A.fs A.nx
  | false=>false
 | some (.struct _) =>
  match szOf P t,aFY P 20 t 0,P.eqGuardType P.depth t,x,y with
  | some n,some ls,false,.agg xs,.agg ys=>match Nat.beq xs.length n&&Nat.beq ys.length n&&ls.all fun l=>match nth xs l.1,nth ys l.1 with | some a,some b=>aVO l.2 a b | _,_=>false with
   | true=>K {ws:=adst nt o.dst (.cn .unk)} A.fs A.nx
   | false=>false
  | _,_,_,_,_=>false
 | _=>false
def bKu (o:Oper) (op:BinOp) (t:TypeId) (x y:AV) (A:ASt) (K:AK):Bool :=
 match op with
 | .eql=>aCmp P nt o .eql t x y A K
 | .neq=>aCmp P nt o .neq t x y A K
 | op=>bB2 nt o op x y A K
def aapd (size:Nat) (x y:AV) (fs:List Fact) (nx:Nat):Option (AV×Nat) :=
 match x,y with
 | .nil true,.nil _=>some (.nil true,nx)
 | .nil true,.sl x n c m i _ =>
  match capX fs m i with
  | some k=>if c+k<=lim/\(elOf C.τ n).size=size then some (.sl x n c m i true,nx) else none
  | none=>none
 | .sl x n c m i true,.nil _ =>
  match capX fs m i with
  | some k=>if c+k<=lim/\(elOf C.τ n).size=size then some (.sl x n c m i true,nx) else none
  | none=>none
 | .sl _ n c m i true,.sl _ n' c' m' _ _ =>
  match capX fs m i with
  | some k=>if c+k+c'<=lim/\(elOf C.τ n).size=size/\n=n'/\m'=0 then some (.sl (.root nx) n (c+c') m i true,nx+1) else none
  | none=>none
 | _,_=>none
def aRes (outs:List El) (nx:Nat):AV :=
 match outs with
 | [e]=>ofEl (.root nx) e
 | es => .tup (bBY nx es)
def bJq (o:Oper) (c:Call) (A:ASt) (K:AK):Bool :=
 let ρ:=aopd A.fr
 let tk:=hasO mt.takes o.dst
 match c.callee with
 | .value (.func g) =>
  let args:=c.args.toList.map (aopv A.fr tk)
  let lv:=c.args.toList.flatMap (aQA A.fr tk)
  match (!tk||aAy (uB c.args.toList)) && !hasO mt.gens o.dst && !hasO mt.brw o.dst&&(bA1 mt o.dst).isNone&&args.all AV.solid with
  | false=>false
  | true =>
   match C.sums.find? fun x=>Nat.beq x.1 g with
   | some (_,sm)=>match aHK A.fs sm.ins args&&capC C sm args with
    | true=>K {ws:=adst nt o.dst (aRes sm.outs A.nx)++lv} A.fs (A.nx+sm.outs.length)
    | false=>false
   | none=>match C.recs.find? fun x=>Nat.beq x.1 g with
    | some (_,sm,k)=>match aHK A.fs sm.ins args&&capC C sm args&&(match nth args k with | some a=>bBZ C.meAg C.me a | none=>false) with
     | true=>K {ws:=adst nt o.dst (aRes sm.outs A.nx)++lv} A.fs (A.nx+sm.outs.length)
     | false=>false
    | none=>false
 | .builtin .len =>
  match c.args.toList,c.argTypes.toList with
  | [x],[t] =>
   match P.underlying t,ρ x with
   | some .string,.nm x .str=>K {ws:=adst nt o.dst (.nm (.len x) (.int .i64))} ((.le,.len x,.lit .i64 topL)::A.fs) A.nx
   | some (.slice _),.sl x _ c m i _=>K {ws:=adst nt o.dst (.nm (.len x) (.int .i64))} (match m,i with
    | 0,_=>(.le,.len x,.lit .i64 c)::A.fs
    | m,.lit _ z=>(.le,.len x,.lit .i64 ((c+m*z.toNat:Nat):Int))::A.fs
    | _,_=>A.fs) A.nx
   | some (.slice _),.nil _=>K {ws:=adst nt o.dst (.nm (.lit .i64 0) (.int .i64))} A.fs A.nx
   | _,_=>false
  | _,_=>false
 | .builtin .append =>
  match c.args.toList,c.argTypes.toList with
  | [x,y],[t,u] =>
   match P.underlying t,P.underlying u with
   | some (.slice e),some (.slice _) =>
    match P.info? e with
    | some i=>if 0<i.size/\i.bytes<=512/\aDz i=true/\(bA1 mt o.dst).isNone=true then
      match aapd C i.size (aopd A.fr x) (ρ y) A.fs A.nx with
      | some (v,nx)=>K {ws:=adst nt o.dst v++aQA A.fr true x} A.fs nx
      | none=>false
      else false
    | none=>false
   | _,_=>false
  | _,_=>false
 | .builtin .max =>
  match c.args.toList with
  | [x,y] =>
   match ρ x,ρ y with
   | .nm _ (.int k),.nm _ (.int _)=>K {ws:=adst nt o.dst (.nm (.root A.nx) (.int k))} A.fs (A.nx+1)
   | _,_=>false
  | _=>false
 | _=>false
def aIx (size:Nat) (a i:AV) (fs:List Fact):Option AV :=
 match a,i with
 | .sl p n _ _ _ _,.nm i (.int .i64) =>
  if (elOf C.τ n).size=size/\0<size/\nnX fs i=true/\bEI fs i p=true then some (.ref (ofEl (.elem p i) (elOf C.τ n))) else none
 | _,_=>none
def aOp (o:Oper) (A:ASt) (K:AK):Bool :=
 let ρ:=aopd A.fr
 let tk:=hasO mt.takes o.dst
 let fin v:Bool:=K {ws:=adst nt o.dst v} A.fs A.nx
 match o.op with
 | .move x=>K {ws:=adst nt o.dst (aopv A.fr tk x)++aQA A.fr tk x} A.fs A.nx
 | .assign x=>K {ws:=adst nt o.dst (aopv A.fr true x)++aQA A.fr true x} A.fs A.nx
 | .pick c a b=>aBr (ρ c) A.fs fun t fs=>match t with
  | true=>K {ws:=adst nt o.dst (aopv A.fr false a)} fs A.nx
  | false=>K {ws:=adst nt o.dst (aopv A.fr false b)} fs A.nx
 | .alloc t =>
  match szOf P t,agOf P t,bB0 P t with
  | some n,some ag,some z=>aQB nt o n ag z [] A K
  | _,_,_=>false
 | .box t x =>
  match szOf P t,agOf P t with
  | some n,some ag=>aQB nt o n ag (aopv A.fr true x) (aQA A.fr true x) A K
  | _,_=>false
 | .build t ps =>
  match P.underlying t,bB0 P t with
  | some (.struct fs),some (.agg z) =>
   match fs.toList.all (fun f=>(P.info? f.type).isSome),aX9 (xH P fs) (ps.toList.map fun p=>(p.1,aopv A.fr false p.2)) z with
   | true,some cs=>fin (.agg cs)
   | _,_=>false
  | _,_=>false
 | .buildSlice t n ps =>
  match P.underlying t with
  | some (.slice e) =>
   match szOf P e,bB0 P e with
   | some sz,some z =>
    let es:=ps.toList.map fun p=>(p.1,aopv A.fr false p.2)
    match decide (n*sz<=16777216)&&Nat.beq z.cells.length sz&&z.solid&&decide (0<sz)&&aMw sz es n 0&&decide (0<n) with
    | true=>match aMv C.τ 0 ((es.map (·.2)).map AV.plain) with
     | some w=>K {ws:=adst nt o.dst (.sl (.root A.nx) w n 0 (.lit .i64 0) true)} A.fs (A.nx+1)
     | none=>false
    | false=>false
   | _,_=>false
  | _=>false
 | .load t p =>
  match szOf P t,agOf P t with
  | some n,some ag =>
   match aopd A.fr p with
   | .ptr id off =>
    match decide (0<n)&&(ag||Nat.beq n 1),look A.bx id with
    | true,some cs=>match bB1 cs,apart off n ag cs with
     | true,some v=>match tk with
      | true=>match aMu ag v with
       | some pc=>K {cr:=[(0,id,off,n)],cw:=[(0,id,off,pc)],ws:=adst nt o.dst v} A.fs A.nx
       | none=>false
      | false=>K {cr:=[(0,id,off,n)],ws:=adst nt o.dst v.plain} A.fs A.nx
     | _,_=>false
    | _,_=>false
   | .ref v=>match ag,v with
    | true,.agg cs=>match Nat.beq cs.length n with
     | true=>fin (AV.plain (.agg cs))
     | false=>false
    | true,_=>false
    | false,v=>match v.fits with
     | true=>fin v.plain
     | false=>false
   | _=>false
  | _,_=>false
 | .store t p x =>
  match szOf P t,agOf P t with
  | some n,some ag =>
   match aopd A.fr p,o.dst with
   | .ptr id off,none =>
    match look A.bx id,aMt n ag (aopv A.fr true x) with
    | some cs,some vs=>match bB1 cs&&vs.all AV.fits&&decide (off+n<=cs.length)&&decide (0<n) with
     | true=>K {cw:=[(0,id,off,vs)],ws:=aQA A.fr true x} A.fs A.nx
     | false=>false
    | _,_=>false
   | _,_=>false
  | _,_=>false
 | .nilCheck x =>
  match aopd A.fr x with
  | .ptr id off=>fin (.ptr id off)
  | .ref v=>fin (.ref v)
  | _=>false
 | .binOp op t x y _=>bKu P nt o op t (ρ x) (ρ y) A K
 | .unOp op _ x =>
  match op,ρ x with
  | .not,.cn c=>fin (.cn (.not c))
  | .not,.nm _ .bool=>fin (.cn .unk)
  | .neg,.nm _ (.int k)=>K {ws:=adst nt o.dst (.nm (.root A.nx) (.int k))} A.fs (A.nx+1)
  | _,_=>false
 | .convert s d x =>
  match P.underlying s,P.underlying d,ρ x with
  | some (.int _),some (.int k),.nm _ (.int _)=>K {ws:=adst nt o.dst (.nm (.root A.nx) (.int k))} (match k.signed with | true=>A.fs | false=>(.le,.lit .i64 0,.root A.nx)::A.fs) (A.nx+1)
  | _,_,_=>false
 | .fieldAddr s x f =>
  match P.underlying s with
  | some (.struct fs) =>
   match xH P fs f with
   | some (off,n,ag)=>match decide (0<n),ρ x with
    | true,.ptr id o=>fin (.ptr id (o+off))
    | true,.ref v=>match afld off n ag v with
     | some p=>fin (.ref p)
     | none=>false
    | _,_=>false
   | none=>false
  | _=>false
 | .indexAddr t x i =>
  match P.underlying t with
  | some (.slice e) =>
   match szOf P e with
   | some n=>match aIx C n (ρ x) (ρ i) A.fs with
    | some v=>fin v
    | none=>false
   | none=>false
  | _=>false
 | .index t x i =>
  match P.underlying t,ρ x,ρ i with
  | some .string,.nm p .str,.nm i (.int .i64)=>match nnX A.fs i&&bEI A.fs i p with
   | true=>K {ws:=adst nt o.dst (.nm (.root A.nx) (.int .u8))} A.fs (A.nx+1)
   | false=>false
  | _,_,_=>false
 | .slice t x none (some h) none =>
  match P.underlying t,ρ x,ρ h with
  | some .string,.nm p .str,.nm (.lit k n) (.int _)=>match decide (0<=n)&&hasF A.fs (.le,.lit k n,.len p) with
   | true=>K {ws:=adst nt o.dst (.nm (.root A.nx) .str)} A.fs (A.nx+1)
   | false=>false
  | _,_,_=>false
 | .extract x i=>match ρ x with
  | .tup vs=>match nth vs i with
   | some v=>fin v.plain
   | none=>false
  | _=>false
 | .call c=>bJq P mt nt C o c A K
 | _=>false
def AEff.app (e:AEff) (A:ASt) (fs:List Fact) (nx:Nat):ASt:={fr:=e.ws++A.fr,bx:=e.nw++sZ A.bx e.cw,fs:=fs,nx:=nx}
def aFe (ops:Array Oper):Nat->Oper->ASt->(Bool->ASt->Bool)->Bool
 | 0,_,_,_=>false
 | n+1,o,A,K =>
  match o.guard with
  | none=>K true A
  | some (g,want) =>
   match ops[g]? with
   | some q =>
    match q.dst with
    | some s=>aFe ops n q A fun wq A =>
     match wq with
     | true=>aBr (aHJ A.fr s) A.fs fun b fs=>K (b==want) {A with fr:=(s,.cn (.k b))::A.fr,fs:=fs}
     | false=>match aHJ A.fr s with
      | .und=>K false A
      | _=>false
    | none=>false
   | none=>false
def aOps (ops:Array Oper):List Oper->ASt->(ASt->Bool)->Bool
 | [],A,K=>K A
 | o::os,A,K=>aFe ops (ops.size+1) o A fun b A =>
  match b with
  | true=>aOp P mt nt C o A fun e fs nx=>aOps ops os (e.app A fs nx) K
  | false=>aOps ops os {A with fr:=adst nt o.dst .und++A.fr} K
def bEJ (ops:Array Oper):Nat->List Oper->List (Nat×Foot)->ASt->(List (Nat×Foot)->ASt->Bool)->Bool
 | _,[],log,A,K=>K log A
 | i,o::os,log,A,K=>aFe ops (ops.size+1) o A fun b A =>
  match b with
  | true=>aOp P mt nt C o A fun e fs nx=>bEJ ops (i+1) os ((i,e.foot)::log) (e.app A fs nx) K
  | false=>bEJ ops (i+1) os log {A with fr:=adst nt o.dst .und++A.fr} K
def aPk (bx:List (Nat×List AV)):List (Nat×Nat):=bx.map fun x=>(x.1,x.2.length)
def aZI (b:List (Nat×List AV)):List (Nat×Nat)->Option (List AV)
 | []=>some []
 | (i,n)::l=>match look b i,aZI b l with
  | some cs,some r=>if cs.length=n then some (cs++r) else none
  | _,_=>none
def aVP (s:List AV):List (Nat×Nat)->List (Nat×List AV)
 | []=>[]
 | (i,n)::l=>(i,s.take n)::aVP (s.drop n) l
def azip:List Nat->List AV->List (Nat×AV)
 | i::l,a::s=>(i,a)::azip l s
 | _,_=>[]
def aI6 (ids:List (Nat×Nat)):AV->Bool
 | .ptr id _=>ids.any fun x=>x.1==id
 | .agg cs=>cs.all AV.isNm
 | .ref _=>true
 | a=>a.isNm
def aZJ (kp:List Nat) (sh:List (Nat×Nat)) (A:ASt):Option (List AV) :=
 match aZI A.bx sh with
 | some r =>
  let s:=kp.map (aHJ A.fr)++r
  match A.bx.all fun x=>sh.any fun y=>y.1==x.1 with
  | true=>some s
  | false=>match s.all (aI6 sh) with
   | true=>some s
   | false=>none
 | none=>none
def aVQ (kp:List Nat) (sh:List (Nat×Nat)) (s:List AV) (fs:List Fact) (nx:Nat):ASt :=
 { fr:=azip kp (s.take kp.length),bx:=aVP (s.drop kp.length) sh,fs:=fs,nx:=nx}
def aDq (cx:Sx):List HV->List AV->Nat->Option (List AV×Nat)
 | [],[],nx=>some ([],nx)
 | h::hs,a::as,nx =>
  let put b k:=match aDq cx hs as (nx+k) with
   | some (r,nx)=>some (b::r,nx)
   | none=>none
  match h with
  | .same=>put a 0
  | .any=>put .any 0
  | .lf l=>put (ofLf (.root nx) l) 1
  | .el e=>put (ofEl (.root nx) e) 1
  | .acc n c m=>put (.sl (.root nx) n c m cx true) 1
 | _,_,_=>none
def aKe (hv:List HV) (nx:Nat):Nat->Option Nat
 | 0=>match hv with
  | .lf _::_=>some nx
  | _=>none
 | k+1=>match hv with
  | .same::hs=>aKe hs nx k
  | .any::hs=>aKe hs nx k
  | _::hs=>aKe hs (nx+1) k
  | []=>none
mutual
def AV.beq:AV->AV->Bool
 | .any,.any=>true
 | .und,.und=>true
 | .nm x l,.nm y k=>decide (x=y)&&decide (l=k)
 | .sl x n c m i o,.sl y n' c' m' i' o'=>decide (x=y)&&Nat.beq n n'&&Nat.beq c c'&&Nat.beq m m'&&decide (i=i')&&(o==o')
 | .cn c,.cn d=>decide (c=d)
 | .nil a,.nil b=>a==b
 | .agg a,.agg b=>AV.beqs a b
 | .tup a,.tup b=>AV.beqs a b
 | .ref a,.ref b=>AV.beq a b
 | .ptr i o,.ptr j p=>Nat.beq i j&&Nat.beq o p
 | _,_=>false
def AV.beqs:List AV->List AV->Bool
 | [],[]=>true
 | a::as,b::bs=>AV.beq a b&&AV.beqs as bs
 | _,_=>false
end
def bJr (fs:List Fact) (cx:Sx):HV->AV->AV->Bool
 | .same,a,b=>AV.beq a b
 | .any,_,_=>true
 | .lf l,_,b=>aSR fs l b
 | .el e,_,b=>aVN fs e b
 | .acc n c m,_,b=>match b with
  | .sl _ n' c' m' i' own=>Nat.beq n n'&&own&&(match i' with
   | .lit _ z=>decide (m'*z.toNat+c'<=c)
   | i'=>(decide (.suc i'=cx)&&Nat.beq m m'&&Nat.ble c' (c+m))||(decide (i'=cx)&&Nat.beq m m'&&Nat.ble c' c))
  | .nil own=>own
  | _=>false
def aAI (fs:List Fact) (cx:Sx):List HV->List AV->List AV->Bool
 | [],[],[]=>true
 | h::hs,a::as,b::bs=>bJr fs cx h a b&&aAI fs cx hs as bs
 | _,_,_=>false
def aST (l:List (Option Nat×List HV)) (e:Ex):Option (List HV) :=
 match l with
 | []=>none
 | (w,h)::r=>match e,w with
  | .brk i,some j=>if i=j then some h else aST r e
  | .ret,none=>some h
  | _,_=>aST r e
def aZK (l:List (Option Nat)) (e:Ex):Bool:=l.any fun w=>match e,w with
 | .brk i,some j=>Nat.beq i j
 | .ret,none=>true
 | _,_=>false
def aCm : Code -> ASt -> (Ex -> ASt -> Bool) -> Bool
 | .skip, A, K => K .nrm A
 | .label _, A, K => K .nrm A
 | .region rid ops draw, A, K => match look mt.frz rid with
  | some _ => false
  | none => match draw with
   | false => aOps P mt nt C ops ops.toList A (K .nrm)
   | true => match aCc mt ops (Region.before ops) with
    | true => bEJ P mt nt C ops 0 ops.toList [] A fun log A => match wO (Region.before ops) log with
     | true => K .nrm A
     | false => false
    | false => false
 | .seq a b, A, K => aCm a A fun e A =>
  match e with
  | .nrm => aCm b A K
  | .brk i => K (.brk i) A
  | .ret => K .ret A
 | .cond c a b, A, K => aBr (aopd A.fr c) A.fs fun t fs =>
  match t with
  | true => aCm a { A with fr := acond c true A.fr, fs := fs } K
  | false => aCm b { A with fr := acond c false A.fr, fs := fs } K
 | .block id b, A, K => aCm b A fun e A =>
  match e with
  | .nrm => K .nrm A
  | .brk i => if i = id then K .nrm A else K (.brk i) A
  | .ret => K .ret A
 | .scope b, A, K => aCm b A K
 | .exit id, A, K => K (.brk id) A
 | .ret, A, K => K .ret A
 | .loop b, A, K => match look mt.frl (kK b), look C.loops (kK b) with
  | none, some h =>
   let kp := aBB mt b
   let sh := aPk A.bx
   match aZJ kp sh A, aKe h.hv A.nx h.cnt with
   | some s, some cn => match aDq (.root cn) h.hv s A.nx, nth s h.cnt with
    | some (s1, nx1), some c0 =>
     (match c0 with
      | .nm (.lit k z) (.int .i64) => decide (k = .i64) && decide (0 <= z) && decide (z <= h.top) && aAI A.fs (.lit k z) h.hv s s
      | _ => false) &&
     decide (h.top <= topL) &&
     aCm b (aVQ kp sh s1 ((.le, .lit .i64 0, .root cn) :: (.le, .root cn, .lit .i64 h.top) :: A.fs) nx1) (fun e A' =>
      match aZJ kp sh A' with
      | some s2 => match e with
       | .nrm => match nth s2 h.cnt with
        | some (.nm (.suc x) (.int .i64)) => decide (x = .root cn) && ltB A'.fs x h.top && aAI A'.fs (.suc (.root cn)) h.hv s s2
        | _ => false
       | e => match aST h.ex e with
        | some hx => aZK (rG b) e && aAI A'.fs (.root cn) hx s s2
        | none => false
      | none => false) &&
     (rG b).all (fun w => match aST h.ex (exOf w) with
      | some hx => match aDq (.lit .i64 h.top) hx s A.nx with
       | some (s3, nx3) => K (exOf w) (aVQ kp sh s3 A.fs nx3)
       | none => false
      | none => false)
    | _, _ => false
   | _, _ => false
  | _, _ => false
 | _, _, _ => false
where acond (c : Operand) (b : Bool) (fr : List (Nat × AV)) : List (Nat × AV) :=
 match c with
 | .tmp t => (t, .cn (.k b)) :: fr
 | _ => fr
def aQC (own:Bool) (A:ASt) (r:ResultVar):Option AV :=
 match r with
 | .tmp t=>some (match own with | true=>aHJ A.fr t | false=>(aHJ A.fr t).plain)
 | .cell a t =>
  match szOf P t,agOf P t,aHJ A.fr a with
  | some n,some ag,.ptr id off=>match decide (0<n)&&(ag||Nat.beq n 1),look A.bx id with
   | true,some cs=>match bB1 cs with
    | true=>(apart off n ag cs).map fun v=>match own with | true=>v | false=>v.plain
    | false=>none
   | _,_=>none
  | _,_,_=>none
def aQD (A:ASt):List ResultVar->Option (List AV)
 | []=>some []
 | r::l=>match aQC P false A r,aQD A l with
  | some v,some vs=>some (v::vs)
  | _,_=>none
def bB3 (fn:Func) (outs:List El) (A:ASt):Bool :=
 match fn.results.toList with
 | [r]=>match aQC P mt.own A r with
  | some v=>v.solid&&aHK A.fs outs [v]
  | none=>false
 | rs=>match aQD P A rs with
  | some vs=>vs.all AV.solid&&aHK A.fs outs (vs.map AV.plainA)&&decide (outs.length≠1)
  | none=>false
def aFf:Nat->List El->List Fact
 | _,[]=>[]
 | r,e::es=>(match e with
  | ⟨false,[.rng k lo hi]⟩=>[(.le,.lit k lo,.root r),(.le,.root r,.lit k hi)]
  | _=>[])++aFf (r+1) es
def aFun (fn:Func) (sm:Summ):Bool :=
 match fn.body with
 | some c=>decide (sm.ins.length<=nt)&&(Nat.beq C.np 0||(Nat.ble C.np sm.ins.length&&Nat.beq C.cap sm.cap&&Nat.ble 1 sm.cap))&&(C.recs.isEmpty||(match nth sm.ins C.me with | some e=>e.ag==C.meAg | none=>false))&&aCm P mt nt C c {fr:=azip (List.range sm.ins.length) (bBY 0 sm.ins),bx:=[],fs:=aFf 0 sm.ins,nx:=sm.ins.length} (fun e A =>
   match e with
   | .brk _=>false
   | _=>bB3 P mt fn sm.outs A)
 | none=>false
end
variable {τ : Tb} {env l : List PV}
theorem bB4 {α}:∀ {a b:List α} {i x},nth a i=some x->nth (a++b) i=some x
 | [],_,_,_,h=>by simp [nth] at h
 | _::_,_,0,_,h=>h
 | _::a,b,i+1,x,h=>by
  exact bB4 (a:=a) h
theorem aMx {α}:∀ (a:List α) x,nth (a++[x]) a.length=some x
 | [],_=>rfl
 | _::a,x=>aMx a x
theorem iP l:∀ {x v},den env x=some v->den (env++l) x=some v
 | .root r,v,h=>bB4 h
 | .cell p c,v,h=>by
  obtain ⟨w,a,h⟩:=aB h;simp [den,iP l a];exact h
 | .elem p i,v,h=>by
  obtain ⟨w,a,h⟩:=aB h;obtain ⟨j,b,h⟩:=aB h;simp [den,iP l a,iP l b];exact h
 | .lit k n,v,h=>h
 | .txt s,v,h=>h
 | .len p,v,h=>by
  obtain ⟨w,a,h⟩:=aB h;simp only [den,iP l a];exact h
 | .suc x,v,h=>by
  obtain ⟨w,a,h⟩:=aB h;simp [den,iP l a];exact h
theorem CnOk.mono l:∀ {c b},CnOk env c b->CnOk (env++l) c b
 | .k _,_,h=>h
 | .cmp o x y,b,⟨k,n,k',m,e,d,a⟩=>⟨k,n,k',m,iP l e,iP l d,a⟩
 | .not c,b,h=>CnOk.mono (c:=c) l h
 | .unk,_,_=>trivial
theorem gN.mono l {f} (h:gN env f):gN (env++l) f:=CnOk.mono l h
mutual
theorem Mt.mono (l:List PV):∀ {a:AV} {v:PV},Mt τ env a v->Mt τ (env++l) a v
 | _,_,.any v => .any v
 | _,_,.und => .und
 | _,_,.nm h c b => .nm (iP l h) c b
 | _,_,.sl h e d c => .sl (iP l h) e (iP l d) c
 | _,_,.cn h => .cn (CnOk.mono l h)
 | _,_,.nil o => .nil o
 | _,_,.agg h => .agg (Mts.mono l h)
 | _,_,.tup h => .tup (Mts.mono l h)
 | _,_,.ref h => .ref (Mt.mono l h)
 | _,_,.ptr i o => .ptr i o
theorem Mts.mono (l:List PV):∀ {a:List AV} {v:List PV},Mts τ env a v->Mts τ (env++l) a v
 | _,_,.nil => .nil
 | _,_,.cons h b => .cons (Mt.mono l h) (Mts.mono l b)
end
theorem FrOk.mono l:∀ {a v},FrOk τ env a v->FrOk τ (env++l) a v
 | _,_,.nil => .nil
 | _,_,.cons h b => .cons (h.mono l) (FrOk.mono l b)
theorem BxOk.mono l:∀ {a v},BxOk τ env a v->BxOk τ (env++l) a v
 | _,_,.nil => .nil
 | _,_,.cons h b => .cons (h.mono l) (BxOk.mono l b)
theorem FrOk.app:∀ {a b v w},FrOk τ env a v->FrOk τ env b w->FrOk τ env (a++b) (v++w)
 | _,_,_,_,.nil,h=>h
 | _,_,_,_,.cons h d,c => .cons h (FrOk.app d c)
theorem BxOk.app:∀ {a b v w},BxOk τ env a v->BxOk τ env b w->BxOk τ env (a++b) (v++w)
 | _,_,_,_,.nil,h=>h
 | _,_,_,_,.cons h d,c => .cons h (BxOk.app d c)
theorem FrOk.get:∀ {a v},FrOk τ env a v->∀ i,Mt τ env (aHJ a i) (gets v i)
 | _,_,.nil,i => .any _
 | _,_,.cons (i:=j) (a:=b) (v:=w) (l:=l) (m:=m) h c,i=>by
  have:=FrOk.get c i;unfold aHJ gets at this ⊢;simp [look];grind
theorem BxOk.look:∀ {a v},BxOk τ env a v->∀ i,(look a i=none/\look v i=none)∨∃ x y,look a i=some x/\look v i=some y/\Mts τ env x y
 | _,_,.nil,i => .inl ⟨rfl,rfl⟩
 | _,_,.cons (i:=j) (a:=b) (v:=w) (l:=l) (m:=m) h c,i=>by
  simp only [Go.Ev.look];by_cases e:j=i;· grind
  simp only [e];exact BxOk.look c i
theorem BxOk.get {a v} (h:BxOk τ env a v) {i x} (c:Go.Ev.look a i=some x):∃ y,Go.Ev.look v i=some y/\Mts τ env x y:=by
 rcases h.look i with ⟨b,_⟩ | ⟨x',y,b,e,d⟩;all_goals grind
theorem BxOk.none {a v} (h:BxOk τ env a v) {i} (b:Go.Ev.look a i=none):Go.Ev.look v i=none:=by
 rcases h.look i with ⟨_,c⟩ | ⟨x',y,d,_,_⟩;all_goals grind
theorem BxOk.put {x y} (b:Mts τ env x y) i:∀ {a v},BxOk τ env a v->BxOk τ env (sZ.aputBox a i x) (sP v i y)
 | _,_,.nil => .nil
 | _,_,.cons (i:=j) h c=>by
  simp [sZ.aputBox,sP];by_cases e:j=i;· simp [e];exact .cons b c
  simp [e];exact .cons h (BxOk.put b i c)
theorem Mts.len:∀ {a v},Mts τ env a v->a.length=v.length
 | _,_,.nil=>rfl
 | _,_,.cons _ b=>by simp [Mts.len b]
theorem Mts.nth:∀ {a v},Mts τ env a v->∀ {i x},Go.Ev.nth a i=some x->∃ y,Go.Ev.nth v i=some y/\Mt τ env x y
 | _,_,.nil,i,x,h=>by simp [Go.Ev.nth] at h
 | _,_,.cons h b,0,x,e=>by cases e;exact ⟨_,rfl,h⟩
 | _,_,.cons h b,i+1,x,e=>Mts.nth b (i:=i) e
theorem Mts.app:∀ {a b v w},Mts τ env a v->Mts τ env b w->Mts τ env (a++b) (v++w)
 | _,_,_,_,.nil,h=>h
 | _,_,_,_,.cons h d,c => .cons h (Mts.app d c)
theorem Mts.drop:∀ {a v} n,Mts τ env a v->Mts τ env (a.drop n) (v.drop n)
 | _,_,0,h=>h
 | _,_,n+1,.nil=>by simpa using Mts.nil
 | _,_,n+1,.cons _ b=>Mts.drop n b
theorem Mts.take:∀ {a v} n,Mts τ env a v->Mts τ env (a.take n) (v.take n)
 | _,_,0,h=>by simpa using Mts.nil
 | _,_,n+1,.nil=>by simpa using Mts.nil
 | _,_,n+1,.cons h b => .cons h (Mts.take n b)
theorem Mts.putNth {x y} (b:Mt τ env x y):∀ {a v} n,Mts τ env a v->Mts τ env (Go.Ev.putNth a n x) (Go.Ev.putNth v n y)
 | _,_,0,.nil => .nil
 | _,_,n+1,.nil => .nil
 | _,_,0,.cons _ c => .cons b c
 | _,_,n+1,.cons h c => .cons h (Mts.putNth b n c)
theorem Mts.putAt:∀ {x y},Mts τ env x y->∀ {a v} n,Mts τ env a v->Mts τ env (Go.Ev.putAt a n x) (Go.Ev.putAt v n y)
 | _,_,.nil,_,_,n,h=>h
 | _,_,.cons b c,_,_,n,h=>Mts.putAt c (n+1) (Mts.putNth b n h)
theorem Mts.map {f g} (b:∀ {a v},Mt τ env a v->Mt τ env (f a) (g v)):∀ {a v},Mts τ env a v->Mts τ env (a.map f) (v.map g)
 | _,_,.nil => .nil
 | _,_,.cons h c => .cons (b h) (Mts.map b c)
theorem Mts.one {a v} (h:Mt τ env a v):Mts τ env [a] [v] := .cons h .nil
theorem Mt.plain1:∀ {a v},Mt τ env a v->Mt τ env a.plain1 v.plain1
 | _,_,.any v => .any _
 | _,_,.und => .und
 | _,_,.nm h c b=>by
  cases c with
  | bool=>exact .nm h (.bool _) b
  | int=>exact .nm h (.int _ _) b
  | rng e=>exact .nm h (.rng e) b
  | str d=>exact .nm h (.str d) b
  | sl=>simp [isSl] at b
 | _,_,.sl h g f c => .sl h g f c
 | _,_,.cn h => .cn h
 | _,_,.nil o => .nil false
 | _,_,.agg h => .agg h
 | _,_,.tup h => .tup h
 | _,_,.ref h => .ref h
 | _,_,.ptr i o => .ptr i o
theorem Mt.plainA:∀ {a v},Mt τ env a v->Mt τ env a.plainA v.plainA
 | _,_,.agg h => .agg (h.map Mt.plain1)
 | _,_,.any v => .any _
 | _,_,.und => .und
 | _,_,h@(.nm _ c b)=>by
  cases c with
  | bool=>exact h
  | int=>exact h
  | rng=>exact h
  | str=>exact h
  | sl=>simp [isSl] at b
 | _,_,h@(.sl ..)=>h.plain1
 | _,_,h@(.cn _)=>h
 | _,_,h@(.nil _)=>h.plain1
 | _,_,h@(.tup _)=>h
 | _,_,h@(.ref _)=>h
 | _,_,h@(.ptr _ _)=>h
theorem Mt.plain:∀ {a v},Mt τ env a v->Mt τ env a.plain v.plain
 | _,_,.tup h => .tup (h.map Mt.plainA)
 | _,_,.any v => .any _
 | _,_,.und => .und
 | _,_,h@(.nm _ c b)=>by
  cases c with
  | bool=>exact h
  | int=>exact h
  | rng=>exact h
  | str=>exact h
  | sl=>simp [isSl] at b
 | _,_,h@(.sl ..)=>h.plainA
 | _,_,h@(.cn _)=>h
 | _,_,h@(.nil _)=>h.plainA
 | _,_,h@(.agg _)=>h.plainA
 | _,_,h@(.ref _)=>h
 | _,_,h@(.ptr _ _)=>h
theorem Mt.atom v:Mt τ env (bBX v) (ofAtom v):=by
 unfold bBX ofAtom;split;· exact .cn rfl
 ·exact .nm rfl (.int _ _) rfl
 ·split;· rename_i h;exact .nm rfl (.str h) rfl
  exact .any _
 ·exact .nil true
 exact .any _
theorem Mts.atoms:∀ (l:List Value),Mts τ env (l.map bBX) (l.map ofAtom)
 | [] => .nil
 | v::l => .cons (.atom v) (Mts.atoms l)
theorem Mt.value v:Mt τ env (aX7 v) (ofValue v):=by
 unfold aX7 ofValue;split;· exact .agg (Mts.atoms _)
 split;· grind
 exact .atom v
theorem Mt.opd {a v} (h:FrOk τ env a v) x:Mt τ env (aopd a x) (Go.Ev.opd v x):=by
 cases x with
 | tmp t=>exact h.get t
 | const c=>exact .value c
 | global _=>exact .any _
 | func _=>exact .any _
theorem Mt.opv {a v} (h:FrOk τ env a v) b x:Mt τ env (aopv a b x) (Go.Ev.opv v b x):=by
 cases x with
 | tmp t =>
  cases b;· exact (h.get t).plain
  exact h.get t
 | const c=>exact .value c
 | global _=>exact .any _
 | func _=>exact .any _
theorem FrOk.left {a v} (h:FrOk τ env a v) b x:FrOk τ env (aQA a b x) (Go.Ev.left v b x):=by
 cases x with
 | tmp t =>
  cases b;· exact .nil
  exact .cons (h.get t).plain .nil
 | const c=>exact .nil
 | global _=>exact .nil
 | func _=>exact .nil
theorem FrOk.dst {a v} (h:Mt τ env a v) b d:FrOk τ env (adst b d a) (dstW b d v):=by
 cases d with
 | none=>exact .nil
 | some d =>
  unfold adst dstW;by_cases e:d<b;· simp [e];exact .cons h .nil
  simp [e];exact .nil
theorem aI7:∀ {c b fs},CnOk env c b->(∀ f,f∈fs->gN env f)->∀ f,f∈aD1 c b fs->gN env f
 | .cmp o x y,b,fs,⟨k,n,k',m,g,d,j⟩,i,f,a=>by
  cases o<;>cases b<;>simp [aD1] at a
  ·rcases a with rfl | a;· refine ⟨k',m,k,n,d,g,?_⟩;simp [CO.ev] at j ⊢;grind
   grind
  ·rcases a with rfl | a;· exact ⟨k,n,k',m,g,d,j⟩
   grind
  ·rcases a with rfl | a;· refine ⟨k',m,k,n,d,g,?_⟩;simp [CO.ev] at j ⊢;grind
   grind
  ·rcases a with rfl | a;· exact ⟨k,n,k',m,g,d,j⟩
   grind
  ·grind
  have e:n=m:=by
   simp [CO.ev] at j;grind
  subst e;rcases a with rfl | rfl | a;· exact ⟨k,n,k',n,g,d,by simp [CO.ev]⟩
  ·exact ⟨k',n,k,n,d,g,by simp [CO.ev]⟩
  grind
 | .not c,b,fs,h,i,f,a=>aI7 (c:=c) (b := !b) h i f (by simpa [aD1] using a)
 | .k _,b,fs,h,i,f,a=>i f (by simpa [aD1] using a)
 | .unk,b,fs,h,i,f,a=>i f (by simpa [aD1] using a)
theorem aYa:∀ {c b b'},aMs c=some b'->CnOk env c b->b=b'
 | .k _,b,b',h,a=>by simp [aMs] at h;rw [<- h];exact a
 | .not c,b,b',h,a=>by
  simp [aMs] at h;split at h;· rename_i x d;have:=aYa d a;simp_all
  grind
 | .cmp _ _ _,b,b',h,a=>by simp [aMs] at h
 | .unk,b,b',h,a=>by simp [aMs] at h
theorem aGI {fs f} (h:hasF fs f=true) (a:∀ f,f∈fs->gN env f):gN env f:=by
 unfold hasF at h;grind
def aDr (env:List PV) (x:Sx) (n:Int):Prop:=∃ k,den env x=some (.int k n)
theorem aDr.inj {x n m} (h:aDr env x n) (a:aDr env x m):n=m:=by
 obtain ⟨k,h⟩:=h;obtain ⟨k',a⟩:=a;grind
theorem aI8 {x y} (h:gN env (.lt,x,y)):∃ n m,aDr env x n/\aDr env y m/\n<m:=by
 obtain ⟨k,n,k',m,c,b,a⟩:=h;exact ⟨n,m,⟨k,c⟩,⟨k',b⟩,by simpa [CO.ev] using a.symm⟩
theorem zI {x y} (h:gN env (.le,x,y)):∃ n m,aDr env x n/\aDr env y m/\n<=m:=by
 obtain ⟨k,n,k',m,c,b,a⟩:=h;exact ⟨n,m,⟨k,c⟩,⟨k',b⟩,by simpa [CO.ev] using a.symm⟩
theorem aDr.lit {k n m} (h:aDr env (.lit k n) m):m=n:=by
 obtain ⟨k',h⟩:=h;simp [den] at h;omega
theorem aDr.len {p m} (h:aDr env (.len p) m):∃ v,den env p=some v/\m=lenOf v:=by
 obtain ⟨k',h⟩:=h;obtain ⟨v,hv,h⟩:=aB h;grind
theorem bJs {fs p a} (h:leB fs p a=true) (d:∀ f,f∈fs->gN env f):∃ v,den env p=some v/\lenOf v<=a:=by
 unfold leB at h;rw [aaZ] at h;obtain ⟨g,i,e⟩:=h;split at e;· obtain ⟨n,m,c,b,j⟩:=zI (d _ i);obtain ⟨v,hv,rfl⟩:=c.len;have:=b.lit;grind
 grind
theorem bB5 {fs x a} (h:ltB1 fs x a=true) (b:∀ f,f∈fs->gN env f):∃ n,aDr env x n/\n<a:=by
 unfold ltB1 at h;rw [aaZ] at h;obtain ⟨g,d,e⟩:=h;split at e;· rw [aa0,decide_eq_true_eq] at e;obtain ⟨rfl,l⟩:=e;obtain ⟨v,hv,o⟩:=bJs l b;obtain ⟨n,m,k,c,i⟩:=aI8 (b _ d);obtain ⟨p,j,rfl⟩:=c.len;grind
 ·obtain ⟨n,m,k,c,i⟩:=zI (b _ d);have:=c.lit;grind
 grind
theorem bGS {fs x a} (h:ltB fs x a=true) (b:∀ f,f∈fs->gN env f):∃ n,aDr env x n/\n<a:=by
 unfold ltB at h;rw [aay] at h;rcases h with h | h;· exact bB5 h b
 rw [aaZ] at h;obtain ⟨g,c,e⟩:=h;split at e;· rw [aa0,decide_eq_true_eq] at e;obtain ⟨rfl,i⟩:=e;obtain ⟨m,j,p⟩:=bB5 i b;obtain ⟨n,l,o,d,k⟩:=aI8 (b _ c);have:=j.inj d;grind
 grind
theorem aYb {fs x p} (h:bEI fs x p=true) (b:∀ f,f∈fs->gN env f):∃ n v,aDr env x n/\den env p=some v/\n<lenOf v:=by
 unfold bEI at h;rw [aaZ] at h;obtain ⟨g,j,e⟩:=h;split at e
 ·rw [aa0,decide_eq_true_eq] at e;obtain ⟨rfl,a⟩:=e;obtain ⟨n,m,r,d,q⟩:=aI8 (b _ j);rw [aay,aay,decide_eq_true_eq] at a;rcases a with (rfl | a) | a;· obtain ⟨v,hv,rfl⟩:=d.len;grind
  ·obtain ⟨o,l,c,i,k⟩:=zI (aGI a b);have:=d.inj c;obtain ⟨v,hv,rfl⟩:=i.len;grind
  obtain ⟨o,l,c,i,k⟩:=aI8 (aGI a b);have:=d.inj c;obtain ⟨v,hv,rfl⟩:=i.len;grind
 grind
theorem bB6:∀ {x fs k n},nnX fs x=true->(∀ f,f∈fs->gN env f)->den env x=some (.int k n)->(k = .i64∨∀ y,x ≠ .suc y)->0<=n
 | .lit _ _,fs,k,n,h,g,d,_=>by
  simp [nnX] at h;simp [den] at d;omega
 | .len p,fs,k,n,h,g,d,_=>by
  obtain ⟨v,hv,d⟩:=aB d;grind
 | .suc x,fs,k,n,h,g,d,o=>by
  simp [nnX] at h;obtain ⟨v,hv,d⟩:=aB d;split at d
  ·rename_i k' m;obtain ⟨rfl,rfl⟩:=d;rcases o with rfl | o
   ·have q:=bB6 h.1 g hv (.inl rfl);obtain ⟨s,i,j⟩:=bGS h.2 g;have:=i.inj ⟨_,hv⟩;have  := by have e:topL=1073741824:=rfl;omega
    rw [show IntKind.wrap .i64 (m+1)=m+1 by simp [IntKind.wrap,IntKind.bits];omega];omega
   grind
  grind
 | .root r,fs,k,n,h,g,d,_=>by
  obtain ⟨a,b,i,j,l⟩:=zI (aGI h g);have:=i.lit;have:=j.inj ⟨_,d⟩;omega
 | .cell p c,fs,k,n,h,g,d,_=>by
  obtain ⟨a,b,i,j,l⟩:=zI (aGI h g);have:=i.lit;have:=j.inj ⟨_,d⟩;omega
 | .elem p c,fs,k,n,h,g,d,_=>by
  obtain ⟨a,b,i,j,l⟩:=zI (aGI h g);have:=i.lit;have:=j.inj ⟨_,d⟩;omega
 | .txt p,fs,k,n,h,g,d,_=>by simp [den] at d
theorem aQE {fs m c i k z} (h:capX fs m i=some c) (l:∀ f,f∈fs->gN env f) (j:den env i=some (.int k z)):m*z.toNat<=c:=by
 unfold capX at h;split at h;· simp
 split at h;· simp [den] at j;grind
 split at h
 ·rename_i o y k' b d;cases h;have g:=List.find?_some d;have a:=abK d;split at g;· rename_i u r b' e;cases e;rw [decide_eq_true_eq] at g;subst g;obtain ⟨n,t,q,p,s⟩:=zI (l _ a);have:=p.lit;have:=q.inj ⟨_,j⟩;exact Nat.mul_le_mul_left _ (by omega)
  grind
 grind
theorem bGT {fs x d n} (h:loQ fs x d=true) (k:∀ f,f∈fs->gN env f) (c:aDr env x n):d<=n:=by
 unfold loQ at h;split at h;· have:=c.lit;grind
 rw [aaZ] at h;obtain ⟨g,l,e⟩:=h;split at e;· rw [aa0,decide_eq_true_eq,decide_eq_true_eq] at e;obtain ⟨rfl,o⟩:=e;obtain ⟨a,b,j,i,m⟩:=zI (k _ l);have:=j.lit;have:=i.inj c;omega
 grind
theorem bB7 {fs x j n} (h:hiQ1 fs x j=true) (k:∀ f,f∈fs->gN env f) (c:aDr env x n):n<=j:=by
 unfold hiQ1 at h;split at h;· have:=c.lit;grind
 rw [aaZ] at h;obtain ⟨g,l,e⟩:=h;split at e;· rw [aa0,decide_eq_true_eq,decide_eq_true_eq] at e;obtain ⟨rfl,o⟩:=e;obtain ⟨a,b,i,d,m⟩:=zI (k _ l);have:=d.lit;have:=i.inj c;omega
 ·rw [aa0,decide_eq_true_eq,decide_eq_true_eq] at e;obtain ⟨rfl,o⟩:=e;obtain ⟨a,b,i,d,m⟩:=aI8 (k _ l);have:=d.lit;have:=i.inj c;omega
 grind
theorem bGU {fs x i n} (h:hiQ fs x i=true) (c:∀ f,f∈fs->gN env f) (d:aDr env x n):n<=i:=by
 unfold hiQ at h;rw [aay] at h;rcases h with h | h;· exact bB7 h c d
 rw [aaZ] at h;obtain ⟨g,m,e⟩:=h;split at e;· rw [aa0,decide_eq_true_eq] at e;obtain ⟨rfl,l⟩:=e;obtain ⟨a,b,k,j,o⟩:=aI8 (c _ m);have:=k.inj d;have:=bB7 l c j;omega
 grind
theorem bHE {fs c b} (h:notQ fs c=true) (g:CnOk env c b) (d:∀ f,f∈fs->gN env f):b=false:=by
 unfold notQ at h;split at h
 ·obtain ⟨j,n,i,m,a,e,rfl⟩:=g;have k:=aDr.lit ⟨_,e⟩;rw [aay] at h;simp only [CO.ev];rw [beq_eq_false_iff_ne];rcases h with h | h;· have:=bGU h d ⟨_,a⟩;omega
  have:=bGT h d ⟨_,a⟩;omega
 grind
theorem bB8 {a fs K v} (h:aBr a fs K=true) (g:Mt τ env a v) (e:∀ f,f∈fs->gN env f):∃ b c,v = .bool b/\K b c=true/\(∀ f,f∈c->gN env f):=by
 unfold aBr at h;split at h
 ·cases g with
  | cn d =>
   rename_i b;split at h;· rename_i b' j;have:=aYa j d;grind
   split at h;· rename_i i;have:=bHE i d e;grind
   rw [aa0] at h;cases b with
   | true=>exact ⟨_,_,rfl,h.1,aI7 d e⟩
   | false=>exact ⟨_,_,rfl,h.2,aI7 d e⟩
 ·cases g with
  | nm m k l =>
   cases k with
   | bool b =>
    cases b with
    | true=>grind
    | false=>grind
 grind
end Go.Ev
