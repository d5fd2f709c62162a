import Derived.Test.YtphmfillajagdaaGreatWc
import Derived.Test.YtphmfillajagdaaGreatEx
import Derived.Test.YtphmfillajagdaaGreatWa
import Derived.Test.YtphmfillajagdaaGreatGc
import Derived.KernelRfl
import Derived.Test.YtphmfillajagdaaGreatGa
import Derived.Test.YtphmfillajagdaaGreatRows
import Derived.WalkKit
import Derived.ProofKit
import Derived.OpenShut
import Derived.JoinedCond
import Derived.Test.YtphmfillajagdaaGreatEd
set_option maxRecDepth 100000
set_option linter.unusedVariables false
set_option linter.unusedSimpArgs false
set_option linter.unusedSimpArgs false
open Go Go.Ev Go.RowKit
namespace Go.Proofs.YtphmfillajagdaaGreat
abbrev pvS (s:GSchema):PV := .agg [(.slice (List.map aK s.defs) [] false),(.str s.query),(.str s.mutation)]
abbrev pvD (d:GDoc):PV := .agg [(.slice (List.map bL d.ops) [] false),(.slice (List.map aJ d.frags) [] false)]
theorem aZ6 {M:Mem} {B:BM} {es:List PV} {o:Bool} {a:Option Addr} {n p:Nat} (h:Rv M B (.slice es [] o) (.slice a n p)):n=es.length:=by cases h<;>rfl
def at_:List Value→Nat→Value
 | [],_=>undef
 | v::_,0=>v
 | _::l,n+1=>at_ l n
def AllL:Nat→(List Value→Prop)→Prop
 | 0,P=>P []
 | n+1,P=>∀ v,AllL n fun l=>P (v::l)
theorem lA:∀ (n:Nat) (P:List Value→Prop),AllL n P→∀ l,l.length=n→P l
 | 0,P,h,l,e=>by cases l with | nil=>exact h | cons v l=>simp at e
 | n+1,P,h,l,e=>by
  cases l with
  | nil=>simp at e
  | cons v l=>exact lA n (fun l=>P (v::l)) (h v) l (by simpa using e)
theorem aJC:∀ (l:List Value) (i:Nat),l.toArray.getD i undef=at_ l i
 | [],i=>by simp [at_]
 | v::l,0=>by simp [at_]
 | v::l,i+1=>by have:=aJC l i;simpa [at_] using this
def FV (l:List Value):List (Nat×Value)→Prop
 | []=>True
 | (i,v)::r=>at_ l i=v∧FV l r
abbrev ptr (Z:Nat):Value := .pointer (some ⟨Z,0,none⟩)
theorem DS.shut {m B E:Nat} {M:Mem} {w:World} {ops:List GOp} {frags:List GFrag} {va vf:Value} {ys zs:List Value} {u2 u3 u4:Value} (h:DS m B E M w ops frags va ys vf zs u2 u3 u4) (hc:Cons M w):∃ M',(∀ b i v,M b i=some v→M' b i=some v)∧Cons M' w∧Rv M' noB (.agg [(.slice (List.map bL ops) [] false),(.slice (List.map aJ frags) [] false)]) (.agg #[va,vf])∧∀ b,¬ (va.ownBlock=some b∨vf.ownBlock=some b∨Own2 u4 b)→∀ i,M' b i=M b i:=by
 obtain ⟨h1,h2⟩:=h.mrk _ (List.getElem?_eq_getElem h.isx)
 obtain ⟨M1,m1,c1,hcv,f1⟩:=h1.frz hc
 have c2:=aDN (v:=va) c1
 have m2:=pB (v:=va) c1
 have c3:=aDN (v:=vf) c2
 have m3:=pB (v:=vf) c2
 have hA:OpAt M1 ops ys:=by
  refine ⟨h.rowsA.1,fun i x hx => ?_⟩
  obtain ⟨v2,v3,v4,k1,k2⟩:=h.rowsA.2 i x hx
  refine ⟨v2,v3,v4,?_,k2⟩
  rcases k1 with ⟨rfl,rfl,rfl,rfl⟩ | ⟨_,k1⟩
  ·rw [List.getElem?_eq_getElem h.isx] at hx
   cases hx
   exact hcv
  ·exact k1.mono m1
 have rA:=aJA hA h.ownA m2 aDP
 have rF:=aJB (h.rows.mono m1).at' h.own (fun b i v hv=>m3 b i v (m2 b i v hv)) aDP
 refine ⟨frzV vf (frzV va M1 w) w,fun b i v hv=>m3 b i v (m2 b i v (m1 b i v hv)),c3,.agg _ _ (fun i=>(#[va,vf]:Array Value).getD i undef) rfl (fun i hi => ?_) (fun i c hcc => ?_),fun b hb i => ?_⟩
 ·match i,hi with
  | 0,_=>rfl
  | 1,_=>rfl
 ·match i,hcc with
  | 0,hcc=>cases hcc;exact rA.mono m3 (fun _ _ _ h=>h)
  | 1,hcc=>cases hcc;exact rF
 ·rw [uU (fun e=>hb (.inr (.inl e))),uU (fun e=>hb (.inl e)),f1 b (fun e=>hb (.inr (.inr e)))]
structure Put (B E:Nat) (M:Mem) (w:World) (M':Mem) (w':World):Prop where
 mem:∀ b i v,M b i=some v→M' b i=some v
 nx:∀ k,k<w.heap.size→(k<B∨E≤k)→w'.heap[k]?=w.heap[k]?∧∀ i,M' k i=M k i
 os:w'.os=w.os
 tape:w'.tape=w.tape
 output:w'.output=w.output
 size:w.heap.size≤w'.heap.size
 cons:Cons M' w'
theorem OwnL.leaf {B:Nat} {M:Mem} {w:World} {sels:List GSel} {g n cap:Nat} (h:OwnL B M w 44 7 (List.map aF sels) (.slice (some ⟨g,0,none⟩) n cap)) {k:Nat} {y:GSel} (hy:sels[k]?=some y):OwnL B M (w.setCell ⟨g,k*7+6,none⟩ (.slice none 0 0)) 44 7 (List.map aF (sels.set k (aN8 y))) (.slice (some ⟨g,0,none⟩) n cap):=by
 obtain ⟨ys,ho,hr⟩:=h.own
 rw [List.length_map] at ho
 obtain ⟨ga,cap',e⟩:=aA1 ho
 obtain ⟨rfl,rfl⟩:n=sels.length∧cap=cap':=by injection e with e1 e2 e3;exact ⟨e2,e3⟩
 have hk:=(List.getElem?_eq_some_iff.1 hy).1
 have hl:=ho.1
 have ho':=aRr ho (k*7+6) (.slice none 0 0) (by omega)
 refine ⟨⟨ys.set (k*7+6) (.slice none 0 0),by rw [List.length_map,List.length_set];exact ho',fun i p j c h1 h2 => ?_⟩,fun p hp => ?_,h.free⟩
 ·rw [List.getElem?_map] at h1
  by_cases hik:i=k
  ·subst hik
   rw [List.getElem?_set_self hk] at h1
   cases h1
   have h3:=hr i (aF y) j
   rw [fF] at h2 h3
   have hj:j<7:=by have:=(List.getElem?_eq_some_iff.1 h2).1;simpa [PV.cells] using this
   have key:∀ j c,j<6→(PV.cells (.agg [(i6 y.kind),(.str y.alias),(.str y.name),(.slice (List.map aD y.args) [] false),(.slice (List.map aU y.dirs) [] false),(.str y.on_),(.slice (List.map aF y.sels) [] false)]))[j]?=some c→∃ u,(ys.set (i*7+6) (.slice none 0 0))[i*7+j]?=some u∧Rv M noB c u:=fun j c hj hcc=>by
    obtain ⟨u,e1,e2⟩:=hr i (aF y) j c (by rw [List.getElem?_map,hy];rfl) (by rw [fF];exact hcc)
    exact ⟨u,by rw [List.getElem?_set_ne (by omega)];exact e1,e2⟩
   match j,hj,h2 with
   | 0,_,h2=>exact key 0 c (by omega) h2
   | 1,_,h2=>exact key 1 c (by omega) h2
   | 2,_,h2=>exact key 2 c (by omega) h2
   | 3,_,h2=>exact key 3 c (by omega) h2
   | 4,_,h2=>exact key 4 c (by omega) h2
   | 5,_,h2=>exact key 5 c (by omega) h2
   | 6,_,h2=>cases h2;exact ⟨_,List.getElem?_set_self (by omega),.nil _⟩
  ·rw [List.getElem?_set_ne (fun e=>hik e.symm)] at h1
   have hj:j<7:=by
    cases hz:sels[i]? with
    | none=>rw [hz] at h1;cases h1
    | some z =>
     rw [hz] at h1
     cases h1
     rw [fF] at h2
     have:=(List.getElem?_eq_some_iff.1 h2).1
     simpa [PV.cells] using this
   obtain ⟨u,e1,e2⟩:=hr i p j c (by rw [List.getElem?_map];exact h1) h2
   exact ⟨u,by rw [List.getElem?_set_ne (by omega)];exact e1,e2⟩
 ·obtain ⟨z,_,rfl⟩:=List.mem_map.1 hp
  exact aA2 z
theorem aZC {m B E:Nat} {M:Mem} {w:World} {ops:List GOp} {frags:List GFrag} {va vf:Value} {ys zs:List Value} {u2 u3:Value} {g n4 cap4:Nat} (h:DS m B E M w ops frags va ys vf zs u2 u3 (.slice (some ⟨g,0,none⟩) n4 cap4)) (hE:E≤w.heap.size) {x:GOp} (hx:ops[m]?=some x) {k:Nat} {y:GSel} (hy:x.sels[k]?=some y) (hc:Cons M w) :
  ∃ M',Put B E M w M' (w.setCell ⟨g,k*7+6,none⟩ (.slice none 0 0))∧Rv M' noB (pvD (docL ⟨ops,frags⟩ m x k y)) (.agg #[va,vf]):=by
 obtain ⟨h1,h2⟩:=h.mrk x hx
 obtain ⟨_,_,_,_,_,_,_,e4⟩:=h.at_
 have hg:=h.hi g (.inr (.inr rfl))
 have hne:=(h2 g rfl).1
 have hbl:∀ b,b≠g→(w.setCell ⟨g,k*7+6,none⟩ (.slice none 0 0)).heap[b]?=w.heap[b]?:=fun b hb=>Below.heap_setCell _ _ _ _ hb
 have hsz:(w.setCell ⟨g,k*7+6,none⟩ (.slice none 0 0)).heap.size=w.heap.size:=by simp only [World.setCell,Array.size_modify]
 have hcf:Cons M (w.setCell ⟨g,k*7+6,none⟩ (.slice none 0 0)):=kA hc fun b hb ⟨i,hi⟩=>hbl b fun e=>hi (by rw [e];exact h1.o4.free g rfl i)
 have hd:=h.put4 hE hx (x.sels.set k (aN8 y)) (fun _ _ _ h=>h) (fun _ _ _=>rfl) (fun b hb e1 e2=>hbl b (fun e=>e2 (by rw [e];rfl))) (by rw [aLs e4];exact kB h.ownA fun b hb=>hbl b (fun e=>hne (by rw [← e];exact hb))) (h1.o4.leaf hy) (fun _ hk => .inl hk) (Nat.le_of_eq hsz.symm)
 obtain ⟨M',m1,c,rv,off⟩:=hd.shut hcf
 refine ⟨M',⟨m1,fun b hb hr=>⟨hbl b (by omega),off b fun e => ?_⟩,rfl,rfl,rfl,Nat.le_of_eq hsz.symm,c⟩,rv⟩
 have:=h.hi b e
 omega
theorem DS.form {m B E:Nat} {M:Mem} {w:World} {ops:List GOp} {frags:List GFrag} {va vf:Value} {ys zs:List Value} {u2 u3 u4:Value} (h:DS m B E M w ops frags va ys vf zs u2 u3 u4) {x:GOp} (hx:ops[m]?=some x) {k:Nat} (hk:k<x.sels.length) :
  ∃ gA capA g cap,va = .slice (some ⟨gA,0,none⟩) ops.length capA∧u4 = .slice (some ⟨g,0,none⟩) x.sels.length cap∧w.cell? ⟨gA,m*5+4,none⟩=some u4∧(∃ v,w.cell? ⟨g,k*7+6,none⟩=some v)∧w.frozen? ⟨g,k*7+6,none⟩=false∧gA<E∧g<E:=by
 obtain ⟨h1,h2⟩:=h.mrk x hx
 obtain ⟨gA,n,capA,rfl,rfl,_,_,e4⟩:=h.at_
 obtain ⟨c1,_⟩:=aS6 h.ownA e4
 obtain ⟨ys4,ho,_⟩:=h1.o4.own
 rw [List.length_map] at ho
 have hl:=ho.1
 rcases ho.2 with ⟨e,h0⟩ | ⟨g,cap,cur,e,_⟩
 ·omega
 ·subst e
  obtain ⟨c2,f2⟩:=aS6 ho (j:=k*7+6) (List.getElem?_eq_getElem (by omega))
  exact ⟨gA,capA,g,cap,rfl,rfl,c1,⟨_,c2⟩,f2,(h.hi gA (.inl rfl)).2,(h.hi g (.inr (.inr rfl))).2⟩
structure Cl (M:Mem) (w:World) (M1:Mem) (w1:World):Prop where
 b:Below w.heap.size w w1
 m:∀ b i v,M b i=some v→M1 b i=some v
 o:∀ b,b<w.heap.size→∀ i,M1 b i=M b i
 c:Cons M1 w1
theorem Cl.refl {M:Mem} {w:World} (hc:Cons M w):Cl M w M w:=⟨Below.refl _ _,fun _ _ _ h=>h,fun _ _ _=>rfl,hc⟩
theorem Cl.start {M:Mem} {w:World} (hc:Cons M w):Cl M w M w.drew:=⟨(Below.refl _ _).drew,fun _ _ _ h=>h,fun _ _ _=>rfl,aDS hc⟩
theorem Cl.al {M M1:Mem} {w w1:World} (h:Cl M w M1 w1) (o:Obj):Cl M w M1 (w1.alloc o):=⟨h.b.trans ((Below.refl _ _).alloc h.b.size o),h.m,h.o,aA0 h.c ((Below.refl _ _).alloc (Nat.le_refl _) o)⟩
theorem Cl.q {M M1 M2:Mem} {w w1 w2:World} (h:Cl M w M1 w1) (q:Quiet M1 w1 M2 w2) (c:Cons M2 w2):Cl M w M2 w2 :=
 ⟨h.b.trans ⟨q.os,q.tape,q.output,q.size,fun b hb=>(q.old b (by have:=h.b.size;omega)).1⟩,fun b i v hv=>q.mem b i v (h.m b i v hv),fun b hb i=>((q.old b (by have:=h.b.size;omega)).2 i).trans (h.o b hb i),c⟩
theorem Cl.from {M M1 M2:Mem} {w w1 w2:World} (h:Cl M w M1 w1) (q:From w.heap.size M1 w1 M2 w2) (c:Cons M2 w2):Cl M w M2 w2 :=
 ⟨h.b.trans q.below,fun b i v hv=>q.mem b i v (h.m b i v hv),fun b hb i=>(q.old b hb i).trans (h.o b hb i),c⟩
theorem bCq {w:World} {b:Nat} {p:Obj} (o:Obj) (h:w.heap[b]?=some p):(w.alloc o).heap[b]?=some p:=(heap_alloc_old w o (Array.getElem?_eq_some_iff.1 h).1).trans h
theorem bBe (w:World) (o p:Obj):((w.alloc o).alloc p).heap[w.heap.size+1]?=some p:=by
 have:=heap_alloc_new (w.alloc o) p
 simpa using this
theorem Cl.box {M M':Mem} {w w':World} {b:Nat} {o:Obj} (h:Cl M w M' w') (hb:w.heap[b]?=some o):w'.heap[b]?=some o:=(h.b.block b (Array.getElem?_eq_some_iff.1 hb).1).trans hb
open Go Go.Ev Go.Ev.PV Go.RowKit
theorem aRt (s:GSchema) (d:GDoc) (v:Bool) (h:iD s d=some v) {M:Mem} {w:World} (S D:Value) (hc:Cons M w) (hS:Rv M noB (pvS s) S) (hD:Rv M noB (pvD d) D) :
  Calls Tryz.prog 21 #[S,D] w fun e w'=>∃ M',e = .returned (.bool v)∧Cons M' w'∧Quiet M w M' w':=by
 have hk:=h
 unfold iD at hk
 have hs:O 21 [pvS s,pvD d] []=some (.bool v,[]):=bU (enc:=fun r=>(aA r,[])) hk
 have key:=jH pokX xok hs (M:=M) (w:=w) (vals := #[S,D]) rfl hc ⟨rfl,fun i p hp=>by
  match i,hp with
  | 0,hp=>cases hp;exact ⟨hS,aT rfl⟩
  | 1,hp=>cases hp;exact ⟨hD,aT rfl⟩
  | i+2,hp=>simp at hp⟩
 refine key.mono ?_
 rintro e w' ⟨u,M',rfl,hv,hc',hq⟩
 cases hv
 exact ⟨M',rfl,hc',hq⟩
theorem aRu (s:GSchema) (v:Int) (h:sG s=some v) {M:Mem} {w:World} (S:Value) (hc:Cons M w) (hS:Rv M noB (pvS s) S) :
  Calls Tryz.prog 10 #[S] w fun e w'=>∃ M',e = .returned (.int .i64 v)∧Cons M' w'∧Quiet M w M' w':=by
 have hk:=h
 unfold sG at hk
 have hs:O 10 [pvS s] []=some (.int .i64 v,[]):=bU (enc:=fun r=>(cM r,[])) hk
 have key:=jH pokX xok hs (M:=M) (w:=w) (vals := #[S]) rfl hc ⟨rfl,fun i p hp=>by
  match i,hp with
  | 0,hp=>cases hp;exact ⟨hS,aT rfl⟩
  | i+1,hp=>simp at hp⟩
 refine key.mono ?_
 rintro e w' ⟨u,M',rfl,hv,hc',hq⟩
 cases hv
 exact ⟨M',rfl,hc',hq⟩
theorem aUS (s:GSchema) (d:GDoc) (n:Int) (v:Bool) (h:aG3 s d n=some v) {M:Mem} {w:World} (S D:Value) (hc:Cons M w) (hS:Rv M noB (pvS s) S) (hD:Rv M noB (pvD d) D) :
  Calls Tryz.prog 11 #[S,D,.int .i64 n] w fun e w'=>∃ M',e = .returned (.bool v)∧Cons M' w'∧Quiet M w M' w':=by
 have hk:=h
 unfold aG3 at hk
 have hs:O 11 [pvS s,pvD d,.int .i64 n] []=some (.bool v,[]):=bU (enc:=fun r=>(aA r,[])) hk
 have key:=jH pokX xok hs (M:=M) (w:=w) (vals := #[S,D,.int .i64 n]) rfl hc ⟨rfl,fun i p hp=>by
  match i,hp with
  | 0,hp=>cases hp;exact ⟨hS,aT rfl⟩
  | 1,hp=>cases hp;exact ⟨hD,aT rfl⟩
  | 2,hp=>cases hp;exact ⟨.int _ _,aT rfl⟩
  | i+3,hp=>simp at hp⟩
 refine key.mono ?_
 rintro e w' ⟨u,M',rfl,hv,hc',hq⟩
 cases hv
 exact ⟨M',rfl,hc',hq⟩
theorem aJD (s:GSchema) (d:GDoc) (n:Int) (v:Bool) (h:tH s d n=some v) {M:Mem} {w:World} (S D:Value) (hc:Cons M w) (hS:Rv M noB (pvS s) S) (hD:Rv M noB (pvD d) D) :
  Calls Tryz.prog 24 #[S,D,.int .i64 n] w fun e w'=>∃ M',e = .returned (.bool v)∧Cons M' w'∧Quiet M w M' w':=by
 have hk:=h
 unfold tH at hk
 have hs:O 24 [pvS s,pvD d,.int .i64 n] []=some (.bool v,[]):=bU (enc:=fun r=>(aA r,[])) hk
 have key:=jH pokX xok hs (M:=M) (w:=w) (vals := #[S,D,.int .i64 n]) rfl hc ⟨rfl,fun i p hp=>by
  match i,hp with
  | 0,hp=>cases hp;exact ⟨hS,aT rfl⟩
  | 1,hp=>cases hp;exact ⟨hD,aT rfl⟩
  | 2,hp=>cases hp;exact ⟨.int _ _,aT rfl⟩
  | i+3,hp=>simp at hp⟩
 refine key.mono ?_
 rintro e w' ⟨u,M',rfl,hv,hc',hq⟩
 cases hv
 exact ⟨M',rfl,hc',hq⟩
theorem aLt (l:List GSel) (v:List Str) (h:qA l=some v) {M:Mem} {w:World} (L:Value) (hc:Cons M w) (hL:Rv M noB (.slice (List.map aF l) [] false) L) :
  Calls Tryz.prog 23 #[L] w fun e w'=>∃ a p M',e = .returned (.slice a v.length p)∧Cons M' w'∧Quiet M w M' w':=by
 have hk:=h
 unfold qA at hk
 have hs:O 23 [.slice (List.map aF l) [] false] []=some (.slice (List.map PV.str v) [] false,[]):=bU (enc:=fun r=>(cN r,[])) hk
 have key:=jH pokX xok hs (M:=M) (w:=w) (vals := #[L]) rfl hc ⟨rfl,fun i p hp=>by
  match i,hp with
  | 0,hp=>cases hp;exact ⟨hL,aT rfl⟩
  | i+1,hp=>simp at hp⟩
 refine key.mono ?_
 rintro e w' ⟨u,M',rfl,hv,hc',hq⟩
 obtain ⟨a,n,p,rfl⟩:=jE hv
 obtain rfl:n=v.length:=by have:=aZ6 hv;simpa using this
 exact ⟨a,p,M',rfl,hc',hq⟩
theorem aCH:kI=some true:=aA6 100 (by kernel_rfl)
theorem wJ {M:Mem} {w:World} (hc:Cons M w):Calls Tryz.prog 22 #[] w fun e w'=>∃ M',e = .returned (.bool true)∧Cons M' w'∧Quiet M w M' w':=by
 have hk:kI=some true:=aCH
 unfold kI at hk
 have hs:O 22 [] []=some (.bool true,[]):=bU (enc:=fun r=>(aA r,[])) hk
 have key:=jH pokX xok hs (M:=M) (w:=w) (vals := #[]) rfl hc ⟨rfl,fun i p hp=>by simp at hp⟩
 refine key.mono ?_
 rintro e w' ⟨v,M',rfl,hv,hc',hq⟩
 cases hv
 exact ⟨M',rfl,hc',hq⟩
open Go Go.Ev Go.RowKit
noncomputable def a0F:Code:=fstC (bE Tryz.f6)
noncomputable def guF:Code:=fstC (sndC (bE Tryz.f6))
noncomputable def r3F:Code:=fstC (fstC (sndC (sndC (bE Tryz.f6))))
noncomputable def enF:Code:=sndC (sndC (sndC (bE Tryz.f6)))
noncomputable def lbF:Code:=lopC (blkC (sndC (fstC (sndC (sndC (bE Tryz.f6))))))
noncomputable def h4F:Code:=fstC lbF
noncomputable def r5F:Code:=sndC (sndC lbF)
noncomputable def c1F:Code:=blkC (fstC (sndC lbF))
noncomputable def r6F:Code:=fstC c1F
noncomputable def l2F:Code:=lopC (blkC (sndC c1F))
noncomputable def h7F:Code:=fstC l2F
noncomputable def r8F:Code:=sndC (sndC l2F)
noncomputable def bdF:Code:=blkC (fstC (sndC l2F))
noncomputable def b9F:Code:=fstC bdF
noncomputable def b10F:Code:=fstC (sndC bdF)
noncomputable def b11F:Code:=fstC (sndC (sndC bdF))
noncomputable def b12F:Code:=fstC (sndC (sndC (sndC bdF)))
noncomputable def b13F:Code:=sndC (sndC (sndC (sndC bdF)))
noncomputable def rdF:Code := .seq b9F (.seq b10F (.seq b11F (.seq b12F b13F)))
noncomputable def inF:Code := .seq h7F (.seq (.block 3 rdF) r8F)
noncomputable def ouF:Code := .seq h4F (.seq (.block 1 (.seq r6F (.block 2 (.loop inF)))) r5F)
theorem bCr:Tryz.f6.body=some (.seq a0F (.seq guF (.seq (.seq r3F (.block 0 (.loop ouF))) enF))):=by kernel_rfl
set_option maxHeartbeats 8000000 in
theorem r3L (w:World) (e2 e3:Value) (Q:Exit→Act→World→Prop) (fr:List Value) (hlen:fr.length=89) (g:FV fr [(2,e2),(3,e3)]) (hC:∀ l':List Value,l'.length=89→FV l' [(2,e2),(3,e3),(5,.int .i64 0)]→Q .normal ⟨l'.toArray,[]⟩ w):Code.wp Tryz.prog r3F Q ⟨fr.toArray,[]⟩ w:=by
 replace hC:=(id hC:Hid _)
 revert g
 refine lA 89 (fun fr=>FV fr _→Code.wp Tryz.prog _ _ ⟨fr.toArray,[]⟩ _) ?_ fr hlen
 simp only [AllL]
 iterate 89 intro _
 rintro ⟨g2,g3,_⟩
 simp only [at_] at g2 g3
 subst g2 g3
 unfold r3F
 simp only [lbF,c1F,l2F,bdF,Tryz.f6,bE,fstC,sndC,blkC,lopC]
 go_wp2
 refine hC.out _ ?_ ?_
 ·rfl
 ·exact ⟨rfl,rfl,rfl,trivial⟩
set_option maxHeartbeats 8000000 in
theorem r6L (w:World) (e2 e3 e5:Value) (Q:Exit→Act→World→Prop) (fr:List Value) (hlen:fr.length=89) (g:FV fr [(2,e2),(3,e3),(5,e5)]) (hC:∀ l':List Value,l'.length=89→FV l' [(2,e2),(3,e3),(5,e5),(6,.int .i64 0)]→Q .normal ⟨l'.toArray,[]⟩ w):Code.wp Tryz.prog r6F Q ⟨fr.toArray,[]⟩ w:=by
 replace hC:=(id hC:Hid _)
 revert g
 refine lA 89 (fun fr=>FV fr _→Code.wp Tryz.prog _ _ ⟨fr.toArray,[]⟩ _) ?_ fr hlen
 simp only [AllL]
 iterate 89 intro _
 rintro ⟨g2,g3,g5,_⟩
 simp only [at_] at g2 g3 g5
 subst g2 g3 g5
 unfold r6F
 simp only [lbF,c1F,l2F,bdF,Tryz.f6,bE,fstC,sndC,blkC,lopC]
 go_wp2
 refine hC.out _ ?_ ?_
 ·rfl
 ·exact ⟨rfl,rfl,rfl,rfl,trivial⟩
set_option maxHeartbeats 8000000 in
theorem r5L (w:World) (e2 e3:Value) (i:Nat) (hi:i<1073741824) (Q:Exit→Act→World→Prop) (fr:List Value) (hlen:fr.length=89) (g:FV fr [(2,e2),(3,e3),(5,.int .i64 (i:Nat))]) (hC:∀ l':List Value,l'.length=89→FV l' [(2,e2),(3,e3),(5,.int .i64 ((i+1:Nat):Int))]→Q .normal ⟨l'.toArray,[]⟩ w):Code.wp Tryz.prog r5F Q ⟨fr.toArray,[]⟩ w:=by
 replace hC:=(id hC:Hid _)
 revert g
 refine lA 89 (fun fr=>FV fr _→Code.wp Tryz.prog _ _ ⟨fr.toArray,[]⟩ _) ?_ fr hlen
 simp only [AllL]
 iterate 89 intro _
 rintro ⟨g2,g3,g5,_⟩
 simp only [at_] at g2 g3 g5
 subst g2 g3 g5
 unfold r5F
 simp only [lbF,c1F,l2F,bdF,Tryz.f6,bE,fstC,sndC,blkC,lopC]
 go_wp2
 refine hC.out _ ?_ ?_
 ·rfl
 ·refine ⟨rfl,rfl,?_,trivial⟩
  simp only [at_]
  go_num
set_option maxHeartbeats 8000000 in
theorem r8L (w:World) (e2 e3 e5:Value) (i:Nat) (hi:i<1073741824) (Q:Exit→Act→World→Prop) (fr:List Value) (hlen:fr.length=89) (g:FV fr [(2,e2),(3,e3),(5,e5),(6,.int .i64 (i:Nat))]) (hC:∀ l':List Value,l'.length=89→FV l' [(2,e2),(3,e3),(5,e5),(6,.int .i64 ((i+1:Nat):Int))]→Q .normal ⟨l'.toArray,[]⟩ w):Code.wp Tryz.prog r8F Q ⟨fr.toArray,[]⟩ w:=by
 replace hC:=(id hC:Hid _)
 revert g
 refine lA 89 (fun fr=>FV fr _→Code.wp Tryz.prog _ _ ⟨fr.toArray,[]⟩ _) ?_ fr hlen
 simp only [AllL]
 iterate 89 intro _
 rintro ⟨g2,g3,g5,g6,_⟩
 simp only [at_] at g2 g3 g5 g6
 subst g2 g3 g5 g6
 unfold r8F
 simp only [lbF,c1F,l2F,bdF,Tryz.f6,bE,fstC,sndC,blkC,lopC]
 go_wp2
 refine hC.out _ ?_ ?_
 ·rfl
 ·refine ⟨rfl,rfl,rfl,?_,trivial⟩
  simp only [at_]
  go_num
set_option maxHeartbeats 8000000 in
theorem h4L (w:World) (Y:Nat) (e2:Value) (a b:Option Addr) (N p q r i:Nat) (hY:w.heap[Y]?=some (.cells #[.slice a N p,.slice b q r] 28 (0,0))) (hi:i≤N) (hN:N<1073741824) (Q:Exit→Act→World→Prop) (fr:List Value) (hlen:fr.length=89) (g:FV fr [(2,e2),(3,ptr Y),(5,.int .i64 i)]) (hE:i=N→∀ l':List Value,l'.length=89→FV l' [(2,e2),(3,ptr Y)]→Q (.exit 0) ⟨l'.toArray,[]⟩ w) (hC:i<N→∀ l':List Value,l'.length=89→FV l' [(2,e2),(3,ptr Y),(5,.int .i64 i)]→Q .normal ⟨l'.toArray,[]⟩ w):Code.wp Tryz.prog h4F Q ⟨fr.toArray,[]⟩ w:=by
 have k0:w.cell? ⟨Y,0,none⟩=some (.slice a N p):=by rw [cell_of_row w Y 0 _ _ _ hY];rfl
 replace hC:=(id hC:Hid _)
 replace hE:=(id hE:Hid _)
 clear hY
 revert g
 refine lA 89 (fun fr=>FV fr _→Code.wp Tryz.prog _ _ ⟨fr.toArray,[]⟩ _) ?_ fr hlen
 simp only [AllL]
 iterate 89 intro _
 rintro ⟨g2,g3,g5,_⟩
 simp only [at_] at g2 g3 g5
 subst g2 g3 g5
 unfold h4F
 simp only [lbF,c1F,l2F,bdF,Tryz.f6,bE,fstC,sndC,blkC,lopC]
 by_cases hlt:i<N
 ·go_wp2
  refine hC.out hlt _ ?_ ?_
  ·rfl
  ·exact ⟨rfl,rfl,rfl,trivial⟩
 ·go_wp2
  refine hE.out (by omega) _ ?_ ?_
  ·rfl
  ·exact ⟨rfl,rfl,trivial⟩
set_option maxHeartbeats 8000000 in
theorem h7L (w:World) (Y:Nat) (e2:Value) (blk off N p q r i:Nat) (b oa:Option Addr) (n cap:Nat) (j:Nat) (hY:w.heap[Y]?=some (.cells #[.slice (some ⟨blk,off,none⟩) N p,.slice b q r] 28 (0,0))) (hi:i<N) (hN:N<1073741824) (k4:w.cell? ⟨blk,off+i*5+4,none⟩=some (.slice oa n cap)) (hj:j≤n) (hn:n<1073741824) (Q:Exit→Act→World→Prop) (fr:List Value) (hlen:fr.length=89) (g:FV fr [(2,e2),(3,ptr Y),(5,.int .i64 i),(6,.int .i64 j)]) (hE:j=n→∀ l':List Value,l'.length=89→FV l' [(2,e2),(3,ptr Y),(5,.int .i64 i)]→Q (.exit 2) ⟨l'.toArray,[]⟩ w) (hC:j<n→∀ l':List Value,l'.length=89→FV l' [(2,e2),(3,ptr Y),(5,.int .i64 i),(6,.int .i64 j)]→Q .normal ⟨l'.toArray,[]⟩ w):Code.wp Tryz.prog h7F Q ⟨fr.toArray,[]⟩ w:=by
 have k0:w.cell? ⟨Y,0,none⟩=some (.slice (some ⟨blk,off,none⟩) N p):=by rw [cell_of_row w Y 0 _ _ _ hY];rfl
 replace hC:=(id hC:Hid _)
 replace hE:=(id hE:Hid _)
 clear hY
 revert g
 refine lA 89 (fun fr=>FV fr _→Code.wp Tryz.prog _ _ ⟨fr.toArray,[]⟩ _) ?_ fr hlen
 simp only [AllL]
 iterate 89 intro _
 rintro ⟨g2,g3,g5,g6,_⟩
 simp only [at_] at g2 g3 g5 g6
 subst g2 g3 g5 g6
 unfold h7F
 simp only [lbF,c1F,l2F,bdF,Tryz.f6,bE,fstC,sndC,blkC,lopC]
 by_cases hlt:j<n
 ·go_wp2
  refine hC.out hlt _ ?_ ?_
  ·rfl
  ·exact ⟨rfl,rfl,rfl,rfl,trivial⟩
 ·go_wp2
  refine hE.out (by omega) _ ?_ ?_
  ·rfl
  ·exact ⟨rfl,rfl,rfl,trivial⟩
set_option maxHeartbeats 8000000 in
theorem b9L (w:World) (Y:Nat) (e2:Value) (blk off N p q r i:Nat) (b:Option Addr) (n cap:Nat) (j B2 O2:Nat) (y:GSel) (v3 v4:Value) (a6:Option Addr) (n6 p6:Nat) (hY:w.heap[Y]?=some (.cells #[.slice (some ⟨blk,off,none⟩) N p,.slice b q r] 28 (0,0))) (hi:i<N) (hN:N<1073741824) (k4:w.cell? ⟨blk,off+i*5+4,none⟩=some (.slice (some ⟨B2,O2,none⟩) n cap)) (hj:j<n) (hn:n<1073741824) (hx:∀ c v,(aAm y v3 v4 (.slice a6 n6 p6))[c]?=some v→w.cell? ⟨B2,O2+j*7+c,none⟩=some v) (i3:∃ a n c,v3 = .slice a n c) (i4:∃ a n c,v4 = .slice a n c) (Q:Exit→Act→World→Prop) (fr:List Value) (hlen:fr.length=89) (g:FV fr [(2,e2),(3,ptr Y),(5,.int .i64 i),(6,.int .i64 j)]) (hC:∀ l':List Value,l'.length=89→FV l' [(2,e2),(3,ptr Y),(5,.int .i64 i),(6,.int .i64 j),(7,ptr w.heap.size)]→Q .normal ⟨l'.toArray,[]⟩ (w.alloc (.cells (aAm y v3 v4 (.slice a6 n6 p6)).toArray 44))):Code.wp Tryz.prog b9F Q ⟨fr.toArray,[]⟩ w:=by
 obtain ⟨a3,n3,c3,rfl⟩:=i3
 obtain ⟨a4,n4,c4,rfl⟩:=i4
 have k0:w.cell? ⟨Y,0,none⟩=some (.slice (some ⟨blk,off,none⟩) N p):=by rw [cell_of_row w Y 0 _ _ _ hY];rfl
 have x0:w.cell? ⟨B2,O2+j*7,none⟩=some (.int .i64 y.kind):=hx 0 _ rfl
 have x1:w.cell? ⟨B2,O2+j*7+1,none⟩=some (.string ⟨y.alias.toArray⟩):=hx 1 _ rfl
 have x2:w.cell? ⟨B2,O2+j*7+2,none⟩=some (.string ⟨y.name.toArray⟩):=hx 2 _ rfl
 have x3:w.cell? ⟨B2,O2+j*7+3,none⟩=some (.slice a3 n3 c3):=hx 3 _ rfl
 have x4:w.cell? ⟨B2,O2+j*7+4,none⟩=some (.slice a4 n4 c4):=hx 4 _ rfl
 have x5:w.cell? ⟨B2,O2+j*7+5,none⟩=some (.string ⟨y.on_.toArray⟩):=hx 5 _ rfl
 have x6:w.cell? ⟨B2,O2+j*7+6,none⟩=some (.slice a6 n6 p6):=hx 6 _ rfl
 replace hC:=(id hC:Hid _)
 clear hY hx
 revert g
 refine lA 89 (fun fr=>FV fr _→Code.wp Tryz.prog _ _ ⟨fr.toArray,[]⟩ _) ?_ fr hlen
 simp only [AllL]
 iterate 89 intro _
 rintro ⟨g2,g3,g5,g6,_⟩
 simp only [at_] at g2 g3 g5 g6
 subst g2 g3 g5 g6
 unfold b9F
 simp only [lbF,c1F,l2F,bdF,Tryz.f6,bE,fstC,sndC,blkC,lopC]
 go_wp2
 refine hC.out _ ?_ ?_
 ·rfl
 ·exact ⟨rfl,rfl,rfl,rfl,rfl,trivial⟩
set_option maxHeartbeats 8000000 in
theorem b10L {M:Mem} {w:World} (Y Z:Nat) (e2 e5 e6:Value) (y:GSel) (v3 v4:Value) (a6:Option Addr) (n6 p6:Nat) (u:List Str) (hu:u.length<1073741824) (hc:Cons M w) (hZ:w.heap[Z]?=some (.cells (aAm y v3 v4 (.slice a6 n6 p6)).toArray 44 (0,0)))
  (h23:Hid (∀ (M':Mem) (w':World),Cl M w M' w'→Calls Tryz.prog 23 #[.slice a6 n6 p6] w' fun e w''=>∃ a p M'',e = .returned (.slice a u.length p)∧Cons M'' w''∧Quiet M' w' M'' w''))
  (Q:Exit→Act→World→Prop) (fr:List Value) (hlen:fr.length=89) (g:FV fr [(2,e2),(3,ptr Y),(5,e5),(6,e6),(7,ptr Z)])
  (hE:∀ (M':Mem) (w':World) (l':List Value),l'.length=89→Cl M w M' w'→FV l' [(2,e2),(3,ptr Y),(5,e5),(6,e6)]→Q (.exit 3) ⟨l'.toArray,[]⟩ w')
  (hC:y.kind=0→n6≠0→∀ (M':Mem) (w':World) (l':List Value),l'.length=89→Cl M w M' w'→FV l' [(2,e2),(3,ptr Y),(5,e5),(6,e6)]→Q .normal ⟨l'.toArray,[]⟩ w') :
  Code.wp Tryz.prog b10F Q ⟨fr.toArray,[]⟩ w:=by
 have k0:w.cell? ⟨Z,0,none⟩=some (.int .i64 y.kind):=by rw [cell_of_row w Z 0 _ _ _ hZ];rfl
 have k6:w.cell? ⟨Z,6,none⟩=some (.slice a6 n6 p6):=by rw [cell_of_row w Z 6 _ _ _ hZ];rfl
 have cl0:Hid (Cl M w M w):=Cl.refl hc
 replace hC:=(id hC:Hid _)
 replace hE:=(id hE:Hid _)
 clear hZ hc
 revert g
 refine lA 89 (fun fr=>FV fr _→Code.wp Tryz.prog _ _ ⟨fr.toArray,[]⟩ _) ?_ fr hlen
 simp only [AllL]
 iterate 89 intro _
 rintro ⟨g2,g3,g5,g6,g7,_⟩
 simp only [at_] at g2 g3 g5 g6 g7
 subst g2 g3 g5 g6 g7
 unfold b10F
 simp only [lbF,c1F,l2F,bdF,Tryz.f6,bE,fstC,sndC,blkC,lopC]
 by_cases hk:y.kind=0
 case neg =>
  go_wp2
  refine hE.out M w _ ?_ cl0.out ?_
  ·rfl
  ·exact ⟨rfl,rfl,rfl,rfl,trivial⟩
 by_cases hn:n6=0
 case pos =>
  subst hn
  go_wp2
  refine hE.out M w _ ?_ cl0.out ?_
  ·rfl
  ·exact ⟨rfl,rfl,rfl,rfl,trivial⟩
 have hni:¬ ((n6:Int)=0):=by omega
 by_cases hu0:u.length=0
 case neg =>
  have hup:(0:Int)<(u.length:Int):=by omega
  go_wp2_with (first | (go_at_call 23;refine (h23.out _ _ cl0.out).mono ?_;rintro e' w1 ⟨a1,p1,M1,rfl,hc1,hq1⟩;have cl1:Hid _:=cl0.out.q hq1 hc1;clear hq1 hc1))
  refine hE.out M1 w1 _ ?_ cl1.out ?_
  ·rfl
  ·exact ⟨rfl,rfl,rfl,rfl,trivial⟩
 rw [hu0] at h23
 go_wp2_with (first | (go_at_call 23;refine (h23.out _ _ cl0.out).mono ?_;rintro e' w1 ⟨a1,p1,M1,rfl,hc1,hq1⟩;have cl1:Hid _:=cl0.out.q hq1 hc1;clear hq1 hc1))
 refine hC.out hk hn M1 w1 _ ?_ cl1.out ?_
 ·rfl
 ·exact ⟨rfl,rfl,rfl,rfl,trivial⟩
set_option maxHeartbeats 8000000 in
theorem b11L (d:GDoc) (m:Nat) (M:Mem) (w:World) (Y:Nat) (e2 e5 e6:Value) (a b:Option Addr) (l p q r:Nat) (hd:jL d≤1048576) (hm:m<d.ops.length) (hc:Cons M w) (hra:Rv M noB (.slice (List.map bL d.ops) [] false) (.slice a l p)) (hrb:Rv M noB (.slice (List.map aJ d.frags) [] false) (.slice b q r)) (hY:w.heap[Y]?=some (.cells #[.slice a l p,.slice b q r] 28 (0,0))) (Q:Exit→Act→World→Prop) (fr:List Value) (hlen:fr.length=89) (g:FV fr [(2,e2),(3,ptr Y),(5,e5),(6,e6)])
  (hC:∀ (M':Mem) (w':World) (E Z:Nat) (va vf:Value) (ys zs:List Value) (u2 u3 u4:Value) (l':List Value),l'.length=89→DS m w.heap.size E M' w' d.ops d.frags va ys vf zs u2 u3 u4→E≤Z→w'.heap[Z]?=some (.cells #[va,vf] 28 (0,0))→(∃ a n c,vf = .slice a n c)→Cons M' w'→From w.heap.size M w M' w'→FV l' [(2,e2),(3,ptr Y),(5,e5),(6,e6),(8,ptr Z)]→Q .normal ⟨l'.toArray,[]⟩ w') :
  Code.wp Tryz.prog b11F Q ⟨fr.toArray,[]⟩ w:=by
 have k0:w.cell? ⟨Y,0,none⟩=some (.slice a l p):=by rw [cell_of_row w Y 0 _ _ _ hY];rfl
 have k1:w.cell? ⟨Y,1,none⟩=some (.slice b q r):=by rw [cell_of_row w Y 1 _ _ _ hY];rfl
 have fin:Hid (∀ (M1:Mem) (w1:World) (ga:Option Addr) (n gc:Nat) (ys:List Value) (gb:Option Addr) (m2 gd:Nat) (zs:List Value) (u2 u3 u4:Value) (l':List Value),DQ m u2 u3 u4 M w M1 w1 d.ops d.frags (.slice ga n gc) ys (.slice gb m2 gd) zs→l'.length=89→FV l' [(2,e2),(3,ptr Y),(5,e5),(6,e6),(8,ptr w1.heap.size)]→Q .normal ⟨l'.toArray,[]⟩ (w1.alloc (.cells #[.slice ga n gc,.slice gb m2 gd] 28))):=by
  intro M1 w1 ga n gc ys gb m2 gd zs u2 u3 u4 l' hq h0 hf
  have hD:=hq.ds hm
  have hb:Below w1.heap.size w1 (w1.alloc (.cells #[.slice ga n gc,.slice gb m2 gd] 28)):=(Below.refl _ _).alloc (Nat.le_refl _) _
  have hs1:=hq.frm.below.size
  exact hC M1 _ w1.heap.size w1.heap.size _ _ ys zs u2 u3 u4 l' h0 (hD.move (fun _ _ _ h=>h) (fun k _ hk=>hb.block k hk) (fun _ _ _ _=>rfl)) (Nat.le_refl _) (heap_alloc_new w1 _) ⟨_,_,_,rfl⟩ (aA0 hq.cons hb) (hq.frm.trans (From.of_below ((Below.refl _ _).alloc hs1 _))) hf
 clear hC hY
 revert g
 refine lA 89 (fun fr=>FV fr _→Code.wp Tryz.prog _ _ ⟨fr.toArray,[]⟩ _) ?_ fr hlen
 simp only [AllL]
 iterate 89 intro _
 rintro ⟨g2,g3,g5,g6,_⟩
 simp only [at_] at g2 g3 g5 g6
 subst g2 g3 g5 g6
 unfold b11F
 simp only [lbF,c1F,l2F,bdF,Tryz.f6,bE,fstC,sndC,blkC,lopC]
 go_wp2_with (go_at_call 13;refine (aZB m d M w (.slice a l p) (.slice b q r) hd hc hra hrb).mono ?_;rintro e' w1 ⟨M1,ga,gc,ys,gb,gd,zs,u2,u3,u4,rfl,hq⟩)
 refine fin.out _ _ _ _ _ _ _ _ _ _ _ _ _ _ hq ?_ ?_
 ·rfl
 ·exact ⟨rfl,rfl,rfl,rfl,rfl,trivial⟩
set_option maxHeartbeats 8000000 in
theorem b12L {B E:Nat} {M:Mem} {w:World} {ops:List GOp} {frags:List GFrag} {va vf:Value} {ys zs:List Value} {u2 u3 u4:Value} (Z:Nat) (e2 e3:Value) (i j:Nat) (hDS:DS i B E M w ops frags va ys vf zs u2 u3 u4) (hE:E≤w.heap.size) {x:GOp} (hx:ops[i]?=some x) {y:GSel} (hy:x.sels[j]?=some y) (hc:Cons M w) (hZ:w.heap[Z]?=some (.cells #[va,vf] 28 (0,0))) (hN:ops.length<1073741824) (hn:x.sels.length<1073741824) (Q:Exit→Act→World→Prop) (fr:List Value) (hlen:fr.length=89) (g:FV fr [(2,e2),(3,e3),(5,.int .i64 i),(6,.int .i64 j),(8,ptr Z)])
  (hC:∀ (M':Mem) (w':World) (l':List Value),l'.length=89→Put B E M w M' w'→Rv M' noB (pvD (docL ⟨ops,frags⟩ i x j y)) (.agg #[va,vf])→FV l' [(2,e2),(3,e3),(5,.int .i64 i),(6,.int .i64 j),(8,ptr Z)]→Q .normal ⟨l'.toArray,[]⟩ w') :
  Code.wp Tryz.prog b12F Q ⟨fr.toArray,[]⟩ w:=by
 have hi:=(List.getElem?_eq_some_iff.1 hx).1
 have hj:=(List.getElem?_eq_some_iff.1 hy).1
 obtain ⟨gA,capA,g4,cap4,rfl,rfl,c4,⟨v6,c6⟩,f6,_,_⟩:=hDS.form hx hj
 have k0:w.cell? ⟨Z,0,none⟩=some (.slice (some ⟨gA,0,none⟩) ops.length capA):=by rw [cell_of_row w Z 0 _ _ _ hZ];rfl
 obtain ⟨M',hP,hR⟩:=aZC hDS hE hx hy hc
 have fin:Hid (∀ (l':List Value),l'.length=89→FV l' [(2,e2),(3,e3),(5,.int .i64 i),(6,.int .i64 j),(8,ptr Z)]→Q .normal ⟨l'.toArray,[]⟩ (w.setCell ⟨g4,j*7+6,none⟩ (.slice none 0 0))):=fun l' h1 h2=>hC M' _ l' h1 hP hR h2
 obtain ⟨N,eN⟩:∃ N,ops.length=N:=⟨_,rfl⟩
 obtain ⟨n,en⟩:∃ n,x.sels.length=n:=⟨_,rfl⟩
 rw [eN] at hi k0 hN
 rw [en] at hj c4 hn
 clear hC hZ hP hR hDS hE hx hy hc
 revert g
 refine lA 89 (fun fr=>FV fr _→Code.wp Tryz.prog _ _ ⟨fr.toArray,[]⟩ _) ?_ fr hlen
 simp only [AllL]
 iterate 89 intro _
 rintro ⟨g2,g3,g5,g6,g8,_⟩
 simp only [at_] at g2 g3 g5 g6 g8
 subst g2 g3 g5 g6 g8
 unfold b12F
 simp only [lbF,c1F,l2F,bdF,Tryz.f6,bE,fstC,sndC,blkC,lopC]
 go_wp2
 refine fin.out _ ?_ ?_
 ·rfl
 ·exact ⟨rfl,rfl,rfl,rfl,rfl,trivial⟩
set_option maxHeartbeats 8000000 in
theorem b13L {M:Mem} {w:World} (X Y Z:Nat) (e5 e6:Value) (xs:Option Addr) (ls ps:Nat) (sq sm:Str) (va vf:Value) (hc:Cons M w) (hX:w.heap[X]?=some (.cells #[.slice xs ls ps,.string ⟨sq.toArray⟩,.string ⟨sm.toArray⟩] 24 (0,0))) (hZ:w.heap[Z]?=some (.cells #[va,vf] 28 (0,0))) (i0:∃ a n c,va = .slice a n c) (i1:∃ a n c,vf = .slice a n c)
  (h9:Hid (∀ (M':Mem) (w':World),Cl M w M' w'→Calls Tryz.prog 24 #[.agg #[.slice xs ls ps,.string ⟨sq.toArray⟩,.string ⟨sm.toArray⟩],.agg #[va,vf],.int .i64 9] w' fun e w''=>∃ M'',e = .returned (.bool true)∧Cons M'' w''∧Quiet M' w' M'' w''))
  (h10:Hid (∀ (M':Mem) (w':World),Cl M w M' w'→Calls Tryz.prog 24 #[.agg #[.slice xs ls ps,.string ⟨sq.toArray⟩,.string ⟨sm.toArray⟩],.agg #[va,vf],.int .i64 10] w' fun e w''=>∃ M'',e = .returned (.bool false)∧Cons M'' w''∧Quiet M' w' M'' w''))
  (Q:Exit→Act→World→Prop) (fr:List Value) (hlen:fr.length=89) (g:FV fr [(2,ptr X),(3,ptr Y),(5,e5),(6,e6),(8,ptr Z)])
  (hC:∀ (M':Mem) (w':World) (l':List Value),l'.length=89→Cl M w M' w'→FV l' [(2,ptr X),(3,ptr Y),(5,e5),(6,e6)]→Q .normal ⟨l'.toArray,[]⟩ w') :
  Code.wp Tryz.prog b13F Q ⟨fr.toArray,[]⟩ w:=by
 obtain ⟨a0,n0,c0,rfl⟩:=i0
 obtain ⟨a1,n1,c1,rfl⟩:=i1
 have hbx:Hid (∀ w':World,Below w.heap.size w w'→w'.cell? ⟨X,0,none⟩=some (.slice xs ls ps)∧w'.cell? ⟨X,1,none⟩=some (.string ⟨sq.toArray⟩)∧w'.cell? ⟨X,2,none⟩=some (.string ⟨sm.toArray⟩)∧w'.cell? ⟨Z,0,none⟩=some (.slice a0 n0 c0)∧w'.cell? ⟨Z,1,none⟩=some (.slice a1 n1 c1)):=by
  intro w' hb
  have hl:∀ b o,w.heap[b]?=some o→w'.heap[b]?=some o:=fun b o h=>(hb.block b (Array.getElem?_eq_some_iff.1 h).1).trans h
  exact ⟨by rw [cell_of_row w' X 0 _ _ _ (hl _ _ hX)];rfl,by rw [cell_of_row w' X 1 _ _ _ (hl _ _ hX)];rfl,by rw [cell_of_row w' X 2 _ _ _ (hl _ _ hX)];rfl,by rw [cell_of_row w' Z 0 _ _ _ (hl _ _ hZ)];rfl,by rw [cell_of_row w' Z 1 _ _ _ (hl _ _ hZ)];rfl⟩
 obtain ⟨k0,k1,k2,k3,k4⟩:=hbx.out w (Below.refl _ _)
 replace hC:=(id hC:Hid _)
 have cl0:Hid (Cl M w M w):=Cl.refl hc
 clear hX hZ hc
 revert g
 refine lA 89 (fun fr=>FV fr _→Code.wp Tryz.prog _ _ ⟨fr.toArray,[]⟩ _) ?_ fr hlen
 simp only [AllL]
 iterate 89 intro _
 rintro ⟨g2,g3,g5,g6,g8,_⟩
 simp only [at_] at g2 g3 g5 g6 g8
 subst g2 g3 g5 g6 g8
 unfold b13F
 simp only [lbF,c1F,l2F,bdF,Tryz.f6,bE,fstC,sndC,blkC,lopC]
 go_wp2_with (first | (go_at_call_of 24 (.int .i64 9:Value);refine (h9.out _ _ cl0.out).mono ?_;rintro e' w1 ⟨M1,rfl,hc1,hq1⟩;have cl1:Hid _:=cl0.out.q hq1 hc1;obtain ⟨k1_0,k1_1,k1_2,k1_3,k1_4⟩:=hbx.out _ cl1.out.b;clear hq1 hc1) | (go_at_call_of 24 (.int .i64 10:Value);refine (h10.out _ _ cl1.out).mono ?_;rintro e' w2 ⟨M2,rfl,hc2,hq2⟩;have cl2:Hid _:=cl1.out.q hq2 hc2;obtain ⟨k2_0,k2_1,k2_2,k2_3,k2_4⟩:=hbx.out _ cl2.out.b;clear hq2 hc2))
 refine hC.out M2 w2 _ ?_ cl2.out ?_
 ·rfl
 ·exact ⟨rfl,rfl,rfl,rfl,trivial⟩
set_option maxHeartbeats 8000000 in
theorem guL {M:Mem} {w:World} (X Y:Nat) (xs:Option Addr) (ls ps:Nat) (sq sm:Str) (a b:Option Addr) (l p q r:Nat) (b9:Bool) (c10:Int) (k11:Bool) (hc:Cons M w) (hX:w.heap[X]?=some (.cells #[.slice xs ls ps,.string ⟨sq.toArray⟩,.string ⟨sm.toArray⟩] 24 (0,0))) (hY:w.heap[Y]?=some (.cells #[.slice a l p,.slice b q r] 28 (0,0)))
  (h9:Hid (∀ (M':Mem) (w':World),Cl M w M' w'→Calls Tryz.prog 21 #[.agg #[.slice xs ls ps,.string ⟨sq.toArray⟩,.string ⟨sm.toArray⟩],.agg #[.slice a l p,.slice b q r]] w' fun e w''=>∃ M'',e = .returned (.bool b9)∧Cons M'' w''∧Quiet M' w' M'' w''))
  (h10:Hid (∀ (M':Mem) (w':World),Cl M w M' w'→Calls Tryz.prog 10 #[.agg #[.slice xs ls ps,.string ⟨sq.toArray⟩,.string ⟨sm.toArray⟩]] w' fun e w''=>∃ M'',e = .returned (.int .i64 c10)∧Cons M'' w''∧Quiet M' w' M'' w''))
  (h11:Hid (∀ (M':Mem) (w':World),Cl M w M' w'→Calls Tryz.prog 11 #[.agg #[.slice xs ls ps,.string ⟨sq.toArray⟩,.string ⟨sm.toArray⟩],.agg #[.slice a l p,.slice b q r],.int .i64 11] w' fun e w''=>∃ M'',e = .returned (.bool k11)∧Cons M'' w''∧Quiet M' w' M'' w''))
  (Q:Exit→Act→World→Prop) (fr:List Value) (hlen:fr.length=89) (g:FV fr [(2,ptr X),(3,ptr Y)])
  (hR:∀ (M':Mem) (w':World) (l':List Value),l'.length=89→Cl M w M' w'→FV l' [(4,.bool true)]→Q .ret ⟨l'.toArray,[]⟩ w')
  (hN:b9=true→c10=0→k11=true→∀ (M':Mem) (w':World) (l':List Value),l'.length=89→Cl M w M' w'→FV l' [(2,ptr X),(3,ptr Y)]→Q .normal ⟨l'.toArray,[]⟩ w') :
  Code.wp Tryz.prog guF Q ⟨fr.toArray,[]⟩ w:=by
 have hbx:Hid (∀ w':World,Below w.heap.size w w'→w'.cell? ⟨X,0,none⟩=some (.slice xs ls ps)∧w'.cell? ⟨X,1,none⟩=some (.string ⟨sq.toArray⟩)∧w'.cell? ⟨X,2,none⟩=some (.string ⟨sm.toArray⟩)∧w'.cell? ⟨Y,0,none⟩=some (.slice a l p)∧w'.cell? ⟨Y,1,none⟩=some (.slice b q r)):=by
  intro w' hb
  have hl:∀ b o,w.heap[b]?=some o→w'.heap[b]?=some o:=fun b o h=>(hb.block b (Array.getElem?_eq_some_iff.1 h).1).trans h
  exact ⟨by rw [cell_of_row w' X 0 _ _ _ (hl _ _ hX)];rfl,by rw [cell_of_row w' X 1 _ _ _ (hl _ _ hX)];rfl,by rw [cell_of_row w' X 2 _ _ _ (hl _ _ hX)];rfl,by rw [cell_of_row w' Y 0 _ _ _ (hl _ _ hY)];rfl,by rw [cell_of_row w' Y 1 _ _ _ (hl _ _ hY)];rfl⟩
 obtain ⟨k0,k1,k2,k3,k4⟩:=hbx.out w (Below.refl _ _)
 replace hR:=(id hR:Hid _)
 replace hN:=(id hN:Hid _)
 have cl0:Hid (Cl M w M w):=Cl.refl hc
 clear hX hY hc
 revert g
 refine lA 89 (fun fr=>FV fr _→Code.wp Tryz.prog _ _ ⟨fr.toArray,[]⟩ _) ?_ fr hlen
 simp only [AllL]
 iterate 89 intro _
 rintro ⟨g2,g3,_⟩
 simp only [at_] at g2 g3
 subst g2 g3
 unfold guF
 simp only [lbF,c1F,l2F,bdF,Tryz.f6,bE,fstC,sndC,blkC,lopC]
 cases b9 with
 | false =>
  go_wp2_with (first | (go_at_call 21;refine (h9.out _ _ cl0.out).mono ?_;rintro e' w1 ⟨M1,rfl,hc1,hq1⟩;have cl1:Hid _:=cl0.out.q hq1 hc1;obtain ⟨k1_0,k1_1,k1_2,k1_3,k1_4⟩:=hbx.out _ cl1.out.b;clear hq1 hc1) | (go_at_call 22;refine (wJ cl1.out.c).mono ?_;rintro e' w2 ⟨M2,rfl,hc2,hq2⟩;have cl2:Hid _:=cl1.out.q hq2 hc2;obtain ⟨k2_0,k2_1,k2_2,k2_3,k2_4⟩:=hbx.out _ cl2.out.b;clear hq2 hc2))
  exact hR.out M2 w2 _ rfl cl2.out ⟨rfl,trivial⟩
 | true =>
  by_cases hc0:c10=0
  case neg =>
   go_wp2_with (first | (go_at_call 21;refine (h9.out _ _ cl0.out).mono ?_;rintro e' w1 ⟨M1,rfl,hc1,hq1⟩;have cl1:Hid _:=cl0.out.q hq1 hc1;obtain ⟨k1_0,k1_1,k1_2,k1_3,k1_4⟩:=hbx.out _ cl1.out.b;clear hq1 hc1) | (go_at_call 10;refine (h10.out _ _ cl1.out).mono ?_;rintro e' w2 ⟨M2,rfl,hc2,hq2⟩;have cl2:Hid _:=cl1.out.q hq2 hc2;obtain ⟨k2_0,k2_1,k2_2,k2_3,k2_4⟩:=hbx.out _ cl2.out.b;clear hq2 hc2) | (go_at_call 22;refine (wJ cl2.out.c).mono ?_;rintro e' w3 ⟨M3,rfl,hc3,hq3⟩;have cl3:Hid _:=cl2.out.q hq3 hc3;obtain ⟨k3_0,k3_1,k3_2,k3_3,k3_4⟩:=hbx.out _ cl3.out.b;clear hq3 hc3))
   exact hR.out M3 w3 _ rfl cl3.out ⟨rfl,trivial⟩
  subst hc0
  cases k11 with
  | false =>
   go_wp2_with (first | (go_at_call 21;refine (h9.out _ _ cl0.out).mono ?_;rintro e' w1 ⟨M1,rfl,hc1,hq1⟩;have cl1:Hid _:=cl0.out.q hq1 hc1;obtain ⟨k1_0,k1_1,k1_2,k1_3,k1_4⟩:=hbx.out _ cl1.out.b;clear hq1 hc1) | (go_at_call 10;refine (h10.out _ _ cl1.out).mono ?_;rintro e' w2 ⟨M2,rfl,hc2,hq2⟩;have cl2:Hid _:=cl1.out.q hq2 hc2;obtain ⟨k2_0,k2_1,k2_2,k2_3,k2_4⟩:=hbx.out _ cl2.out.b;clear hq2 hc2) | (go_at_call 11;refine (h11.out _ _ cl2.out).mono ?_;rintro e' w3 ⟨M3,rfl,hc3,hq3⟩;have cl3:Hid _:=cl2.out.q hq3 hc3;obtain ⟨k3_0,k3_1,k3_2,k3_3,k3_4⟩:=hbx.out _ cl3.out.b;clear hq3 hc3) | (go_at_call 22;refine (wJ cl3.out.c).mono ?_;rintro e' w4 ⟨M4,rfl,hc4,hq4⟩;have cl4:Hid _:=cl3.out.q hq4 hc4;obtain ⟨k4_0,k4_1,k4_2,k4_3,k4_4⟩:=hbx.out _ cl4.out.b;clear hq4 hc4))
   exact hR.out M4 w4 _ rfl cl4.out ⟨rfl,trivial⟩
  | true =>
   go_wp2_with (first | (go_at_call 21;refine (h9.out _ _ cl0.out).mono ?_;rintro e' w1 ⟨M1,rfl,hc1,hq1⟩;have cl1:Hid _:=cl0.out.q hq1 hc1;obtain ⟨k1_0,k1_1,k1_2,k1_3,k1_4⟩:=hbx.out _ cl1.out.b;clear hq1 hc1) | (go_at_call 10;refine (h10.out _ _ cl1.out).mono ?_;rintro e' w2 ⟨M2,rfl,hc2,hq2⟩;have cl2:Hid _:=cl1.out.q hq2 hc2;obtain ⟨k2_0,k2_1,k2_2,k2_3,k2_4⟩:=hbx.out _ cl2.out.b;clear hq2 hc2) | (go_at_call 11;refine (h11.out _ _ cl2.out).mono ?_;rintro e' w3 ⟨M3,rfl,hc3,hq3⟩;have cl3:Hid _:=cl2.out.q hq3 hc3;obtain ⟨k3_0,k3_1,k3_2,k3_3,k3_4⟩:=hbx.out _ cl3.out.b;clear hq3 hc3))
   exact hN.out (by first | rfl | trivial) (by first | rfl | trivial) (by first | rfl | trivial) M3 w3 _ rfl cl3.out ⟨rfl,rfl,trivial⟩
set_option maxHeartbeats 8000000 in
theorem enL {M:Mem} {w:World} (hc:Cons M w) (e2:Value) (Q:Exit→Act→World→Prop) (fr:List Value) (hlen:fr.length=89) (g:FV fr [(2,e2)])
  (hR:∀ (M':Mem) (w':World) (l':List Value),l'.length=89→Cl M w M' w'→FV l' [(4,.bool true)]→Q .ret ⟨l'.toArray,[]⟩ w') :
  Code.wp Tryz.prog enF Q ⟨fr.toArray,[]⟩ w:=by
 replace hR:=(id hR:Hid _)
 have cl0:Hid (Cl M w M w):=Cl.refl hc
 clear hc
 revert g
 refine lA 89 (fun fr=>FV fr _→Code.wp Tryz.prog _ _ ⟨fr.toArray,[]⟩ _) ?_ fr hlen
 simp only [AllL]
 iterate 89 intro _
 rintro ⟨g2,_⟩
 simp only [at_] at g2
 subst g2
 unfold enF
 simp only [lbF,c1F,l2F,bdF,Tryz.f6,bE,fstC,sndC,blkC,lopC]
 go_wp2_with (first | (go_at_call 22;refine (wJ cl0.out.c).mono ?_;rintro e' w1 ⟨M1,rfl,hc1,hq1⟩;have cl1:Hid _:=cl0.out.q hq1 hc1;clear hq1 hc1))
 exact hR.out M1 w1 _ rfl cl1.out ⟨rfl,trivial⟩
theorem Cl.frm {n:Nat} {M M':Mem} {w w':World} (h:Cl M w M' w') (hn:n≤w.heap.size):From n M w M' w' :=
 ⟨h.m,fun b hb i=>h.o b (by omega) i,h.b.os,h.b.tape,h.b.output,h.b.size,fun b hb=>h.b.block b (by omega)⟩
theorem Put.frm {B E n:Nat} {M M':Mem} {w w':World} (h:Put B E M w M' w') (hB:n≤B) (hn:n≤w.heap.size):From n M w M' w' :=
 ⟨h.mem,fun b hb i=>(h.nx b (by omega) (.inl (by omega))).2 i,h.os,h.tape,h.output,h.size,fun b hb=>(h.nx b (by omega) (.inl (by omega))).1⟩
theorem From.of_le {n m:Nat} {M M':Mem} {w w':World} (h:From m M w M' w') (hn:n≤m):From n M w M' w' :=
 ⟨h.mem,fun b hb i=>h.old b (by omega) i,h.below.os,h.below.tape,h.below.output,h.below.size,fun b hb=>h.below.block b (by omega)⟩
theorem From.box {n:Nat} {M M':Mem} {w w':World} {b:Nat} {o:Obj} (h:From n M w M' w') (hb:w.heap[b]?=some o) (hr:b<n):w'.heap[b]?=some o:=(h.below.block b hr).trans hb
theorem Put.box {B E:Nat} {M M':Mem} {w w':World} {b:Nat} {o:Obj} (h:Put B E M w M' w') (hb:w.heap[b]?=some o) (hr:b<B∨E≤b):w'.heap[b]?=some o:=(h.nx b (Array.getElem?_eq_some_iff.1 hb).1 hr).1.trans hb
theorem Cl.of {M M':Mem} {w w':World} (h:From w.heap.size M w M' w') (c:Cons M' w'):Cl M w M' w':=⟨h.below,h.mem,h.old,c⟩
theorem Cl.trans {M M1 M2:Mem} {w w1 w2:World} (h:Cl M w M1 w1) (h':Cl M1 w1 M2 w2):Cl M w M2 w2 := .of ((h.frm (Nat.le_refl _)).trans (h'.frm h.b.size)) h'.c
structure Bx (s:GSchema) (d:GDoc) (X Y:Nat) (xs:Option Addr) (ls ps:Nat) (blk off p:Nat) (b:Option Addr) (q r:Nat) (M:Mem) (w:World):Prop where
 c:Cons M w
 x:w.heap[X]?=some (.cells #[.slice xs ls ps,.string ⟨s.query.toArray⟩,.string ⟨s.mutation.toArray⟩] 24 (0,0))
 y:w.heap[Y]?=some (.cells #[.slice (some ⟨blk,off,none⟩) d.ops.length p,.slice b q r] 28 (0,0))
 s:Rv M noB (pvS s) (.agg #[.slice xs ls ps,.string ⟨s.query.toArray⟩,.string ⟨s.mutation.toArray⟩])
 ra:Rv M noB (.slice (List.map bL d.ops) [] false) (.slice (some ⟨blk,off,none⟩) d.ops.length p)
 rb:Rv M noB (.slice (List.map aJ d.frags) [] false) (.slice b q r)
theorem Bx.next {s:GSchema} {d:GDoc} {X Y:Nat} {xs:Option Addr} {ls ps blk off p:Nat} {b:Option Addr} {q r:Nat} {M M':Mem} {w w':World} (h:Bx s d X Y xs ls ps blk off p b q r M w) (k:Cl M w M' w'):Bx s d X Y xs ls ps blk off p b q r M' w' :=
 ⟨k.c,k.box h.x,k.box h.y,h.s.mono k.m (fun _ _ _ h=>h),h.ra.mono k.m (fun _ _ _ h=>h),h.rb.mono k.m (fun _ _ _ h=>h)⟩
structure LawF (s:GSchema) (d:GDoc):Prop where
 bk:jL d≤1048576
 nops:d.ops.length<1073741824
 nsel:∀ x∈d.ops,x.sels.length<1073741824
 spr:∀ x∈d.ops,∀ y∈x.sels,∃ u,qA y.sels=some u∧u.length<1073741824
 law:∀ (i:Nat) (x:GOp) (k:Nat) (y:GSel),d.ops[i]?=some x→x.sels[k]?=some y→y.kind=0→y.sels≠[]→tH s (docL d i x k y) 9=some true∧tH s (docL d i x k y) 10=some false
theorem rdL {s:GSchema} {d:GDoc} (L:LawF s d) {X Y:Nat} {xs:Option Addr} {ls ps blk off p:Nat} {b:Option Addr} {q r:Nat} {M:Mem} {w:World} (H:Bx s d X Y xs ls ps blk off p b q r M w) (i:Nat) (x:GOp) (hx:d.ops[i]?=some x) (k:Nat) (y:GSel) (hy:x.sels[k]?=some y) (Q:Exit→Act→World→Prop) (fr:List Value) (hlen:fr.length=89) (g:FV fr [(2,ptr X),(3,ptr Y),(5,.int .i64 i),(6,.int .i64 k)])
  (hE:∀ (M':Mem) (w':World) (l':List Value),l'.length=89→Cl M w M' w'→FV l' [(2,ptr X),(3,ptr Y),(5,.int .i64 i),(6,.int .i64 k)]→Q (.exit 3) ⟨l'.toArray,[]⟩ w')
  (hC:∀ (M':Mem) (w':World) (l':List Value),l'.length=89→Cl M w M' w'→FV l' [(2,ptr X),(3,ptr Y),(5,.int .i64 i),(6,.int .i64 k)]→Q .normal ⟨l'.toArray,[]⟩ w') :
  Code.wp Tryz.prog rdF Q ⟨fr.toArray,[]⟩ w:=by
 have hi:=(List.getElem?_eq_some_iff.1 hx).1
 have hk:=(List.getElem?_eq_some_iff.1 hy).1
 have hxm:=List.mem_of_getElem? hx
 have hym:=List.mem_of_getElem? hy
 have hn:=L.nsel x hxm
 obtain ⟨u,hu,hul⟩:=L.spr x hxm y hym
 obtain ⟨oa,cap0,e0,_,_,hops⟩:=aDR H.c H.ra
 obtain ⟨v2,v3,v4,ocv,ho⟩:=hops blk off (by injection e0 with e1 e2 e3;exact e1.symm) i x hx
 obtain ⟨oa4,cap4,rfl,_,hat,hcell⟩:=aHY H.c ocv.r4
 obtain ⟨B2,O2,rfl⟩:=hat (by intro e;rw [e] at hk;simp at hk)
 obtain ⟨w3,w4,w6,scv,hcs⟩:=hcell B2 O2 rfl k y hy
 have i3:=jE scv.r3
 have i4:=jE scv.r4
 obtain ⟨a6,n6,p6,rfl⟩:=jE scv.r6
 have hn6:n6=y.sels.length:=by have:=aZ6 scv.r6;simpa using this
 unfold rdF
 refine wp_seq ?_
 refine b9L w Y (ptr X) blk off d.ops.length p q r i b x.sels.length cap4 k B2 O2 y w3 w4 a6 n6 p6 H.y hi L.nops (kZ H.c (ho 4 _ rfl)) hk hn (fun c v h=>kZ H.c (hcs c v h)) i3 i4 _ fr hlen g (fun l hl g => ?_)
 show Code.wp _ _ _ _ _
 have cl1:Cl M w M (w.alloc (.cells (aAm y w3 w4 (.slice a6 n6 p6)).toArray 44)):=(Cl.refl H.c).al _
 refine wp_seq ?_
 refine b10L Y w.heap.size (ptr X) _ _ y w3 w4 a6 n6 p6 u hul cl1.c (heap_alloc_new w _) (fun M' w' cl=>aLt y.sels u hu _ cl.c (scv.r6.mono cl.m (fun _ _ _ h=>h))) _ l hl g (fun M2 w2 l hl cl2 g=>hE M2 w2 l hl (cl1.trans cl2) g) (fun hk0 hn0 M2 w2 l hl cl2 g => ?_)
 show Code.wp _ _ _ _ _
 have c2:=cl1.trans cl2
 have H2:=H.next c2
 have hXl:=(Array.getElem?_eq_some_iff.1 H2.x).1
 have hs2:=c2.b.size
 refine wp_seq ?_
 refine b11L d i M2 w2 Y (ptr X) _ _ _ b d.ops.length p q r L.bk hi H2.c H2.ra H2.rb H2.y _ l hl g (fun M3 w3 E Z va vf ys zs u2 u3 u4 l hl hDS hEZ hZ ivf hc3 f3 g => ?_)
 show Code.wp _ _ _ _ _
 have hZl:=(Array.getElem?_eq_some_iff.1 hZ).1
 have hs3:=f3.below.size
 refine wp_seq ?_
 refine b12L Z (ptr X) (ptr Y) i k hDS (by omega) hx hy hc3 hZ L.nops hn _ l hl g (fun M4 w4 l hl P4 rv4 g => ?_)
 show Code.wp _ _ _ _ _
 have F4:From w.heap.size M w M4 w4:=((c2.frm (Nat.le_refl _)).trans (f3.of_le hs2)).trans (P4.frm hs2 (by omega))
 obtain ⟨gA,nA,capA,eA,_⟩:=hDS.at_
 obtain ⟨q9,q10⟩:=L.law i x k y hx hy hk0 (by intro e;rw [e] at hn6;exact hn0 hn6)
 have hS4:=H.s.mono F4.mem (fun _ _ _ h=>h)
 exact b13L X Y Z _ _ xs ls ps s.query s.mutation va vf P4.cons (P4.box (f3.box H2.x hXl) (.inl hXl)) (P4.box hZ (.inr hEZ)) ⟨_,_,_,eA⟩ ivf (fun M' w' cl=>aJD s (docL d i x k y) 9 true q9 _ _ cl.c (hS4.mono cl.m (fun _ _ _ h=>h)) (rv4.mono cl.m (fun _ _ _ h=>h))) (fun M' w' cl=>aJD s (docL d i x k y) 10 false q10 _ _ cl.c (hS4.mono cl.m (fun _ _ _ h=>h)) (rv4.mono cl.m (fun _ _ _ h=>h))) Q l hl g (fun M5 w5 l hl cl5 g=>hC M5 w5 l hl ((Cl.of F4 P4.cons).trans cl5) g)
theorem at6 {l:List Value} {a b c v:Value} (g:FV l [(2,a),(3,b),(5,c),(6,v)]):at_ l 6=v:=g.2.2.2.1
theorem at5 {l:List Value} {a b v:Value} (g:FV l [(2,a),(3,b),(5,v)]):at_ l 5=v:=g.2.2.1
theorem inL {s:GSchema} {d:GDoc} (L:LawF s d) {X Y:Nat} {xs:Option Addr} {ls ps blk off p:Nat} {b:Option Addr} {q r:Nat} {M:Mem} {w:World} (H:Bx s d X Y xs ls ps blk off p b q r M w) (i:Nat) (x:GOp) (hx:d.ops[i]?=some x) (Q:Exit→Act→World→Prop) (fr:List Value) (hlen:fr.length=89) (g:FV fr [(2,ptr X),(3,ptr Y),(5,.int .i64 i),(6,.int .i64 (0:Nat))])
  (hC:∀ (M':Mem) (w':World) (l':List Value),l'.length=89→Cl M w M' w'→FV l' [(2,ptr X),(3,ptr Y),(5,.int .i64 i)]→Q .normal ⟨l'.toArray,[]⟩ w') :
  Code.wp Tryz.prog (.block 2 (.loop inF)) Q ⟨fr.toArray,[]⟩ w:=by
 have hi:=(List.getElem?_eq_some_iff.1 hx).1
 have hn:=L.nsel x (List.mem_of_getElem? hx)
 obtain ⟨oa,cap0,e0,_,_,hops⟩:=aDR H.c H.ra
 obtain ⟨v2,v3,v4,ocv,ho⟩:=hops blk off (by injection e0 with e1 e2 e3;exact e1.symm) i x hx
 obtain ⟨oa4,cap4,rfl,_,_,_⟩:=aHY H.c ocv.r4
 refine wp_block ?_
 refine wp_loop (fun a w'=>∃ (l:List Value) (M':Mem) (k:Nat),a=⟨l.toArray,[]⟩∧l.length=89∧Cl M w M' w'∧k≤x.sels.length∧FV l [(2,ptr X),(3,ptr Y),(5,.int .i64 i),(6,.int .i64 k)]) (fun a _=>x.sels.length-(intOf (a.tmps.getD 6 undef)).toNat) ⟨fr,M,0,rfl,hlen,Cl.refl H.c,Nat.zero_le _,g⟩ ?_
 rintro a1 w1 ⟨l,M1,k,rfl,hl,cl,hk,g⟩
 have H1:=H.next cl
 have hmu:at_ l 6 = .int .i64 k:=at6 g
 show Code.wp _ (.seq h7F (.seq (.block 3 rdF) r8F)) _ _ _
 refine wp_seq ?_
 refine h7L w1 Y (ptr X) blk off d.ops.length p q r i b oa4 x.sels.length cap4 k H1.y hi L.nops (kZ H1.c (cl.m _ _ _ (ho 4 _ rfl))) hk hn _ l hl g (fun e l' hl' g' => ?_) (fun hlt l' hl' g' => ?_)
 ·exact hC M1 w1 l' hl' cl g'
 have hfin:∀ (M':Mem) (w':World) (l':List Value),l'.length=89→Cl M1 w1 M' w'→FV l' [(2,ptr X),(3,ptr Y),(5,.int .i64 i),(6,.int .i64 k)]→Code.wp Tryz.prog r8F (Exit.then (fun a' w'=>(∃ (l:List Value) (M':Mem) (k:Nat),a'=⟨l.toArray,[]⟩∧l.length=89∧Cl M w M' w'∧k≤x.sels.length∧FV l [(2,ptr X),(3,ptr Y),(5,.int .i64 i),(6,.int .i64 k)])∧x.sels.length-(intOf (a'.tmps.getD 6 undef)).toNat<x.sels.length-(intOf ((l.toArray).getD 6 undef)).toNat) (Exit.inBlock 2 Q)) ⟨l'.toArray,[]⟩ w':=by
  intro M' w' l2 hl2 cl2 g2
  refine r8L w' _ _ _ k (by omega) _ l2 hl2 g2 (fun l3 hl3 g3=>⟨⟨l3,M',k+1,rfl,hl3,cl.trans cl2,hlt,g3⟩,?_⟩)
  have e1:=at6 g3
  show _-(intOf (l3.toArray.getD 6 undef)).toNat<_
  rw [aJC,aJC,e1,hmu]
  simp only [intOf]
  omega
 show Code.wp _ (.seq (.block 3 rdF) r8F) _ _ _
 refine wp_seq ?_
 refine wp_block ?_
 obtain ⟨y,hy⟩:∃ y,x.sels[k]?=some y:=⟨_,List.getElem?_eq_getElem hlt⟩
 exact rdL L H1 i x hx k y hy _ l' hl' g' (fun M' w' l2 hl2 cl2 g2=>hfin M' w' l2 hl2 cl2 g2) (fun M' w' l2 hl2 cl2 g2=>hfin M' w' l2 hl2 cl2 g2)
theorem ouL {s:GSchema} {d:GDoc} (L:LawF s d) {X Y:Nat} {xs:Option Addr} {ls ps p:Nat} {a b:Option Addr} {q r:Nat} {M:Mem} {w:World} (hY:w.heap[Y]?=some (.cells #[.slice a d.ops.length p,.slice b q r] 28 (0,0))) (hc:Cons M w) (H:d.ops≠[]→∃ blk off,a=some ⟨blk,off,none⟩∧Bx s d X Y xs ls ps blk off p b q r M w) (Q:Exit→Act→World→Prop) (fr:List Value) (hlen:fr.length=89) (g:FV fr [(2,ptr X),(3,ptr Y),(5,.int .i64 (0:Nat))])
  (hC:∀ (M':Mem) (w':World) (l':List Value),l'.length=89→Cl M w M' w'→FV l' [(2,ptr X),(3,ptr Y)]→Q .normal ⟨l'.toArray,[]⟩ w') :
  Code.wp Tryz.prog (.block 0 (.loop ouF)) Q ⟨fr.toArray,[]⟩ w:=by
 refine wp_block ?_
 refine wp_loop (fun a w'=>∃ (l:List Value) (M':Mem) (i:Nat),a=⟨l.toArray,[]⟩∧l.length=89∧Cl M w M' w'∧i≤d.ops.length∧FV l [(2,ptr X),(3,ptr Y),(5,.int .i64 i)]) (fun a _=>d.ops.length-(intOf (a.tmps.getD 5 undef)).toNat) ⟨fr,M,0,rfl,hlen,Cl.refl hc,Nat.zero_le _,g⟩ ?_
 rintro a1 w1 ⟨l,M1,i,rfl,hl,cl,hi,g⟩
 have hmu:at_ l 5 = .int .i64 i:=at5 g
 show Code.wp _ (.seq h4F (.seq (.block 1 (.seq r6F (.block 2 (.loop inF)))) r5F)) _ _ _
 refine wp_seq ?_
 refine h4L w1 Y (ptr X) a b d.ops.length p q r i (cl.box hY) hi L.nops _ l hl g (fun e l' hl' g' => ?_) (fun hlt l' hl' g' => ?_)
 ·exact hC M1 w1 l' hl' cl g'
 obtain ⟨blk,off,rfl,H0⟩:=H (by intro e;rw [e] at hlt;simp at hlt)
 obtain ⟨x,hx⟩:∃ x,d.ops[i]?=some x:=⟨_,List.getElem?_eq_getElem hlt⟩
 show Code.wp _ (.seq (.block 1 (.seq r6F (.block 2 (.loop inF)))) r5F) _ _ _
 refine wp_seq ?_
 refine wp_block ?_
 refine wp_seq ?_
 refine r6L w1 _ _ _ _ l' hl' g' (fun l2 hl2 g2 => ?_)
 show Code.wp _ _ _ _ _
 refine inL L (H0.next cl) i x hx _ l2 hl2 g2 (fun M' w' l3 hl3 cl3 g3 => ?_)
 show Code.wp _ _ _ _ _
 refine r5L w' _ _ i (by have:=L.nops;omega) _ l3 hl3 g3 (fun l4 hl4 g4=>⟨⟨l4,M',i+1,rfl,hl4,cl.trans cl3,hlt,g4⟩,?_⟩)
 have e1:=at5 g4
 show _-(intOf (l4.toArray.getD 5 undef)).toNat<_-(intOf (l.toArray.getD 5 undef)).toNat
 rw [aJC,aJC,e1,hmu]
 simp only [intOf]
 omega
open Go Go.Ev Go.Ev.PV
theorem aEW {τ:Tb} {v:PV} (h:RsOk τ [⟨false,[.bool]⟩] v):∃ b,v = .bool b:=by
 unfold RsOk at h;cases h with | one h=>exact aLc h
theorem aLu {α:Type} {b c:α} (h:some b=some c):b=c:=by cases h;rfl
theorem bBf (s:GSchema) (d:GDoc) (n:Int) (hs:dW s≤1048576) (hd:jL d≤1048576) (hn:0≤n∧n≤10):∃ b,yN s d n=some b:=by
 have hp:=aAX s
 have hq:=aYC d
 unfold Nr at hp hq
 obtain ⟨r,hr,ho⟩:=bA7 [cL s,lH d,.int .i64 n] (.cons (aDB s hs) (.cons (bAK d hd) (.cons (.one (.rng hn)) .nil))) (.inr fun v hv=>by
  show _≤2097152
  rcases List.mem_cons.1 hv with rfl | hv
  ·omega
  ·rcases List.mem_cons.1 hv with rfl | hv
   ·omega
   ·rw [List.mem_singleton.1 hv];simp [bK])
 obtain ⟨b,rfl⟩:=aEW ho
 simp only [tys] at hr
 exact ⟨b,aH4 (pV aC) hr⟩
theorem aUT (d:GDoc) (hd:jL d≤1048576):∃ b,aSg d=some b:=by
 have hq:=aYC d
 unfold Nr at hq
 obtain ⟨r,hr,ho⟩:=aY7 [lH d] (.cons (bAK d hd) .nil) (.inr fun v hv=>by rw [List.mem_singleton.1 hv];show _≤2097152;omega)
 obtain ⟨b,rfl⟩:=aEW ho
 simp only [tys] at hr
 exact ⟨b,aH4 (pV aC) hr⟩
theorem aXd (s:GSchema) (h:dW s≤1048576):∃ b,yO s=some b:=by
 obtain ⟨r,hr,ho⟩:=aZt [cL s] (.cons (aDB s h) .nil) (.inl rfl)
 obtain ⟨b,rfl⟩:=aEW ho
 simp only [tys] at hr
 exact ⟨b,aH4 (pV aC) hr⟩
theorem aXe (d:GDoc) (h:jL d≤1048576):∃ b,yP d=some b:=by
 obtain ⟨r,hr,ho⟩:=aZr [lH d] (.cons (bAK d h) .nil) (.inl rfl)
 obtain ⟨b,rfl⟩:=aEW ho
 simp only [tys] at hr
 exact ⟨b,aH4 (pV aC) hr⟩
theorem aS7 (s:GSchema) (n:Int) (h:dW s≤1048576):∃ b,yM s n=some b:=by
 have hp:=aAX s
 unfold Nr at hp
 obtain ⟨r,hr,ho⟩:=aW6 [cL s,.int .i64 n] (.cons (aDB s h) (.cons (.one (.int _ _)) .nil)) (.inr fun v hv=>by
  show _≤2097152
  rcases List.mem_cons.1 hv with rfl | hv
  ·omega
  ·rw [List.mem_singleton.1 hv];simp [bK])
 obtain ⟨b,rfl⟩:=aEW ho
 simp only [tys] at hr
 exact ⟨b,aH4 (pV aC) hr⟩
theorem aZD (s:GSchema) (h:dW s≤1048576):∃ b,sG s=some b:=by
 have hp:=aAX s
 unfold Nr at hp
 obtain ⟨r,hr,ho⟩:=aZk [cL s] (.cons (aDB s h) .nil) (.inr fun v hv=>by rw [List.mem_singleton.1 hv];show _≤2097152;omega)
 have:∃ n,r = .int .i64 n:=by
  have ho:RsOk tτ [⟨false,[.int .i64]⟩] r:=ho
  unfold RsOk at ho;cases ho with | one h=>exact lW h
 obtain ⟨n,rfl⟩:=this
 simp only [tys] at hr
 exact ⟨n,aH4 (pV qI) hr⟩
theorem aJE (s:GSchema) (l:List GParam) (hs:dW s≤1048576) (hl:bkSl fQ l≤1048576):lK s l=some (entD s l):=by
 obtain ⟨r,hr,ho⟩:=aJz [cL s,.slice (l.map aQ) [] false] (.cons (aDB s hs) (.cons (.one (lfSl (fun y hy=>aQ8 y (by have:=dM (f:=fQ) hy;omega)) (by have:=cQ (f:=fQ) (fun d=>by rw [lI];omega) l;omega))) .nil)) (.inl rfl)
 obtain ⟨b,rfl⟩:=aEW ho
 simp only [tys] at hr
 have h:lK s l=some b:=aH4 (pV aC) hr
 unfold entD
 rw [h];rfl
theorem aZE (s:GSchema) (d:GDoc) (hs:dW s≤1048576) (hd:jL d≤1048576):∃ b,iD s d=some b:=by
 obtain ⟨b8,h8⟩:=aXd s hs
 obtain ⟨b7,h7⟩:=aXe d hd
 refine ⟨bif b8 then b7 else false,?_⟩
 apply aA5
 simp only [iM,h8,h7,bP]
 cases b8<;>rfl
theorem aXf (s:GSchema) (d:GDoc) (hs:dW s≤1048576) (hd:jL d≤1048576):∀ (m k:Nat),11-k=m→k≤11→∃ t,bJ (kR s d 11) (k:Int)=some t∧(t = .inl ()→∀ j:Nat,k≤j→j<11→yN s d j=some true):=by
 intro m
 induction m with
 | zero =>
  intro k hk hle
  have:k=11:=by omega
  subst this
  exact ⟨.inl (),cC rfl,fun _ j h1 h2=>by omega⟩
 | succ m ih =>
  intro k hk hle
  obtain ⟨b,hb⟩:=bBf s d k hs hd (by omega)
  have h1:decide ((k:Int)<11)=true:=by simp;omega
  have h3:IntKind.wrap .i64 ((k:Int)+1)=((k+1:Nat):Int):=by rw [wi (by omega)];omega
  cases b with
  | false=>exact ⟨.inr (),cC (by simp only [kR,h1,fZ,hb,bP];rfl),fun h=>by cases h⟩
  | true =>
   obtain ⟨t,h4,h5⟩:=ih (k+1) (by omega) (by omega)
   refine ⟨t,?_,fun ht j h6 h7 => ?_⟩
   ·rw [tY (s':=((k+1:Nat):Int)) (by simp only [kR,h1,fZ,hb,bP,h3];rfl)]
    exact h4
   ·rcases Nat.lt_or_ge k j with h8 | h8
    ·exact h5 ht j h8 h7
    ·have:j=k:=by omega
     subst this;exact hb
theorem bBg (s:GSchema) (d:GDoc) (hs:dW s≤1048576) (hd:jL d≤1048576):∃ b,aG3 s d 11=some b∧(b=true→∀ j:Nat,1≤j→j<11→yN s d j=some true):=by
 obtain ⟨r,hr⟩:=aUT d hd
 obtain ⟨t,h1,h2⟩:=aXf s d hs hd 10 1 rfl (by omega)
 have h1:bJ (kR s d 11) 1=some t:=h1
 cases r with
 | false=>exact ⟨false,aBP (by simp only [uD,hr,bP];rfl),fun h=>by cases h⟩
 | true =>
  cases t with
  | inl u=>exact ⟨true,aBP (by simp only [uD,hr,bP,h1];rfl),fun _=>h2 rfl⟩
  | inr u=>exact ⟨false,aBP (by simp only [uD,hr,bP,h1];rfl),fun h=>by cases h⟩
theorem aXg (s : GSchema) (d : GDoc) (h : SOk s) (hd : jL d < 500000000) : yN s d 9 = some ((gF s d).all (rO s)) ∧ yN s d 10 = some ((gF s d).all (aLi s)) := by
 have hsp := aHI s d h hd
 have hl := aJu s d
 have k1 := sC (b := eQ s d 9 (gF s d)) (gF s d) (fun r => bif r.all (rO s) then (.inl () : Unit ⊕ Unit) else .inr ()) (by show (gF s d).length < _; omega) (by simp only [eQ, aGM, qX]; rfl)
  (fun k x r hm h1 h2 h3 => by
   simp only [eQ, h1, fZ, h2, bP, h3, bAZ s d x h, List.all_cons]
   cases rO s x <;> first | exact .inl rfl | exact .inr ⟨rfl, rfl⟩)
 have k2 := sC (b := eQ s d 10 (gF s d)) (gF s d) (fun r => bif r.all (aLi s) then (.inl () : Unit ⊕ Unit) else .inr ()) (by show (gF s d).length < _; omega) (by simp only [eQ, aGM, qX]; rfl)
  (fun k x r hm h1 h2 h3 => by
   simp only [eQ, h1, fZ, h2, bP, h3, aYO s d x h, List.all_cons]
   cases aLi s x <;> first | exact .inl rfl | exact .inr ⟨rfl, rfl⟩)
 constructor
 ·apply aHh
  simp only [zJ, hsp, bP, k1]
  cases (gF s d).all (rO s) <;> rfl
 ·apply aHh
  simp only [zJ, hsp, bP, k2]
  cases (gF s d).all (aLi s) <;> rfl
theorem aRv (s:GSchema) (h:dW s≤1048576) (hc:sG s=some 0):aYP s:=by
 have hk:SOk s:=⟨by have:=gU s;omega⟩
 have stop:∀ (k:Nat),k<9→(∀ j:Nat,j<k→yM s (j+1:Nat)=some true)→yM s (k+1:Nat)=some false→False:=by
  intro k hk9 hall hf
  have hl:∀ (m j:Nat),k-j=m→j≤k→bJ (iW s) ((j+1:Nat):Int)=some (.inr ((k+1:Nat):Int)):=by
   intro m
   induction m with
   | zero =>
    intro j hj hle
    have:j=k:=by omega
    subst this
    have h1:decide (((j+1:Nat):Int)≤9)=true:=by simp;omega
    exact cC (by simp only [iW,h1,fZ,hf,bP];rfl)
   | succ m ih =>
    intro j hj hle
    have h1:decide (((j+1:Nat):Int)≤9)=true:=by simp;omega
    have h3:IntKind.wrap .i64 (((j+1:Nat):Int)+1)=((j+1+1:Nat):Int):=by rw [wi (by omega)];omega
    rw [tY (s':=((j+1+1:Nat):Int)) (by simp only [iW,h1,fZ,hall j (by omega),bP,h3];rfl)]
    exact ih (j+1) (by omega) (by omega)
  have h1:bJ (iW s) 1=some (.inr ((k+1:Nat):Int)):=hl k 0 (by omega) (by omega)
  have h2:sG s=some ((k+1:Nat):Int):=aMD (by simp only [aAL,h1,bP];rfl)
  have:=aLu (h2.symm.trans hc)
  omega
 have all:∀ k:Nat,k<9→∀ j:Nat,j≤k→yM s (j+1:Nat)=some true:=by
  intro k
  induction k with
  | zero =>
   intro h9 j hj
   obtain ⟨b,hb⟩:=aS7 s (0+1:Nat) h
   have:j=0:=by omega
   subst this
   cases b with
   | true=>exact hb
   | false=>exact (stop 0 h9 (fun j hj=>by omega) hb).elim
  | succ k ih =>
   intro h9 j hj
   rcases Nat.lt_or_ge j (k+1) with hlt | hge
   ·exact ih (by omega) j (by omega)
   ·have:j=k+1:=by omega
    subst this
    obtain ⟨b,hb⟩:=aS7 s (k+1+1:Nat) h
    cases b with
    | true=>exact hb
    | false=>exact (stop (k+1) h9 (fun j hj=>ih (by omega) j (by omega)) hb).elim
 have h4:yM s 4=some true:=all 3 (by omega) 3 (by omega)
 have e:=gU s
 have hds:∀ d∈s.defs,aD8 d≤1048576:=fun d hd=>by have:=dM (f:=aD8) hd;omega
 have r4:=aYQ s hk (fun d hd=>by
  have hb:=hds d hd
  have e2:=jK d
  refine ⟨aJE s d.params h (by omega),fun f hf=>aJE s f.params h ?_⟩
  have hb2:=dM (f:=eI) hf
  have e3:=fG f
  omega) (fun d hd=>by
  have hb:=hds d hd
  have e2:=jK d
  have:=cQ (f:=eI) (fun o=>by rw [fG];omega) d.fields
  show d.fields.length<_
  omega)
 refine aYR s ?_
 have k4:yM s 4=some (s.defs.all fun d=>entD s d.params&&d.fields.all (ftD s)):=aP8 (by simp only [aDl,r4,bP];rfl)
 exact aLu (k4.symm.trans h4)
theorem bCa (s:GSchema) (d:GDoc) (hs:dW s≤1048576) (hd:jL d≤1048576) (hc:sG s=some 0) (hk:∀ j:Nat,1≤j→j<11→yN s d j=some true):LawF s d:=by
 have hSk:SOk s:=⟨by have:=gU s;omega⟩
 have ht:=aRv s hs hc
 obtain ⟨e9,e10⟩:=aXg s d hSk (by omega)
 have h9:=aLu (e9.symm.trans (hk 9 (by omega) (by omega)))
 have h10:=aLu (e10.symm.trans (hk 10 (by omega) (by omega)))
 have e:=vK d
 have hop:∀ x∈d.ops,bR x.sels≤1048576:=fun x hx=>by
  have h1:=dM (f:=bkOp) hx
  have h2:=nL x
  have h3:=eP x.sels
  simp only [bkSl] at h1 h2 e
  omega
 refine ⟨hd,?_,fun x hx => ?_,fun x hx y hy => ?_,fun i x k y hx hy hk0 hn=>aUM s d i x k y hSk ht hd hx hy hk0 hn h9 h10⟩
 ·have:=cQ (f:=bkOp) (fun o=>by rw [nL];omega) d.ops
  omega
 ·have:=fA x.sels
  have:=hop x hx
  omega
 ·have h1:=hop x hx
  have h2:=nX hy
  have h3:=nY y
  have h4:=aAd y.sels
  have h5:=rN (cZ y.sels) []
  refine ⟨(cZ y.sels).foldl addD [],aEi (by simp only [mR,aFP y.sels [] (by simp only [List.length_nil];omega),bP]),?_⟩
  simp only [List.length_nil] at h5
  omega
set_option maxHeartbeats 8000000 in
theorem a0L (w:World) (xs:Option Addr) (ls ps:Nat) (sq sm:ByteArray) (a b:Option Addr) (l p q r:Nat) (Q:Exit→Act→World→Prop) (fr:List Value) (hlen:fr.length=89) (g:FV fr [(0,.agg #[.slice xs ls ps,.string sq,.string sm]),(1,.agg #[.slice a l p,.slice b q r])])
  (hC:∀ (l':List Value),l'.length=89→FV l' [(2,ptr w.heap.size),(3,ptr (w.heap.size+1))]→Q .normal ⟨l'.toArray,[]⟩ ((w.alloc (.cells #[.slice xs ls ps,.string sq,.string sm] 24)).alloc (.cells #[.slice a l p,.slice b q r] 28))) :
  Code.wp Tryz.prog a0F Q ⟨fr.toArray,[]⟩ w:=by
 replace hC:=(id hC:Hid _)
 revert g
 refine lA 89 (fun fr=>FV fr _→Code.wp Tryz.prog _ _ ⟨fr.toArray,[]⟩ _) ?_ fr hlen
 simp only [AllL]
 iterate 89 intro _
 rintro ⟨g0,g1,_⟩
 simp only [at_] at g0 g1
 subst g0 g1
 unfold a0F
 simp only [Tryz.f6,bE,fstC,sndC]
 go_wp2
 refine hC.out _ ?_ ?_
 ·rfl
 ·exact ⟨rfl,rfl,trivial⟩
set_option maxHeartbeats 8000000 in
theorem aXh (s:GSchema) (d:GDoc) (b9:Bool) (c10:Int) (k11:Bool) {M:Mem} {w:World} (xs:Option Addr) (ls ps:Nat) (a b:Option Addr) (p q r:Nat) (hc:Cons M w)
  (hS:Rv M noB (pvS s) (.agg #[.slice xs ls ps,.string ⟨s.query.toArray⟩,.string ⟨s.mutation.toArray⟩])) (hD:Rv M noB (pvD d) (.agg #[.slice a d.ops.length p,.slice b q r])) (hra:Rv M noB (.slice (List.map bL d.ops) [] false) (.slice a d.ops.length p)) (hrb:Rv M noB (.slice (List.map aJ d.frags) [] false) (.slice b q r))
  (h9:iD s d=some b9) (h10:sG s=some c10) (h11:aG3 s d 11=some k11)
  (hlaw:c10=0→k11=true→LawF s d) :
  Calls Tryz.prog 6 #[.agg #[.slice xs ls ps,.string ⟨s.query.toArray⟩,.string ⟨s.mutation.toArray⟩],.agg #[.slice a d.ops.length p,.slice b q r]] w fun e w'=>∃ v M',e = .returned v∧Rv M' noB (.bool true) v∧Cons M' w'∧Quiet M w M' w':=by
 have hb1:Below w.heap.size w ((w.alloc (.cells #[.slice xs ls ps,.string ⟨s.query.toArray⟩,.string ⟨s.mutation.toArray⟩] 24)).alloc (.cells #[.slice a d.ops.length p,.slice b q r] 28)):=((Below.refl _ _).alloc (Nat.le_refl _) _).alloc (by simp) _
 have hX:((w.alloc (.cells #[.slice xs ls ps,.string ⟨s.query.toArray⟩,.string ⟨s.mutation.toArray⟩] 24)).alloc (.cells #[.slice a d.ops.length p,.slice b q r] 28)).heap[w.heap.size]?=some (.cells #[.slice xs ls ps,.string ⟨s.query.toArray⟩,.string ⟨s.mutation.toArray⟩] 24 (0,0)):=bCq _ (heap_alloc_new w _)
 have hY:((w.alloc (.cells #[.slice xs ls ps,.string ⟨s.query.toArray⟩,.string ⟨s.mutation.toArray⟩] 24)).alloc (.cells #[.slice a d.ops.length p,.slice b q r] 28)).heap[w.heap.size+1]?=some (.cells #[.slice a d.ops.length p,.slice b q r] 28 (0,0)):=bBe w _ _
 have hc1:=aA0 hc hb1
 have hF1:From w.heap.size M w M _:=From.of_below hb1
 have hz1:=hb1.size
 obtain ⟨oa,cap,ea,_,hoa,_⟩:=aDR hc hra
 obtain ⟨rfl,rfl⟩:a=oa∧p=cap:=by injection ea with e1 e2 e3;exact ⟨e1,e3⟩
 refine calls_of_wp Tryz.func6 bCr ?_
 simp only [Tryz.ntmps6,List.size_toArray,List.length_cons,List.length_nil,Nat.reduceAdd,Nat.reduceSub,Array.replicate_succ,
   Array.replicate_zero,List.push_toArray,List.append_toArray,List.nil_append,List.cons_append]
 generalize hQ:bodyPost Tryz.prog Tryz.f6 _=Q
 have fin:∀ (w2:World) (M2:Mem) (fr:List Value),Cons M2 w2→From w.heap.size M w M2 w2→at_ fr 4 = .bool true→Q .ret ⟨fr.toArray,[]⟩ w2:=by
  intro w2 M2 fr k1 k2 k3
  rw [← hQ]
  refine bodyPost_ret (results_tmp (by rfl) _ _ _) rfl ?_
  exact ⟨_,M2,rfl,by rw [aJC,k3];exact .bool true,k1,k2.mem,fun b hb=>⟨k2.below.block b hb,fun i=>k2.old b hb i⟩,k2.below.size,k2.below.os,k2.below.tape,k2.below.output⟩
 clear hQ
 refine wp_seq ?_
 refine a0L w xs ls ps _ _ a b d.ops.length p q r _ _ rfl ⟨rfl,rfl,trivial⟩ (fun l hl g => ?_)
 show Code.wp _ _ _ _ _
 refine wp_seq ?_
 refine guL w.heap.size (w.heap.size+1) xs ls ps s.query s.mutation a b d.ops.length p q r b9 c10 k11 hc1 hX hY (fun M' w' cl=>aRt s d _ h9 _ _ cl.c (hS.mono cl.m (fun _ _ _ h=>h)) (hD.mono cl.m (fun _ _ _ h=>h))) (fun M' w' cl=>aRu s _ h10 _ cl.c (hS.mono cl.m (fun _ _ _ h=>h))) (fun M' w' cl=>aUS s d 11 _ h11 _ _ cl.c (hS.mono cl.m (fun _ _ _ h=>h)) (hD.mono cl.m (fun _ _ _ h=>h))) _ l hl g (fun M2 w2 l hl cl g=>fin w2 M2 l cl.c (hF1.trans (cl.frm hz1)) g.1) (fun e1 e2 e3 M2 w2 l hl cl g => ?_)
 show Code.wp _ _ _ _ _
 refine wp_seq ?_
 refine wp_seq ?_
 refine r3L w2 _ _ _ l hl g (fun l hl g => ?_)
 show Code.wp _ _ _ _ _
 refine ouL (xs:=xs) (ls:=ls) (ps:=ps) (X:=w.heap.size) (hlaw e2 e3) (cl.box hY) cl.c (fun hne => ?_) _ l hl g (fun M3 w3 l hl cl3 g => ?_)
 ·obtain ⟨blk,off,e⟩:=hoa hne
  subst e
  exact ⟨blk,off,rfl,cl.c,cl.box hX,cl.box hY,hS.mono cl.m (fun _ _ _ h=>h),hra.mono cl.m (fun _ _ _ h=>h),hrb.mono cl.m (fun _ _ _ h=>h)⟩
 ·show Code.wp _ _ _ _ _
  exact enL cl3.c (ptr w.heap.size) _ l hl ⟨g.1,trivial⟩ (fun M4 w4 l hl cl4 g=>fin w4 M4 l cl4.c (hF1.trans (((cl.trans cl3).trans cl4).frm hz1)) g.1)
theorem bBh (s:GSchema) (d:GDoc) (hs:dW s≤1048576) (hd:jL d≤1048576) {M:Mem} {w:World} (S D:Value) (hc:Cons M w) (hS:Rv M noB (pvS s) S) (hD:Rv M noB (pvD d) D) :
  Calls Tryz.prog 6 #[S,D] w fun e w'=>∃ v M',e = .returned v∧Rv M' noB (.bool true) v∧Cons M' w'∧Quiet M w M' w':=by
 obtain ⟨bl,hl⟩:=aZE s d hs hd
 obtain ⟨c,hck⟩:=aZD s hs
 obtain ⟨k,hkp,hk2⟩:=bBg s d hs hd
 have hq1:=hS
 obtain ⟨l1,rfl,hL⟩:=aZ4 hS
 cases hL with | cons q0 hL =>
 cases hL with | cons q1 hL =>
 cases hL with | cons q2 hL =>
 cases hL
 have hq2:=hD
 obtain ⟨l2,rfl,hL⟩:=aZ4 hD
 cases hL with | cons r0 hL =>
 cases hL with | cons r1 hL =>
 cases hL
 obtain ⟨xs,ls,ps,rfl⟩:=jE q0
 cases q1
 cases q2
 obtain ⟨oa,cap,rfl,_⟩:=aDR hc r0
 obtain ⟨b,q,r,rfl⟩:=jE r1
 exact aXh s d _ c k xs ls ps oa b cap q r hc hq1 hq2 r0 r1 hl hck hkp (fun e1 e2=>bCa s d hs hd (by rw [hck,e1]) (hk2 e2))
theorem aZF:∀ a b:aSd,leaA a=leaA b→a=b:=by
 rintro ⟨s,d⟩ ⟨s',d'⟩ h
 have h1:cL s=cL s':=List.head_eq_of_cons_eq h
 have h2:=List.tail_eq_of_cons_eq h
 have h3:lH d=lH d':=List.head_eq_of_cons_eq h2
 cases aPk _ _ h1
 cases aXZ _ _ h3
 rfl
theorem aUU (args:List PV) (x:aSd) (r:Bool) (ha:args.map PV.plain=leaA x) (hown:∀ p∈args,∀ v,dU p v) (hsol:∀ p∈args,p.solid=true) (h:leaF x=some r):aXU Tryz.prog (fun _ _=>none) 6 args (leaR r):=by
 unfold leaF at h
 split at h
 ·rename_i hb
  cases h
  refine aH7 hown hsol rfl rfl (fun vals w=>rfl) ?_
  intro M w vals hc hsz hrel
  have hlen:args.length=2:=by have:=congrArg List.length ha;simpa [leaA] using this
  have hr:∀ (i:Nat) (p:PV),(leaA x)[i]?=some p→Rv M noB p (vals.getD i undef):=by
   intro i p hp
   rw [← ha,List.getElem?_map] at hp
   cases h2:args[i]? with
   | none=>rw [h2] at hp;simp at hp
   | some p' =>
    rw [h2] at hp
    simp only [Option.map_some,Option.some.injEq] at hp
    rw [← hp]
    exact hrel i p' h2
  have e0:=hr 0 _ rfl
  have e1:=hr 1 _ rfl
  have hv:vals = #[vals.getD 0 undef,vals.getD 1 undef]:=by
   apply Array.ext
   ·simp [hsz,hlen]
   ·intro i h1 h2
    have hi:i<2:=by simpa using h2
    have hg:vals[i]=vals.getD i undef:=by simp [h1]
    rw [hg]
    match i,hi with
    | 0,_=>rfl
    | 1,_=>rfl
  rw [hv]
  exact bBh x.1 x.2 hb.1 hb.2 _ _ hc e0 e1
 ·simp at h
theorem rU (s:GSchema) (d:GDoc) (hs:dW s≤1048576) (hd:jL d≤1048576):mP s d=some true:=by
 unfold mP
 refine aH4 (pV aC) ?_
 refine bBv (g:=aTy Tryz.prog (fun _ _=>none) 6 leaA leaR leaF) rfl ?_
 have hF:leaF (s,d)=some true:=by unfold leaF;rw [if_pos ⟨hs,hd⟩]
 refine aXW aZF (x:=(s,d)) rfl hF (aUU _ (s,d) true rfl ?_ ?_ hF)
 ·intro p hp v
  apply aT
  simp only [List.mem_cons,List.not_mem_nil,or_false] at hp
  rcases hp with rfl | rfl<;>rfl
 ·intro p hp
  simp only [List.mem_cons,List.not_mem_nil,or_false] at hp
  rcases hp with rfl | rfl<;>rfl
open Go Go.Ev
open Go.ChangeShapes Go.WideShapes Go.ChangeAt Go.RowKit
theorem mixed:Tryz.prog.follows .mixedOrders=true:=by kernel_rfl
theorem bCs : (Tryz.prog.funcs.toList.all fun fn => !fn.body.isSome || !(fn.name == "runtime.NumGoroutine")) = true := by kernel_rfl
theorem laid:laidOutB Tryz.prog=true:=by kernel_rfl
theorem pok:POk Tryz.prog:=by
 refine ⟨mixed,fun f fn hf hb => ?_⟩
 have hm:fn∈Tryz.prog.funcs.toList:=by
  have:=Array.mem_of_getElem? hf
  simpa using this
 have:=List.all_eq_true.1 bCs fn hm
 rw [hb] at this
 simpa using this
theorem blOk {H:Type}:BlOk (H:=H) Rows.uptoBulk Rows.uptoBulkAll:=by
 refine ⟨fun l => ?_,fun s => ?_,?_,fun es sp => ?_,fun ps => ?_,fun d r => ?_⟩
 ·cases l<;>simp [Rows.uptoBulk]
 ·simp [Rows.uptoBulk]
 ·simp [Rows.uptoBulk]
 ·simp only [Rows.uptoBulk];omega
 ·simp only [Rows.uptoBulk];omega
 ·simp [Rows.uptoBulkAll]
theorem own:ownKnob Tryz.prog.godebug=none:=by kernel_rfl
end Go.Proofs.YtphmfillajagdaaGreat
