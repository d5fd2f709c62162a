import Derived.Test.YtphmfillajagdaaGreatWf
set_option maxRecDepth 100000
set_option linter.unusedVariables false
set_option linter.unusedSimpArgs false
set_option linter.unusedSimpArgs false
open Go Go.Ev Go.RowKit
namespace Go.Proofs.YtphmfillajagdaaGreat
structure Ivs (iv:Nat->Nat×Nat) (n:Nat):Prop where
 le:∀ t,(iv t).2<=n
 dis:∀ s t,s≠t->(iv s).2<=(iv t).1∨(iv t).2<=(iv s).1
def upd (iv:Nat->Nat×Nat) (t:Nat) (x:Nat×Nat):Nat->Nat×Nat:=fun s=>if s=t then x else iv s
theorem aWl a t x:upd a t x t=x:=by simp [upd]
theorem aRG a t s x (h:s≠t):upd a t x s=a s:=by simp [upd,h]
theorem Ivs.none n:Ivs (fun _=>(0,0)) n:=⟨fun _=>by omega,fun _ _ _=>by omega⟩
theorem Ivs.upd {e n b} (h:Ivs e n) t (f:n<=b):Ivs (upd e t (n,b)) b:=by
 refine ⟨fun s => ?_,fun s r c => ?_⟩
 ·unfold Go.Proofs.YtphmfillajagdaaGreat.upd;split;· simp
  exact Nat.le_trans (h.le s) f
 unfold Go.Proofs.YtphmfillajagdaaGreat.upd;by_cases d:s=t
 ·by_cases a:r=t;· omega
  rw [if_pos d,if_neg a];exact .inr (h.le r)
 by_cases a:r=t;· rw [if_neg d,if_pos a];exact .inl (h.le s)
 rw [if_neg d,if_neg a];exact h.dis s r c
structure Low (n:Nat) (M:Mem) (w:World) (M':Mem) (w':World):Prop where
 mem:∀ b i v,M b i=some v->M' b i=some v
 blk:∀ b,b<n->w'.heap[b]?=w.heap[b]?
 old:∀ b,b<n->∀ i,M' b i=M b i
def aX4 (d:GDoc) (iv:Nat->Nat×Nat) (t:Nat) (M:Mem) (w:World) (v:Value):Prop :=
 ∃ ga n gc ys gb n2 gd zs u2 u3 u4,v = .agg #[.slice ga n gc,.slice gb n2 gd]/\DS 0 (iv t).1 (iv t).2 M w d.ops d.frags (.slice ga n gc) ys (.slice gb n2 gd) zs u2 u3 u4
def ZAt (iv:Nat->Nat×Nat) (t:Nat) (M:Mem) (w:World) (v:Value):Prop :=
 ∃ Z,v = .pointer (some ⟨Z,0,none⟩)/\iv t=(Z,Z+1)/\w.heap[Z]?=some (.cells #[.slice none 0 0,.slice none 0 0] 28 (0,0))/\∀ i,M Z i=none
theorem aX4.keep {d a n t M M' w w' v} (h:aX4 d a t M w v) (u:Ivs a n) (c:Low n M w M' w') f x (s:t≠f):aX4 d (upd a f x) t M' w' v:=by
 obtain ⟨r,k,j,ys,o,g,l,z,m,i,q,e,p⟩:=h;refine ⟨r,k,j,ys,o,g,l,z,m,i,q,e,?_⟩;rw [aRG _ _ _ _ s];have:=u.le t;exact p.move c.mem (fun b _ y=>c.blk b (by omega)) (fun b _ y=>c.old b (by omega))
theorem ZAt.keep {a n t M M' w w' v} (h:ZAt a t M w v) (k:Ivs a n) (d:Low n M w M' w') b x (f:t≠b):ZAt (upd a b x) t M' w' v:=by
 obtain ⟨Z,e,c,j,g⟩:=h;have:=k.le t;rw [c] at this;refine ⟨Z,e,by rw [aRG _ _ _ _ f];exact c,(d.blk Z this).trans j,fun i=>(d.old Z this i).trans (g i)⟩
theorem bAC M w o:Low w.heap.size M w M (w.alloc o):=⟨fun _ _ _ h=>h,fun b a=>heap_alloc_old w o a,fun _ _ _=>rfl⟩
theorem bEW {a M w} (b:Cons M w) t:ZAt (upd a t (w.heap.size,(w.alloc (.cells #[.slice none 0 0,.slice none 0 0] 28)).heap.size)) t M (w.alloc (.cells #[.slice none 0 0,.slice none 0 0] 28)) (.pointer (some ⟨w.heap.size,0,none⟩)) :=
 ⟨w.heap.size,rfl,by rw [aWl];simp,heap_alloc_new w _,fun i=>kS b (by omega) i⟩
theorem bEX {d p M M' w w' a b ys m g c j} (h:DQ 0 g c j M w M' w' d.ops d.frags a ys b m) (r:0<d.ops.length) t {k i n e l f} (q:a = .slice k n e) (o:b = .slice i l f):aX4 d (upd p t (w.heap.size,w'.heap.size)) t M' w' (.agg #[a,b]):=by
 subst q o;refine ⟨k,n,e,ys,i,l,f,m,g,c,j,rfl,?_⟩;rw [aWl];exact h.ds r
theorem aUE {n M M' w w'} (h:From n M w M' w'):Low n M w M' w':=⟨h.mem,h.below.block,h.old⟩
theorem bDJ {b n c a} (h:∀ t,(a t).2=0∨b<=(a t).1) t (d:b<=n):∀ s,(upd a t (n,c) s).2=0∨b<=(upd a t (n,c) s).1:=fun s=>by
 unfold upd;grind
theorem aCH {x:Option Oper} {d:Option Nat} {op t p} (h:x.map (fun o=>(o.dst,o.op,o.type,o.pos,o.guard))=some (d,op,t,p,none)):∃ a,x=some {dst:=d,op:=op,type:=t,pos:=p,after:=a,guard:=none}:=by
 cases x with
 | none=>grind
 | some o =>
  obtain ⟨f,g,e,i,c,b⟩:=o;grind
theorem bC4 {P c Q d S b} i {n l a w} (e:Region.ready d c l=[i]) (h:wpOp P c Q i (fun f w'=>(b i=false->S w')/\wpB P d c Q S b n (l.setIfInBounds i true) f w') a w):wpB P d c Q S b (n+1) l a w :=
 aJg e (by simp) fun j g=>by grind
open Go Go.Ev Go.RowKit
noncomputable def bGJ:Code->Array Oper | .region _ o _=>o | _ => #[]
noncomputable def copC:Code:=fstC (sndC (sndC (sndC (sndC (aS Tryz.f3)))))
noncomputable def copO:Array Oper:=bGJ copC
theorem bGd:copC = .region 6 copO true:=by kernel_rfl
theorem bC5:copO.size=16:=by kernel_rfl
theorem bGe : ∃ a, copO[0]? = some { dst := some 35, op := .load 28 (.tmp 4), type := 28, pos := "law.go:66", after := a, guard := none } := aCH (by kernel_rfl)
theorem bGf : ∃ a, copO[1]? = some { dst := some 36, op := .call { callee := .value (.func 13), args := #[.tmp 35], argTypes := #[28] }, type := 28, pos := "law.go:66", after := a, guard := none } := aCH (by kernel_rfl)
theorem bGg : ∃ a, copO[2]? = some { dst := some 37, op := .load 28 (.tmp 4), type := 28, pos := "law.go:66", after := a, guard := none } := aCH (by kernel_rfl)
theorem bGh : ∃ a, copO[3]? = some { dst := some 38, op := .call { callee := .value (.func 13), args := #[.tmp 37], argTypes := #[28] }, type := 28, pos := "law.go:66", after := a, guard := none } := aCH (by kernel_rfl)
theorem bGi : ∃ a, copO[4]? = some { dst := some 39, op := .load 28 (.tmp 4), type := 28, pos := "law.go:66", after := a, guard := none } := aCH (by kernel_rfl)
theorem bGj : ∃ a, copO[5]? = some { dst := some 40, op := .call { callee := .value (.func 13), args := #[.tmp 39], argTypes := #[28] }, type := 28, pos := "law.go:66", after := a, guard := none } := aCH (by kernel_rfl)
theorem bGk : ∃ a, copO[6]? = some { dst := some 41, op := .load 28 (.tmp 4), type := 28, pos := "law.go:66", after := a, guard := none } := aCH (by kernel_rfl)
theorem bGl : ∃ a, copO[7]? = some { dst := some 42, op := .call { callee := .value (.func 13), args := #[.tmp 41], argTypes := #[28] }, type := 28, pos := "law.go:66", after := a, guard := none } := aCH (by kernel_rfl)
theorem bGm : ∃ a, copO[8]? = some { dst := some 8, op := .alloc 28, type := 0, pos := "law.go:66", after := a, guard := none } := aCH (by kernel_rfl)
theorem bGn : ∃ a, copO[9]? = some { dst := some 9, op := .alloc 28, type := 0, pos := "law.go:66", after := a, guard := none } := aCH (by kernel_rfl)
theorem bEY : ∃ a, copO[10]? = some { dst := some 10, op := .alloc 28, type := 0, pos := "law.go:66", after := a, guard := none } := aCH (by kernel_rfl)
theorem bEZ : ∃ a, copO[11]? = some { dst := some 11, op := .alloc 28, type := 0, pos := "law.go:66", after := a, guard := none } := aCH (by kernel_rfl)
theorem bE0 : ∃ a, copO[12]? = some { dst := none, op := .store 28 (.tmp 8) (.tmp 36), type := 0, pos := "law.go:66", after := a, guard := none } := aCH (by kernel_rfl)
theorem bE1 : ∃ a, copO[13]? = some { dst := none, op := .store 28 (.tmp 9) (.tmp 38), type := 0, pos := "law.go:66", after := a, guard := none } := aCH (by kernel_rfl)
theorem bE2 : ∃ a, copO[14]? = some { dst := none, op := .store 28 (.tmp 10) (.tmp 40), type := 0, pos := "law.go:66", after := a, guard := none } := aCH (by kernel_rfl)
theorem bE3 : ∃ a, copO[15]? = some { dst := none, op := .store 28 (.tmp 11) (.tmp 42), type := 0, pos := "law.go:66", after := a, guard := none } := aCH (by kernel_rfl)
structure CK (l:List Value) (Xs:Nat) (nm:Str) (X:Nat) (d0 d1:Value):Prop where
 len:l.length=192
 s3:at_ l 3 = .pointer (some ⟨Xs,0,none⟩)
 s7:at_ l 7 = .string ⟨nm.toArray⟩
 s4:at_ l 4 = .pointer (some ⟨X,0,none⟩)
 s35:at_ l 35 = .agg #[d0,d1]
 s37:at_ l 37 = .agg #[d0,d1]
 s39:at_ l 39 = .agg #[d0,d1]
 s41:at_ l 41 = .agg #[d0,d1]
structure copE (d:GDoc) (nb:Nat) (M0:Mem) (w0:World) (M:Mem) (w:World) (Z0:Nat) (ga0:Option Addr) (n0 gc0:Nat) (gb0:Option Addr) (m0 gd0:Nat) (Z1:Nat) (ga1:Option Addr) (n1 gc1:Nat) (gb1:Option Addr) (m1 gd1:Nat) (Z2:Nat) (ga2:Option Addr) (n2 gc2:Nat) (gb2:Option Addr) (m2 gd2:Nat) (Z3:Nat) (ga3:Option Addr) (n3 gc3:Nat) (gb3:Option Addr) (m3 gd3:Nat) (iv:Nat->Nat×Nat):Prop where
 ivs:Ivs iv w.heap.size
 lo:∀ t,(iv t).2=0∨nb<=(iv t).1
 cons:Cons M w
 frm:From nb M0 w0 M w
 doc0:∃ ys zs u2 u3 u4,DS 0 (iv 0).1 (iv 0).2 M w d.ops d.frags (.slice ga0 n0 gc0) ys (.slice gb0 m0 gd0) zs u2 u3 u4
 box0:w.heap[Z0]?=some (.cells #[.slice ga0 n0 gc0,.slice gb0 m0 gd0] 28 (0,0))
 z0:iv 4=(Z0,Z0+1)
 fz0:∀ i,M Z0 i=none
 doc1:∃ ys zs u2 u3 u4,DS 0 (iv 1).1 (iv 1).2 M w d.ops d.frags (.slice ga1 n1 gc1) ys (.slice gb1 m1 gd1) zs u2 u3 u4
 box1:w.heap[Z1]?=some (.cells #[.slice ga1 n1 gc1,.slice gb1 m1 gd1] 28 (0,0))
 z1:iv 5=(Z1,Z1+1)
 fz1:∀ i,M Z1 i=none
 doc2:∃ ys zs u2 u3 u4,DS 0 (iv 2).1 (iv 2).2 M w d.ops d.frags (.slice ga2 n2 gc2) ys (.slice gb2 m2 gd2) zs u2 u3 u4
 box2:w.heap[Z2]?=some (.cells #[.slice ga2 n2 gc2,.slice gb2 m2 gd2] 28 (0,0))
 z2:iv 6=(Z2,Z2+1)
 fz2:∀ i,M Z2 i=none
 doc3:∃ ys zs u2 u3 u4,DS 0 (iv 3).1 (iv 3).2 M w d.ops d.frags (.slice ga3 n3 gc3) ys (.slice gb3 m3 gd3) zs u2 u3 u4
 box3:w.heap[Z3]?=some (.cells #[.slice ga3 n3 gc3,.slice gb3 m3 gd3] 28 (0,0))
 z3:iv 7=(Z3,Z3+1)
 fz3:∀ i,M Z3 i=none
theorem bC6 {b X d0 d1 M0 M w0 w} (d:X<b) (a:w0.heap[X]?=some (.cells #[d0,d1] 28 (0,0))) (c:From b M0 w0 M w):w.cell? ⟨X,0,none⟩=some d0/\w.cell? ⟨X,1,none⟩=some d1:=by
 have h:=(c.below.block X d).trans a;exact ⟨by rw [cell_of_row w X 0 _ _ _ h];rfl,by rw [cell_of_row w X 1 _ _ _ h];rfl⟩
section
theorem aMv:∀ l i j v,i<l.length->at_ (l.set i v) j=if i=j then v else at_ l j
 | [],i,j,v,h=>by grind
 | x::l,0,0,v,h=>by simp [at_]
 | x::l,0,j+1,v,h=>by simp [at_]
 | x::l,i+1,0,v,h=>by simp [at_]
 | x::l,i+1,j+1,v,h=>by
  have:=aMv l i j v (by grind);simpa [at_] using this
theorem CK.set {l b X a d0 d1} (h:CK l b a X d0 d1) i v (n:(8<=i/\i<12)∨i=36∨i=38∨i=40∨i=42):CK (l.set i v) b a X d0 d1:=by
 have f:i<l.length:=by rw [h.len];omega
 obtain ⟨o,j,m,k,c,e,g,d⟩:=h;refine ⟨by grind,?_,?_,?_,?_,?_,?_,?_⟩<;>rw [aMv _ _ _ _ f,if_neg (by omega)]<;>assumption
structure NI (d:GDoc) (nb X:Nat) (d0 d1:Value) (M0:Mem) (w0:World) (Xs:Nat) (nm:Str) (c:Nat) (b:Nat->Bool) (iv:Nat->Nat×Nat) (l:List Value) (M:Mem) (w:World):Prop where
 ck:CK l Xs nm X d0 d1
 ivs:Ivs iv w.heap.size
 lo:∀ t,(iv t).2=0∨nb<=(iv t).1
 cons:Cons M w
 frm:From nb M0 w0 M w
 le:nb<=w.heap.size
 doc:∀ t,t<c->aX4 d iv t M w (at_ l (36+2*t))
 z:∀ t,t<4->b t=true->ZAt iv (4+t) M w (at_ l (8+t))
variable {d : GDoc} {nb X : Nat} {d0 d1 : Value} {M0 : Mem} {w0 : World} {Xs : Nat} {nm : Str} {c : Nat} {b : Nat -> Bool} {iv : Nat -> Nat × Nat} {l : List Value} {M : Mem} {w : World}
theorem NI.call (h:NI d nb X d0 d1 M0 w0 Xs nm c b iv l M w) (F:c<4) (g:0<d.ops.length) {m j ys C B y A u s v q o r} (a:DQ 0 B y A M w m j d.ops d.frags (.slice u v q) ys (.slice s o r) C):NI d nb X d0 d1 M0 w0 Xs nm (c+1) b (upd iv c (w.heap.size,j.heap.size)) (l.set (36+2*c) (.agg #[.slice u v q,.slice s o r])) m j:=by
 have p:36+2*c<l.length:=by rw [h.ck.len];omega
 have f:=aUE a.frm;have D:=h.le;refine ⟨h.ck.set _ _ (by omega),h.ivs.upd c a.frm.below.size,bDJ h.lo c h.le,a.cons,h.frm.trans ⟨a.frm.mem,fun b x i=>a.frm.old b (by omega) i,a.frm.below.os,a.frm.below.tape,a.frm.below.output,a.frm.below.size,fun k E=>a.frm.below.block k (by omega)⟩,Nat.le_trans h.le a.frm.below.size,fun t n => ?_,fun t n x => ?_⟩
 ·rw [aMv _ _ _ _ p];by_cases e:t=c;· subst e;rw [if_pos rfl];exact bEX a g _ rfl rfl
  rw [if_neg (by omega)];exact (h.doc t (by omega)).keep h.ivs f _ _ e
 rw [aMv _ _ _ _ p,if_neg (by omega)];exact (h.z t n x).keep h.ivs f _ _ (by omega)
theorem NI.alloc (h:NI d nb X d0 d1 M0 w0 Xs nm c b iv l M w) t (k:t<4) (j:c<=4):NI d nb X d0 d1 M0 w0 Xs nm c (fun s=>s==t||b s) (upd iv (4+t) (w.heap.size,(w.alloc (.cells #[.slice none 0 0,.slice none 0 0] 28)).heap.size)) (l.set (8+t) (.pointer (some ⟨w.heap.size,0,none⟩))) M (w.alloc (.cells #[.slice none 0 0,.slice none 0 0] 28)):=by
 have i:8+t<l.length:=by rw [h.ck.len];omega
 have a:=bAC M w (.cells #[.slice none 0 0,.slice none 0 0] 28);have f:w.heap.size<=(w.alloc (.cells #[.slice none 0 0,.slice none 0 0] 28)).heap.size:=by simp
 refine ⟨h.ck.set _ _ (by omega),h.ivs.upd _ f,bDJ h.lo _ h.le,kO h.cons ((Below.refl _ _).alloc (by omega) _),h.frm.trans (From.of_below ((Below.refl _ _).alloc h.le _)),Nat.le_trans h.le f,fun s g => ?_,fun s g m => ?_⟩;· rw [aMv _ _ _ _ i,if_neg (by omega)];exact (h.doc s g).keep h.ivs a _ _ (by omega)
 rw [aMv _ _ _ _ i];by_cases e:s=t;· subst e;rw [if_pos rfl];exact bEW h.cons _
 rw [if_neg (by omega)];exact (h.z s g (by grind)).keep h.ivs a _ _ (by omega)
end
theorem aWm:∀ l i,l.toArray.getD i undef=at_ l i
 | [],i=>by simp [at_]
 | v::l,0=>by simp [at_]
 | v::l,i+1=>by have:=aWm l i;simpa [at_] using this
structure Ld (l:List Value) (v:Value):Prop where
 s:∀ c,c<4->at_ l (35+2*c)=v
theorem bE4 {l w d0 d1 m Q} {R:World->Value->Prop} (a:Calls Tryz.prog 13 #[.agg #[d0,d1]] w fun e w'=>∃ v,e = .returned v/\R w' v):∀ c,c<4->at_ l (35+2*c) = .agg #[d0,d1]->(∀ v w',R w' v->m ⟨(l.set (36+2*c) v).toArray,[]⟩ w')->wpOp Tryz.prog copO Q (1+2*c) m ⟨l.toArray,[]⟩ w:=by
 intro c o n h;have i:=(aWm l (35+2*c)).trans n;generalize p:l.toArray=q at i ⊢;match c,o with
 | 0,_ =>
  obtain ⟨j,g⟩:=bGf;refine qQ g (fun K d => ?_);simp at i;go_simp;go_at_call 13;refine a.mono ?_;rintro k f ⟨v,rfl,b⟩;subst p;have:=d.out _ _ (h v f b);grind
 | 1,_ =>
  obtain ⟨j,g⟩:=bGh;refine qQ g (fun K d => ?_);simp at i;go_simp;go_at_call 13;refine a.mono ?_;rintro k f ⟨v,rfl,b⟩;have:=d.out _ _ (h v f b);grind
 | 2,_ =>
  obtain ⟨j,g⟩:=bGj;refine qQ g (fun K d => ?_);go_simp;refine a.mono ?_;rintro k f ⟨v,rfl,b⟩;have:=d.out _ _ (h v f b);grind
 | 3,_ =>
  obtain ⟨j,g⟩:=bGl;refine qQ g (fun K d => ?_);go_simp;refine a.mono ?_;rintro k f ⟨v,rfl,b⟩;have:=d.out _ _ (h v f b);grind
theorem bC7 {l:List Value} {w d Q}:∀ t,t<4->d ⟨(l.set (8+t) (.pointer (some ⟨w.heap.size,0,none⟩))).toArray,[]⟩ (w.alloc (.cells #[.slice none 0 0,.slice none 0 0] 28))->wpOp Tryz.prog copO Q (8+t) d ⟨l.toArray,[]⟩ w:=by
 intro t e h;match t,e with
 | 0,_ =>
  obtain ⟨c,a⟩:=bGm;refine qQ a (fun K b => ?_);go_simp;have:=b.out _ _ h;grind
 | 1,_ =>
  obtain ⟨c,a⟩:=bGn;refine qQ a (fun K b => ?_);go_simp;have:=b.out _ _ h;grind
 | 2,_ =>
  obtain ⟨c,a⟩:=bEY;refine qQ a (fun K b => ?_);go_simp;have:=b.out _ _ h;grind
 | 3,_ =>
  obtain ⟨c,a⟩:=bEZ;refine qQ a (fun K b => ?_);go_simp;have:=b.out _ _ h;grind
def bits (c:Nat) (b:Nat->Bool):Array Bool := #[true,0<c,true,1<c,true,2<c,true,3<c,b 0,b 1,b 2,b 3,false,false,false,false]
def bN (n:Nat) (t:Nat):Bool:=n.testBit t
theorem bE5:((List.range 5).all fun c=>(List.range 16).all fun n=>(Region.ready .any copO (bits c (bN n))).all fun i=>(c<4&&i==1+2*c)||((List.range 4).any fun t=>i==8+t && !bN n t)||(c==4&&n==15&&i==12))=true:=by kernel_rfl
theorem bC8:((List.range 5).all fun c=>(List.range 16).all fun n => !(Region.ready .any copO (bits c (bN n))).isEmpty)=true:=by kernel_rfl
def bset (b:Nat->Bool) (t:Nat):Nat->Bool:=fun s=>s==t||b s
theorem bAD c b (a:c<4):(bits c b).setIfInBounds (1+2*c) true=bits (c+1) b:=by
 match c,a with
 | 0,_=>rfl
 | 1,_=>rfl
 | 2,_=>rfl
 | 3,_=>rfl
theorem aX5 c b t (a:t<4):(bits c b).setIfInBounds (8+t) true=bits c (bset b t):=by
 match t,a with
 | 0,_=>simp [bits,bset]
 | 1,_=>simp [bits,bset]
 | 2,_=>simp [bits,bset]
 | 3,_=>simp [bits,bset]
def cnt (b:Nat->Bool):Nat:=(bif b 0 then 0 else 1)+(bif b 1 then 0 else 1)+(bif b 2 then 0 else 1)+(bif b 3 then 0 else 1)
theorem bAE b t (a:t<4) (h:b t=false):cnt b=cnt (bset b t)+1:=by
 match t,a with
 | 0,_=>simp [cnt,bset,h];omega
 | 1,_=>simp [cnt,bset,h];omega
 | 2,_=>simp [cnt,bset,h];omega
 | 3,_=>simp [cnt,bset,h]
theorem bDK c b:∃ n,n<16/\(∀ t,t<4->bN n t=b t)/\bits c b=bits c (bN n):=by
 have key:∀ j f a g,∃ n,n<16/\bN n 0=j/\bN n 1=f/\bN n 2=a/\bN n 3=g:=by decide
 obtain ⟨n,k,i,h,e,d⟩:=key (b 0) (b 1) (b 2) (b 3);refine ⟨n,k,fun t l => ?_,?_⟩;· grind
 simp [bits,i,h,e,d]
theorem bGo c (k:c<=4) b i (h:i∈Region.ready .any copO (bits c b)):(c<4/\i=1+2*c)∨(∃ t,t<4/\i=8+t/\b t=false)∨(c=4/\(∀ t,t<4->b t=true)/\i=12):=by
 obtain ⟨n,l,j,e⟩:=bDK c b;rw [e] at h;have:=List.all_eq_true.1 (List.all_eq_true.1 (List.all_eq_true.1 bE5 c (by grind)) n (by grind)) i h;simp at this;rcases this with (⟨f,d⟩ | ⟨t,a,f,d⟩) | ⟨⟨f,d⟩,g⟩;· omega
 ·grind
 refine .inr (.inr ⟨f,fun t a => ?_,g⟩);rw [<- j t a,d];match t,a with
 | 0,_=>rfl
 | 1,_=>rfl
 | 2,_=>rfl
 | 3,_=>rfl
theorem bGp c (d:c<=4) b:Region.ready .any copO (bits c b)≠[]:=by
 obtain ⟨n,f,a,e⟩:=bDK c b;have:=List.all_eq_true.1 (List.all_eq_true.1 bC8 c (by grind)) n (by grind);grind
theorem bC9 d F X d0 d1 M0 w0 H J (I:X<F) (C:w0.heap[X]?=some (.cells #[d0,d1] 28 (0,0))) Q (B:0<d.ops.length)
  (z:∀ M w,Cons M w->From F M0 w0 M w->Calls Tryz.prog 13 #[.agg #[d0,d1]] w fun e w'=>∃ M' o n f ys j m g y x q s,e = .returned (.agg #[.slice o n f,.slice j m g])/\DQ 0 x q s M w M' w' d.ops d.frags (.slice o n f) ys (.slice j m g) y)
  (A:∀ b r l M w,(∀ t,t<4->b t=true)->NI d F X d0 d1 M0 w0 H J 4 b r l M w->wpB Tryz.prog .any copO Q (fun w'=>w'.cell? ⟨X,0,none⟩=some d0/\w'.cell? ⟨X,1,none⟩=some d1) (fun _=>false) 4 (bits 4 b) ⟨l.toArray,[]⟩ w) :
  ∀ k c b r l M w,c<=4->(4-c)+cnt b=k->NI d F X d0 d1 M0 w0 H J c b r l M w->wpB Tryz.prog .any copO Q (fun w'=>w'.cell? ⟨X,0,none⟩=some d0/\w'.cell? ⟨X,1,none⟩=some d1) (fun _=>false) (4+k) (bits c b) ⟨l.toArray,[]⟩ w:=by
 intro k;induction k with
 | zero =>
  intro c b r l M w D N h;obtain rfl:c=4:=by omega
  refine A b r l M w (fun t u => ?_) h;cases p:b t with
  | true=>rfl
  | false=>have:=bAE b t u p;omega
 | succ k K =>
  intro c b r l M w D N h;refine aJg rfl (bGp c D b) fun i L => ?_;rcases bGo c D b i L with ⟨a,rfl⟩ | ⟨t,u,rfl,p⟩ | ⟨rfl,p,rfl⟩
  ·refine bE4 (R:=fun w' v=>∃ M' o n f ys j m g y x q s,v = .agg #[.slice o n f,.slice j m g]/\DQ 0 x q s M w M' w' d.ops d.frags (.slice o n f) ys (.slice j m g) y) (d0:=d0) (d1:=d1) ((z M w h.cons h.frm).mono ?_) c a ?_ ?_;· rintro e w' ⟨M',o,n,f,ys,j,m,g,y,x,q,s,rfl,G⟩;exact ⟨_,rfl,M',o,n,f,ys,j,m,g,y,x,q,s,rfl,G⟩
   ·match c,a with
    | 0,_=>exact h.ck.s35
    | 1,_=>exact h.ck.s37
    | 2,_=>exact h.ck.s39
    | 3,_=>exact h.ck.s41
   rintro v w' ⟨M',o,n,f,ys,j,m,g,y,x,q,s,rfl,G⟩;have E:=h.call a B G;refine ⟨fun _=>bC6 I C E.frm,?_⟩;rw [bAD c b a];exact by grind
  ·have E:=h.alloc t u D;refine bC7 t u ⟨fun _=>bC6 I C E.frm,?_⟩;rw [aX5 c b t u];exact K _ _ _ _ _ _ D (by have:=bAE b t u p;omega) E
  exfalso;have:cnt b=0:=by simp [cnt,p 0 (by decide),p 1 (by decide),p 2 (by decide),p 3 (by decide)]
  omega
theorem bDa {l w f Q Z x y} (q:w.heap[Z]?=some (.cells #[.slice none 0 0,.slice none 0 0] 28 (0,0))):∀ t,t<4->at_ l (8+t) = .pointer (some ⟨Z,0,none⟩)->at_ l (36+2*t) = .agg #[x,y]->(∃ a n c,x = .slice a n c)->(∃ a n c,y = .slice a n c)->f ⟨l.toArray,[]⟩ ((w.setCell ⟨Z,0,none⟩ x).setCell ⟨Z,1,none⟩ y)->wpOp Tryz.prog copO Q (12+t) f ⟨l.toArray,[]⟩ w:=by
 rintro t k p o ⟨z,B,r,rfl⟩ ⟨u,C,s,rfl⟩ h;have j:w.cell? ⟨Z,0,none⟩=some (.slice none 0 0):=by rw [cell_of_row _ Z 0 _ _ _ q];rfl
 have i:w.cell? ⟨Z,1,none⟩=some (.slice none 0 0):=by rw [cell_of_row _ Z 1 _ _ _ q];rfl
 have m  := frozen_of_row _ _ 0 _ _ q;have g  := frozen_of_row _ _ 1 _ _ q;have g1:=(aWm l (8+t)).trans p;have g2:=(aWm l (36+2*t)).trans o;generalize A:l.toArray=v at g1 g2 h ⊢;match t,k with
 | 0,_ =>
  obtain ⟨e,d⟩:=bE0;refine qQ d (fun K b => ?_);simp at g1 g2;go_simp;exact b.out _ _ h
 | 1,_ =>
  obtain ⟨e,d⟩:=bE1;refine qQ d (fun K b => ?_);go_simp;exact b.out _ _ h
 | 2,_ =>
  obtain ⟨e,d⟩:=bE2;refine qQ d (fun K b => ?_);go_simp;exact b.out _ _ h
 | 3,_ =>
  obtain ⟨e,d⟩:=bE3;refine qQ d (fun K b => ?_);go_simp;exact b.out _ _ h
section
def bGK:Value->Array Value | .agg a=>a | _ => #[]
structure BI (d:GDoc) (nb X:Nat) (d0 d1:Value) (M0:Mem) (w0:World) (Xs:Nat) (nm:Str) (s:Nat) (iv:Nat->Nat×Nat) (l:List Value) (M:Mem) (w:World):Prop where
 ck:CK l Xs nm X d0 d1
 ivs:Ivs iv w.heap.size
 lo:∀ t,(iv t).2=0∨nb<=(iv t).1
 cons:Cons M w
 frm:From nb M0 w0 M w
 doc:∀ t,t<4->aX4 d iv t M w (at_ l (36+2*t))
 z:∀ t,t<4->∃ Z,at_ l (8+t) = .pointer (some ⟨Z,0,none⟩)/\iv (4+t)=(Z,Z+1)/\(∀ i,M Z i=none)/\w.heap[Z]?=some (.cells (if t<s then bGK (at_ l (36+2*t)) else #[.slice none 0 0,.slice none 0 0]) 28 (0,0))
variable {d : GDoc} {nb X : Nat} {d0 d1 : Value} {M0 : Mem} {w0 : World} {Xs : Nat} {nm : Str} {s : Nat} {b : Nat -> Bool} {iv : Nat -> Nat × Nat} {l : List Value} {M : Mem} {w : World}
theorem NI.bi (h:NI d nb X d0 d1 M0 w0 Xs nm 4 b iv l M w) (c:∀ t,t<4->b t=true):BI d nb X d0 d1 M0 w0 Xs nm 0 iv l M w :=
 ⟨h.ck,h.ivs,h.lo,h.cons,h.frm,h.doc,fun t a=>by obtain ⟨Z,e,f,i,g⟩:=h.z t a (c t a);grind⟩
theorem BI.store (h:BI d nb X d0 d1 M0 w0 Xs nm s iv l M w) (K:s<4):∃ Z x y,w.heap[Z]?=some (.cells #[.slice none 0 0,.slice none 0 0] 28 (0,0))/\at_ l (8+s) = .pointer (some ⟨Z,0,none⟩)/\at_ l (36+2*s) = .agg #[x,y]/\(∃ a n c,x = .slice a n c)/\(∃ a n c,y = .slice a n c)/\BI d nb X d0 d1 M0 w0 Xs nm (s+1) iv l M ((w.setCell ⟨Z,0,none⟩ x).setCell ⟨Z,1,none⟩ y):=by
 obtain ⟨Z,e,o,R,r⟩:=h.z s K;rw [if_neg (Nat.lt_irrefl _)] at r;obtain ⟨O,n,H,ys,J,L,I,zs,W,U,u4,N,Y⟩:=h.doc s K;refine ⟨Z,_,_,r,e,N,⟨_,_,_,rfl⟩,⟨_,_,_,rfl⟩,?_⟩;have Q:∀ k,k≠Z->((w.setCell ⟨Z,0,none⟩ (.slice O n H)).setCell ⟨Z,1,none⟩ (.slice J L I)).heap[k]?=w.heap[k]?:=fun k B=>by rw [Below.heap_setCell _ _ _ _ B,Below.heap_setCell _ _ _ _ B]
 have A:((w.setCell ⟨Z,0,none⟩ (.slice O n H)).setCell ⟨Z,1,none⟩ (.slice J L I)).heap.size=w.heap.size:=by simp
 have hZ  := by have:=h.lo (4+s);rw [o] at this;simp at this;omega
 have G  := fun t b=>by have:=h.ivs.dis t (4+s) b;rw [o] at this;exact this
 refine ⟨h.ck,by rw [A];exact h.ivs,h.lo,iU h.cons fun k _ ⟨i,hi⟩=>by grind,h.frm.trans (From.of_below ⟨by simp [bDI],by simp,by simp [aMu],by omega,fun k B=>by grind⟩),fun t b => ?_,fun t b => ?_⟩;· obtain ⟨j,k,q,v,E,P,u,p,F,g,C,S,D⟩:=h.doc t b;exact ⟨j,k,q,v,E,P,u,p,F,g,C,S,D.move (fun _ _ _ h=>h) (fun k _ _=>by grind) (fun _ _ _ _=>rfl)⟩
 by_cases m:t=s;· subst m;refine ⟨Z,e,o,R,?_⟩;rw [if_pos (Nat.lt_succ_self _),N];exact heap_setCell_same _ _ _ _ _ _ (heap_setCell_same _ _ _ _ _ _ r)
 obtain ⟨V,f,f2,T,fb⟩:=h.z t b;grind
end
section
variable {d : GDoc} {nb X : Nat} {d0 d1 : Value} {M0 : Mem} {w0 : World} {Xs : Nat} {nm : Str} {s : Nat} {b : Nat -> Bool} {iv : Nat -> Nat × Nat} {l : List Value} {M : Mem} {w : World}
def aX6 (s:Nat):Array Bool := #[true,true,true,true,true,true,true,true,true,true,true,true,0<s,1<s,2<s,3<s]
theorem aX7:∀ s,s<4->(aX6 s).setIfInBounds (12+s) true=aX6 (s+1):=by decide
theorem bAF (a:∀ t,t<4->b t=true):bits 4 b=aX6 0:=by
 simp [bits,aX6,a 0 (by decide),a 1 (by decide),a 2 (by decide),a 3 (by decide)]
theorem rdyS:((List.range 4).all fun s=>Region.ready .any copO (aX6 s)==[12+s])=true:=by kernel_rfl
theorem bGq (n:X<nb) (b:w0.heap[X]?=some (.cells #[d0,d1] 28 (0,0))) {Q} (i:∀ M w,BI d nb X d0 d1 M0 w0 Xs nm 4 iv l M w->Q .normal ⟨l.toArray,[]⟩ w):∀ k s w,s+k=4->BI d nb X d0 d1 M0 w0 Xs nm s iv l M w->wpB Tryz.prog .any copO Q (fun w'=>w'.cell? ⟨X,0,none⟩=some d0/\w'.cell? ⟨X,1,none⟩=some d1) (fun _=>false) k (aX6 s) ⟨l.toArray,[]⟩ w:=by
 intro k;induction k with
 | zero =>
  intro s w f h;obtain rfl:s=4:=by omega
  exact iF (by kernel_rfl) (i M w h) _
 | succ k p =>
  intro s w f h;have a:s<4:=by omega
  have o:=List.all_eq_true.1 rdyS s (by grind);obtain ⟨Z,x,y,q,m,g,e,c,j⟩:=h.store a;refine bC4 (12+s) (by grind) (bDa q s a m g e c ⟨fun _=>bC6 n b j.frm,?_⟩);rw [aX7 s a];grind
end
theorem BI.out {d T X d0 d1 M0 w0 S W t l M w} (h:BI d T X d0 d1 M0 w0 S W 4 t l M w) {Q:Exit->Act->World->Prop} (hC:∀ M w' t x q O p m J k v a L o s D r u b G n f K j y c A e g B i l,copE d T M0 w0 M w' x q O p m J k v a L o s D r u b G n f K j y c A e g B i t->FK l S W x v u y->Q .normal ⟨l.toArray,[]⟩ w'):Q .normal ⟨l.toArray,[]⟩ w:=by
 obtain ⟨x,p0,e0,f0,U⟩:=h.z 0 (by decide);obtain ⟨q,O,p,R,m,J,k,H,u0,v0,t0,a0,D0⟩:=h.doc 0 (by decide);rw [a0] at U;obtain ⟨v,p1,e1,f1,V⟩:=h.z 1 (by decide);obtain ⟨a,L,o,P,s,D,r,N,u1,v1,t1,a1,D1⟩:=h.doc 1 (by decide);rw [a1] at V;obtain ⟨u,p2,e2,f2,Y⟩:=h.z 2 (by decide);obtain ⟨b,G,n,F,f,K,j,I,u2,v2,t2,a2,D2⟩:=h.doc 2 (by decide);rw [a2] at Y;obtain ⟨y,p3,e3,f3,Z⟩:=h.z 3 (by decide);obtain ⟨c,A,e,E,g,B,i,C,u3,v3,t3,a3,D3⟩:=h.doc 3 (by decide);rw [a3] at Z;exact hC M w t x q O p m J k v a L o s D r u b G n f K j y c A e g B i l ⟨h.ivs,h.lo,h.cons,h.frm,⟨R,H,u0,v0,t0,D0⟩,U,e0,f0,⟨P,N,u1,v1,t1,D1⟩,V,e1,f1,⟨F,I,u2,v2,t2,D2⟩,Y,e2,f2,⟨E,C,u3,v3,t3,D3⟩,Z,e3,f3⟩ ⟨h.ck.len,h.ck.s3,h.ck.s7,p0,p1,p2,p3⟩
theorem bGr d nb X d0 d1 M0 w0 (c:X<nb) (hw0:w0.heap[X]?=some (.cells #[d0,d1] 28 (0,0))) (Q:Exit->Act->World->Prop) Xs nm
  (v:∀ M w' iv o ga0 F gc0 gb0 C gd0 j ga1 E gc1 gb1 z gd1 a ga2 A gc2 gb2 D gd2 q ga3 s gc3 gb3 u gd3 l,copE d nb M0 w0 M w' o ga0 F gc0 gb0 C gd0 j ga1 E gc1 gb1 z gd1 a ga2 A gc2 gb2 D gd2 q ga3 s gc3 gb3 u gd3 iv->FK l Xs nm o j a q->Q .normal ⟨l.toArray,[]⟩ w') (hdoc:∀ M w,Cons M w->From nb M0 w0 M w->Calls Tryz.prog 13 #[.agg #[d0,d1]] w fun e w'=>∃ M' p n f ys i m g G x r B,e = .returned (.agg #[.slice p n f,.slice i m g])/\DQ 0 x r B M w M' w' d.ops d.frags (.slice p n f) ys (.slice i m g) G) (hops:0<d.ops.length) l (hck:CK l Xs nm X d0 d1) (y:Cons M0 w0) (H:nb=w0.heap.size) :
  wpB Tryz.prog .any copO (Exit.then (Q .normal) (fun _ _ _=>False)) (fun w'=>w'.cell? ⟨X,0,none⟩=some d0/\w'.cell? ⟨X,1,none⟩=some d1) (fun _=>false) 12 #[true,false,true,false,true,false,true,false,false,false,false,false,false,false,false,false] ⟨l.toArray,[]⟩ w0:=by
 refine bC9 d _ X d0 d1 M0 w0 Xs nm c hw0 _ hops hdoc (fun b iv l M w k h => ?_) 8 0 (fun _=>false) (fun _=>(0,0)) l M0 w0 (by decide) rfl ⟨hck,Ivs.none _,fun _ => .inl rfl,y,From.refl _ _ _,by omega,fun t I=>by omega,fun t _ h=>by cases h⟩;rw [bAF k];exact bGq (Q:=Exit.then (Q .normal) (fun _ _ _=>False)) c hw0 (fun M w h=>h.out v) 4 0 w rfl (h.bi k)
theorem cop d X G N M w a b l p q r (hd:eF d<=1048576) (j:0<d.ops.length) (hc:Cons M w) (g:Rv M noB (.slice (List.map aU d.ops) [] false) (.slice a l p)) (k:Rv M noB (.slice (List.map aG d.frags) [] false) (.slice b q r)) (s:w.heap[X]?=some (.cells #[.slice a l p,.slice b q r] 28 (0,0))) Q fr (o:fr.length=192) (A:at_ fr 3 = .pointer (some ⟨G,0,none⟩)) (y:at_ fr 7 = .string ⟨N.toArray⟩) (z:at_ fr 4 = .pointer (some ⟨X,0,none⟩))
  (L:∀ M' w' iv Z0 ga0 n0 gc0 V m0 U Z1 C n1 Y gb1 m1 gd1 Z2 F n2 W J m2 T Z3 H n3 I K m3 S l,copE d w.drew.heap.size M w.drew M' w' Z0 ga0 n0 gc0 V m0 U Z1 C n1 Y gb1 m1 gd1 Z2 F n2 W J m2 T Z3 H n3 I K m3 S iv->FK l G N Z0 Z1 Z2 Z3->Q .normal ⟨l.toArray,[]⟩ w') :
  Code.wp Tryz.prog copC Q ⟨fr.toArray,[]⟩ w:=by
 obtain ⟨d0,P⟩:∃ d0:Value,d0 = .slice a l p:=⟨_,rfl⟩;obtain ⟨d1,h1⟩:∃ d1:Value,d1 = .slice b q r:=⟨_,rfl⟩;have c:∀ M1 f,Cons M1 f->From w.drew.heap.size M w.drew M1 f->Calls Tryz.prog 13 #[.agg #[d0,d1]] f fun e w'=>∃ M' B n u ys x m v zs O D u4,e = .returned (.agg #[.slice B n u,.slice x m v])/\DQ 0 O D u4 M1 f M' w' d.ops d.frags (.slice B n u) ys (.slice x m v) zs:=by
  intro M1 f E hf;rw [P,h1];refine (bC1 0 d M1 f (.slice a l p) (.slice b q r) hd E (g.mono hf.mem (fun _ _ _ h=>h)) (k.mono hf.mem (fun _ _ _ h=>h))).mono ?_;rintro e w' ⟨M',B,u,ys,x,v,zs,O,D,u4,rfl,h⟩;exact ⟨M',B,_,u,ys,x,_,v,zs,O,D,u4,rfl,h⟩
 rw [<- P,<- h1] at s;clear P h1 g k;have i  := (Array.getElem?_eq_some_iff.1 s).1;have t:=bC6 (M0:=M) (M:=M) (w0:=w.drew) (w:=w.drew) i s (From.refl _ _ _);have key:=fun l h=>bGr d w.drew.heap.size X d0 d1 M w.drew i s Q G N L c j l h (tG hc) rfl;replace L:=(id L:Hid _);replace c:=(id c:Hid _);replace key:=(id key:Hid _);revert A z y;refine jE 192 (fun fr=>at_ fr 3=_->at_ fr 7=_->at_ fr 4=_->Code.wp Tryz.prog _ _ ⟨fr.toArray,[]⟩ _) ?_ fr o;simp only [AllL];iterate 192 intro _
 intro A y z;simp [at_] at A z y;subst A z y;rw [bGd];refine Code.wp_mono (Q:=Exit.then (Q .normal) (fun _ _ _=>False)) (fun e a w h=>by cases e<;>first | exact h | exact h.elim) ?_;refine jO (fun w'=>w'.cell? ⟨X,0,none⟩=some d0/\w'.cell? ⟨X,1,none⟩=some d1) (fun _=>false) (by kernel_rfl) ?_;rw [bC5];obtain ⟨af0,ho0⟩:=bGe;refine tk 0 t ?_ ho0;obtain ⟨af2,R⟩:=bGg;refine tk 2 t ?_ R;obtain ⟨af4,Z⟩:=bGi;refine tk 4 t ?_ Z;obtain ⟨af6,ho6⟩:=bGk;refine tk 6 t ?_ ho6;exact key.out _ ⟨rfl,rfl,rfl,rfl,rfl,rfl,rfl,rfl⟩
end Go.Proofs.YtphmfillajagdaaGreat
