import Derived.Test.YtphmfillajagdaaGreatGd
import Derived.Test.YtphmfillajagdaaGreatEd
import Derived.Test.YtphmfillajagdaaGreatEt
import Derived.Test.YtphmfillajagdaaGreatGa
import Derived.KernelRfl
set_option linter.unusedVariables false
set_option linter.unusedSimpArgs false
set_option linter.unusedSimpArgs false
open Go Go.Ev
namespace Go.Proofs.YtphmfillajagdaaGreat
def aMf (c:Int):Bool:=(decide (97<=c)&&decide (c<=122))||((decide (65<=c)&&decide (c<=90))||c==95)
def bBX (c:Int):Bool:=decide (48<=c)&&decide (c<=57)
theorem aJ1 c:aIg c=some (aMf c):=by
 apply aQ1;simp [aCv,aMf,aYV];grind
theorem aJ2 c:aIf c=some (bBX c):=by
 apply aQW;simp [aCt,bBX,aYV];grind
def aVx (c:UInt8):Bool:=aMf c.toNat||bBX c.toNat
def aZY:Str->Bool
 | []=>false
 | c::s=>aMf c.toNat&&s.all aVx
theorem aXI s (h : s.length < 4611686018427387904) : aSN s = some (aZY s) := by
 apply aTQ;have key := aL2 (b := pC s) s (fun k (_ : Unit) => k) (fun r _ => if r.all (fun c => aVx c) then Sum.inl () else Sum.inr ()) (fun k _ => 1 <= k)
  (by
   simp [pC])
  (by
   intro k x r a l f n m;have i : (decide (k < (List.length s : Int))) = true := by grind
   have g : IntKind.wrap .i64 (k + 1) = ((k + 1 : Nat) : Int) := wadd (by omega);simp only [pC, i, tS, f, aJ1, aJ2, g];cases d : aMf x.toNat <;> cases e : bBX x.toNat <;> simp [aVx, d, e])
 unfold aFj;cases s with
 | nil => rfl
 | cons c s =>
  have : nthI (c :: s) 0 = some c := rfl;have j : ((c :: s) == ([] : Str)) = false := rfl;simp [this, aJ1];cases d : aMf c.toNat with
  | false => simp [aZY, d]
  | true =>
   have := key 1 () (by simp) (by omega);rw [show ((1 : Nat) : Int) = 1 from rfl] at this;simp only [this, List.drop_succ_cons, List.drop_zero, aZY, d];cases e : s.all aVx <;> simp
open Go Go.Ev
mutual
def szV:GValue->Nat
 | ⟨_,_,s,l,m⟩=>1+s.length+szVs l+szMs m
def szVs:List GValue->Nat
 | []=>0
 | x::l=>szV x+szVs l
def szM:GMember->Nat
 | ⟨n,v⟩=>n.length+szV v
def szMs:List GMember->Nat
 | []=>0
 | x::l=>szM x+szMs l
end
theorem aMg v:szV v=1+v.s.length+szVs v.l+szMs v.m:=by cases v;simp [szV]
theorem aVy x:szM x=x.name.length+szV x.v:=by cases x;simp [szM]
theorem aOc {x}:∀ {l},x∈l->szV x<=szVs l
 | a::l,h=>by
  simp [szVs];rcases List.mem_cons.1 h with rfl | h;· omega
  have:=aOc h;omega
theorem aOd {x}:∀ {l},x∈l->szM x<=szMs l
 | a::l,h=>by
  simp [szMs];rcases List.mem_cons.1 h with rfl | h;· omega
  have:=aOd h;omega
theorem aOe:∀ l,l.length<=szVs l
 | []=>by simp
 | a::l=>by have:=aOe l;have:=aMg a;simp [szVs];omega
theorem aOf:∀ l,l.length<=szMs l
 | []=>by simp
 | a::l=>by have:=aOf l;have:=aVy a;have:=aMg a.v;simp [szMs];omega
mutual
theorem aZZ:∀ v:GValue,szV v<=bY v
 | ⟨_,_,s,l,m⟩=>by
  have b:=aZ0 l;have a:=aZ1 m;simp [szV,bY,dA];omega
theorem aZ0:∀ l:List GValue,szVs l<=rK l
 | []=>by simp [szVs]
 | x::l=>by have:=aZZ x;have:=aZ0 l;simp only [szVs,rK];omega
theorem bDB:∀ x:GMember,szM x<=aX x
 | ⟨n,v⟩=>by have:=aZZ v;simp only [szM,aX,dA];omega
theorem aZ1:∀ l:List GMember,szMs l<=nP l
 | []=>by simp [szMs]
 | x::l=>by have:=bDB x;have:=aZ1 l;simp only [szMs,nP];omega
end
theorem aEk l v (m : Sm l) : ∃ i, gE l v = some i /\ decide (i ≥ 0) = l.contains v := by
 have key := cR (b := cB l v) l (fun k (_ : Nat) => k) (fun r k => match r.findIdx? (fun y => v == y) with | some j => Sum.inr ((k + j : Nat) : Int) | none => Sum.inl ()) (fun k a => a = k) m
  (by simp [cB])
  (by
   intro k x r a t q p f e d g;subst g;simp only [cB, f, e, dZ, d, List.findIdx?_cons];cases hv : v == x;· refine .inr ⟨a + 1, rfl, rfl, ?_⟩;grind
   simp) (s := 0) (a := 0) rfl rfl
 have c : ∀ i, dD l v = some i -> gE l v = some i := fun i h => wP h;unfold dD at c;have o : l.contains v = (l.findIdx? (fun y => v == y)).isSome := by
  grind
 cases n : l.findIdx? (fun y => v == y) with
 | none => simp_all
 | some j => simp_all
theorem aAd l v (c:Sm l):iJ l v=some (l.contains v):=by
 obtain ⟨i,b,a⟩:=aEk l v c;apply tB;simp [dM,b,a]
theorem tC l v (f:Sm l):aCU l v=some (l.contains v):=by
 apply aXm;unfold aIi;rw [nL (b:=rY l v) l (fun r=>bif r.contains v then .inr () else .inl ()) f (by simp [rY]) (by
  intro k x r g e d c;simp only [rY,e,d,dZ,c,List.contains_cons];rw [BEq.comm (a:=x) (b:=v)];cases v==x;all_goals simp)]
 cases l.contains v<;>rfl
theorem aFn {α:Type} (l:List α) (p:α->Bool) {β:Type} (g:α->β):l.findSome? (fun x=>if p x then some (g x) else none)=(l.find? p).map g:=by
 induction l with
 | nil=>rfl
 | cons a l b =>
  grind
def addD (l:List Str) (n:Str):List Str:=bif l.contains n then l else l++[n]
theorem aVz l n:(addD l n).length<=l.length+1:=by
 unfold addD;grind
theorem aMh {l n} (h:l.Nodup):(addD l n).Nodup:=by
 unfold addD;grind
theorem bBY {l n x} (h:x∈addD l n):x∈l∨x=n:=by
 unfold addD at h;grind
abbrev zDef:GDef:=⟨0,[],[],[],[],[]⟩
def aBC (n:Str):Bool:=n==[73,110,116]||(n==[83,116,114,105,110,103]||(n==[66,111,111,108,101,97,110]||n==[73,68]))
theorem aQ4 n:aJp n=some (aBC n):=by
 apply aOb;simp [yV,aBC];cases n==[73,110,116]<;>cases n==[83,116,114,105,110,103]<;>cases n==[66,111,111,108,101,97,110]<;>rfl
theorem aQ5 n:aJn n=some (aBC n):=by
 apply aN6;simp [yU,aBC];cases n==[73,110,116]<;>cases n==[83,116,114,105,110,103]<;>cases n==[66,111,111,108,101,97,110]<;>rfl
def bQ (s:GSchema) (n:Str):GDef×Bool:=bif aBC n then (⟨0,n,[],[],[],[]⟩,true) else match s.defs.find? (fun d=>d.name==n) with | some d=>(d,true) | none=>(zDef,false)
theorem aMi s n (f:Sm s.defs):aJo s n=some (bQ s n):=by
 apply aT8;unfold aFl bQ;rw [aAM (b:=pE s n) s.defs (fun d=>if (d.name==n)=true then some (.inr (d.kind,d.name,d.faces,d.fields,d.parts,d.params)) else none) (.inl ()) f (by simp [pE]) (by
  intro k x g e c a;simp only [pE,e,c,dZ,a];cases x.name==n<;>rfl),aFn,aQ4]
 cases aBC n;· cases s.defs.find? (fun d=>d.name==n)<;>rfl
 rfl
theorem aCw s n (f:Sm s.defs):xM s n=some (bQ s n):=by
 apply aTH;unfold aFh bQ;rw [aAM (b:=pB s n) s.defs (fun d=>if (d.name==n)=true then some (.inr (d.kind,d.name,d.faces,d.fields,d.parts,d.params)) else none) (.inl ()) f (by simp [pB]) (by
  intro k x g e c a;simp only [pB,e,c,dZ,a];cases x.name==n<;>rfl),aFn,aQ5]
 cases aBC n;· cases s.defs.find? (fun d=>d.name==n)<;>rfl
 rfl
def aH0 (s:GSchema) (n:Str) (ks:List Int):Bool:=(bQ s n).2&&ks.contains (bQ s n).1.kind
theorem aXJ s n a (c:Sm s.defs) (b:Sm a):aSO s n a=some (aH0 s n a):=by
 apply aUa;simp [aFm,aMi s n c,aAd a _ b,aH0];cases (bQ s n).2<;>rfl
theorem aVA s n a b c (d:Sm s.defs):bBQ s n a b c=some (aH0 s n [a,b,c]):=by
 apply aZT;simp only [aN4,aCw s n d,dZ,aH0];have:[a,b,c].contains (bQ s n).1.kind=((bQ s n).1.kind==a||((bQ s n).1.kind==b||(bQ s n).1.kind==c)):=by
  simp only [List.contains_cons,List.contains_nil,Bool.or_false]
 rw [this];cases (bQ s n).2<;>cases (bQ s n).1.kind==a<;>cases (bQ s n).1.kind==b<;>rfl
theorem aJ3 s n (a:Sm s.defs):aA2 s n=some (aH0 s n [1,2,3]) :=
 aHZ (by simp [pP,aXJ s n [1,2,3] a (by decide)])
theorem aJ4 s n (a:Sm s.defs):aA1 s n=some (aH0 s n [1,2,3]) :=
 aHX (by simp [pN,aVA s n _ _ _ a])
structure SOk (s:GSchema):Prop where
 bk:jF s<1073741824
theorem aZ2 d:1<=aJj d:=by rw [nQ];omega
theorem aLC d:1<=gL d:=by rw [kH];omega
theorem aJ5 d:1<=jD d:=by rw [oP];omega
theorem aFo d:1<=eZ d:=by rw [iG];omega
theorem uH d:1<=aX d:=by rw [cM];omega
theorem SOk.defs {s} (h:SOk s):s.defs.length<1073741824:=by
 have a:=h.bk;rw [oQ] at a;have b:=cK aZ2 s.defs;omega
theorem SOk.def_bk {s} (h:SOk s) {d} (b:d∈s.defs):aJj d<1073741824:=by
 have a:=h.bk;rw [oQ] at a;have c:=eA (f:=aJj) b;omega
theorem SOk.faces {s} (h:SOk s) d (b:d∈s.defs):d.faces.length<1073741824:=by
 have a:=h.def_bk b;rw [nQ] at a;have c:=cK aPl d.faces;omega
theorem SOk.parts {s} (h:SOk s) d (b:d∈s.defs):d.parts.length<1073741824:=by
 have a:=h.def_bk b;rw [nQ] at a;have c:=cK aPl d.parts;omega
theorem SOk.fields {s} (h:SOk s) d (b:d∈s.defs):d.fields.length<1073741824:=by
 have a:=h.def_bk b;rw [nQ] at a;have c:=cK aLC d.fields;omega
theorem SOk.sm {s} (h:SOk s):Sm s.defs:=by have:=h.defs;omega
theorem aBD s n:(bQ s n).1∈s.defs∨((bQ s n).1.faces=[]/\(bQ s n).1.fields=[]/\(bQ s n).1.parts=[]/\(bQ s n).1.params=[]):=by
 unfold bQ;grind
theorem SOk.partsF {s} (h:SOk s) n:(bQ s n).1.parts.length<1073741824:=by
 rcases aBD s n with a | ⟨_,_,b,_⟩;· exact h.parts _ a
 grind
theorem SOk.fieldsF {s} (h:SOk s) n:(bQ s n).1.fields.length<1073741824:=by
 rcases aBD s n with a | ⟨_,b,_,_⟩;· exact h.fields _ a
 grind
abbrev zF:GFieldDef:=⟨[],[],⟨[],0,0⟩,[]⟩
abbrev tnS:Str:=[95,95,116,121,112,101,110,97,109,101]
abbrev tnF:GFieldDef:=⟨tnS,[],⟨[83,116,114,105,110,103],0,1⟩,[]⟩
theorem aQ6 l d a b p q c s (y : Sm l) :
  ∃ i, lR l d a b p q c s = some i /\ (match l.find? (fun f => f.name == c) with | some f => decide (i < 0) = false /\ nthI l i = some f | none => decide (i < 0) = true) := by
 have o : ∀ f, aF7 f d a b p q c s = some (f.name == c) := fun f => aLr rfl;have key := cR (b := gO l d a b p q c s) l (fun k (_ : Nat) => k) (fun r k => match r.findIdx? (fun f => f.name == c) with | some j => Sum.inr ((k + j : Nat) : Int) | none => Sum.inl ()) (fun k a => a = k) y
  (by simp [gO])
  (by
   intro k x r v D B A u t m w;subst w;simp only [gO, u, t, dZ, m, o, List.findIdx?_cons];cases hv : x.name == c;· refine .inr ⟨v + 1, rfl, rfl, ?_⟩;grind
   simp) (s := 0) (a := 0) rfl rfl
 have e : ∀ i, nZ l d a b p q c s = some i -> lR l d a b p q c s = some i := fun i h => aJJ h;unfold nZ at e;rw [key] at e;simp at e;cases g : l.findIdx? (fun f => f.name == c) with
 | none =>
  rw [g] at e;refine ⟨-1, e _ rfl, ?_⟩;grind
 | some j =>
  rw [g] at e;refine ⟨j, e _ rfl, ?_⟩;obtain ⟨n, C, z⟩ := List.findIdx?_eq_some_iff_getElem.1 g;have : l.find? (fun f => f.name == c) = some l[j] := by
   rw [List.find?_eq_some_iff_getElem];grind
  rw [this];exact ⟨by simp, by rw [tS, List.getElem?_eq_getElem n]⟩
def aCZ (s:GSchema) (typ name:Str):GFieldDef×Bool :=
 bif name==tnS&&aH0 s typ [1,2,3] then (tnF,true) else bif (bQ s typ).1.kind==1||(bQ s typ).1.kind==2 then (match (bQ s typ).1.fields.find? (fun f=>f.name==name) with | some f=>(f,true) | none=>(zF,false)) else (zF,false)
theorem aXK {s n} (h:(bQ s n).2=false):(bQ s n).1=zDef:=by
 revert h;unfold bQ;grind
theorem aUb s a b (h:SOk s):aNh s a b=some (aCZ s a b):=by
 apply aQH;have g:=h.sm;have p:=h.fieldsF a;obtain ⟨i,n,e⟩:=aQ6 (bQ s a).1.fields (bQ s a).1 [] [] 0 0 b s (by omega);have d:(cnd (!(bQ s a).2) (some (zF,false)) (cnd ((bQ s a).1.kind != 1) (cnd ((bQ s a).1.kind != 2) (some (zF,false)) (cnd (decide (i<0)) (some (zF,false)) (bnd (nthI (bQ s a).1.fields i) fun y=>some (y,true)))) (cnd (decide (i<0)) (some (zF,false)) (bnd (nthI (bQ s a).1.fields i) fun y=>some (y,true))))) =
   some (bif (bQ s a).1.kind==1||(bQ s a).1.kind==2 then (match (bQ s a).1.fields.find? (fun f=>f.name==b) with | some f=>(f,true) | none=>(zF,false)) else (zF,false)):=by
  have l:((bQ s a).1.kind != 1) = !((bQ s a).1.kind==1):=rfl;have k:((bQ s a).1.kind != 2) = !((bQ s a).1.kind==2):=rfl;cases j:(bQ s a).2;· rw [aXK j];rfl
  rw [l,k];cases c:(bQ s a).1.fields.find? (fun f=>f.name==b) with
  | none=>rw [c] at e;rw [e];cases (bQ s a).1.kind==1<;>cases (bQ s a).1.kind==2<;>rfl
  | some f=>rw [c] at e;obtain ⟨m,o⟩:=e;rw [m,o];cases (bQ s a).1.kind==1<;>cases (bQ s a).1.kind==2<;>rfl
 simp [aCq,aJ3 s a g,aMi s a g,n,aCZ];rw [d];cases b==tnS<;>cases aH0 s a [1,2,3]<;>rfl
theorem aUc s a c (h:SOk s):aNj s a c=some (aCZ s a c):=by
 apply aQZ;have g:=h.sm;have q:=h.fieldsF a;have m:Sm (bQ s a).1.fields:=by omega
 have d:∀ b:Int->Option (Int⊕(Unit⊕(Str×List GParam×Str×Int×Int×List GDir))),(∀ k,b k=cnd (decide (k<(List.length (bQ s a).1.fields:Int))) (bnd (nthI (bQ s a).1.fields k) fun x=>cnd (x.name==c) (bnd (nthI (bQ s a).1.fields k) fun y=>some (.inr (.inr (y.name,y.params,y.t.name,y.t.lists,y.t.musts,y.dirs)))) (some (.inl (IntKind.wrap .i64 (k+1))))) (some (.inr (.inl ())))) ->
   aY b 0=some (match (bQ s a).1.fields.find? (fun f=>f.name==c) with | some y => .inr (y.name,y.params,y.t.name,y.t.lists,y.t.musts,y.dirs) | none => .inl ()):=by
  intro b p;rw [aAM (b:=b) (bQ s a).1.fields (fun y=>if (y.name==c)=true then some (.inr (y.name,y.params,y.t.name,y.t.lists,y.t.musts,y.dirs)) else none) (.inl ()) m (by simp_all) (by
   intro k x u o n i;rw [p];simp only [o,n,dZ,i];cases x.name==c<;>rfl),aFn]
  grind
 have l:((bQ s a).1.kind != 1) = !((bQ s a).1.kind==1):=rfl;have j:((bQ s a).1.kind != 2) = !((bQ s a).1.kind==2):=rfl;simp [aCu,aJ4 s a g,aCw s a g,aCZ,l,j];simp [d (eM c (bQ s a)) (fun k=>rfl),d (eM c (bQ s a)) (fun k=>rfl),d (eM c (bQ s a)) (fun k=>rfl),d (eM c (bQ s a)) (fun k=>rfl)];cases r:c==tnS;· cases (bQ s a).1.fields.find? (fun f=>f.name==c)<;>cases (bQ s a).1.kind==1<;>cases (bQ s a).1.kind==2<;>rfl
 have e:c=tnS:=by grind
 subst e;cases aH0 s a [1,2,3]<;>cases (bQ s a).1.fields.find? (fun f=>f.name==tnS)<;>cases (bQ s a).1.kind==1<;>cases (bQ s a).1.kind==2<;>rfl
theorem uI m (i:m.length<1073741824) (h:∀ x∈m,aCf x.v=some x.v):wC m=some m:=by
 apply aLa;unfold uF;rw [aI1 (b:=iZ m) m (fun k a=>(a,k)) i (by simp [iZ]) (by
  intro k x a c g f e d;simp only [iZ,g,f,dZ,e,d,h x c];cases x;rfl) (s:=([],0)) rfl]
 rfl
theorem aQ7:∀ n,n<1073741824->∀ v,szV v<=n->aCf v=some v:=by
 intro n;induction n with
 | zero=>intro _ v h;have:=aMg v;omega
 | succ n d =>
  intro p v h;have hv:=aMg v;have j:=aOe v.l;have o:=aOf v.m;apply aQL;unfold aCr;rw [aI1 (b:=mW v) v.l (fun k a=>(a,k)) (by omega) (by simp [mW]) (by
   intro k x a c i g f e;simp only [mW,i,qO,g,dZ,f,e,d (by omega) x (by have:=aOc c;omega)]) (s:=([],0)) rfl]
  simp [uI v.m (by omega) fun x c=>d (by omega) x.v (by have:=aOd c;have:=aVy x;omega)];cases v;rfl
theorem aEl v (h:szV v<1073741824):aCf v=some v:=aQ7 _ h v (by omega)
theorem aGN {m} (h:bkSl aX m<1073741824) {x} (a:x∈m):szV x.v<1073741824:=by
 have d:=eA (f:=aX) a;have c:=bDB x;have b:=aVy x;omega
theorem aMj l (h:bkSl eZ l<1073741824):aSI l=some l:=by
 apply aTr;unfold aFd;have n:=cK aFo l;rw [aI1 (b:=oZ l) l (fun k a=>(a,k)) (by omega) (by simp [oZ]) (by
  intro k x a d j i g e;have m:=eA (f:=eZ) d;rw [iG] at m;have o:=cK uH x.args;simp only [oZ,j,qO,i,dZ,g,e,uI x.args (by omega) fun y c=>aEl y.v (aGN (by omega) c)]) (s:=([],0)) rfl]
 rfl
mutual
def aEm:GSel->List Str
 | ⟨k,_,n,_,_,_,l⟩=>(bif k==1 then [n] else [])++fB l
def fB:List GSel->List Str
 | []=>[]
 | x::l=>aEm x++fB l
end
theorem aXL x:aEm x=(bif x.kind==1 then [x.name] else [])++fB x.sels:=by cases x;simp [aEm]
mutual
theorem aMk:∀ x:GSel,(aEm x).length<=dC x
 | ⟨k,a,n,c,b,o,l⟩=>by
  have h:=aFp l;simp [aEm,dC];grind
theorem aFp:∀ l:List GSel,(fB l).length<=bT l
 | []=>by simp [fB]
 | x::l=>by have:=aMk x;have:=aFp l;simp only [fB,bT,List.length_append];omega
end
theorem sB {x l} (h:x∈l):dC x<=bT l:=by rw [fL];exact cZ dC h
theorem sC x:bT x.sels+1<=dC x:=by rw [gD,fL];simp [bkSl];omega
theorem aZ3 x:1<=dC x:=by rw [gD];omega
theorem kN l:l.length<=bT l:=by rw [fL];exact dI dC aZ3 l
theorem aBE:∀ (a l:List Str),(a.foldl addD l).length<=l.length+a.length
 | [],l=>by simp
 | n::a,l=>by have:=aBE a (addD l n);have:=aVz l n;grind
theorem aEn:∀ (a l:List Str),l.Nodup->(a.foldl addD l).Nodup
 | [],l,h=>h
 | n::a,l,h=>aEn a _ (aMh h)
theorem aVB l n x:x∈addD l n↔x∈l∨x=n:=by
 constructor;· exact bBY
 unfold addD;grind
theorem oB:∀ (a l:List Str) x,x∈a.foldl addD l↔x∈l∨x∈a
 | [],l,x=>by simp
 | n::a,l,x=>by rw [List.foldl_cons,oB a,aVB,List.mem_cons];grind
theorem aUd l n:∃ t,addD l n=l++t:=by
 unfold addD;cases l.contains n;all_goals simp
theorem aHo:∀ (a l:List Str),∃ t,a.foldl addD l=l++t
 | [],l=>⟨[],by simp⟩
 | n::a,l=>by
  obtain ⟨t,b⟩:=aUd l n;obtain ⟨u,c⟩:=aHo a (addD l n);grind
abbrev bGA:GFrag:=⟨[],[],[],[]⟩
def yY (d:GDoc) (n:Str):GFrag×Bool:=match d.frags.find? (fun f=>f.name==n) with | some f=>(f,true) | none=>(bGA,false)
theorem aJ6 {d n} (h:(yY d n).2=true):(yY d n).1∈d.frags/\(yY d n).1.name=n:=by
 revert h;unfold yY;grind
theorem bBZ {d f} (h:f∈d.frags):(yY d f.name).2=true:=by
 unfold yY;grind
def aEo (d:GDoc) (S:Str->Prop):Prop:=∀ n,S n->(yY d n).2=true->∀ m∈fB (yY d n).1.sels,S m
def allN (d:GDoc) (sels:List GSel):List Str:=fB sels++d.frags.flatMap fun f=>fB f.sels
theorem lF:∀ l,(l.flatMap fun f=>fB f.sels).length<=sumL dV l
 | []=>by simp
 | f::l=>by
  have c:=lF l;have b:=aFp f.sels;have a:bT f.sels<=dV f:=by rw [gM,fL];simp [bkSl];omega
  simp only [List.flatMap_cons,List.length_append,sumL];omega
theorem yZ d:sumL dV d.frags+1<=eF d:=by rw [xH];simp [bkSl];omega
theorem mY f:1<=dV f:=by rw [gM];omega
theorem aJ7 d:d.frags.length+1<=eF d:=by
 have:=yZ d;have:=dI dV mY d.frags;omega
open Go Go.Ev Go.Ev.PV
abbrev E0':El:=⟨true,[(.sl 3 1048576 false),.str,.str]⟩
abbrev E1':El:=⟨true,[(.int .i64),(.int .i64),.str,(.sl 6 1048576 false),(.sl 7 1048576 false)]⟩
abbrev E2':El:=⟨false,[.bool]⟩
abbrev E3':El:=⟨true,[(.sl 10 1048576 false),(.sl 13 1048576 false)]⟩
abbrev E4':El:=⟨true,[.str,.str,(.int .i64),(.int .i64),.bool,(.int .i64),(.int .i64),.str,(.sl 6 1048576 false),(.sl 7 1048576 false)]⟩
abbrev E5':El:=⟨true,[(.int .i64),.str,(.sl 0 1048576 false),(.sl 4 1048576 false),(.sl 0 1048576 false),(.sl 5 1048576 false)]⟩
abbrev E6':El:=⟨true,[.str,(.sl 5 1048576 false),.str,(.int .i64),(.int .i64),(.sl 8 1048576 false)]⟩
abbrev E7':El:=⟨false,[(.int .i64)]⟩
abbrev E8':El:=⟨false,[.sl 0 16777216 false]⟩
abbrev E9':El:=⟨true,[(.int .i64),.str,.str,(.sl 7 1048576 false),(.sl 8 1048576 false),.str,(.sl 12 1048576 false)]⟩
abbrev E10':El:=⟨true,[.str,(.int .i64),(.int .i64)]⟩
abbrev E11':El:=⟨false,[.str]⟩
abbrev E14':El:=⟨true,[.str,.str,(.sl 8 1048576 false),(.sl 12 1048576 false)]⟩
abbrev E16':El:=⟨false,[.sl 5 16777216 false]⟩
def sa:Nat->List HV->List HV
 | 0,l=>l
 | n+1,l => .same::sa n l
def lh (i:Nat) (hv:List HV) (cnt top:Nat) (ws:List (Option Nat)):Nat×LH:=(i,{hv:=hv,cnt:=cnt,top:=top,ex:=ws.map fun w=>(w,hv)})
def sv1 (ins outs:List El):Summ:={ins:=ins,outs:=outs}
def sv2 (ins outs:List El):Summ:={ins:=ins,outs:=outs,cap:=2097152}
def tτ:Tb:=[⟨false,[.str]⟩,⟨false,[(.int .i64)]⟩,⟨true,[(.sl 3 1048576 false),.str,.str]⟩,⟨true,[(.int .i64),.str,(.sl 0 1048576 false),(.sl 4 1048576 false),(.sl 0 1048576 false),(.sl 5 1048576 false)]⟩,⟨true,[.str,(.sl 5 1048576 false),.str,(.int .i64),(.int .i64),(.sl 8 1048576 false)]⟩,⟨true,[.str,.str,(.int .i64),(.int .i64),.bool,(.int .i64),(.int .i64),.str,(.sl 6 1048576 false),(.sl 7 1048576 false)]⟩,⟨true,[(.int .i64),(.int .i64),.str,(.sl 6 1048576 false),(.sl 7 1048576 false)]⟩,⟨true,[.str,(.int .i64),(.int .i64),.str,(.sl 6 1048576 false),(.sl 7 1048576 false)]⟩,⟨true,[.str,(.sl 7 1048576 false)]⟩,⟨true,[(.sl 10 1048576 false),(.sl 13 1048576 false)]⟩,⟨true,[(.int .i64),.str,(.sl 11 1048576 false),(.sl 8 1048576 false),(.sl 12 1048576 false)]⟩,⟨true,[.str,.str,(.int .i64),(.int .i64),.bool,(.int .i64),(.int .i64),.str,(.sl 6 1048576 false),(.sl 7 1048576 false)]⟩,⟨true,[(.int .i64),.str,.str,(.sl 7 1048576 false),(.sl 8 1048576 false),.str,(.sl 12 1048576 false)]⟩,⟨true,[.str,.str,(.sl 8 1048576 false),(.sl 12 1048576 false)]⟩,⟨false,[(.sl 8 1048576 false)]⟩,⟨true,[.str,(.int .i64),(.int .i64)]⟩,⟨true,[.str,(.int .i64),.str,.str,(.sl 7 1048576 false),(.sl 8 1048576 false),.str,(.sl 12 1048576 false)]⟩,⟨true,[.str,.str,(.int .i64),(.int .i64),.bool]⟩]
def cf (s:STb) (r:List (FuncId×Summ×Nat)) (me:Nat) (ag:Bool) (l:List (Nat×LH)):Cfg:={τ:=tτ,sums:=s,recs:=r,me:=me,meAg:=ag,loops:=l}
def cg (s:STb) (r:List (FuncId×Summ×Nat)) (me:Nat) (ag:Bool) (l:List (Nat×LH)) (np:Nat):Cfg:={τ:=tτ,sums:=s,recs:=r,me:=me,meAg:=ag,loops:=l,cap:=2097152,np:=np}
abbrev Ds (f:FuncId) (sm:Summ):Prop:=aNc Tryz.prog MT XT tτ f sm
theorem bF (s:Str):dA s=s.length+1:=rfl
theorem lfSl {α:Type} {τ:Tb} {n ub:Nat} {enc:α->PV} {l:List α} (h:∀ x∈l,ElOk τ (elOf τ n) (enc x)) (hl:l.length<=ub):LfOk τ (.sl n ub false) (.slice (l.map enc) [] false):=by
 refine .sl (fun e he => ?_) (by simpa using hl)
 obtain ⟨x,hx,rfl⟩:=List.mem_map.1 he
 exact h x hx
theorem okVM:∀ n:Nat,n<=1048576->(∀ x:GValue,bY x<=n->ElOk tτ (elOf tτ 6) (aP x))/\(∀ x:GMember,aX x<=n->ElOk tτ (elOf tτ 7) (aC x)):=by
 intro n
 induction n with
 | zero=>intro _;exact ⟨fun x h=>by rw [bZ] at h;omega,fun x h=>by rw [cM] at h;omega⟩
 | succ n ih =>
  intro hn
  obtain ⟨ihV,ihM⟩:=ih (by omega)
  have ihValue:=ihV
  have ihMember:=ihM
  refine ⟨fun x hb => ?_,fun x hb => ?_⟩
  ·simp only [bZ,bk1,bF] at hb
   rw [eY]
   change ElOk tτ ⟨true,[(.int .i64),(.int .i64),.str,(.sl 6 1048576 false),(.sl 7 1048576 false)]⟩ _
   exact .ag (.cons (.int _ _) (.cons (.int _ _) (.cons (.str (by unfold topL;omega)) (.cons (lfSl (fun y hy=>ihValue y (by have:=eA (f:=bY) hy;omega)) (by have:=cK (f:=bY) (fun d=>by rw [bZ];omega) x.l;omega)) (.cons (lfSl (fun y hy=>ihMember y (by have:=eA (f:=aX) hy;omega)) (by have:=cK (f:=aX) (fun d=>by rw [cM];omega) x.m;omega)) (.nil))))))
  
  ·simp only [cM,bZ,bk1,bF] at hb
   rw [jQ]
   change ElOk tτ ⟨true,[.str,(.int .i64),(.int .i64),.str,(.sl 6 1048576 false),(.sl 7 1048576 false)]⟩ _
   exact .ag (.cons (.str (by unfold topL;omega)) (.cons (.int _ _) (.cons (.int _ _) (.cons (.str (by unfold topL;omega)) (.cons (lfSl (fun y hy=>ihValue y (by have:=eA (f:=bY) hy;omega)) (by have:=cK (f:=bY) (fun d=>by rw [bZ];omega) x.v.l;omega)) (.cons (lfSl (fun y hy=>ihMember y (by have:=eA (f:=aX) hy;omega)) (by have:=cK (f:=aX) (fun d=>by rw [cM];omega) x.v.m;omega)) (.nil)))))))
theorem aZ4 (x:GValue) (h:bY x<=1048576):ElOk tτ (elOf tτ 6) (aP x):=(okVM _ (Nat.le_refl _)).1 x h
theorem aIk (x:GMember) (h:aX x<=1048576):ElOk tτ (elOf tτ 7) (aC x):=(okVM _ (Nat.le_refl _)).2 x h
theorem aZ5 (x:GParam) (hb:jD x<=1048576):ElOk tτ (elOf tτ 5) (aR x):=by
 simp only [oP,kY,bZ,bk1,bF] at hb
 rw [jR]
 change ElOk tτ ⟨true,[.str,.str,(.int .i64),(.int .i64),.bool,(.int .i64),(.int .i64),.str,(.sl 6 1048576 false),(.sl 7 1048576 false)]⟩ _
 exact .ag (.cons (.str (by unfold topL;omega)) (.cons (.str (by unfold topL;omega)) (.cons (.int _ _) (.cons (.int _ _) (.cons (.bool _) (.cons (.int _ _) (.cons (.int _ _) (.cons (.str (by unfold topL;omega)) (.cons (lfSl (fun y hy=>aZ4 y (by have:=eA (f:=bY) hy;omega)) (by have:=cK (f:=bY) (fun d=>by rw [bZ];omega) x.default.l;omega)) (.cons (lfSl (fun y hy=>aIk y (by have:=eA (f:=aX) hy;omega)) (by have:=cK (f:=aX) (fun d=>by rw [cM];omega) x.default.m;omega)) (.nil)))))))))))
theorem bB0 (x:GDir) (hb:eZ x<=1048576):ElOk tτ (elOf tτ 8) (aF x):=by
 simp only [iG,bk1,bF] at hb
 rw [pZ]
 change ElOk tτ ⟨true,[.str,(.sl 7 1048576 false)]⟩ _
 exact .ag (.cons (.str (by unfold topL;omega)) (.cons (lfSl (fun y hy=>aIk y (by have:=eA (f:=aX) hy;omega)) (by have:=cK (f:=aX) (fun d=>by rw [cM];omega) x.args;omega)) (.nil)))
theorem aXM (x:GFieldDef) (hb:gL x<=1048576):ElOk tτ (elOf tτ 4) (aL x):=by
 simp only [kH,kY,bk1,bF] at hb
 rw [eH]
 change ElOk tτ ⟨true,[.str,(.sl 5 1048576 false),.str,(.int .i64),(.int .i64),(.sl 8 1048576 false)]⟩ _
 exact .ag (.cons (.str (by unfold topL;omega)) (.cons (lfSl (fun y hy=>aZ5 y (by have:=eA (f:=jD) hy;omega)) (by have:=cK (f:=jD) (fun d=>by rw [oP];omega) x.params;omega)) (.cons (.str (by unfold topL;omega)) (.cons (.int _ _) (.cons (.int _ _) (.cons (lfSl (fun y hy=>bB0 y (by have:=eA (f:=eZ) hy;omega)) (by have:=cK (f:=eZ) (fun d=>by rw [iG];omega) x.dirs;omega)) (.nil)))))))
theorem bGB (x:GDef) (hb:aJj x<=1048576):ElOk tτ (elOf tτ 3) (aH x):=by
 simp only [nQ,bk1,bF] at hb
 rw [qA]
 change ElOk tτ ⟨true,[(.int .i64),.str,(.sl 0 1048576 false),(.sl 4 1048576 false),(.sl 0 1048576 false),(.sl 5 1048576 false)]⟩ _
 exact .ag (.cons (.int _ _) (.cons (.str (by unfold topL;omega)) (.cons (lfSl (fun y hy => .one (.str (by have:=eA (f:=dA) hy;rw [bF] at this;unfold topL;omega))) (by have:=cK (f:=dA) (fun d=>by rw [bF];omega) x.faces;omega)) (.cons (lfSl (fun y hy=>aXM y (by have:=eA (f:=gL) hy;omega)) (by have:=cK (f:=gL) (fun d=>by rw [kH];omega) x.fields;omega)) (.cons (lfSl (fun y hy => .one (.str (by have:=eA (f:=dA) hy;rw [bF] at this;unfold topL;omega))) (by have:=cK (f:=dA) (fun d=>by rw [bF];omega) x.parts;omega)) (.cons (lfSl (fun y hy=>aZ5 y (by have:=eA (f:=jD) hy;omega)) (by have:=cK (f:=jD) (fun d=>by rw [oP];omega) x.params;omega)) (.nil)))))))
theorem aOg (x:GSchema) (hb:jF x<=1048576):ElOk tτ (elOf tτ 2) (dB x):=by
 simp only [oQ,bk1,bF] at hb
 rw [gX]
 change ElOk tτ ⟨true,[(.sl 3 1048576 false),.str,.str]⟩ _
 exact .ag (.cons (lfSl (fun y hy=>bGB y (by have:=eA (f:=aJj) hy;omega)) (by have:=cK (f:=aJj) (fun d=>by rw [nQ];omega) x.defs;omega)) (.cons (.str (by unfold topL;omega)) (.cons (.str (by unfold topL;omega)) (.nil))))
theorem bB1 (x:GVarDef) (hb:rL x<=1048576):ElOk tτ (elOf tτ 11) (bC x):=by
 simp only [sP,kY,bZ,bk1,bF] at hb
 rw [fK]
 change ElOk tτ ⟨true,[.str,.str,(.int .i64),(.int .i64),.bool,(.int .i64),(.int .i64),.str,(.sl 6 1048576 false),(.sl 7 1048576 false)]⟩ _
 exact .ag (.cons (.str (by unfold topL;omega)) (.cons (.str (by unfold topL;omega)) (.cons (.int _ _) (.cons (.int _ _) (.cons (.bool _) (.cons (.int _ _) (.cons (.int _ _) (.cons (.str (by unfold topL;omega)) (.cons (lfSl (fun y hy=>aZ4 y (by have:=eA (f:=bY) hy;omega)) (by have:=cK (f:=bY) (fun d=>by rw [bZ];omega) x.default.l;omega)) (.cons (lfSl (fun y hy=>aIk y (by have:=eA (f:=aX) hy;omega)) (by have:=cK (f:=aX) (fun d=>by rw [cM];omega) x.default.m;omega)) (.nil)))))))))))
theorem bFH:∀ n:Nat,n<=1048576->∀ x:GSel,dC x<=n->ElOk tτ (elOf tτ 12) (aI x):=by
 intro n
 induction n with
 | zero=>intro _ x h;rw [gD] at h;omega
 | succ n ih =>
  intro hn x hb
  have ihSel:=ih (by omega)
  simp only [gD,bk1,bF] at hb
  rw [kX]
  change ElOk tτ ⟨true,[(.int .i64),.str,.str,(.sl 7 1048576 false),(.sl 8 1048576 false),.str,(.sl 12 1048576 false)]⟩ _
  exact .ag (.cons (.int _ _) (.cons (.str (by unfold topL;omega)) (.cons (.str (by unfold topL;omega)) (.cons (lfSl (fun y hy=>aIk y (by have:=eA (f:=aX) hy;omega)) (by have:=cK (f:=aX) (fun d=>by rw [cM];omega) x.args;omega)) (.cons (lfSl (fun y hy=>bB0 y (by have:=eA (f:=eZ) hy;omega)) (by have:=cK (f:=eZ) (fun d=>by rw [iG];omega) x.dirs;omega)) (.cons (.str (by unfold topL;omega)) (.cons (lfSl (fun y hy=>ihSel y (by have:=eA (f:=dC) hy;omega)) (by have:=cK (f:=dC) (fun d=>by rw [gD];omega) x.sels;omega)) (.nil))))))))
theorem bFI (x:GSel) (h:dC x<=1048576):ElOk tτ (elOf tτ 12) (aI x):=bFH _ (Nat.le_refl _) x h
theorem okOp (x:GOp) (hb:bkOp x<=1048576):ElOk tτ (elOf tτ 10) (aU x):=by
 simp only [kR,bk1,bF] at hb
 rw [pI]
 change ElOk tτ ⟨true,[(.int .i64),.str,(.sl 11 1048576 false),(.sl 8 1048576 false),(.sl 12 1048576 false)]⟩ _
 exact .ag (.cons (.int _ _) (.cons (.str (by unfold topL;omega)) (.cons (lfSl (fun y hy=>bB1 y (by have:=eA (f:=rL) hy;omega)) (by have:=cK (f:=rL) (fun d=>by rw [sP];omega) x.vars;omega)) (.cons (lfSl (fun y hy=>bB0 y (by have:=eA (f:=eZ) hy;omega)) (by have:=cK (f:=eZ) (fun d=>by rw [iG];omega) x.dirs;omega)) (.cons (lfSl (fun y hy=>bFI y (by have:=eA (f:=dC) hy;omega)) (by have:=cK (f:=dC) (fun d=>by rw [gD];omega) x.sels;omega)) (.nil))))))
theorem bFJ (x:GFrag) (hb:dV x<=1048576):ElOk tτ (elOf tτ 13) (aG x):=by
 simp only [gM,bk1,bF] at hb
 rw [mI]
 change ElOk tτ ⟨true,[.str,.str,(.sl 8 1048576 false),(.sl 12 1048576 false)]⟩ _
 exact .ag (.cons (.str (by unfold topL;omega)) (.cons (.str (by unfold topL;omega)) (.cons (lfSl (fun y hy=>bB0 y (by have:=eA (f:=eZ) hy;omega)) (by have:=cK (f:=eZ) (fun d=>by rw [iG];omega) x.dirs;omega)) (.cons (lfSl (fun y hy=>bFI y (by have:=eA (f:=dC) hy;omega)) (by have:=cK (f:=dC) (fun d=>by rw [gD];omega) x.sels;omega)) (.nil)))))
theorem bEp (x:GDoc) (hb:eF x<=1048576):ElOk tτ (elOf tτ 9) (oE x):=by
 simp only [xH,bk1,bF] at hb
 rw [qB]
 change ElOk tτ ⟨true,[(.sl 10 1048576 false),(.sl 13 1048576 false)]⟩ _
 exact .ag (.cons (lfSl (fun y hy=>okOp y (by have:=eA (f:=bkOp) hy;omega)) (by have:=cK (f:=bkOp) (fun d=>by rw [kR];omega) x.ops;omega)) (.cons (lfSl (fun y hy=>bFJ y (by have:=eA (f:=dV) hy;omega)) (by have:=cK (f:=dV) (fun d=>by rw [gM];omega) x.frags;omega)) (.nil)))
theorem aO {τ:Tb} {l:Lf} {ls:List Lf} {vs:List PV} (h:CsOk τ (l::ls) vs):∃ v r,vs=v::r/\LfOk τ l v/\CsOk τ ls r:=by
 cases h with | cons h hs=>exact ⟨_,_,rfl,h,hs⟩
theorem wQ {τ:Tb} {vs:List PV} (h:CsOk τ [] vs):vs=[]:=by cases h;rfl
theorem iT {τ:Tb} {v:PV} (h:LfOk τ .str v):∃ s,v = .str s/\s.length<=topL:=by cases h with | str h=>exact ⟨_,rfl,h⟩
theorem mZ {τ:Tb} {k:IntKind} {v:PV} (h:LfOk τ (.int k) v):∃ n,v = .int k n:=by cases h with | int k n=>exact ⟨_,rfl⟩
theorem aOh {τ:Tb} {v:PV} (h:LfOk τ .bool v):∃ b,v = .bool b:=by cases h with | bool b=>exact ⟨_,rfl⟩
theorem oD {τ:Tb} {n ub:Nat} {o:Bool} {v:PV} (h:LfOk τ (.sl n ub o) v):∃ es,v = .slice es [] o/\(∀ e,e∈es->ElOk τ (elOf τ n) e)/\es.length<=ub:=by cases h with | sl h hl=>exact ⟨_,rfl,h,hl⟩
theorem bX {α:Type} {f:α->PV}:∀ {es:List PV},(∀ e,e∈es->∃ x,e=f x)->∃ l,es=List.map f l
 | [],_=>⟨[],rfl⟩
 | e::es,h=>by
  obtain ⟨x,rfl⟩:=h e (by simp)
  obtain ⟨l,rfl⟩:=bX (f:=f) (es:=es) (fun e he=>h e (by simp [he]))
  exact ⟨x::l,rfl⟩
theorem aZ6 {e:PV} (h:ElOk tτ ⟨false,[.str]⟩ e):∃ s,e=PV.str s:=by
 cases h with | one h=>obtain ⟨s,rfl,_⟩:=iT h;exact ⟨s,rfl⟩
theorem bEq {e:PV} (h:ElOk tτ (elOf tτ 15) e):∃ x,e=jP x:=by
 change ElOk tτ ⟨true,[.str,(.int .i64),(.int .i64)]⟩ e at h
 cases h with
 | ag hs =>
  obtain ⟨_,_,rfl,h0,hs1⟩:=aO hs
  obtain ⟨v0,rfl,_⟩:=iT h0
  obtain ⟨_,_,rfl,h1,hs2⟩:=aO hs1
  obtain ⟨v1,rfl⟩:=mZ h1
  obtain ⟨_,_,rfl,h2,hs3⟩:=aO hs2
  obtain ⟨v2,rfl⟩:=mZ h2
  cases wQ hs3
  exact ⟨⟨v0,v1,v2⟩,by rw [mH]⟩
theorem bFK:∀ n:Nat,(∀ e:PV,bK e<=n->ElOk tτ (elOf tτ 6) e->∃ x,e=aP x)/\(∀ e:PV,bK e<=n->ElOk tτ (elOf tτ 7) e->∃ x,e=aC x):=by
 intro n
 induction n with
 | zero =>
  refine ⟨fun e hp => ?_,fun e hp => ?_⟩<;>(exfalso;cases e<;>simp only [bK] at hp<;>omega)
 | succ n ih =>
  obtain ⟨ihValue,ihMember⟩:=ih
  refine ⟨fun e hp h => ?_,fun e hp h => ?_⟩
  ·change ElOk tτ ⟨true,[(.int .i64),(.int .i64),.str,(.sl 6 1048576 false),(.sl 7 1048576 false)]⟩ e at h
   cases h with
   | ag hs =>
    obtain ⟨_,_,rfl,h0,hs1⟩:=aO hs
    obtain ⟨v0,rfl⟩:=mZ h0
    obtain ⟨_,_,rfl,h1,hs2⟩:=aO hs1
    obtain ⟨v1,rfl⟩:=mZ h1
    obtain ⟨_,_,rfl,h2,hs3⟩:=aO hs2
    obtain ⟨v2,rfl,_⟩:=iT h2
    obtain ⟨_,_,rfl,h3,hs4⟩:=aO hs3
    obtain ⟨es3,rfl,he3,_⟩:=oD h3
    obtain ⟨_,_,rfl,h4,hs5⟩:=aO hs4
    obtain ⟨es4,rfl,he4,_⟩:=oD h4
    cases wQ hs5
    obtain ⟨v3,rfl⟩:=bX (f:=aP) (fun e he=>ihValue e (by have:=mG he;simp only [bK,dH] at hp;omega) (he3 e he))
    obtain ⟨v4,rfl⟩:=bX (f:=aC) (fun e he=>ihMember e (by have:=mG he;simp only [bK,dH] at hp;omega) (he4 e he))
    exact ⟨⟨v0,v1,v2,v3,v4⟩,by rw [eY]⟩
  ·change ElOk tτ ⟨true,[.str,(.int .i64),(.int .i64),.str,(.sl 6 1048576 false),(.sl 7 1048576 false)]⟩ e at h
   cases h with
   | ag hs =>
    obtain ⟨_,_,rfl,h0,hs1⟩:=aO hs
    obtain ⟨v0,rfl,_⟩:=iT h0
    obtain ⟨_,_,rfl,h1,hs2⟩:=aO hs1
    obtain ⟨v1,rfl⟩:=mZ h1
    obtain ⟨_,_,rfl,h2,hs3⟩:=aO hs2
    obtain ⟨v2,rfl⟩:=mZ h2
    obtain ⟨_,_,rfl,h3,hs4⟩:=aO hs3
    obtain ⟨v3,rfl,_⟩:=iT h3
    obtain ⟨_,_,rfl,h4,hs5⟩:=aO hs4
    obtain ⟨es4,rfl,he4,_⟩:=oD h4
    obtain ⟨_,_,rfl,h5,hs6⟩:=aO hs5
    obtain ⟨es5,rfl,he5,_⟩:=oD h5
    cases wQ hs6
    obtain ⟨v4,rfl⟩:=bX (f:=aP) (fun e he=>ihValue e (by have:=mG he;simp only [bK,dH] at hp;omega) (he4 e he))
    obtain ⟨v5,rfl⟩:=bX (f:=aC) (fun e he=>ihMember e (by have:=mG he;simp only [bK,dH] at hp;omega) (he5 e he))
    exact ⟨⟨v0,⟨v1,v2,v3,v4,v5⟩⟩,by rw [jQ]⟩
theorem aIl {e:PV} (h:ElOk tτ (elOf tτ 6) e):∃ x,e=aP x:=(bFK (bK e)).1 e (Nat.le_refl _) h
theorem aFq {e:PV} (h:ElOk tτ (elOf tτ 7) e):∃ x,e=aC x:=(bFK (bK e)).2 e (Nat.le_refl _) h
theorem aVC {e:PV} (h:ElOk tτ (elOf tτ 5) e):∃ x,e=aR x:=by
 change ElOk tτ ⟨true,[.str,.str,(.int .i64),(.int .i64),.bool,(.int .i64),(.int .i64),.str,(.sl 6 1048576 false),(.sl 7 1048576 false)]⟩ e at h
 cases h with
 | ag hs =>
  obtain ⟨_,_,rfl,h0,hs1⟩:=aO hs
  obtain ⟨v0,rfl,_⟩:=iT h0
  obtain ⟨_,_,rfl,h1,hs2⟩:=aO hs1
  obtain ⟨v1,rfl,_⟩:=iT h1
  obtain ⟨_,_,rfl,h2,hs3⟩:=aO hs2
  obtain ⟨v2,rfl⟩:=mZ h2
  obtain ⟨_,_,rfl,h3,hs4⟩:=aO hs3
  obtain ⟨v3,rfl⟩:=mZ h3
  obtain ⟨_,_,rfl,h4,hs5⟩:=aO hs4
  obtain ⟨v4,rfl⟩:=aOh h4
  obtain ⟨_,_,rfl,h5,hs6⟩:=aO hs5
  obtain ⟨v5,rfl⟩:=mZ h5
  obtain ⟨_,_,rfl,h6,hs7⟩:=aO hs6
  obtain ⟨v6,rfl⟩:=mZ h6
  obtain ⟨_,_,rfl,h7,hs8⟩:=aO hs7
  obtain ⟨v7,rfl,_⟩:=iT h7
  obtain ⟨_,_,rfl,h8,hs9⟩:=aO hs8
  obtain ⟨es8,rfl,he8,_⟩:=oD h8
  obtain ⟨_,_,rfl,h9,hs10⟩:=aO hs9
  obtain ⟨es9,rfl,he9,_⟩:=oD h9
  cases wQ hs10
  obtain ⟨v8,rfl⟩:=bX (f:=aP) (fun e he=>aIl (he8 e he))
  obtain ⟨v9,rfl⟩:=bX (f:=aC) (fun e he=>aFq (he9 e he))
  exact ⟨⟨v0,⟨v1,v2,v3⟩,v4,⟨v5,v6,v7,v8,v9⟩⟩,by rw [jR]⟩
theorem aVD {e:PV} (h:ElOk tτ (elOf tτ 8) e):∃ x,e=aF x:=by
 change ElOk tτ ⟨true,[.str,(.sl 7 1048576 false)]⟩ e at h
 cases h with
 | ag hs =>
  obtain ⟨_,_,rfl,h0,hs1⟩:=aO hs
  obtain ⟨v0,rfl,_⟩:=iT h0
  obtain ⟨_,_,rfl,h1,hs2⟩:=aO hs1
  obtain ⟨es1,rfl,he1,_⟩:=oD h1
  cases wQ hs2
  obtain ⟨v1,rfl⟩:=bX (f:=aC) (fun e he=>aFq (he1 e he))
  exact ⟨⟨v0,v1⟩,by rw [pZ]⟩
theorem aUe {e:PV} (h:ElOk tτ (elOf tτ 4) e):∃ x,e=aL x:=by
 change ElOk tτ ⟨true,[.str,(.sl 5 1048576 false),.str,(.int .i64),(.int .i64),(.sl 8 1048576 false)]⟩ e at h
 cases h with
 | ag hs =>
  obtain ⟨_,_,rfl,h0,hs1⟩:=aO hs
  obtain ⟨v0,rfl,_⟩:=iT h0
  obtain ⟨_,_,rfl,h1,hs2⟩:=aO hs1
  obtain ⟨es1,rfl,he1,_⟩:=oD h1
  obtain ⟨_,_,rfl,h2,hs3⟩:=aO hs2
  obtain ⟨v2,rfl,_⟩:=iT h2
  obtain ⟨_,_,rfl,h3,hs4⟩:=aO hs3
  obtain ⟨v3,rfl⟩:=mZ h3
  obtain ⟨_,_,rfl,h4,hs5⟩:=aO hs4
  obtain ⟨v4,rfl⟩:=mZ h4
  obtain ⟨_,_,rfl,h5,hs6⟩:=aO hs5
  obtain ⟨es5,rfl,he5,_⟩:=oD h5
  cases wQ hs6
  obtain ⟨v1,rfl⟩:=bX (f:=aR) (fun e he=>aVC (he1 e he))
  obtain ⟨v5,rfl⟩:=bX (f:=aF) (fun e he=>aVD (he5 e he))
  exact ⟨⟨v0,v1,⟨v2,v3,v4⟩,v5⟩,by rw [eH]⟩
theorem bFL {e:PV} (h:ElOk tτ (elOf tτ 3) e):∃ x,e=aH x:=by
 change ElOk tτ ⟨true,[(.int .i64),.str,(.sl 0 1048576 false),(.sl 4 1048576 false),(.sl 0 1048576 false),(.sl 5 1048576 false)]⟩ e at h
 cases h with
 | ag hs =>
  obtain ⟨_,_,rfl,h0,hs1⟩:=aO hs
  obtain ⟨v0,rfl⟩:=mZ h0
  obtain ⟨_,_,rfl,h1,hs2⟩:=aO hs1
  obtain ⟨v1,rfl,_⟩:=iT h1
  obtain ⟨_,_,rfl,h2,hs3⟩:=aO hs2
  obtain ⟨es2,rfl,he2,_⟩:=oD h2
  obtain ⟨_,_,rfl,h3,hs4⟩:=aO hs3
  obtain ⟨es3,rfl,he3,_⟩:=oD h3
  obtain ⟨_,_,rfl,h4,hs5⟩:=aO hs4
  obtain ⟨es4,rfl,he4,_⟩:=oD h4
  obtain ⟨_,_,rfl,h5,hs6⟩:=aO hs5
  obtain ⟨es5,rfl,he5,_⟩:=oD h5
  cases wQ hs6
  obtain ⟨v2,rfl⟩:=bX (f:=PV.str) (fun e he=>aZ6 (he2 e he))
  obtain ⟨v3,rfl⟩:=bX (f:=aL) (fun e he=>aUe (he3 e he))
  obtain ⟨v4,rfl⟩:=bX (f:=PV.str) (fun e he=>aZ6 (he4 e he))
  obtain ⟨v5,rfl⟩:=bX (f:=aR) (fun e he=>aVC (he5 e he))
  exact ⟨⟨v0,v1,v2,v3,v4,v5⟩,by rw [qA]⟩
theorem aJ8 {e:PV} (h:ElOk tτ (elOf tτ 2) e):∃ x,e=dB x:=by
 change ElOk tτ ⟨true,[(.sl 3 1048576 false),.str,.str]⟩ e at h
 cases h with
 | ag hs =>
  obtain ⟨_,_,rfl,h0,hs1⟩:=aO hs
  obtain ⟨es0,rfl,he0,_⟩:=oD h0
  obtain ⟨_,_,rfl,h1,hs2⟩:=aO hs1
  obtain ⟨v1,rfl,_⟩:=iT h1
  obtain ⟨_,_,rfl,h2,hs3⟩:=aO hs2
  obtain ⟨v2,rfl,_⟩:=iT h2
  cases wQ hs3
  obtain ⟨v0,rfl⟩:=bX (f:=aH) (fun e he=>bFL (he0 e he))
  exact ⟨⟨v0,v1,v2⟩,by rw [gX]⟩
theorem aZ7 {e:PV} (h:ElOk tτ (elOf tτ 11) e):∃ x,e=bC x:=by
 change ElOk tτ ⟨true,[.str,.str,(.int .i64),(.int .i64),.bool,(.int .i64),(.int .i64),.str,(.sl 6 1048576 false),(.sl 7 1048576 false)]⟩ e at h
 cases h with
 | ag hs =>
  obtain ⟨_,_,rfl,h0,hs1⟩:=aO hs
  obtain ⟨v0,rfl,_⟩:=iT h0
  obtain ⟨_,_,rfl,h1,hs2⟩:=aO hs1
  obtain ⟨v1,rfl,_⟩:=iT h1
  obtain ⟨_,_,rfl,h2,hs3⟩:=aO hs2
  obtain ⟨v2,rfl⟩:=mZ h2
  obtain ⟨_,_,rfl,h3,hs4⟩:=aO hs3
  obtain ⟨v3,rfl⟩:=mZ h3
  obtain ⟨_,_,rfl,h4,hs5⟩:=aO hs4
  obtain ⟨v4,rfl⟩:=aOh h4
  obtain ⟨_,_,rfl,h5,hs6⟩:=aO hs5
  obtain ⟨v5,rfl⟩:=mZ h5
  obtain ⟨_,_,rfl,h6,hs7⟩:=aO hs6
  obtain ⟨v6,rfl⟩:=mZ h6
  obtain ⟨_,_,rfl,h7,hs8⟩:=aO hs7
  obtain ⟨v7,rfl,_⟩:=iT h7
  obtain ⟨_,_,rfl,h8,hs9⟩:=aO hs8
  obtain ⟨es8,rfl,he8,_⟩:=oD h8
  obtain ⟨_,_,rfl,h9,hs10⟩:=aO hs9
  obtain ⟨es9,rfl,he9,_⟩:=oD h9
  cases wQ hs10
  obtain ⟨v8,rfl⟩:=bX (f:=aP) (fun e he=>aIl (he8 e he))
  obtain ⟨v9,rfl⟩:=bX (f:=aC) (fun e he=>aFq (he9 e he))
  exact ⟨⟨v0,⟨v1,v2,v3⟩,v4,⟨v5,v6,v7,v8,v9⟩⟩,by rw [fK]⟩
theorem bEr:∀ n:Nat,∀ e:PV,bK e<=n->ElOk tτ (elOf tτ 12) e->∃ x,e=aI x:=by
 intro n
 induction n with
 | zero =>
  intro e hp
  exfalso;cases e<;>simp only [bK] at hp<;>omega
 | succ n ihSel =>
  intro e hp h
  change ElOk tτ ⟨true,[(.int .i64),.str,.str,(.sl 7 1048576 false),(.sl 8 1048576 false),.str,(.sl 12 1048576 false)]⟩ e at h
  cases h with
  | ag hs =>
   obtain ⟨_,_,rfl,h0,hs1⟩:=aO hs
   obtain ⟨v0,rfl⟩:=mZ h0
   obtain ⟨_,_,rfl,h1,hs2⟩:=aO hs1
   obtain ⟨v1,rfl,_⟩:=iT h1
   obtain ⟨_,_,rfl,h2,hs3⟩:=aO hs2
   obtain ⟨v2,rfl,_⟩:=iT h2
   obtain ⟨_,_,rfl,h3,hs4⟩:=aO hs3
   obtain ⟨es3,rfl,he3,_⟩:=oD h3
   obtain ⟨_,_,rfl,h4,hs5⟩:=aO hs4
   obtain ⟨es4,rfl,he4,_⟩:=oD h4
   obtain ⟨_,_,rfl,h5,hs6⟩:=aO hs5
   obtain ⟨v5,rfl,_⟩:=iT h5
   obtain ⟨_,_,rfl,h6,hs7⟩:=aO hs6
   obtain ⟨es6,rfl,he6,_⟩:=oD h6
   cases wQ hs7
   obtain ⟨v3,rfl⟩:=bX (f:=aC) (fun e he=>aFq (he3 e he))
   obtain ⟨v4,rfl⟩:=bX (f:=aF) (fun e he=>aVD (he4 e he))
   obtain ⟨v6,rfl⟩:=bX (f:=aI) (fun e he=>ihSel e (by have:=mG he;simp only [bK,dH] at hp;omega) (he6 e he))
   exact ⟨⟨v0,v1,v2,v3,v4,v5,v6⟩,by rw [kX]⟩
theorem aZ8 {e:PV} (h:ElOk tτ (elOf tτ 12) e):∃ x,e=aI x:=bEr (bK e) e (Nat.le_refl _) h
theorem bGC {e:PV} (h:ElOk tτ (elOf tτ 10) e):∃ x,e=aU x:=by
 change ElOk tτ ⟨true,[(.int .i64),.str,(.sl 11 1048576 false),(.sl 8 1048576 false),(.sl 12 1048576 false)]⟩ e at h
 cases h with
 | ag hs =>
  obtain ⟨_,_,rfl,h0,hs1⟩:=aO hs
  obtain ⟨v0,rfl⟩:=mZ h0
  obtain ⟨_,_,rfl,h1,hs2⟩:=aO hs1
  obtain ⟨v1,rfl,_⟩:=iT h1
  obtain ⟨_,_,rfl,h2,hs3⟩:=aO hs2
  obtain ⟨es2,rfl,he2,_⟩:=oD h2
  obtain ⟨_,_,rfl,h3,hs4⟩:=aO hs3
  obtain ⟨es3,rfl,he3,_⟩:=oD h3
  obtain ⟨_,_,rfl,h4,hs5⟩:=aO hs4
  obtain ⟨es4,rfl,he4,_⟩:=oD h4
  cases wQ hs5
  obtain ⟨v2,rfl⟩:=bX (f:=bC) (fun e he=>aZ7 (he2 e he))
  obtain ⟨v3,rfl⟩:=bX (f:=aF) (fun e he=>aVD (he3 e he))
  obtain ⟨v4,rfl⟩:=bX (f:=aI) (fun e he=>aZ8 (he4 e he))
  exact ⟨⟨v0,v1,v2,v3,v4⟩,by rw [pI]⟩
theorem bEs {e:PV} (h:ElOk tτ (elOf tτ 13) e):∃ x,e=aG x:=by
 change ElOk tτ ⟨true,[.str,.str,(.sl 8 1048576 false),(.sl 12 1048576 false)]⟩ e at h
 cases h with
 | ag hs =>
  obtain ⟨_,_,rfl,h0,hs1⟩:=aO hs
  obtain ⟨v0,rfl,_⟩:=iT h0
  obtain ⟨_,_,rfl,h1,hs2⟩:=aO hs1
  obtain ⟨v1,rfl,_⟩:=iT h1
  obtain ⟨_,_,rfl,h2,hs3⟩:=aO hs2
  obtain ⟨es2,rfl,he2,_⟩:=oD h2
  obtain ⟨_,_,rfl,h3,hs4⟩:=aO hs3
  obtain ⟨es3,rfl,he3,_⟩:=oD h3
  cases wQ hs4
  obtain ⟨v2,rfl⟩:=bX (f:=aF) (fun e he=>aVD (he2 e he))
  obtain ⟨v3,rfl⟩:=bX (f:=aI) (fun e he=>aZ8 (he3 e he))
  exact ⟨⟨v0,v1,v2,v3⟩,by rw [mI]⟩
theorem bDC {e:PV} (h:ElOk tτ (elOf tτ 9) e):∃ x,e=oE x:=by
 change ElOk tτ ⟨true,[(.sl 10 1048576 false),(.sl 13 1048576 false)]⟩ e at h
 cases h with
 | ag hs =>
  obtain ⟨_,_,rfl,h0,hs1⟩:=aO hs
  obtain ⟨es0,rfl,he0,_⟩:=oD h0
  obtain ⟨_,_,rfl,h1,hs2⟩:=aO hs1
  obtain ⟨es1,rfl,he1,_⟩:=oD h1
  cases wQ hs2
  obtain ⟨v0,rfl⟩:=bX (f:=aU) (fun e he=>bGC (he0 e he))
  obtain ⟨v1,rfl⟩:=bX (f:=aG) (fun e he=>bEs (he1 e he))
  exact ⟨⟨v0,v1⟩,by rw [qB]⟩
end Go.Proofs.YtphmfillajagdaaGreat
open Go Go.Ev Go.Ev.PV
set_option maxRecDepth 100000
namespace Go.Proofs.YtphmfillajagdaaGreat
def aVE:Summ:=sv1 [E11'] [⟨false,[.sl 1 1073741824 false]⟩,E2']
def aMl:Summ:=sv1 [E11'] [E7',E7']
def aVF:Summ:=sv2 [E0',E10',E1',E2'] [E2']
def aVG:Summ:=sv2 [E0'] [E2']
def aZ9:Summ:=sv2 [E1',⟨false,[.sl 0 16777216 true]⟩] [⟨false,[.sl 0 16777216 true]⟩]
def aFr:Summ:=sv2 [E0',E3'] [⟨false,[.sl 16 4194304 false]⟩]
def aOi:Summ:=sv2 [E3',⟨false,[.sl 12 16777216 false]⟩] [E8']
open Go Go.Ev
theorem bDD {α β:Type} p (g:α->β):∀ l:List α,(l.any p=true/\∃ x,l.findSome? (fun x=>bif p x then some (g x) else none)=some (g x))∨(l.any p=false/\l.findSome? (fun x=>bif p x then some (g x) else none)=none)
 | []=>by simp
 | x::l=>by
  rw [List.findSome?_cons,List.any_cons];cases a:p x;· simpa using bDD p g l
  grind
def hasM (name:Str) (l:List GMember):Bool:=l.any fun x=>x.name==name
theorem bAa a l (i : Sm l) : ∃ v, aVw a l = some (v, hasM a l) := by
 have h := aAM (b := sA a l) l (fun x => bif x.name == a then some (.inr (x.v.kind, x.v.n, x.v.s, x.v.l, x.v.m)) else none) (.inl ()) i (by simp [sA])
  (fun k x c g f e => by
   simp only [sA, g, f, e, dZ];cases x.name == a <;> rfl)
 rcases bDD (fun x  => x.name == a) (fun x => (.inr (x.v.kind, x.v.n, x.v.s, x.v.l, x.v.m) : Unit ⊕ (Int × Int × Str × (List GValue) × (List GMember)))) l with ⟨d, x, c⟩ | ⟨d, c⟩;· refine ⟨x.v, aMe (r := (x.v, hasM a l)) ?_⟩;simp [aFk, h, c, hasM, d];obtain ⟨j, ⟨_, _, _, _, _⟩⟩ := x; rfl
 refine ⟨GValue.mk 0 0 [] [] [], aMe (r := (GValue.mk 0 0 [] [] [], hasM a l)) ?_⟩;simp [aFk, h, c, hasM, d]
mutual
def varN:GValue->List Str
 | ⟨k,_,s,l,m⟩=>bif k==8 then [s] else bif k==6 then aH1 l else bif k==7 then aH2 m else []
def aH1:List GValue->List Str
 | []=>[]
 | x::l=>varN x++aH1 l
def aUf:GMember->List Str
 | ⟨_,v⟩=>varN v
def aH2:List GMember->List Str
 | []=>[]
 | x::l=>aUf x++aH2 l
end
theorem bEt v:varN v=bif v.kind==8 then [v.s] else bif v.kind==6 then aH1 v.l else bif v.kind==7 then aH2 v.m else []:=by cases v;simp [varN]
theorem bB2 x:aUf x=varN x.v:=by cases x;simp [aUf]
mutual
theorem aJ9:∀ v:GValue,(varN v).length<=szV v
 | ⟨k,n,s,l,m⟩=>by
  have b:=aVH l;have a:=aVI m;simp [varN,szV];grind
theorem aVH:∀ l:List GValue,(aH1 l).length<=szVs l
 | []=>by simp [aH1]
 | x::l=>by have:=aJ9 x;have:=aVH l;simp only [aH1,szVs,List.length_append];omega
theorem bB3:∀ x:GMember,(aUf x).length<=szM x
 | ⟨n,v⟩=>by have:=aJ9 v;simp only [aUf,szM];omega
theorem aVI:∀ l:List GMember,(aH2 l).length<=szMs l
 | []=>by simp [aH2]
 | x::l=>by have:=bB3 x;have:=aVI l;simp only [aH2,szMs,List.length_append];omega
end
theorem aQ8 {l x} (h:x∈l):addD l x=l:=by unfold addD;grind
theorem bB4 {l x} (h:x∉l):addD l x=l++[x]:=by
 unfold addD;grind
theorem aQ9:∀ (L a b:List Str),(L.foldl addD a).foldl addD b=L.foldl addD (a.foldl addD b)
 | [],a,b=>rfl
 | x::L,a,b=>by
  rw [List.foldl_cons,aQ9 L (addD a x) b,List.foldl_cons];by_cases h:x∈a;· rw [aQ8 h,aQ8 ((oB _ _ _).2 (.inr h))]
  rw [bB4 h,List.foldl_append];rfl
theorem bGD (L a:List Str):(L.foldl addD []).foldl addD a=L.foldl addD a:=aQ9 L [] a
theorem aUg : ∀ n v l, szV v <= n -> l.length + szV v < 1073741824 -> aNg v l = some ((varN v).foldl addD l) := by
 intro n;induction n with
 | zero => intro v l h; have := aMg v; omega
 | succ n y =>
  intro v l h L;have hv := aMg v;have K := aOe v.l;have M := aOf v.m;have w : ∀ F, (v.kind == 6) = F -> True := fun _ _ => trivial;apply aTe;unfold aFa;rw [bEt];have d : ∀ a , (v.kind == 6) = false -> aY (cU v) (a, 0) = some a := by
   intro a e;apply cG;simp only [cU, e, aDi, aBW]
  have c : ∀ a , (v.kind == 7) = false -> aY (cW v) (a, 0) = some a := by
   intro a f;apply cG;simp only [cW, f, aDi, aBW]
  cases C : v.kind == 8
  ·cases e : v.kind == 6
   ·cases f : v.kind == 7;· simp only [aDi, cond_false, d l e, c l f, dZ]; rfl
    have key := cR (b := cW v) v.m (fun k a => (a, k)) (fun r a => (aH2 r).foldl addD a) (fun k a => a.length + szMs (v.m.drop k) < 1073741824) (by show v.m.length < _; omega)
     (by intro a _; simp [cW, aH2])
     (by
      intro k x r a u o j p q t i;rw [j] at i;simp [szMs] at i;have g : v.m.drop (k + 1) = r := by rw [<- List.tail_drop, j]; rfl
      have E := aOd u;have A := aVy x;have J := aJ9 x.v;have G := aBE (varN x.v) a;refine .inr ⟨(varN x.v).foldl addD a, ?_, ?_, ?_⟩;· simp only [cW, f, p, qO, q, dZ, t, y x.v a (by omega) (by omega)]
      ·rw [g]; omega
      simp [aH2, bB2, List.foldl_append]) (s := (l, 0)) (a := l) rfl (by simp; omega)
    simp [aDi, qO, cond_false, cond_true, d l e, key, dZ]
   have key := cR (b := cU v) v.l (fun k a => (a, k)) (fun r a => (aH1 r).foldl addD a) (fun k a => a.length + szVs (v.l.drop k) < 1073741824) (by show v.l.length < _; omega)
    (by intro a _; simp [cU, aH1])
    (by
     intro k x r a u o j p q t i;rw [j] at i;simp [szVs] at i;have g : v.l.drop (k + 1) = r := by rw [<- List.tail_drop, j]; rfl
     have E := aOc u;have J := aJ9 x;have G := aBE (varN x) a;refine .inr ⟨(varN x).foldl addD a, ?_, ?_, ?_⟩;· simp only [cU, e, p, qO, q, dZ, t, y x a (by omega) (by omega)]
     ·rw [g]; omega
     simp [aH1, List.foldl_append]) (s := (l, 0)) (a := l) rfl (by simp; omega)
   have f : (v.kind == 7) = false := by
    have  := by simpa using e
    rw [this]; rfl
   simp [aDi, qO, cond_false, cond_true, key, c _ f, dZ]
  have B : tapp l [v.s] = some (l ++ [v.s]) := oM (by simp [qP]; omega);have o  := by simpa using C
  have e : (v.kind == 6) = false := by rw [o]; rfl
  have f : (v.kind == 7) = false := by rw [o]; rfl
  have z : ∀ a , aY (cU v) (a, 0) = some a := by
   intro a; apply cG; simp [cU, e, aDi, aBW]
  have D : ∀ a , aY (cW v) (a, 0) = some a := by
   intro a; apply cG; simp [cW, f, aDi, aBW]
  have I : ∀ a , aY (cU v) (a, 0) = some a := by
   intro a; apply cG; simp [cU, e, aBW]
  have H : ∀ a , aY (cW v) (a, 0) = some a := by
   intro a; apply cG; simp [cW, f, aBW]
  simp only [cond_true, tC l v.s (by omega), B, z, D, I, H, List.foldl_cons, addD];cases l.contains v.s <;> rfl
theorem aMm d n (h : Sm d.frags) : aSK d n = some (yY d n) := by
 apply aTB;have key := aAM (b := pA d n) d.frags (fun f => if f.name == n then some (Sum.inr (f.name, f.on_, f.dirs, f.sels)) else none) (.inl ()) h
  (by simp [pA])
  (by
   intro k x i g a c;simp only [pA, g, a, dZ, c];cases x.name == n <;> rfl)
 have e := aFn d.frags (fun f => f.name == n) (fun f => (Sum.inr (f.name, f.on_, f.dirs, f.sels) : Unit ⊕ (Str × Str × (List GDir) × (List GSel))));rw [e] at key;simp [aFf, key, yY];cases d.frags.find? (fun f => f.name == n) <;> rfl
theorem aUh : ∀ n c l, bT c <= n -> l.length + bT c < 1073741824 -> kI c l = some ((fB c).foldl addD l) := by
 intro n;induction n with
 | zero =>
  intro c l h w;have := kN c;have q : c = [] := List.length_eq_zero_iff.1 (by omega);subst q;apply aCW;unfold qI;rw [cG (r := l) (by simp [fY])];rfl
 | succ n A =>
  intro c l h w;apply aCW;unfold qI;have i := kN c;have key := cR (b := fY c) c (fun k a => (a, k)) (fun r a => (fB r).foldl addD a) (fun k a => a.length + bT (c.drop k) < 1073741824) (by omega)
   (by simp [fY, fB])
   (by
    intro k x r a y C g v u m j;rw [g] at j;simp [bT] at j;have f : c.drop (k + 1) = r := by rw [<- List.tail_drop, g]; rfl
    have z := sB y;have p := sC x;have d : ∀ e , e.length <= a.length + 1 -> kI x.sels e = some ((fB x.sels).foldl addD e) := fun e o => by grind
    have B := aMk x;refine .inr ⟨(aEm x).foldl addD a, ?_, ?_, ?_⟩
    ·rw [aXL];simp only [fY, v, u, dZ, m, tC a x.name (by omega), d a (by omega)];cases x.kind == 1;· rfl
     have t : tapp a [x.name] = some (a ++ [x.name]) := oM (by simp [qP]; omega);simp only [cond_true, List.cons_append, List.foldl_cons, addD, t, dZ, d (a ++ [x.name]) (by simp)];cases a.contains x.name <;> rfl
    ·rw [f];have := aBE (aEm x) a;omega
    simp [fB]) (s := (l, 0)) (a := l) rfl (by grind)
  simp_all
theorem aFs a l (h:l.length+bT a<1073741824):kI a l=some ((fB a).foldl addD l):=aUh _ a l (Nat.le_refl _) h
theorem aOj a (h:bT a<1073741824):aF5 a=some ((fB a).foldl addD []) :=
 aLe (by simp [uG,aFs a [] (by grind)])
theorem aRa d sels (D : eF d + bT sels < 500000000) :
  ∃ l, aY (gZ d) ((fB sels).foldl addD [], 0) = some l /\ l.length < 1073741824 /\ (∀ n ∈ fB sels, n ∈ l) /\ aEo d (· ∈ l) /\ ∀ S , (∀ n ∈ fB sels, S n) -> aEo d S -> ∀ n ∈ l, S n := by
 have y : (allN d sels).length <= eF d + bT sels := by
  have h1 := aFp sels;have a := lF d.frags;have A := yZ d;simp only [allN, List.length_append]; omega
 have C := aJ7 d;have hsm : Sm d.frags := by show d.frags.length < _; omega
 have hsub  := fun l h1 a => Nat.le_trans (aER l _ h1 a) y;refine aYW (b := gZ d)
  (I := fun s => ∃ i : Nat, s.2 = i /\ i <= s.1.length /\ s.1.Nodup /\ (∀ x ∈ s.1, x ∈ allN d sels) /\ (∀ n ∈ fB sels, n ∈ s.1) /\
   (∀ j n, j < i -> s.1[j]? = some n -> (yY d n).2 = true -> ∀ m ∈ fB (yY d n).1.sels, m ∈ s.1) /\ (∀ S , (∀ n ∈ fB sels, S n) -> aEo d S -> ∀ n ∈ s.1, S n))
  (m := fun s => eF d + bT sels + 1 - s.2.toNat)
  (Q := fun l => l.length < 1073741824 /\ (∀ n ∈ fB sels, n ∈ l) /\ aEo d (· ∈ l) /\ ∀ S , (∀ n ∈ fB sels, S n) -> aEo d S -> ∀ n ∈ l, S n)
  (by
   rintro ⟨l, B⟩ ⟨i, k, c, hnd, hall, hin, hcl, hmin⟩;simp only at k c hnd hall hin hcl hmin;subst k;have p := hsub l hnd hall;by_cases r : l.length <= i
   ·left;refine ⟨l, ?_, by omega, hin, ?_, hmin⟩
    ·have e1 : decide (i < (List.length l : Int)) = false := by simp; omega
     simp only [gZ, e1, aDi]
    ·intro n hn hfr m q;obtain ⟨j, hj⟩ := List.mem_iff_getElem?.1 hn;have v := (List.getElem?_eq_some_iff.1 hj).1;exact by grind
   ·right;have e1 : decide (i < (List.length l : Int)) = true := by simp; omega
    have hx := List.getElem?_eq_getElem (show i < l.length by omega);have o : IntKind.wrap .i64 (i + 1) = ((i + 1 : Nat) : Int) := wadd (by omega);cases hfr : (yY d l[i]).2
    ·refine ⟨(l, ((i + 1 : Nat) : Int)), ?_, ⟨i + 1, rfl, by simp only; omega, hnd, hall, hin, ?_, hmin⟩, ?_⟩;· simp only [gZ, e1, qO, tS, hx, dZ, aMm d _ hsm, hfr, aDi, o]
     ·intro j n hj hjn hfn;by_cases hji : j = i;· subst hji;rw [hx] at hjn; cases hjn;rw [hfr] at hfn; simp at hfn
      exact hcl j n (by omega) hjn hfn
     simp [Int.toNat_natCast]; omega
    ·obtain ⟨hfm, _⟩ := aJ6 hfr;have z := cZ dV hfm;have u : bT (yY d l[i]).1.sels <= dV (yY d l[i]).1 := by rw [gM, fL]; simp [bkSl]; omega
     have w := yZ d;have f := aFs (yY d l[i]).1.sels l (by omega);obtain ⟨t, g⟩ := aHo (fB (yY d l[i]).1.sels) l;refine ⟨((fB (yY d l[i]).1.sels).foldl addD l, ((i + 1 : Nat) : Int)), ?_, ⟨i + 1, rfl, by simp; rw [g]; simp [List.length_append]; omega, aEn _ _ hnd, ?_, ?_, ?_, ?_⟩, ?_⟩;· simp only [gZ, e1, qO, tS, hx, dZ, aMm d _ hsm, hfr, f, o]
     ·intro x e;rcases (oB _ _ _).1 e with h | h;· exact hall x h
      exact List.mem_append_right _ (List.mem_flatMap.2 ⟨_, hfm, h⟩)
     ·intro n hn; exact by grind
     ·intro j n hj hjn hfn m q;simp at hjn ⊢;rw [g] at hjn;rw [oB];by_cases hji : j = i;· subst hji;rw [List.getElem?_append_left (by omega), hx] at hjn; cases hjn;exact .inr q
      rw [List.getElem?_append_left (by omega)] at hjn;exact by grind
     ·intro S h1 a n hn;rcases (oB _ _ _).1 hn with h | h;· exact by grind
      exact a l[i] (by grind) hfr n h
     simp; omega)
  ((fB sels).foldl addD [], 0)
  ⟨0, rfl, by omega, aEn _ _ List.nodup_nil, (fun x hx => by
   rcases (oB _ _ _).1 hx with h | h;· simp at h
   exact List.mem_append_left _ h), (fun n hn => (oB _ _ _).2 (.inr hn)), (fun j n hj => by omega), (fun S h1 _ n hn => by
   rcases (oB _ _ _).1 hn with h | h;· simp at h
   exact h1 n h)⟩
theorem aUi d c (H : eF d + bT c < 500000000) :
  ∃ (r l : List Str), aVs d c = some r /\ r.Nodup /\ r.length < 1073741824 /\ (∀ n, n ∈ r ↔ n ∈ l /\ (yY d n).2 = true) /\ (∀ n ∈ fB c, n ∈ l) /\ aEo d (· ∈ l) /\ ∀ S , (∀ n ∈ fB c, S n) -> aEo d S -> ∀ n ∈ l, S n := by
 obtain ⟨l, A, M, D, w, I⟩ := aRa d c H;have q := aJ7 d;have key := aEP (b := mN d l) d.frags (fun k a => (a, k)) (fun a f => bif l.contains f.name then addD a f.name else a) id (fun k a => a.length <= k) (by show d.frags.length < _; omega)
  (by intro a _; simp [mN])
  (by
   intro k x a J K u F G L;have v : tapp a [x.name] = some (a ++ [x.name]) := oM (by simp [qP]; omega);simp only [mN, u, qO, F, dZ, G, tC l x.name (by show l.length < _; omega), tC a x.name (by show a.length < _; omega), v];cases l.contains x.name;· exact ⟨rfl, by simp [cond_false]; omega⟩
   simp only [qO, cond_true, addD];cases a.contains x.name;· exact ⟨rfl, by simp; omega⟩
   exact ⟨rfl, by simp; omega⟩) (s := ([], 0)) (a := []) rfl (by simp)
 have i : ∀ (fs : List GFrag) a, (a.Nodup -> (fs.foldl (fun a f => bif l.contains f.name then addD a f.name else a) a).Nodup) /\ (fs.foldl (fun a f => bif l.contains f.name then addD a f.name else a) a).length <= a.length + fs.length /\
   ∀ n, n ∈ fs.foldl (fun a f => bif l.contains f.name then addD a f.name else a) a ↔ n ∈ a ∨ ∃ f ∈ fs, n ∈ l /\ f.name = n := by
  intro fs;induction fs with
  | nil => intro a; simp
  | cons f fs y =>
   intro a;rw [List.foldl_cons];obtain ⟨z, p, t⟩ := y (bif l.contains f.name then addD a f.name else a);refine ⟨fun g => z ?_, ?_, fun n => ?_⟩
   ·cases l.contains f.name;· exact g
    exact aMh g
   ·have := aVz a f.name;cases j : l.contains f.name <;> rw [j] at p <;> simp [cond_true, cond_false, List.length_cons] at p ⊢ <;> omega
   rw [t];cases j : l.contains f.name
   ·have g  := by simpa using j
    simp [cond_false, List.mem_cons, exists_eq_or_imp];constructor
    ·rintro (h | h);· exact .inl h
     exact by grind
    rintro (h | ⟨h, e⟩ | h);· exact .inl h
    ·exact by grind
    exact .inr h
   have g  := by simpa using j
   simp [cond_true, aVB];constructor
   ·rintro ((h | h) | h);· exact .inl h
    ·exact by grind
    exact by grind
   rintro (h | ⟨h, e⟩ | h);· exact by grind
   ·exact by grind
   exact .inr h
 obtain ⟨B, C, E⟩ := i d.frags [];refine ⟨_, l, aP3 (by simp only [aCi, aOj c (by omega), A, dZ, key]; rfl), B List.nodup_nil, ?_, ?_, D, w, I⟩;· simp only [List.length_nil] at C; omega
 intro n;rw [E];constructor
 ·rintro (h | ⟨f, q, g, e⟩);· simp at h
  exact ⟨g, e ▸ bBZ q⟩
 rintro ⟨g, m⟩;obtain ⟨J, o⟩ := aJ6 m;exact by grind
theorem uJ f:bT f.sels<=dV f:=by rw [gM,fL];simp [bkSl];omega
open Go Go.Ev Go.Ev.PV
def Nr (p b:Nat):Prop:=p<=b/\b<=2*p
theorem psl {α} {enc:α->PV} {bk}:∀ {l},(∀ x∈l,Nr (bK (enc x)) (bk x))->dH (l.map enc)<=sumL bk l/\sumL bk l<=2*dH (l.map enc)
 | [],_=>by simp [dH,sumL]
 | x::l,h=>by
  have a:=h x (by simp);have c:=psl (l:=l) (fun y b=>h y (by grind));unfold Nr at a;simp [dH,sumL];omega
theorem bGE (s:Str):Nr (bK (PV.str s)) (dA s):=by unfold Nr;rw [bF];simp [bK];omega
theorem bAb l:dH (l.map PV.str)<=sumL dA l/\sumL dA l<=2*dH (l.map PV.str):=psl fun x _=>bGE x
theorem aVJ x:Nr (bK (jP x)) (aAS x):=by
 unfold Nr;rw [mH,kY];simp [bK,dH,bk1,bF];omega
theorem psVM:∀ n,(∀ x,bY x<=n->Nr (bK (aP x)) (bY x))/\(∀ x,aX x<=n->Nr (bK (aC x)) (aX x)):=by
 intro n;induction n with
 | zero=>exact ⟨fun x h=>by rw [bZ] at h;omega,fun x h=>by rw [cM] at h;omega⟩
 | succ n f =>
  obtain ⟨a,e⟩:=f;refine ⟨fun x c => ?_,fun x c => ?_⟩;· rw [bZ] at c;simp [bkSl] at c;have b:=psl (l:=x.l) (enc:=aP) (bk:=bY) (fun y d=>a y (by have:=cZ bY d;omega));have g:=psl (l:=x.m) (enc:=aC) (bk:=aX) (fun y d=>e y (by have:=cZ aX d;omega));unfold Nr;rw [eY,bZ];simp [bK,dH,bkSl,bk1,bF];omega
  rw [cM] at c;have b:=a x.v (by omega);unfold Nr at b ⊢;rw [eY] at b;rw [jQ,cM];simp [bK,dH,bF] at b ⊢;omega
theorem aOk x:Nr (bK (aP x)) (bY x):=(psVM _).1 x (Nat.le_refl _)
theorem aVK x:Nr (bK (aC x)) (aX x):=(psVM _).2 x (Nat.le_refl _)
theorem bB5 x:Nr (bK (aF x)) (eZ x):=by
 have a:=psl (l:=x.args) (fun y _=>aVK y);unfold Nr;rw [pZ,iG];simp [bK,dH,bkSl,bF];omega
theorem bAc x:Nr (bK (aR x)) (jD x):=by
 have b:=aVJ x.t;have a:=aOk x.default;unfold Nr at b a ⊢;rw [eY] at a;rw [jR,oP,kY];simp [bK,dH,bk1,bF] at b a ⊢;omega
theorem aXN x:Nr (bK (aL x)) (gL x):=by
 have a:=aVJ x.t;have c:=psl (l:=x.params) (fun y _=>bAc y);have b:=psl (l:=x.dirs) (fun y _=>bB5 y);unfold Nr at a ⊢;rw [mH] at a;rw [eH,kH];simp [bK,dH,bkSl,bF] at a ⊢;omega
theorem bGF x:Nr (bK (aH x)) (aJj x):=by
 have d:=psl (l:=x.fields) (fun y _=>aXN y);have c:=psl (l:=x.params) (fun y _=>bAc y);have b:=bAb x.faces;have a:=bAb x.parts;unfold Nr;rw [qA,nQ];simp [bK,dH,bkSl,bk1,bF];omega
theorem aFt x:Nr (bK (dB x)) (jF x):=by
 have a:=psl (l:=x.defs) (fun y _=>bGF y);unfold Nr;rw [gX,oQ];simp [bK,dH,bkSl,bF];omega
theorem bB6 x:Nr (bK (bC x)) (rL x):=by
 have b:=aVJ x.t;have a:=aOk x.default;unfold Nr at b a ⊢;rw [eY] at a;rw [fK,sP,kY];simp [bK,dH,bk1,bF] at b a ⊢;omega
theorem bFM:∀ n,∀ x,dC x<=n->Nr (bK (aI x)) (dC x):=by
 intro n;induction n with
 | zero=>intro x h;rw [gD] at h;omega
 | succ n c =>
  intro x a;rw [gD] at a;simp [bkSl] at a;have f:=psl (l:=x.sels) (enc:=aI) (bk:=dC) (fun y b=>c y (by have:=cZ dC b;omega));have e:=psl (l:=x.args) (fun y _=>aVK y);have d:=psl (l:=x.dirs) (fun y _=>bB5 y);unfold Nr;rw [kX,gD];simp [bK,dH,bkSl,bk1,bF];omega
theorem bEu x:Nr (bK (aI x)) (dC x):=bFM _ x (Nat.le_refl _)
theorem psOp x:Nr (bK (aU x)) (bkOp x):=by
 have c:=psl (l:=x.vars) (fun y _=>bB6 y);have b:=psl (l:=x.dirs) (fun y _=>bB5 y);have a:=psl (l:=x.sels) (fun y _=>bEu y);unfold Nr;rw [pI,kR];simp [bK,dH,bkSl,bk1,bF];omega
theorem bFN x:Nr (bK (aG x)) (dV x):=by
 have b:=psl (l:=x.dirs) (fun y _=>bB5 y);have a:=psl (l:=x.sels) (fun y _=>bEu y);unfold Nr;rw [mI,gM];simp [bK,dH,bkSl,bF];omega
theorem bB7 x:Nr (bK (oE x)) (eF x):=by
 have b:=psl (l:=x.ops) (fun y _=>psOp y);have a:=psl (l:=x.frags) (fun y _=>bFN y);unfold Nr;rw [qB,xH];simp [bK,dH,bkSl];omega
theorem pF {τ} {e es vs} (h:ElsOk τ (e::es) vs):∃ v r,vs=v::r/\ElOk τ e v/\ElsOk τ es r:=by
 cases h with | cons h a=>grind
theorem aKa {τ} {vs} (h:ElsOk τ [] vs):vs=[]:=by cases h;rfl
theorem bEv {v} (h:ElOk tτ ⟨false,[.bool]⟩ v):∃ b,v = .bool b:=by cases h with | one h=>exact aOh h
theorem bDE {v} (h:ElOk tτ ⟨false,[.str]⟩ v):∃ s,v = .str s/\s.length<=topL:=by cases h with | one h=>exact iT h
theorem bFO {n a o v} (h:ElOk tτ ⟨false,[.sl n a o]⟩ v):∃ es,v = .slice es [] o/\(∀ e,e∈es->ElOk tτ (elOf tτ n) e)/\es.length<=a:=by cases h with | one h=>exact oD h
theorem vL {a args} (h:aSt a args) (b:a.cap=2097152) {v} (hv:v∈args):bK v<=2097152:=by
 rcases h with h | h;all_goals grind
def TN (t:GType):Prop:=t.name.length<4611686018427387904
theorem bEw t (h:TN t):Tt (fun b=>b=true->0<=t.lists/\t.lists<=4) (qC t):=by
 have:Tt (fun b=>b=true->0<=t.lists/\t.lists<=4) (pM t):=by
  refine Tt.eq (aXI _ h) (Tt.cnd (fun _ => ?_) fun _=>Tt.ret (by simp));refine Tt.cnd (fun c => ?_) fun _=>Tt.ret (by simp);refine Tt.cnd (fun a => ?_) fun _=>Tt.ret (by simp);refine Tt.cnd (fun j => ?_) fun _=>Tt.ret (by simp);simp at c a;have e:IntKind.wrap .u64 t.lists=t.lists:=by rw [wu];omega
  have g:∃ y,tshl .i64 2 t.lists=some y:=by
   unfold tshl;simp_all
  obtain ⟨y,d⟩:=g;rw [e];exact Tt.eq d (Tt.ret fun _=>⟨c,a⟩)
 obtain ⟨b,f,i⟩:=this;exact ⟨b,aHT f,i⟩
theorem bGG t (h:TN t):Te (bEo t):=by
 have:Te (aN8 t):=Tt.bnd (bEw t h) fun b _=>Tt.cnd (fun _=>Tt.ret trivial) fun _=>Tt.ret trivial;obtain ⟨b,a,c⟩:=this;exact ⟨b,aZX a,c⟩
theorem bEx t (h:TN t):Tt (fun r=>TN r.1/\(r.2=true->r.1.lists.toNat<t.lists.toNat)) (aSL t):=by
 have:Tt (fun r  => TN r.1/\(r.2=true->r.1.lists.toNat<t.lists.toNat)) (aFg t):=by
  refine Tt.bnd (bEw t h) fun b a=>Tt.cnd (fun _=>Tt.ret ⟨by unfold TN;simp,by simp⟩) fun c => ?_;have c:b=true:=by grind
  have f:=a c;refine Tt.cnd (fun _=>Tt.ret ⟨by unfold TN;simp,by simp⟩) fun d=>Tt.ret ⟨h,fun _ => ?_⟩;have d:t.lists≠0:=by grind
  show (IntKind.wrap .i64 (t.lists-1)).toNat<_;rw [wi (by omega)];omega
 obtain ⟨b,a,e⟩:=this;exact ⟨b,aTD a,e⟩
theorem bB8 l n (i:Sm l):Tt (fun r=>r.2=true->r.1∈l) (aNi l n):=by
 have:Tt (fun r  => r.2=true->r.1∈l) (aCs l n):=by
  refine Tt.bnd (Q:=fun o=>Ev.elim o (fun _=>True) fun q=>GParam.mk q.1 (GType.mk q.2.1 q.2.2.1 q.2.2.2.1) q.2.2.2.2.1 (GValue.mk q.2.2.2.2.2.1 q.2.2.2.2.2.2.1 q.2.2.2.2.2.2.2.1 q.2.2.2.2.2.2.2.2.1 q.2.2.2.2.2.2.2.2.2)∈l) (Tt.idx l.length i fun k d s => ?_) fun o u=>Tt.elim (fun a e=>Tt.ret (by simp)) fun a e=>Tt.ret fun _=>by simp_all
  refine Tt.cnd (fun c=>Tt.nth ⟨d,zY c⟩ fun x m e => ?_) fun _=>Tt.ret (Ix.r trivial);refine Tt.cnd (fun _=>Tt.nth ⟨d,zY c⟩ fun y f t=>Tt.ret (Ix.r ?_)) fun _=>Tt.ret (Ix.l c);obtain ⟨p,⟨_,_,_⟩,g,⟨_,_,_,_,_⟩⟩:=y;exact f
 obtain ⟨b,h,j⟩:=this;exact ⟨b,aQT h,j⟩
theorem bFP n m (a:Sm m):Te (aVw n m):=by
 obtain ⟨v,hv⟩:=bAa n m a;exact ⟨_,hv,trivial⟩
theorem SOk.params {s} (h:SOk s) {d} (a:d∈s.defs):bkSl jD d.params<1073741824:=by
 have:=h.def_bk a;rw [nQ] at this;omega
theorem aXO {α} {bk:α->Nat} {l} (a:∀ x,1<=bk x) (h:bkSl bk l<1073741824):Sm l:=by
 have:=dI bk a l;unfold bkSl at h;omega
theorem aVL {l} (h:bkSl jD l<1073741824) {p} (a:p∈l):TN p.t:=by
 have:=cZ jD a;unfold bkSl at h;rw [oP,kY] at this;unfold TN;rw [bF,bF] at this;omega
theorem aVM s l m (j:bkSl jD l<1073741824) (n:Sm m) (u:∀ x∈m,∀ t,TN t->Te (tX s t x.v true)):Te (aCd s l m):=by
 have d:=aXO aJ5 j;have:Te (aCn s l m):=by
  refine Tt.bnd (Q:=fun _=>True) (Tt.idx m.length n fun i c w => ?_) fun o _=>Tt.elim (fun _ _=>Tt.bnd (Q:=fun _=>True) (Tt.idx l.length d fun i c w => ?_) fun o _=>Tt.elim (fun _ _=>Tt.ret trivial) fun _ _=>Tt.ret trivial) fun _ _=>Tt.ret trivial;· refine Tt.cnd (fun a=>Tt.nth ⟨c,zY a⟩ fun x C e => ?_) fun _=>Tt.ret (Ix.r trivial);refine Tt.bnd (bB8 l x.name d) fun p q=>Tt.cnd (fun _=>Tt.ret (Ix.r trivial)) fun B => ?_;refine Tt.nth ⟨c,zY a⟩ fun y h e=>Tt.bnd (u y h _ (aVL j (by grind))) fun b _ => ?_;refine Tt.cnd (fun _=>Tt.ret (Ix.r trivial)) fun _=>Tt.bnd (Q:=fun _=>True) (Tt.idx i.toNat (by omega) fun k z D => ?_) fun o _=>Tt.elim (fun _ _=>Tt.ret (Ix.l a)) fun _ _=>Tt.ret (Ix.r trivial);have f:=zY a;refine Tt.cnd (fun E => ?_) fun _=>Tt.ret (Ix.r trivial);refine Tt.nth ⟨z,by omega⟩ fun x _ _=>Tt.nth ⟨c,f⟩ fun y _ _=>Tt.cnd (fun _=>Tt.ret (Ix.r trivial)) fun _=>Tt.ret (Ix.l (by grind))
  refine Tt.cnd (fun a => ?_) fun _=>Tt.ret (Ix.r trivial);have f:=zY a;refine Tt.nth ⟨c,f⟩ fun x _ _=>Tt.bnd (bFP _ m n) fun g _=>Tt.cnd (fun _=>Tt.nth ⟨c,f⟩ fun y h _=>Tt.bnd (bGG _ (aVL j h)) fun b _ => ?_) fun _=>Tt.ret (Ix.l a);exact Tt.cnd (fun _=>Tt.nth ⟨c,f⟩ fun y h _=>Tt.cnd (fun _=>Tt.ret (Ix.r trivial)) fun _=>Tt.ret (Ix.l a)) fun _=>Tt.ret (Ix.l a)
 obtain ⟨b,A,q⟩:=this;exact ⟨b,aQy A,q⟩
theorem bB9 s (h:SOk s):∀ n v,bY v<=n->n<1073741824->∀ k t al,TN t->t.lists.toNat<=k->Te (tX s t v al):=by
 intro n;induction n with
 | zero=>intro v hv;rw [bZ] at hv;omega
 | succ n ihn =>
  intro v hv D k;have f:∀ x∈v.l,bY x<=n:=fun x hx=>by have:=cZ bY hx;rw [bZ] at hv;simp [bkSl] at hv;omega
  have hvm:∀ x∈v.m,bY x.v<=n:=fun x hx=>by have:=cZ aX hx;rw [cM] at this;rw [bZ] at hv;simp [bkSl] at hv;omega
  have hpos:∀ x,1<=bY x:=fun x=>by rw [bZ];omega
  have a:Sm v.l:=aXO hpos (by rw [bZ] at hv;omega);have hsm:Sm v.m:=aXO uH (by rw [bZ] at hv;omega);have c:∀ x,x∈s.defs->Te (aCd s x.params v.m):=fun x hx=>aVM s x.params v.m (h.params hx) hsm fun y hy t ht=>ihn y.v (hvm y hy) (by omega) _ t true ht (Nat.le_refl _);have hfind:∀ n,Tt (fun r=>Te (aCd s r.1.params v.m)/\Sm r.1.parts) (xM s n):=fun n=>by
   refine ⟨_,aCw s n h.sm,?_,by have:=h.partsF n;omega⟩;rcases aBD s n with hx | ⟨_,_,_,e⟩;· exact c _ hx
   rw [e];exact aVM s [] v.m (by simp [bkSl,sumL]) hsm fun y hy t ht=>ihn y.v (hvm y hy) (by omega) _ t true ht (Nat.le_refl _)
  have leaf:∀ n,Te (cnd (n==([73,110,116]:Str)) (cnd (v.kind==2) (cnd (decide (v.n≥(-2147483648))) (some (decide (v.n<=2147483647))) (some false)) (some false)) (cnd (n==([83,116,114,105,110,103]:Str)) (some (v.kind==4)) (cnd (n==([66,111,111,108,101,97,110]:Str)) (some (v.kind==1)) (cnd (n==([73,68]:Str)) (cnd (v.kind==4) (some true) (some (v.kind==2))) (bnd (xM s n) fun y21=>cnd (y21.1.kind==4) (cnd (v.kind==5) (bnd (aCU y21.1.parts v.s) fun g=>some g) (some false)) (cnd (y21.1.kind==5) (cnd (v.kind==7) (bnd (aCd s y21.1.params v.m) fun j=>some j) (some false)) (some false))))))):=fun n=>by
   refine Tt.cnd (fun _=>Tt.cnd (fun _=>Tt.cnd (fun _=>Tt.ret trivial) fun _=>Tt.ret trivial) fun _=>Tt.ret trivial) fun _=>Tt.cnd (fun _=>Tt.ret trivial) fun _=>Tt.cnd (fun _=>Tt.ret trivial) fun _=>Tt.cnd (fun _=>Tt.cnd (fun _=>Tt.ret trivial) fun _=>Tt.ret trivial) fun _=>Tt.bnd (hfind n) fun r p => ?_;exact Tt.cnd (fun _=>Tt.cnd (fun _=>Tt.eq (tC _ _ p.2) (Tt.ret trivial)) fun _=>Tt.ret trivial) fun _=>Tt.cnd (fun _=>Tt.cnd (fun _=>Tt.bnd p.1 fun _ _=>Tt.ret trivial) fun _=>Tt.ret trivial) fun _=>Tt.ret trivial
  have list1:∀ y4,TN y4.1->Te (aY (uB s v y4) 0):=fun y4 ht=>by
   refine Tt.idx v.l.length a fun i A E => ?_;refine Tt.cnd (fun q=>Tt.nth ⟨A,zY q⟩ fun x hx _=>Tt.bnd (ihn x (f x hx) (by omega) _ y4.1 false ht (Nat.le_refl _)) fun b _=>Tt.cnd (fun _=>Tt.ret (Ix.r trivial)) fun _=>Tt.ret (Ix.l q)) fun _=>Tt.ret (Ix.r trivial)
  have u:∀ t al,TN t->(∀ t',TN t'->t'.lists.toNat<t.lists.toNat->Te (tX s t' v true))->Te (tX s t v al):=fun t al ht hrec=>by
   have:Te (aCj s t v al):=by
    refine Tt.bnd (bEw t ht) fun b _=>Tt.cnd (fun _=>Tt.ret trivial) fun _=>Tt.cnd (fun _=>Tt.ret trivial) fun _=>Tt.cnd (fun _=>Tt.ret trivial) fun _=>Tt.bnd (bEx t ht) fun y4 hy => ?_;refine Tt.jn (fun k=>∀ t,Te (k t)) (fun _ => ?_) fun k d => ?_;· exact Tt.cnd (fun _=>Tt.bnd (list1 _ hy.1) fun o _=>Tt.elim (fun _ _=>Tt.ret trivial) fun _ _=>Tt.ret trivial) fun _=>leaf _
    exact Tt.cnd (fun w=>Tt.cnd (fun _=>Tt.cnd (fun _=>Tt.bnd (hrec _ hy.1 (hy.2 w)) fun _ _=>Tt.ret trivial) fun _=>Tt.ret trivial) fun _=>d _) fun _=>d _
   obtain ⟨b,B,C⟩:=this;exact ⟨b,aP6 B,C⟩
  induction k with
  | zero=>exact fun t al ht d=>by grind
  | succ k z=>grind
theorem bCa:Ds 192 aVF:=by
 intro args a c;obtain ⟨v0,u,rfl,g,a⟩:=pF a;obtain ⟨q,o,rfl,k,a⟩:=pF a;obtain ⟨w,m,rfl,i,a⟩:=pF a;obtain ⟨v3,p,rfl,e,a⟩:=pF a;cases aKa a;obtain ⟨s,rfl⟩:=aJ8 g;obtain ⟨t,rfl⟩:=bEq k;obtain ⟨v,rfl⟩:=aIl i;obtain ⟨b,rfl⟩:=bEv e;have ps:=vL c rfl (v:=dB s) (by simp);have l:=vL c rfl (v:=jP t) (by simp);have n:=vL c rfl (v:=aP v) (by simp);have j:=aFt s;have d:=aVJ t;have h:=aOk v;unfold Nr at j d h;obtain ⟨r,f,_⟩:=bB9 s ⟨by omega⟩ _ v (Nat.le_refl _) (by omega) _ t b (by rw [kY,bF] at d;unfold TN;omega) (Nat.le_refl _);exact ⟨.bool r,by simp [tys];exact bH (enc:=fun r=>(PV.bool r,[])) f,.one (.bool r)⟩
theorem bEy {s:Str} {i n} (h:decide (n>IntKind.wrap .i64 ((List.length s:Int)-i))=false) (m:s.length<=1073741824) (g:0<=i) (f:i<s.length) {F:Int->UInt8->Int} {p q:UInt8->Bool} {b:Int×Int->Option ((Int×Int)⊕(Int⊕Unit))}
  (a:∀ c k,b (c,k)=cnd (decide (k<n)) (bnd (nthI s (IntKind.wrap .i64 (i+k))) fun y=>cnd (p y) (some (.inr (.inr ()))) (cnd (q y) (some (.inr (.inr ()))) (some (.inl (F c y,IntKind.wrap .i64 (k+1)))))) (some (.inr (.inl c)))) c:Te (aY b (c,1)):=by
 rw [wi (by omega)] at h;have o:n<=s.length-i:=by grind
 refine Tt.loop (fun st  => 1<=st.2) (fun st  => (n-st.2).toNat) (fun st e => ?_) (by simp);obtain ⟨c,k⟩:=st;rw [a];refine Tt.cnd (fun d => ?_) fun _=>Tt.ret (Nx.r trivial);have j:=zY d;rw [wi (n:=i+k) (by omega)];refine Tt.nth (by omega) fun y _ _=>Tt.cnd (fun _=>Tt.ret (Nx.r trivial)) fun _=>Tt.cnd (fun _=>Tt.ret (Nx.r trivial)) fun _=>Tt.ret (Nx.l ?_ ?_);· rw [wi (by omega)];omega
 rw [wi (by omega)];omega
theorem bEz s (h:s.length<=1073741824) i:Tt (fun r=>0<=r.2/\r.2<=4) (aSM s i):=by
 have:Tt (fun r  => 0<=r.2/\r.2<=4) (aFi s i):=by
  refine Tt.cnd (fun _=>Tt.ret (by decide)) fun f=>Tt.cnd (fun _=>Tt.ret (by decide)) fun e => ?_;have f:0<=i:=by grind
  have e:i<s.length:=by grind
  refine Tt.nth ⟨f,e⟩ fun y _ _=>Tt.cnd (fun _=>Tt.ret (show 0<=(1:Int)/\(1:Int)<=4 by decide)) fun _ => ?_;refine Tt.jn (fun k=>∀ c n a t g d,0<=n->n<=4->Tt (fun r  => 0<=r.2/\r.2<=4) (k c n a t g d)) (fun c n a _ _ _ m j => ?_) fun k u => ?_
  ·refine Tt.cnd (fun _=>Tt.ret (by decide)) fun l=>Tt.bnd (bEy l h f e (fun _ _=>rfl) _) fun o _=>Tt.elim (fun _ _ => ?_) fun _ _=>Tt.ret (by decide);repeat' first
    | exact Tt.ret ⟨m,j⟩
    | exact Tt.ret (by decide)
    | (refine Tt.cnd (fun _ => ?_) (fun _ => ?_))
  repeat' first
   | exact Tt.ret (by decide)
   | exact by grind
   | (refine Tt.cnd (fun _ => ?_) (fun _ => ?_))
 obtain ⟨b,p,q⟩:=this;exact ⟨b,aTM p,q⟩
theorem bCb s (h:s.length<=1073741824):Tt (fun r=>r.1.length<=1073741824) (aVt s):=by
 have:Tt (fun r  => r.1.length<=1073741824) (aCk s):=by
  refine Tt.bnd (Q:=fun o=>Ev.elim o (fun l=>l.length<=1073741824) fun _=>True) (Tt.loop (fun st:List Int×Int=>0<=st.2/\st.1.length<=st.2/\st.2<=s.length+4/\st.1.length<=s.length) (fun st  => (s.length+4-st.2).toNat) (fun st d => ?_) (by grind)) fun o w=>Tt.elim (fun a e=>Tt.ret (by simp_all)) fun _ _=>Tt.ret (by simp);obtain ⟨c,i⟩:=st;obtain ⟨k,g,m,q⟩:=d;simp at k g m q;refine Tt.cnd (fun j => ?_) fun _=>Tt.ret (Nx.r (show c.length<=1073741824 by omega));have v:=zY j;refine Tt.bnd (bEz s h i) fun y u=>Tt.cnd (fun _=>Tt.ret (Nx.r trivial)) fun f => ?_;have f:y.2≠0:=by grind
  refine Tt.app (by grind) (Tt.ret ?_);rw [wi (n:=i+y.2) (by omega)];refine Nx.l (by grind) ?_;omega
 obtain ⟨b,p,t⟩:=this;exact ⟨b,aQa p,t⟩
theorem bEA {l:List Int}:∀ e,e∈l.map (PV.int .i64)->ElOk tτ (elOf tτ 1) e:=by
 intro e a;obtain ⟨x,_,rfl⟩:=List.mem_map.1 a;exact .one (.int _ _)
theorem aRb s (g:s.length<=1073741824) (i:Int) (h:0<=i/\i<=s.length):Tt (fun n=>0<=n/\i+n<=s.length) (aAZ s i):=by
 have:Tt (fun n=>0<=n/\i+n<=s.length) (aIj s i):=by
  refine Tt.bnd (Q:=fun n=>0<=n/\i+n<=s.length) (Tt.loop (fun n  => 0<=n/\i+n<=s.length) (fun n  => (s.length-n).toNat) (fun n a => ?_) (by omega)) fun n a=>Tt.ret a;unfold aCo;dsimp;rw [wi (n:=i+n) (by omega)];refine Tt.cnd (fun d => ?_) fun _=>Tt.ret (Nx.r a);have f:=zY d;refine Tt.nth (by omega) fun y _ _=>Tt.eq (aJ2 _) (Tt.cnd (fun _=>Tt.ret ?_) fun _=>Tt.ret (Nx.r a));rw [wi (n:=n+1) (by omega)];exact Nx.l (by omega) (by omega)
 obtain ⟨b,c,e⟩:=this;exact ⟨b,aXw c,e⟩
theorem aXP s (hs:s.length<=1073741824):Te (aMb s):=by
 have kloop:∀ (k:Int) z,0<=k->k<=s.length->Te z->Te (bnd (aAZ s k) fun y39=>cnd (decide (y39>0)) (bnd (aAZ s k) fun y41=>some ((IntKind.wrap .i64 (k+y41)),(4:Int))) z):=fun k z h0 h1 f =>
  Tt.bnd (aRb s hs k ⟨h0,h1⟩) fun _ _=>Tt.cnd (fun _=>Tt.bnd (aRb s hs k ⟨h0,h1⟩) fun _ _=>Tt.ret trivial) fun _=>f
 have:Te (qH s):=by
  unfold qH;refine Tt.jn (fun k=>∀ i t t',0<=i->i<=(s.length:Int)->Te (k i t t')) (fun i t t' h0 h1 => ?_) fun B hk1 => ?_
  ·refine Tt.bnd (aRb s hs i ⟨h0,h1⟩) fun D a=>Tt.cnd (fun _=>Tt.ret trivial) fun hne => ?_;have hne  := by simpa using hne
   refine Tt.jn (fun k=>∀ n t,0<=n->i+n<=s.length->Te (k n t)) (fun n t C n1 => ?_) fun o hk10=>Tt.nth (by omega) fun y _ _=>Tt.cnd (fun _=>hk10 _ _ (by omega) (by omega)) fun _=>hk10 _ _ a.1 a.2;refine Tt.jn (fun k=>∀ j kd t t' t'' r,0<=j->j<=(s.length:Int)->Te (k j kd t t' t'' r)) (fun j kd _ _ _ _ x A => ?_) fun h hk15 => ?_
   ·refine Tt.cnd (fun hc => ?_) fun _=>Tt.ret trivial;have w:=zY hc;have e1:IntKind.wrap .i64 (j+1)=j+1:=wi (by omega);have c:IntKind.wrap .i64 (j+1+1)=j+1+1:=wi (by omega);simp [e1];refine Tt.nth (by omega) fun y _ _=>Tt.cnd (fun _ => ?_) fun _=>Tt.nth (by omega) fun y _ _=>Tt.cnd (fun _ => ?_) fun _=>Tt.ret trivial;all_goals
     refine Tt.jn (fun k=>∀ q t t',0<=q->q<=(s.length:Int)->Te (k q t t')) (fun q _ _ l m=>kloop q _ l m (Tt.ret trivial)) fun g hk=>Tt.cnd (fun hc => ?_) fun _=>hk _ _ _ (by omega) (by omega);have d:=zY hc;exact Tt.nth (by omega) fun y _ _=>Tt.cnd (fun _=>hk _ _ _ (by omega) (by omega)) fun _=>Tt.nth (by omega) fun y _ _=>Tt.cnd (fun _=>hk _ _ _ (by omega) (by omega)) fun _=>hk _ _ _ (by omega) (by omega)
   have e1:IntKind.wrap .i64 (i+n)=i+n:=wi (by omega);have c:IntKind.wrap .i64 (i+n+1)=i+n+1:=wi (by omega);simp [e1,c];refine Tt.cnd (fun hc => ?_) fun _=>hk15 _ _ _ _ _ _ (by omega) n1;have d:=zY hc;refine Tt.nth (by omega) fun y _ _=>Tt.cnd (fun _ => ?_) fun _=>hk15 _ _ _ _ _ _ (by omega) n1;refine Tt.bnd (aRb s hs _ ⟨by omega,by omega⟩) fun e _=>Tt.cnd (fun _=>Tt.bnd (aRb s hs _ ⟨by omega,by omega⟩) fun y21 u => ?_) fun _=>hk15 _ _ _ _ _ _ (by omega) n1;rw [wi (n:=i+n+1+y21) (by omega)];exact hk15 _ _ _ _ _ _ (by omega) (by omega)
  refine Tt.cnd (fun hc => ?_) fun _=>hk1 _ _ _ (by omega) (by omega);have:=zY hc;exact Tt.nth (by omega) fun y _ _=>Tt.cnd (fun _=>hk1 _ _ _ (by omega) (by omega)) fun _=>hk1 _ _ _ (by omega) (by omega)
 obtain ⟨b,p,v⟩:=this;exact ⟨b,aKV p,v⟩
theorem bCc:Ds 239 aVE:=by
 intro args a f;obtain ⟨v0,g,rfl,c,a⟩:=pF a;cases aKa a;obtain ⟨s,rfl,d⟩:=bDE c;obtain ⟨r,b,e⟩:=bCb s d;refine ⟨_,bH (enc:=fun r=>(sS r,[])) b,_,rfl,.cons (.one (.sl bEA (by grind))) (.cons (.one (.bool _)) .nil)⟩
theorem aXQ:Ds 238 aMl:=by
 intro args a f;obtain ⟨v0,g,rfl,c,a⟩:=pF a;cases aKa a;obtain ⟨s,rfl,d⟩:=bDE c;obtain ⟨r,b,e⟩:=aXP s d;exact ⟨_,bH (enc:=fun r=>(iI r,[])) b,_,rfl,.cons (.one (.int _ _)) (.cons (.one (.int _ _)) .nil)⟩
mutual
theorem aOl:∀ v:GValue,∀ x∈varN v,x.length<bY v
 | ⟨k,n,s,l,m⟩=>by
  have c:=aRc l;have b:=aRd m;rw [xG] at c;rw [tW] at b;intro x a;rw [bZ];simp [varN] at a;simp [bkSl,bF];grind
theorem aRc:∀ l:List GValue,∀ x∈aH1 l,x.length<rK l
 | [],x,a=>by simp [aH1] at a
 | y::l,x,a=>by
  simp only [aH1,List.mem_append] at a;simp only [rK];rcases a with h | h;· have:=aOl y x h;omega
  ·have:=aRc l x h;omega
theorem bAd:∀ y:GMember,∀ x∈aUf y,x.length<aX y
 | ⟨n,v⟩=>by intro x a;have:=aOl v x (by simpa only [aUf] using a);rw [cM];show x.length<dA n+(bY v+0)+1;omega
theorem aRd:∀ l:List GMember,∀ x∈aH2 l,x.length<nP l
 | [],x,a=>by simp [aH2] at a
 | y::l,x,a=>by
  simp only [aH2,List.mem_append] at a;simp only [nP];rcases a with h | h;· have:=bAd y x h;omega
  ·have:=aRd l x h;omega
end
theorem bAe {l:List Str} (h:∀ x∈l,x.length<=topL):∀ e,e∈l.map PV.str->ElOk tτ (elOf tτ 0) e:=by
 intro e b;obtain ⟨x,a,rfl⟩:=List.mem_map.1 b;exact .one (.str (h x a))
theorem aRe l:l.length<=sumL dA l:=dI dA (fun s=>by rw [bF];omega) l
theorem bEB:Ds 236 aZ9:=by
 intro args b c;obtain ⟨v0,z,rfl,i,b⟩:=pF b;obtain ⟨y,w,rfl,n,b⟩:=pF b;cases aKa b;obtain ⟨v,rfl⟩:=aIl i;obtain ⟨es,rfl,j,t⟩:=bFO n;obtain ⟨l,rfl⟩:=bX (f:=PV.str) (fun e h=>aZ6 (j e h));have u:=vL c rfl (v:=aP v) (by simp);have m:=vL c rfl (v := .slice (l.map PV.str) [] true) (by simp);have k:=aOk v;have s:=bAb l;unfold Nr at k;simp [bK] at m;have p:=aRe l;have q:=aZZ v;have g:=aUg (szV v) v l (by omega) (by omega);have d:=aBE (varN v) l;have o:=aJ9 v;refine ⟨_,by simp [tys];exact bH (enc:=fun r=>(lH r,[])) g,.one (.sl (bAe fun x a => ?_) (by grind))⟩;show x.length<=1073741824;rcases (oB _ _ _).1 a with a | a;· have:=cZ dA a;rw [bF] at this;omega
 have:=aOl v x a;omega
theorem aVN:Ds 114 aOi:=by
 intro args a k;obtain ⟨v0,E,rfl,s,a⟩:=pF a;obtain ⟨C,A,rfl,j,a⟩:=pF a;cases aKa a;obtain ⟨d,rfl⟩:=bDC s;obtain ⟨es,rfl,w,z⟩:=bFO j;obtain ⟨l,rfl⟩:=bX (f:=aI) (fun e h=>aZ8 (w e h));have D:=vL k rfl (v:=oE d) (by simp);have o:=vL k rfl (v := .slice (l.map aI) [] false) (by simp);have q:=bB7 d;have y:=psl (l:=l) (fun x _=>bEu x);unfold Nr at q;simp [bK] at o;obtain ⟨r,l',p,i,_,b,_⟩:=aUi d l (by rw [fL];omega);have g:∀ n∈r,∃ f∈d.frags,f.name=n:=fun n c=>⟨_,aJ6 ((b n).1 c).2⟩;have m:r.length<=d.frags.length:=by
  have:=aER r (d.frags.map (·.name)) i (fun n c=>by grind);grind
 have t:=aJ7 d;refine ⟨_,by exact bH (enc:=fun r=>(lA r,[])) p,.one (.sl (bAe fun x c => ?_) (by grind))⟩;obtain ⟨f,u,rfl⟩:=g x c;have j:=cZ dV u;have B:=yZ d;rw [gM,bF] at j;show f.name.length<=1073741824;omega
def isIn (s:GSchema) (x:Str):Prop:=x∈s.defs.map (·.name)
theorem bCd {s n} (h:aH0 s n [5,5,5]=true):isIn s n:=by
 unfold aH0 bQ at h;cases b:aBC n
 ·cases a:s.defs.find? (fun d=>d.name==n) with
  | none=>grind
  | some d=>exact List.mem_map.2 ⟨d,List.mem_of_find?_eq_some a,by grind⟩
 grind
theorem aVO s (h:SOk s) n:Tt (fun l=>l.length<1073741824/\∀ x∈l,isIn s x) (aIe s n):=by
 have j:(bQ s n).1.params.length<1073741824:=by
  rcases aBD s n with d | ⟨_,_,_,e⟩;· have:=h.def_bk d;rw [nQ] at this;have:=dI jD aJ5 (bQ s n).1.params;unfold bkSl at *;omega
  grind
 have:Tt (fun l=>l.length<1073741824/\∀ x∈l,isIn s x) (aCm s n):=by
  refine Tt.eq (aCw s n h.sm) (Tt.bnd (Q:=fun l  => l.length<1073741824/\∀ x∈l,isIn s x) (Tt.loop (fun st:List Str×Int=>0<=st.2/\st.2<=(bQ s n).1.params.length/\st.1.length<=st.2/\∀ x∈st.1,isIn s x) (fun st  => ((bQ s n).1.params.length-st.2:Int).toNat) (fun st g => ?_) (by simp)) fun l A=>Tt.ret A);obtain ⟨a,i⟩:=st;obtain ⟨k,q,w,m⟩:=g;simp at k q w m;have c:Tt (Nx (fun st:List Str×Int=>0<=st.2/\st.2<=(bQ s n).1.params.length/\st.1.length<=st.2/\∀ x∈st.1,isIn s x) (fun st  => ((bQ s n).1.params.length-st.2:Int).toNat) (a,i) (fun l  => l.length<1073741824/\∀ x∈l,isIn s x)) (some (.inr a)):=Tt.ret (Nx.r ⟨by omega,m⟩);refine Tt.cnd (fun u => ?_) fun _=>c;have v:=zY u;have e:IntKind.wrap .i64 (i+1)=i+1:=wi (by omega);rw [e];have f:∀ o,o.length<=a.length+1->(∀ x∈o,isIn s x)->Tt (Nx (fun st:List Str×Int=>0<=st.2/\st.2<=(bQ s n).1.params.length/\st.1.length<=st.2/\∀ x∈st.1,isIn s x) (fun st  => ((bQ s n).1.params.length-st.2:Int).toNat) (a,i) (fun l:List Str=>l.length<1073741824/\∀ x∈l,isIn s x)) (some (.inl (o,i+1))):=fun o B t=>Tt.ret (Nx.l ⟨by omega,by omega,by grind,t⟩ (by omega));refine Tt.cnd (fun _=>Tt.nth ⟨k,v⟩ fun p j _=>Tt.cnd (fun _=>Tt.cnd (fun _=>Tt.eq (aVA s _ 5 5 5 h.sm) (Tt.cnd (fun z=>Tt.app (by grind) (f _ (by simp) fun x d => ?_)) fun _=>by grind)) fun _=>by grind) fun _=>by grind) fun _=>c;rcases List.mem_append.1 d with d | d;· grind
  rw [List.mem_singleton.1 d];exact bCd z
 obtain ⟨b,y,j⟩:=this;exact ⟨b,aQr y,j⟩
def More (s:GSchema) (y l:List Str):Prop:=∃ a,l=y++a/\a.Nodup/\∀ x∈a,isIn s x
theorem More.len {s y l} (h:More s y l):l.length<=y.length+s.defs.length:=by
 obtain ⟨a,rfl,c,b⟩:=h;have:=aER a (s.defs.map fun d:GDef=>d.name) c b;grind
theorem bCe s (h:SOk s):Te (aVr s):=by
 have F:=h.defs;have inner:∀ y l m,More s y l->y.length<2147483648->m.length<1073741824->(∀ x∈m,isIn s x)->Tt (More s y) (aY (qF m) (l,0)):=fun y l m d hy hm g=>by
  refine Tt.loop (fun st:List Str×Int=>0<=st.2/\st.2<=m.length/\More s y st.1) (fun st  => (m.length-st.2).toNat) (fun st hst => ?_) ⟨by simp,by simp,d⟩;obtain ⟨o,j⟩:=st;obtain ⟨a1,a2,a3⟩:=hst;simp at a1 a2 a3;have hlo:=a3.len;unfold qF;refine Tt.cnd (fun hc => ?_) fun _=>Tt.ret (Nx.r a3);have hj:=zY hc;have e:IntKind.wrap .i64 (j+1)=j+1:=wi (by omega);rw [e];refine Tt.nth ⟨a1,hj⟩ fun x t n=>Tt.eq (tC o x (by omega)) (Tt.cnd (fun E=>Tt.nth ⟨a1,hj⟩ fun x' p ex'=>Tt.app (by grind) (Tt.ret (Nx.l ⟨by omega,by omega,?_⟩ (by omega)))) fun _=>Tt.ret (Nx.l ⟨by omega,by omega,a3⟩ (by omega)));rw [n] at ex';cases ex';obtain ⟨a,rfl,C,B⟩:=a3;refine ⟨a++[x],by simp,?_,fun z D => ?_⟩;all_goals grind
 have mid:∀ y,y.length<1073741824->Tt (fun l  => l.length<2147483648) (aY (qG s) (y,0)):=fun y hy=>by
  refine Tt.loop (fun st  => 0<=st.2/\st.2<=st.1.length/\More s y st.1) (fun st  => ((y.length:Int)+s.defs.length-st.2).toNat) (fun st hst => ?_) ⟨by simp,by simp,[],by simp⟩;obtain ⟨o,k⟩:=st;obtain ⟨a1,a2,a3⟩:=hst;simp at a1 a2 a3;have hlo:=a3.len;unfold qG;refine Tt.cnd (fun hc => ?_) fun _=>Tt.ret (Nx.r (by omega));have q:=zY hc;have e:IntKind.wrap .i64 (k+1)=k+1:=wi (by omega);refine Tt.nth ⟨a1,q⟩ fun x t _=>Tt.bnd (aVO s h x) fun m hm=>Tt.bnd (Q:=fun l'  => More s y l'/\o.length<=l'.length) ?_ fun l' hl'=>Tt.ret ?_;· obtain ⟨l',h1,v⟩:=inner y o m a3 (by omega) hm.1 hm.2;refine ⟨l',h1,v,?_⟩;obtain ⟨u,h1',h2'⟩:=inner o o m ⟨[],by simp⟩ (by omega) hm.1 hm.2;rw [h1] at h1';cases h1';obtain ⟨a,rfl,_⟩:=h2';simp
  rw [e];have:=hl'.1.len;exact Nx.l ⟨by omega,by grind,hl'.1⟩ (by omega)
 have:Te (aCh s):=by
  refine Tt.bnd (Q:=fun _=>True) (Tt.idx s.defs.length (by omega) fun i f h1 => ?_) fun o _=>Tt.elim (fun _ _=>Tt.ret trivial) fun _ _=>Tt.ret trivial;refine Tt.cnd (fun hc => ?_) fun _=>Tt.ret (Ix.r trivial);have c:=zY hc;exact Tt.nth ⟨f,c⟩ fun x _ _=>Tt.bnd (aVO s h _) fun y hy=>Tt.bnd (mid y hy.1) fun l d=>Tt.nth ⟨f,c⟩ fun x _ _=>Tt.eq (tC l _ (by omega)) (Tt.cnd (fun _=>Tt.ret (Ix.r trivial)) fun _=>Tt.ret (Ix.l hc))
 obtain ⟨b,w,A⟩:=this;exact ⟨b,aPX w,A⟩
theorem bCf:Ds 96 aVG:=by
 intro args a e;obtain ⟨v0,f,rfl,d,a⟩:=pF a;cases aKa a;obtain ⟨s,rfl⟩:=aJ8 d;have ps:=vL e rfl (v:=dB s) (by simp);have c:=aFt s;unfold Nr at c;obtain ⟨r,b,_⟩:=bCe s ⟨by omega⟩;exact ⟨.bool r,by exact bH (enc:=fun r=>(PV.bool r,[])) b,.one (.bool r)⟩
def rA (s:GSchema) (typ:Str) (x:GSel):Str:=bif x.kind==0 then (aCZ s typ x.name).1.t.name else bif x.kind==2 then (bif x.on_==([]:Str) then typ else x.on_) else []
def rQ (s:GSchema) (o:GOp):Str:=bif o.kind==1 then s.mutation else s.query
theorem aRf s a x (h:SOk s):aJm s a x=some (rA s a x):=by
 apply aN2;simp only [yT,aUc s _ _ h,rA];cases x.kind==0<;>cases x.kind==2<;>cases x.on_==([]:Str)<;>rfl
theorem aXR s o:aSJ s o=some (rQ s o):=by
 apply aTt;simp [aFe,rQ];cases o.kind==1<;>rfl
mutual
def aGO (s:GSchema) (typ:Str):GSel->List GSeineref13Spot
 | ⟨k,a,n,ar,ds,on,sels⟩=>⟨typ,⟨k,a,n,ar,ds,on,sels⟩⟩::dS s (rA s typ ⟨k,a,n,ar,ds,on,sels⟩) sels
def dS (s:GSchema) (typ:Str):List GSel->List GSeineref13Spot
 | []=>[]
 | x::l=>aGO s typ x++dS s typ l
end
theorem aVP s a x:aGO s a x=⟨a,x⟩::dS s (rA s a x) x.sels:=by cases x;simp [aGO]
mutual
theorem aVQ (s:GSchema):∀ (x:GSel) (b:Str),(aGO s b x).length<=dC x
 | ⟨k,a,n,e,ds,d,c⟩,b=>by
  have:=aCx s c (rA s b ⟨k,a,n,e,ds,d,c⟩);rw [fL] at this;rw [gD];simp [aGO,bkSl];omega
theorem aCx (s:GSchema):∀ (l:List GSel) (b:Str),(dS s b l).length<=bT l
 | [],_=>by simp [dS]
 | x::l,b=>by have:=aVQ s x b;have:=aCx s l b;simp only [dS,bT,List.length_append];omega
end
theorem aRg s (h : SOk s) : ∀ n c d l, bT c <= n -> l.length + bT c < 1073741824 -> aE5 s d c l = some (l ++ dS s d c) := by
 intro n;induction n with
 | zero =>
  intro c d l v y;have := kN c;have o : c = [] := List.length_eq_zero_iff.1 (by omega);subst o;apply aHi;unfold wL;rw [cG (r := l) (by simp [jU])];simp [dS]
 | succ n t =>
  intro c d l v y;apply aHi;unfold wL;have f := kN c;have key := cR (b := jU s d c) c (fun k a => (a, k)) (fun r a => a ++ dS s d r) (fun k a => a.length + bT (c.drop k) < 1073741824) (by omega)
   (by simp [jU, dS])
   (by
    intro k x r a z B e u q i g;rw [e] at g;simp [bT] at g;have w : c.drop (k + 1) = r := by rw [<- List.tail_drop, e]; rfl
    have A := sB z;have m := sC x;have j := aVQ s x d;have p : tapp a [GSeineref13Spot.mk d x] = some (a ++ [⟨d, x⟩]) := oM (by simp [qP]; omega);refine .inr ⟨a ++ aGO s d x, ?_, ?_, ?_⟩;· simp only [jU, u, q, dZ, i, p, aRf s d x h, t x.sels (rA s d x) (a ++ [⟨d, x⟩]) (by omega) (by grind)];rw [aVP]; simp
    ·grind
    simp [dS]) (s := (l, 0)) (a := l) rfl (by grind)
  simp_all
def jI (s:GSchema) (d:GDoc):List GSeineref13Spot:=(d.ops.flatMap fun o=>dS s (rQ s o) o.sels)++d.frags.flatMap fun f=>dS s f.on_ f.sels
theorem aIm s:∀ l,(l.flatMap fun o=>dS s (rQ s o) o.sels).length<=sumL bkOp l
 | []=>by simp
 | o::l=>by
  have c:=aIm s l;have b:=aCx s o.sels (rQ s o);have a:=kR o;rw [fL] at b;simp [bkSl] at a;simp only [List.flatMap_cons,List.length_append,sumL];omega
theorem aGP s:∀ l,(l.flatMap fun f=>dS s f.on_ f.sels).length<=sumL dV l
 | []=>by simp
 | f::l=>by
  have c:=aGP s l;have b:=aCx s f.sels f.on_;have a:=uJ f;simp only [List.flatMap_cons,List.length_append,sumL];omega
theorem fP d:eF d=sumL bkOp d.ops+sumL dV d.frags+3:=by rw [xH];simp [bkSl];omega
theorem aXS s d:(jI s d).length<=eF d:=by
 have b:=aIm s d.ops;have a:=aGP s d.frags;rw [fP];simp only [jI,List.length_append];omega
theorem zD o:1<=bkOp o:=by rw [kR];omega
theorem aGQ o:bT o.sels+1<=bkOp o:=by rw [kR,fL];simp [bkSl];omega
theorem aKb s d (h : SOk s) (w : eF d < 500000000) : aB7 s d = some (jI s d) := by
 apply aPR;unfold aCg;rw [fP] at w;have r := dI bkOp zD d.ops;have u := dI dV mY d.frags;have y := aEP (b := mJ s d) d.ops (fun k a => (a, k)) (fun a o => a ++ dS s (rQ s o) o.sels) (fun a => a) (fun k a => a.length + sumL bkOp (d.ops.drop k) <= sumL bkOp d.ops) (by omega)
  (by intro a _; simp [mJ])
  (by
   intro k x a B i p g m j;have A := aGQ x;have v := aCx s x.sels (rQ s x);have c : d.ops.drop k = x :: d.ops.drop (k + 1) := by
    rw [List.drop_eq_getElem_cons i];rw [tS, List.getElem?_eq_getElem i] at g;grind
   rw [c] at j;simp [sumL] at j;refine ⟨?_, ?_⟩;· simp only [mJ, p, qO, g, dZ, m, aXR, aRg s h _ x.sels (rQ s x) a (Nat.le_refl _) (by omega)]
   grind) (s := ([], 0)) (a := []) rfl (by simp)
 rw [y];simp only [dZ];have e : ∀ (l : List GOp) a, l.foldl (fun a o => a ++ dS s (rQ s o) o.sels) a = a ++ l.flatMap fun o => dS s (rQ s o) o.sels := fun l => by
  induction l with
  | nil => simp
  | cons o l z => grind
 have n : ∀ (l : List GFrag) a, l.foldl (fun a f => a ++ dS s f.on_ f.sels) a = a ++ l.flatMap fun f => dS s f.on_ f.sels := fun l => by
  induction l with
  | nil => simp
  | cons o l z => grind
 rw [e];have t := aIm s d.ops;have q := aEP (b := mK s d) d.frags (fun k a => (a, k)) (fun a f => a ++ dS s f.on_ f.sels) (fun a => a) (fun k a => a.length + sumL dV (d.frags.drop k) <= sumL bkOp d.ops + sumL dV d.frags) (by omega)
  (by simp [mK])
  (by
   intro k x a B i p g m j;have A := uJ x;have v := aCx s x.sels x.on_;have c : d.frags.drop k = x :: d.frags.drop (k + 1) := by
    rw [List.drop_eq_getElem_cons i];rw [tS, List.getElem?_eq_getElem i] at g;grind
   rw [c] at j;simp [sumL] at j;refine ⟨?_, ?_⟩;· simp only [mK, p, qO, g, dZ, m, aRg s h _ x.sels x.on_ a (by omega) (by omega)]
   grind) (s := ([] ++ d.ops.flatMap fun o => dS s (rQ s o) o.sels, 0)) (a := [] ++ d.ops.flatMap fun o => dS s (rQ s o) o.sels) rfl (by grind)
 rw [q, n];simp [jI]
theorem aXT s b a:(aCZ s b a).1=tnF∨(aCZ s b a).1=zF∨∃ d∈s.defs,(aCZ s b a).1∈d.fields:=by
 unfold aCZ;cases a==tnS&&aH0 s b [1,2,3]
 ·cases (bQ s b).1.kind==1||(bQ s b).1.kind==2;· simp
  cases g:(bQ s b).1.fields.find? (fun f=>f.name==a) with
  | none=>simp
  | some f =>
   rcases aBD s b with c | ⟨_,e,_⟩;all_goals grind
 simp
theorem SOk.field_bk {s} (h:SOk s) {d} (c:d∈s.defs) {f} (b:f∈d.fields):gL f<1073741824:=by
 have a:=h.def_bk c;have e:=cZ gL b;rw [nQ] at a;simp [bkSl] at a;omega
theorem aUj {s} (h:SOk s) b a:(aCZ s b a).1.t.name.length<=topL:=by
 unfold topL;rcases aXT s b a with e | e | ⟨d,f,c⟩;· simp_all
 ·grind
 have:=h.field_bk f c;rw [kH,kY,bF,bF] at this;omega
theorem aRh {τ} {n b o a} {α:Type} {f} {l:List α} (h:LfOk τ (.sl n b o) (.slice (l.map f) [] a)):∀ y∈l,ElOk τ (elOf τ n) (f y):=by
 obtain ⟨es,e,c,_⟩:=oD h;grind
theorem bAf {τ} {s:Str} (h:LfOk τ .str (.str s)):s.length<=topL:=by obtain ⟨_,e,a⟩:=iT h;grind
def OkS (x:GSel):Prop:=ElOk tτ (elOf tτ 12) (aI x)
theorem OkS.cells {x} (h:OkS x):CsOk tτ [(.int .i64),.str,.str,(.sl 7 1048576 false),(.sl 8 1048576 false),.str,(.sl 12 1048576 false)] [.int .i64 x.kind,.str x.alias,.str x.name,.slice (List.map aC x.args) [] false,.slice (List.map aF x.dirs) [] false,.str x.on_,.slice (List.map aI x.sels) [] false]:=by
 unfold OkS at h;rw [kX] at h;cases h with | ag a=>exact a
theorem OkS.parts {x} (h:OkS x):x.on_.length<=topL/\∀ y∈x.sels,OkS y:=by
 obtain ⟨_,_,e,_,h⟩:=aO h.cells;cases e;obtain ⟨_,_,e,_,h⟩:=aO h;cases e;obtain ⟨_,_,e,_,h⟩:=aO h;cases e;obtain ⟨_,_,e,_,h⟩:=aO h;cases e;obtain ⟨_,_,e,_,h⟩:=aO h;cases e;obtain ⟨_,_,e,b,h⟩:=aO h;cases e;obtain ⟨_,_,e,a,h⟩:=aO h;cases e;exact ⟨bAf b,aRh a⟩
theorem aUk {s} (h:SOk s) {a x} (c:a.length<=topL) (b:OkS x):(rA s a x).length<=topL:=by
 have e:=aUj h a x.name;have d:=b.parts.1;unfold rA;grind
theorem bEC {a x} (c:a.length<=topL) (b:OkS x):ElOk tτ (elOf tτ 16) (aJ ⟨a,x⟩):=by
 exact .ag (.cons (.str c) b.cells)
mutual
theorem bCg {s:GSchema} (h:SOk s):∀ (x:GSel) (b:Str),b.length<=topL->OkS x->∀ p∈aGO s b x,ElOk tτ (elOf tτ 16) (aJ p)
 | ⟨k,a,n,j,ds,i,e⟩,b,d,f,p,c=>by
  simp [aGO] at c;rcases c with rfl | c;· exact bEC d f
  exact aIn h e _ (aUk h d f) f.parts.2 p c
theorem aIn {s:GSchema} (h:SOk s):∀ (l:List GSel) (b:Str),b.length<=topL->(∀ x∈l,OkS x)->∀ p∈dS s b l,ElOk tτ (elOf tτ 16) (aJ p)
 | [],_,_,_,p,c=>by simp [dS] at c
 | x::l,b,d,f,p,c=>by
  simp only [dS,List.mem_append] at c;rcases c with c | c;· exact bCg h x b d (by grind) p c
  ·exact aIn h l b d (fun y g=>by grind) p c
end
theorem aXU {o} (h:ElOk tτ (elOf tτ 10) (aU o)):∀ x∈o.sels,OkS x:=by
 cases h with
 | ag h =>
  obtain ⟨_,_,e,_,h⟩:=aO h;cases e;obtain ⟨_,_,e,_,h⟩:=aO h;cases e;obtain ⟨_,_,e,_,h⟩:=aO h;cases e;obtain ⟨_,_,e,_,h⟩:=aO h;cases e;obtain ⟨_,_,e,a,h⟩:=aO h;cases e;exact aRh a
theorem aHp {o} (h:ElOk tτ (elOf tτ 13) (aG o)):o.on_.length<=topL/\∀ x∈o.sels,OkS x:=by
 cases h with
 | ag h =>
  obtain ⟨_,_,e,_,h⟩:=aO h;cases e;obtain ⟨_,_,e,b,h⟩:=aO h;cases e;obtain ⟨_,_,e,_,h⟩:=aO h;cases e;obtain ⟨_,_,e,a,h⟩:=aO h;cases e;exact ⟨bAf b,aRh a⟩
theorem aRi {d} (h:ElOk tτ (elOf tτ 9) (oE d)):(∀ o∈d.ops,ElOk tτ (elOf tτ 10) (aU o))/\∀ f∈d.frags,ElOk tτ (elOf tτ 13) (aG f):=by
 cases h with
 | ag h =>
  obtain ⟨_,_,e,b,h⟩:=aO h;cases e;obtain ⟨_,_,e,a,h⟩:=aO h;cases e;exact ⟨aRh b,aRh a⟩
theorem aIo:Ds 58 aFr:=by
 intro args b j;obtain ⟨v0,A,rfl,m,b⟩:=pF b;obtain ⟨x,w,rfl,g,b⟩:=pF b;cases aKa b;obtain ⟨s,rfl⟩:=aJ8 m;obtain ⟨d,rfl⟩:=bDC g;have ps:=vL j rfl (v:=dB s) (by simp);have z:=vL j rfl (v:=oE d) (by simp);have t:=aFt s;have l:=bB7 d;unfold Nr at t l;have c:SOk s:=⟨by omega⟩;have k:=aKb s d c (by omega);have y  := by
  have g:=aXS s d;omega
 obtain ⟨q,h⟩:=aRi g;refine ⟨_,by exact bH (enc:=fun r=>(wA r,[])) k,.one (.sl (fun e n => ?_) (by grind))⟩;obtain ⟨p,a,rfl⟩:=List.mem_map.1 n;rcases List.mem_append.1 a with a | a;· obtain ⟨o,u,a⟩:=List.mem_flatMap.1 a;refine aIn c _ _ ?_ (aXU (q o u)) p a;have:=oQ s;rw [bF,bF] at this;unfold rQ topL;grind
 obtain ⟨f,i,a⟩:=List.mem_flatMap.1 a;exact aIn c _ _ (aHp (h f i)).1 (aHp (h f i)).2 p a
end Go.Proofs.YtphmfillajagdaaGreat
open Go Go.Ev Go.Ev.PV
set_option maxRecDepth 100000
namespace Go.Proofs.YtphmfillajagdaaGreat
def aVR:Summ:=sv1 [⟨false,[(.int .u8)]⟩] [E2']
theorem bCh:Ds 169 aVR:=aN (C:=cf [] [] 0 false []) Tryz.func169 rfl rfl sn' (by kernel_rfl)
def aVS:Summ:=sv1 [⟨false,[(.int .u8)]⟩] [E2']
theorem bCi:Ds 170 aVS:=aN (C:=cf [] [] 0 false []) Tryz.func170 rfl rfl sn' (by kernel_rfl)
def pG:Summ:=sv1 [E11'] [E2']
theorem rB:Ds 98 pG:=aN (C:=cf [(169,aVR),(170,aVS)] [] 0 false [lh 4 [.same,.same,.lf (.int .i64)] 2 1073741824 [some 0,none]]) Tryz.func98 rfl rfl (sc' bCh (sc' bCi sn')) (by kernel_rfl)
def hJ:Summ:=sv1 [E10'] [E2']
theorem jY:Ds 101 hJ:=aN (C:=cf [(98,pG)] [] 0 false []) Tryz.func101 rfl rfl (sc' rB sn') (by kernel_rfl)
def aCy:Summ:=sv1 [E1'] [E7']
def bCj:Cfg:=cf [] [(213,aCy,0)] 0 true [lh 4 (.same :: .lf (.int .i64) :: .lf (.int .i64)::sa 5 []) 2 1048576 [some 0],lh 10 (.same :: .lf (.int .i64) :: .lf (.int .i64)::sa 5 []) 2 1048576 [some 2]]
theorem bCk:∀ x,x∈([(213,aCy,0)]:List (FuncId×Summ×Nat))->Ds x.1 x.2.1 :=
 xE (fun x=>bCj) (all_cons ⟨rfl,rfl,rfl,sn',rfl,_,Tryz.func213,by kernel_rfl⟩ (aDm))
theorem aVT:Ds 213 aCy:=bCk (213,aCy,0) (by simp)
def bAg:Summ:=sv1 [E11'] [E2']
theorem bED:Ds 223 bAg:=aN (C:=cf [(239,aVE)] [] 0 false []) Tryz.func223 rfl rfl (sc' bCc sn') (by kernel_rfl)
def aRj:Summ:=sv1 [E11'] [E7']
theorem bAh:Ds 221 aRj:=aN (C:=cf [(238,aMl)] [] 0 false []) Tryz.func221 rfl rfl (sc' aXQ sn') (by kernel_rfl)
def aVU:Summ:=sv1 [E11'] [E7',E2']
theorem bCl:Ds 222 aVU:=aN (C:=cf [] [] 0 false [lh 5 (sa 3 (.lf (.int .i64) :: .same::[.lf (.int .i64)])) 3 1073741824 [some 0,none]]) Tryz.func222 rfl rfl sn' (by kernel_rfl)
def nA:Summ:=sv1 [E1'] [E2']
def aRk:Cfg:=cf [(221,aRj),(222,aVU),(223,bAg),(98,pG)] [(191,nA,0)] 0 true [lh 25 (sa 2 (.lf (.int .i64)::sa 5 [])) 2 1048576 [some 1,none],lh 32 (sa 2 (.lf (.int .i64)::sa 5 [])) 2 1048576 [some 3,none]]
theorem aRl:∀ x,x∈([(191,nA,0)]:List (FuncId×Summ×Nat))->Ds x.1 x.2.1 :=
 xE (fun x=>aRk) (all_cons ⟨rfl,rfl,rfl,(sc' bAh (sc' bCl (sc' bED (sc' rB sn')))),rfl,_,Tryz.func191,by kernel_rfl⟩ (aDm))
theorem aHq:Ds 191 nA:=aRl (191,nA,0) (by simp)
def aHr:Summ:=sv1 [E8',E11'] [E2']
theorem aKc:Ds 29 aHr:=aN (C:=cf [] [] 0 false [(2,{hv:=[.same,.same,.same,.lf (.int .i64)],cnt:=3,top:=16777216,ex:=[(some 0,[.same,.same,.same,.lf (.int .i64)]),(none,[.same,.same,.lf .bool,.lf (.int .i64)])]})]) Tryz.func29 rfl rfl sn' (by kernel_rfl)
def bFQ:Summ:=sv1 [E10'] [E2']
theorem bGH:Ds 195 bFQ:=aN (C:=cf [(101,hJ)] [] 0 false []) Tryz.func195 rfl rfl (sc' jY sn') (by kernel_rfl)
def aGR:Summ:=sv1 [E1',E1'] [E2']
def aGS:Summ:=sv1 [⟨false,[.sl 7 16777216 false]⟩,⟨false,[.sl 7 16777216 false]⟩] [E2']
def bEE:Cfg:=cf [] [(174,aGR,0),(215,aGS,0)] 0 true [lh 4 (sa 3 (.lf (.int .i64)::sa 10 [])) 3 16777216 [some 0,none]]
def aXV:Cfg:=cf [] [(174,aGR,0),(215,aGS,0)] 0 false [lh 4 [.same,.same,.same,.lf (.int .i64)] 3 16777216 [some 0,none]]
theorem bEF:∀ x,x∈([(174,aGR,0),(215,aGS,0)]:List (FuncId×Summ×Nat))->Ds x.1 x.2.1 :=
 xE (fun x=>if x.1=174 then bEE else aXV) (all_cons ⟨rfl,rfl,rfl,sn',rfl,_,Tryz.func174,by kernel_rfl⟩ (all_cons ⟨rfl,rfl,rfl,sn',rfl,_,Tryz.func215,by kernel_rfl⟩ (aDm)))
theorem bEG:Ds 174 aGR:=bEF (174,aGR,0) (by simp)
def aFu:Summ:=sv1 [E1'] [E2']
def bCm:Cfg:=cf [(98,pG)] [(235,aFu,0)] 0 true [lh 2 (sa 2 (.lf (.int .i64)::sa 5 [])) 2 1048576 [some 0,none],lh 7 (sa 2 (.lf (.int .i64)::sa 5 [])) 2 1048576 [some 2,none]]
theorem bCn:∀ x,x∈([(235,aFu,0)]:List (FuncId×Summ×Nat))->Ds x.1 x.2.1 :=
 xE (fun x=>bCm) (all_cons ⟨rfl,rfl,rfl,(sc' rB sn'),rfl,_,Tryz.func235,by kernel_rfl⟩ (aDm))
theorem bCo:Ds 235 aFu:=bCn (235,aFu,0) (by simp)
def aVV:Summ:=sv1 [E1'] [E2']
theorem bCp:Ds 212 aVV:=aN (C:=cf [(191,nA),(213,aCy),(235,aFu)] [] 0 false []) Tryz.func212 rfl rfl (sc' aHq (sc' aVT (sc' bCo sn'))) (by kernel_rfl)
def aMn:Summ:=sv1 [E10',E10'] [E2']
theorem aXW:Ds 197 aMn:=aN (C:=cf [(101,hJ)] [] 0 false []) Tryz.func197 rfl rfl (sc' jY sn') (by kernel_rfl)
def bAi:Summ:=sv2 [E1'] [E8']
theorem bEH:Ds 214 bAi:=aN (C:=cg [(236,aZ9)] [] 0 false [] 1) Tryz.func214 rfl rfl (sc' bEB sn') (by kernel_rfl)
def aKd:Summ:=sv1 [E11'] [E4',E2']
theorem aUl:Ds 121 aKd:=aN (C:=cf [] [] 0 false []) Tryz.func121 rfl rfl sn' (by kernel_rfl)
def aUm:Summ:=sv1 [E3',E11'] [E14',E2']
theorem bAj:Ds 113 aUm:=aN (C:=cf [] [] 0 false [(2,{hv:=(sa 4 (.lf (.int .i64)::sa 6 [])),cnt:=4,top:=1048576,ex:=[(some 0,(sa 4 (.lf (.int .i64)::sa 6 []))),(none,(sa 3 (.lf .bool :: .lf (.int .i64) :: .lf .str :: .lf .str :: .lf (.sl 8 1048576 false) :: .lf (.sl 12 1048576 false)::sa 2 [])))]})]) Tryz.func113 rfl rfl sn' (by kernel_rfl)
def aVW:Summ:=sv1 [E16',E11'] [E4',E2']
theorem bCq:Ds 193 aVW:=aN (C:=cf [] [] 0 false [(2,{hv:=(sa 4 (.lf (.int .i64)::sa 10 [])),cnt:=4,top:=16777216,ex:=[(some 0,(sa 4 (.lf (.int .i64)::sa 10 []))),(none,[.same,.same,.same,.lf .bool,.lf (.int .i64),.lf .str,.lf .str,.lf (.int .i64),.lf (.int .i64),.lf .bool,.lf (.int .i64),.lf (.int .i64),.lf .str,.lf (.sl 6 1048576 false),.lf (.sl 7 1048576 false)])]})]) Tryz.func193 rfl rfl sn' (by kernel_rfl)
def aKe:Summ:=sv1 [E11'] [E2']
theorem aRm:Ds 156 aKe:=aN (C:=cf [] [] 0 false []) Tryz.func156 rfl rfl sn' (by kernel_rfl)
def aEp:Summ:=sv1 [E0',E11'] [E5',E2']
theorem aGT:Ds 164 aEp:=aN (C:=cf [(156,aKe)] [] 0 false [(4,{hv:=(sa 4 (.lf (.int .i64)::sa 9 [])),cnt:=4,top:=1048576,ex:=[(some 0,(sa 4 (.lf (.int .i64)::sa 9 []))),(none,(sa 3 (.lf .bool :: .lf (.int .i64) :: .lf (.int .i64) :: .lf .str :: .lf (.sl 0 1048576 false) :: .lf (.sl 4 1048576 false) :: .lf (.sl 0 1048576 false) :: .lf (.sl 5 1048576 false)::sa 3 [])))]})]) Tryz.func164 rfl rfl (sc' aRm sn') (by kernel_rfl)
def bAk:Summ:=sv1 [E0',E11',E7',E7',E7'] [E2']
theorem bCr:Ds 159 bAk:=aN (C:=cf [(164,aEp)] [] 0 false []) Tryz.func159 rfl rfl (sc' aGT sn') (by kernel_rfl)
def aOm:Summ:=sv1 [E0',E11'] [E2']
theorem aUn:Ds 118 aOm:=aN (C:=cf [(159,bAk)] [] 0 false []) Tryz.func118 rfl rfl (sc' bCr sn') (by kernel_rfl)
def qJ:Summ:=sv1 [E0',E11'] [E2']
theorem uK:Ds 112 qJ:=aN (C:=cf [(159,bAk)] [] 0 false []) Tryz.func112 rfl rfl (sc' bCr sn') (by kernel_rfl)
def aOn:Summ:=sv1 [E0',E11',E11'] [E6',E2']
theorem aVX:Ds 117 aOn:=aN (C:=cf [(112,qJ),(164,aEp)] [] 0 false [(7,{hv:=(sa 4 (.lf (.int .i64)::sa 15 [])),cnt:=4,top:=1048576,ex:=[(some 0,(sa 4 (.lf (.int .i64)::sa 15 []))),(none,(sa 2 (.lf .bool :: .same :: .lf (.int .i64)::sa 6 (.lf .str :: .lf (.sl 5 1048576 false) :: .lf .str :: .lf (.int .i64) :: .lf (.int .i64) :: .lf (.sl 8 1048576 false)::sa 3 []))))]})]) Tryz.func117 rfl rfl (sc' uK (sc' aGT sn')) (by kernel_rfl)
def aKf:Summ:=sv1 [⟨false,[.sl 8 16777216 false]⟩] [E8']
theorem aUo:Ds 122 aKf:=aN (C:=cf [] [] 0 false [lh 3 [.same,.acc 0 0 1,.lf (.int .i64)] 2 16777216 [some 0]]) Tryz.func122 rfl rfl sn' (by kernel_rfl)
def aKg:Summ:=sv2 [E0',E3'] [⟨false,[.sl 14 16777216 false]⟩]
theorem aUp:Ds 120 aKg:=aN (C:=cg [(58,aFr)] [] 0 false [lh 3 (sa 2 (.acc 14 0 1 :: .lf (.int .i64)::sa 5 [])) 3 4194304 [some 0],lh 7 (sa 2 (.acc 14 4194304 1 :: .lf (.int .i64)::sa 5 [])) 3 4194304 [some 2],lh 12 (.acc 14 8388608 1 :: .same :: .lf (.int .i64)::sa 5 []) 2 4194304 [some 4]] 2) Tryz.func120 rfl rfl (sc' aIo sn') (by kernel_rfl)
def aOo:Summ:=sv1 [E8'] [E2']
theorem aVY:Ds 50 aOo:=aN (C:=cf [] [] 0 false [(5,{hv:=[.same,.same,.same,.lf (.int .i64)],cnt:=3,top:=16777216,ex:=[(some 2,[.same,.same,.same,.lf (.int .i64)]),(none,[.same,.lf .bool,.same,.lf (.int .i64)])]}),(2,{hv:=[.same,.same,.lf (.int .i64)],cnt:=2,top:=16777216,ex:=[(some 0,[.same,.same,.lf (.int .i64)]),(none,[.same,.lf .bool,.lf (.int .i64)])]})]) Tryz.func50 rfl rfl sn' (by kernel_rfl)
def aMo:Summ:=sv2 [E0',E3',E7'] [E2']
theorem aXX:Ds 60 aMo:=aN (C:=cg [(120,aKg),(121,aKd),(122,aKf),(50,aOo)] [] 0 false [lh 6 (sa 5 (.lf (.int .i64)::sa 5 [])) 5 16777216 [some 2,none],lh 3 (sa 4 (.lf (.int .i64)::sa 5 [])) 4 16777216 [some 0,none]] 3) Tryz.func60 rfl rfl (sc' aUp (sc' aUl (sc' aUo (sc' aVY sn')))) (by kernel_rfl)
def aFv:Summ:=sv1 [E0',E11'] [E2']
theorem aKh:Ds 90 aFv:=aN (C:=cf [(159,bAk)] [] 0 false []) Tryz.func90 rfl rfl (sc' bCr sn') (by kernel_rfl)
def aEq:Summ:=sv1 [E0',E11'] [E8']
theorem aKi:Ds 185 aEq:=aN (C:=cf [(164,aEp),(29,aHr),(90,aFv)] [] 0 false [lh 8 (sa 2 (.acc 0 0 1 :: .lf (.int .i64)::sa 9 [])) 3 1048576 [some 1],lh 15 (sa 2 (.acc 0 0 1 :: .lf (.int .i64)::sa 9 [])) 3 1048576 [some 3]]) Tryz.func185 rfl rfl (sc' aGT (sc' aKc (sc' aKh sn'))) (by kernel_rfl)
def aVZ:Summ:=sv1 [E0',E11',E11'] [E2']
theorem bCs:Ds 119 aVZ:=aN (C:=cf [(185,aEq),(29,aHr)] [] 0 false [(3,{hv:=(sa 3 (.lf (.int .i64)::sa 3 [])),cnt:=3,top:=16777216,ex:=[(some 0,(sa 3 (.lf (.int .i64)::sa 3 []))),(none,(.lf .bool::sa 2 (.lf (.int .i64)::sa 3 [])))]})]) Tryz.func119 rfl rfl (sc' aKi (sc' aKc sn')) (by kernel_rfl)
def aHs:Summ:=sv1 [E0',E3',⟨true,[.str,(.int .i64),.str,.str,(.sl 7 1048576 false),(.sl 8 1048576 false),.str,(.sl 12 1048576 false)]⟩,E7'] [E2']
theorem aRn:Ds 59 aHs:=aN (C:=cf [(117,aOn),(118,aOm),(112,qJ),(119,aVZ),(113,aUm)] [] 0 false []) Tryz.func59 rfl rfl (sc' aVX (sc' aUn (sc' uK (sc' bCs (sc' bAj sn'))))) (by kernel_rfl)
def aV0:Summ:=sv1 [E0',E3'] [E2']
theorem bCt:Ds 52 aV0:=aN (C:=cf [] [] 0 false [lh 2 (sa 3 (.lf (.int .i64)::sa 5 [])) 3 1048576 [some 0,none]]) Tryz.func52 rfl rfl sn' (by kernel_rfl)
def zJ:Summ:=sv2 [E1',E7',E2'] [E2']
theorem aFw:Ds 173 zJ:=aN (C:=cg [(212,aVV),(213,aCy),(214,bAi)] [] 0 false [] 3) Tryz.func173 rfl rfl (sc' bCp (sc' aVT (sc' bEH sn'))) (by kernel_rfl)
def tD:Summ:=sv2 [⟨false,[.sl 7 16777216 false]⟩,E7',E2'] [E2']
theorem aBF:Ds 171 tD:=aN (C:=cg [(98,pG),(173,zJ)] [] 0 false [lh 2 (sa 4 ([.lf (.int .i64)])) 4 16777216 [some 0,none]] 3) Tryz.func171 rfl rfl (sc' rB (sc' aFw sn')) (by kernel_rfl)
def uL:Summ:=sv2 [⟨false,[.sl 8 16777216 false]⟩,E7',E2'] [E2']
theorem aBG:Ds 99 uL:=aN (C:=cg [(98,pG),(171,tD)] [] 0 false [lh 2 (sa 4 ([.lf (.int .i64)])) 4 16777216 [some 0,none]] 3) Tryz.func99 rfl rfl (sc' rB (sc' aBF sn')) (by kernel_rfl)
def nB:Summ:=sv2 [⟨false,[.sl 12 16777216 false]⟩,E7'] [E2']
def aEr:Summ:=sv2 [E9',E7'] [E2']
def aRo:Cfg:=cg [] [(100,nB,0),(172,aEr,0)] 0 false [lh 4 [.same,.same,.same,.lf (.int .i64)] 3 16777216 [some 0,none]] 2
def aUq:Cfg:=cg [(99,uL),(98,pG),(171,tD)] [(100,nB,0),(172,aEr,0)] 0 true [] 2
theorem aRp:∀ x,x∈([(100,nB,0),(172,aEr,0)]:List (FuncId×Summ×Nat))->Ds x.1 x.2.1 :=
 xE (fun x=>if x.1=100 then aRo else aUq) (all_cons ⟨rfl,rfl,rfl,sn',rfl,_,Tryz.func100,by kernel_rfl⟩ (all_cons ⟨rfl,rfl,rfl,(sc' aBG (sc' rB (sc' aBF sn'))),rfl,_,Tryz.func172,by kernel_rfl⟩ (aDm)))
theorem aRq:Ds 100 nB:=aRp (100,nB,0) (by simp)
def tE:Summ:=sv2 [E2',E1'] [E2']
theorem aBH:Ds 102 tE:=aN (C:=cg [(173,zJ),(174,aGR)] [] 0 false [] 2) Tryz.func102 rfl rfl (sc' aFw (sc' bEG sn')) (by kernel_rfl)
def bCu:Summ:=sv2 [E3'] [E2']
theorem bCv:Ds 33 bCu:=aN (C:=cg [(98,pG),(99,uL),(100,nB),(101,hJ),(102,tE)] [] 0 false [lh 8 (sa 4 (.lf (.int .i64)::sa 7 [])) 4 1048576 [some 2,none],lh 2 (sa 2 (.lf (.int .i64)::sa 2 [])) 2 1048576 [some 0,none],lh 13 (sa 2 (.lf (.int .i64)::sa 2 [])) 2 1048576 [some 4,none]] 1) Tryz.func33 rfl rfl (sc' rB (sc' aBG (sc' aRq (sc' jY (sc' aBH sn'))))) (by kernel_rfl)
def aFx:Summ:=sv1 [E8'] [E2']
theorem aOq:Ds 232 aFx:=aN (C:=cf [(98,pG)] [] 0 false [lh 2 [.same,.same,.lf (.int .i64)] 2 16777216 [some 0,none]]) Tryz.func232 rfl rfl (sc' rB sn') (by kernel_rfl)
def vM:Summ:=sv2 [E16'] [E2']
theorem aC0:Ds 234 vM:=aN (C:=cg [(98,pG),(101,hJ),(102,tE)] [] 0 false [lh 2 [.same,.same,.lf (.int .i64)] 2 16777216 [some 0,none]] 1) Tryz.func234 rfl rfl (sc' rB (sc' jY (sc' aBH sn'))) (by kernel_rfl)
def aC1:Summ:=sv2 [⟨false,[.sl 4 16777216 false]⟩] [E2']
theorem aLD:Ds 233 aC1:=aN (C:=cg [(98,pG),(234,vM),(101,hJ),(99,uL)] [] 0 false [lh 2 [.same,.same,.lf (.int .i64)] 2 16777216 [some 0,none]] 1) Tryz.func233 rfl rfl (sc' rB (sc' aC0 (sc' jY (sc' aBG sn')))) (by kernel_rfl)
def aKj:Summ:=sv2 [E5'] [E2']
theorem aUr:Ds 209 aKj:=aN (C:=cg [(98,pG),(232,aFx),(233,aC1),(234,vM),(29,aHr)] [] 0 false [] 1) Tryz.func209 rfl rfl (sc' rB (sc' aOq (sc' aLD (sc' aC0 (sc' aKc sn'))))) (by kernel_rfl)
def aC2:Summ:=sv2 [E0'] [E2']
theorem aLE:Ds 157 aC2:=aN (C:=cg [(209,aKj),(98,pG)] [] 0 false [lh 2 (sa 2 (.lf (.int .i64)::sa 3 [])) 2 1048576 [some 0,none]] 1) Tryz.func157 rfl rfl (sc' aUr (sc' rB sn')) (by kernel_rfl)
def aV1:Summ:=sv1 [E0',E11'] [E2']
theorem bCw:Ds 129 aV1:=aN (C:=cf [(159,bAk)] [] 0 false []) Tryz.func129 rfl rfl (sc' bCr sn') (by kernel_rfl)
def bDF:Summ:=sv1 [E0',E10',E10'] [E2']
theorem bFR:Ds 211 bDF:=aN (C:=cf [(101,hJ),(197,aMn),(164,aEp),(185,aEq),(29,aHr)] [] 0 false []) Tryz.func211 rfl rfl (sc' jY (sc' aXW (sc' aGT (sc' aKi (sc' aKc sn'))))) (by kernel_rfl)
def aV2:Summ:=sv1 [E0',E6',E6'] [E2']
theorem bCx:Ds 165 aV2:=aN (C:=cf [(211,bDF),(193,aVW),(195,bFQ)] [] 0 false [lh 4 (sa 3 (.lf (.int .i64)::sa 15 [])) 3 1048576 [some 0,none],lh 10 (sa 3 (.lf (.int .i64)::sa 15 [])) 3 1048576 [some 2,none]]) Tryz.func165 rfl rfl (sc' bFR (sc' bCq (sc' bGH sn'))) (by kernel_rfl)
def aKk:Summ:=sv1 [E0'] [E8']
theorem aUs:Ds 155 aKk:=aN (C:=cf [] [] 0 false [lh 3 (.same :: .acc 0 0 1 :: .lf (.int .i64)::sa 3 []) 2 1048576 [some 0]]) Tryz.func155 rfl rfl sn' (by kernel_rfl)
def aMp:Summ:=sv1 [E0',E16'] [E2']
theorem aXY:Ds 163 aMp:=aN (C:=cf [(129,aV1)] [] 0 false [lh 2 (sa 3 (.lf (.int .i64)::sa 3 [])) 3 16777216 [some 0,none]]) Tryz.func163 rfl rfl (sc' bCw sn') (by kernel_rfl)
def aFy:Summ:=sv1 [⟨false,[.sl 4 16777216 false]⟩] [E8']
theorem aOr:Ds 160 aFy:=aN (C:=cf [] [] 0 false [lh 3 [.same,.acc 0 0 1,.lf (.int .i64)] 2 16777216 [some 0]]) Tryz.func160 rfl rfl sn' (by kernel_rfl)
def aV3:Summ:=sv1 [E11'] [E2']
theorem bCy:Ds 210 aV3:=aN (C:=cf [] [] 0 false []) Tryz.func210 rfl rfl sn' (by kernel_rfl)
def aBI:Summ:=sv1 [E0',E16'] [E2']
theorem aKl:Ds 168 aBI:=aN (C:=cf [(118,aOm)] [] 0 false [lh 2 (sa 3 (.lf (.int .i64)::sa 3 [])) 3 16777216 [some 0,none]]) Tryz.func168 rfl rfl (sc' aUn sn') (by kernel_rfl)
def aOs:Summ:=sv1 [E8'] [E2']
theorem aV4:Ds 162 aOs:=aN (C:=cf [] [] 0 false [(5,{hv:=[.same,.same,.same,.lf (.int .i64)],cnt:=3,top:=16777216,ex:=[(some 2,[.same,.same,.same,.lf (.int .i64)]),(none,[.same,.lf .bool,.same,.lf (.int .i64)])]}),(2,{hv:=[.same,.same,.lf (.int .i64)],cnt:=2,top:=16777216,ex:=[(some 0,[.same,.same,.lf (.int .i64)]),(none,[.same,.lf .bool,.lf (.int .i64)])]})]) Tryz.func162 rfl rfl sn' (by kernel_rfl)
def bAl:Summ:=sv1 [E8'] [E2']
theorem bDG:Ds 158 bAl:=aN (C:=cf [(210,aV3),(162,aOs)] [] 0 false [lh 2 [.same,.same,.lf (.int .i64)] 2 16777216 [some 0,none]]) Tryz.func158 rfl rfl (sc' bCy (sc' aV4 sn')) (by kernel_rfl)
def aFz:Summ:=sv1 [E16'] [E8']
theorem aOt:Ds 161 aFz:=aN (C:=cf [] [] 0 false [lh 3 [.same,.acc 0 0 1,.lf (.int .i64)] 2 16777216 [some 0]]) Tryz.func161 rfl rfl sn' (by kernel_rfl)
def aV5:Summ:=sv2 [E0'] [E2']
theorem bCz:Ds 89 aV5:=aN (C:=cg [(155,aKk),(156,aKe),(157,aC2),(158,bAl)] [] 0 false [lh 3 (sa 3 (.lf (.int .i64)::sa 3 [])) 3 16777216 [some 0,none]] 1) Tryz.func89 rfl rfl (sc' aUs (sc' aRm (sc' aLE (sc' bDG sn')))) (by kernel_rfl)
def aV6:Summ:=sv1 [E0'] [E2']
theorem bCA:Ds 91 aV6:=aN (C:=cf [(160,aFy),(158,bAl),(161,aFz),(162,aOs)] [] 0 false [lh 8 (sa 4 (.lf (.int .i64)::sa 9 [])) 4 1048576 [some 2,none],lh 2 (sa 2 (.lf (.int .i64)::sa 3 [])) 2 1048576 [some 0,none]]) Tryz.func91 rfl rfl (sc' aOr (sc' bDG (sc' aOt (sc' aV4 sn')))) (by kernel_rfl)
def aV7:Summ:=sv1 [E0'] [E2']
theorem bCB:Ds 92 aV7:=aN (C:=cf [(163,aMp),(118,aOm),(112,qJ)] [] 0 false [lh 8 (sa 4 (.lf (.int .i64)::sa 9 [])) 4 1048576 [some 2,none],lh 2 (sa 2 (.lf (.int .i64)::sa 3 [])) 2 1048576 [some 0,none]]) Tryz.func92 rfl rfl (sc' aXY (sc' aUn (sc' uK sn'))) (by kernel_rfl)
def aV8:Summ:=sv1 [E0'] [E2']
theorem bCC:Ds 93 aV8:=aN (C:=cf [(164,aEp),(29,aHr)] [] 0 false [lh 12 (sa 6 (.lf (.int .i64)::sa 15 [])) 6 1048576 [some 4,none],lh 6 (sa 4 (.lf (.int .i64)::sa 9 [])) 4 1048576 [some 2,none],lh 2 (sa 2 (.lf (.int .i64)::sa 3 [])) 2 1048576 [some 0,none]]) Tryz.func93 rfl rfl (sc' aGT (sc' aKc sn')) (by kernel_rfl)
def aV9:Summ:=sv1 [E0'] [E2']
theorem bCD:Ds 94 aV9:=aN (C:=cf [(164,aEp),(117,aOn),(165,aV2)] [] 0 false [lh 10 (sa 6 (.lf (.int .i64)::sa 15 [])) 6 1048576 [some 4,none],lh 6 (sa 4 (.lf (.int .i64)::sa 9 [])) 4 1048576 [some 2,none],lh 2 (sa 2 (.lf (.int .i64)::sa 3 [])) 2 1048576 [some 0,none]]) Tryz.func94 rfl rfl (sc' aGT (sc' aVX (sc' bCx sn'))) (by kernel_rfl)
def aWa:Summ:=sv1 [E0'] [E2']
theorem bCE:Ds 95 aWa:=aN (C:=cf [(90,aFv)] [] 0 false [lh 5 (sa 3 (.lf (.int .i64)::sa 3 [])) 3 1048576 [some 2,none],lh 2 (sa 2 (.lf (.int .i64)::sa 3 [])) 2 1048576 [some 0,none]]) Tryz.func95 rfl rfl (sc' aKh sn') (by kernel_rfl)
def aWb:Summ:=sv2 [E0',E10',E1'] [E2']
theorem bCF:Ds 130 aWb:=aN (C:=cg [(101,hJ),(191,nA),(192,aVF)] [] 0 false [] 3) Tryz.func130 rfl rfl (sc' jY (sc' aHq (sc' bCa sn'))) (by kernel_rfl)
def aKm:Summ:=sv2 [E0',E16'] [E2']
theorem aUt:Ds 167 aKm:=aN (C:=cg [(130,aWb)] [] 0 false [lh 2 (sa 3 (.lf (.int .i64)::sa 3 [])) 3 16777216 [some 0,none]] 2) Tryz.func167 rfl rfl (sc' bCF sn') (by kernel_rfl)
def aWc:Summ:=sv2 [E0'] [E2']
theorem bCG:Ds 97 aWc:=aN (C:=cg [(167,aKm),(168,aBI)] [] 0 false [lh 7 (sa 3 (.lf (.int .i64)::sa 3 [])) 3 1048576 [some 2,none],lh 2 (sa 2 (.lf (.int .i64)::sa 3 [])) 2 1048576 [some 0,none]] 1) Tryz.func97 rfl rfl (sc' aUt (sc' aKl sn')) (by kernel_rfl)
def bAm:Summ:=sv2 [E0',E7'] [E2']
theorem bEI:Ds 32 bAm:=aN (C:=cg [(89,aV5),(90,aFv),(91,aV6),(92,aV7),(93,aV8),(94,aV9),(95,aWa),(96,aVG),(97,aWc)] [] 0 false [] 2) Tryz.func32 rfl rfl (sc' bCz (sc' aKh (sc' bCA (sc' bCB (sc' bCC (sc' bCD (sc' bCE (sc' bCf (sc' bCG sn'))))))))) (by kernel_rfl)
def bCH:Summ:=sv2 [E0'] [E7']
theorem bCI:Ds 10 bCH:=aN (C:=cg [(32,bAm)] [] 0 false [(2,{hv:=(sa 2 (.lf (.int .i64)::sa 3 [])),cnt:=2,top:=1048576,ex:=[(some 0,(sa 2 (.lf (.int .i64)::sa 3 []))),(none,(.same :: .lf (.int .i64) :: .lf (.int .i64)::sa 3 []))]})] 1) Tryz.func10 rfl rfl (sc' bEI sn') (by kernel_rfl)
def aWd:Summ:=sv1 [E3'] [E8']
theorem bCJ:Ds 51 aWd:=aN (C:=cf [] [] 0 false [lh 3 [.same,.acc 0 0 1,.lf (.int .i64),.same,.same] 2 1048576 [some 0]]) Tryz.func51 rfl rfl sn' (by kernel_rfl)
def aHt:Summ:=sv1 [E3'] [E8']
theorem aRr:Ds 53 aHt:=aN (C:=cf [] [] 0 false [lh 3 [.same,.acc 0 0 1,.lf (.int .i64),.same,.same] 2 1048576 [some 0]]) Tryz.func53 rfl rfl sn' (by kernel_rfl)
def aWe:Summ:=sv2 [E0',E3'] [E2']
theorem bCK:Ds 54 aWe:=aN (C:=cg [(112,qJ),(58,aFr)] [] 0 false [lh 2 (sa 3 (.lf (.int .i64)::sa 5 [])) 3 16777216 [some 0,none],lh 8 (sa 3 (.lf (.int .i64)::sa 5 [])) 3 16777216 [some 2,none]] 2) Tryz.func54 rfl rfl (sc' uK (sc' aIo sn')) (by kernel_rfl)
def aWf:Summ:=sv2 [E0',E3'] [E2']
theorem bCL:Ds 55 aWf:=aN (C:=cg [(58,aFr),(113,aUm)] [] 0 false [lh 3 (sa 3 (.lf (.int .i64)::sa 5 [])) 3 16777216 [some 0,none]] 2) Tryz.func55 rfl rfl (sc' aIo (sc' bAj sn')) (by kernel_rfl)
def aWg:Summ:=sv2 [E3'] [E2']
theorem bCM:Ds 56 aWg:=aN (C:=cg [(114,aOi),(29,aHr)] [] 0 false [(2,{hv:=(sa 2 (.lf (.int .i64)::sa 2 [])),cnt:=2,top:=1048576,ex:=[(some 0,(sa 2 (.lf (.int .i64)::sa 2 []))),(none,[.same,.lf .bool,.lf (.int .i64),.same,.same])]})] 1) Tryz.func56 rfl rfl (sc' aVN (sc' aKc sn')) (by kernel_rfl)
def aWh:Summ:=sv2 [E3'] [E2']
theorem bCN:Ds 57 aWh:=aN (C:=cg [(114,aOi),(29,aHr)] [] 0 false [lh 6 (sa 2 (.lf .bool :: .lf (.int .i64)::sa 2 [])) 3 1048576 [some 2],(2,{hv:=[.same,.any,.lf (.int .i64),.same,.same],cnt:=2,top:=1048576,ex:=[(some 0,[.same,.any,.lf (.int .i64),.same,.same]),(none,(sa 2 (.lf (.int .i64)::sa 2 [])))]})] 1) Tryz.func57 rfl rfl (sc' aVN (sc' aKc sn')) (by kernel_rfl)
def bEJ:Summ:=sv2 [E0',E3',⟨false,[.rng .i64 0 14]⟩] [E2']
theorem bEK:Ds 20 bEJ:=aN (C:=cg [(51,aWd),(50,aOo),(52,aV0),(53,aHt),(54,aWe),(55,aWf),(56,aWg),(57,aWh),(58,aFr),(59,aHs),(60,aMo)] [] 0 false [lh 23 (sa 5 (.lf (.int .i64)::sa 5 [])) 5 16777216 [some 1,none]] 3) Tryz.func20 rfl rfl (sc' bCJ (sc' aVY (sc' bCt (sc' aRr (sc' bCK (sc' bCL (sc' bCM (sc' bCN (sc' aIo (sc' aRn (sc' aXX sn'))))))))))) (by kernel_rfl)
def zM:Summ:=sv1 [E1'] [E7']
def bEL:Cfg:=cf [] [(88,zM,0)] 0 true [lh 3 (.same :: .lf (.int .i64) :: .lf (.int .i64)::sa 5 []) 2 1048576 [some 0],lh 7 (.same :: .lf (.int .i64) :: .lf (.int .i64)::sa 5 []) 2 1048576 [some 2]]
theorem bEM:∀ x,x∈([(88,zM,0)]:List (FuncId×Summ×Nat))->Ds x.1 x.2.1 :=
 xE (fun x=>bEL) (all_cons ⟨rfl,rfl,rfl,sn',rfl,_,Tryz.func88,by kernel_rfl⟩ (aDm))
theorem aKn:Ds 88 zM:=bEM (88,zM,0) (by simp)
def aBJ:Summ:=sv1 [⟨false,[.sl 8 16777216 false]⟩] [E7']
theorem aHu:Ds 86 aBJ:=aN (C:=cf [(88,zM)] [] 0 false [lh 3 [.same,.lf (.int .i64),.lf (.int .i64)] 2 16777216 [some 0]]) Tryz.func86 rfl rfl (sc' aKn sn') (by kernel_rfl)
def qK:Summ:=sv1 [⟨false,[.sl 12 16777216 false]⟩] [E7']
def aRs:Cfg:=cf [(88,zM),(86,aBJ)] [(87,qK,0)] 0 false [lh 3 [.same,.lf (.int .i64),.lf (.int .i64)] 2 16777216 [some 0]]
theorem aRt:∀ x,x∈([(87,qK,0)]:List (FuncId×Summ×Nat))->Ds x.1 x.2.1 :=
 xE (fun x=>aRs) (all_cons ⟨rfl,rfl,rfl,(sc' aKn (sc' aHu sn')),rfl,_,Tryz.func87,by kernel_rfl⟩ (aDm))
theorem aRu:Ds 87 qK:=aRt (87,qK,0) (by simp)
def bCO:Summ:=sv1 [E3'] [E2']
theorem bCP:Ds 31 bCO:=aN (C:=cf [(86,aBJ),(87,qK),(88,zM)] [] 0 false [lh 7 [.same,.lf (.int .i64),.same,.lf (.int .i64),.same,.same] 3 1048576 [some 2],lh 3 [.same,.lf (.int .i64),.lf (.int .i64),.same,.same] 2 1048576 [some 0],lh 11 [.same,.lf (.int .i64),.lf (.int .i64),.same,.same] 2 1048576 [some 4]]) Tryz.func31 rfl rfl (sc' aHu (sc' aRu (sc' aKn sn'))) (by kernel_rfl)
def aFA:Summ:=sv1 [E8'] [E7']
theorem aOu:Ds 83 aFA:=aN (C:=cf [] [] 0 false [lh 3 [.same,.lf (.int .i64),.lf (.int .i64)] 2 16777216 [some 0]]) Tryz.func83 rfl rfl sn' (by kernel_rfl)
def aC3:Summ:=sv1 [E16'] [E7']
theorem aLF:Ds 84 aC3:=aN (C:=cf [(88,zM)] [] 0 false [lh 3 [.same,.lf (.int .i64),.lf (.int .i64)] 2 16777216 [some 0]]) Tryz.func84 rfl rfl (sc' aKn sn') (by kernel_rfl)
def aHv:Summ:=sv1 [⟨false,[.sl 8 16777216 false]⟩] [E7']
theorem aRv:Ds 85 aHv:=aN (C:=cf [(88,zM)] [] 0 false [lh 3 [.same,.lf (.int .i64),.lf (.int .i64)] 2 16777216 [some 0]]) Tryz.func85 rfl rfl (sc' aKn sn') (by kernel_rfl)
def bCQ:Summ:=sv1 [E0'] [E2']
theorem bCR:Ds 30 bCQ:=aN (C:=cf [(83,aFA),(84,aC3),(85,aHv)] [] 0 false [lh 8 (.same :: .lf (.int .i64)::sa 2 (.lf (.int .i64)::sa 9 [])) 4 1048576 [some 2],lh 3 (.same :: .lf (.int .i64) :: .lf (.int .i64)::sa 3 []) 2 1048576 [some 0]]) Tryz.func30 rfl rfl (sc' aOu (sc' aLF (sc' aRv sn'))) (by kernel_rfl)
end Go.Proofs.YtphmfillajagdaaGreat
