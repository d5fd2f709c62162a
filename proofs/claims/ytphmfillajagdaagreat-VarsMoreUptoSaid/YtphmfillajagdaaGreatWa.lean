import Derived.Test.YtphmfillajagdaaGreatGd
import Derived.Test.YtphmfillajagdaaGreatEd
import Derived.KernelRfl
import Derived.Test.YtphmfillajagdaaGreatEt
import Derived.Test.YtphmfillajagdaaGreatGa
set_option maxHeartbeats 4000000
set_option maxRecDepth 100000
set_option linter.unusedVariables false
set_option linter.unusedSimpArgs false
set_option linter.unusedSimpArgs false
open Go Go.Ev
namespace Go.Proofs.YtphmfillajagdaaGreat
def aOB (c:Int):Bool:=(decide (97<=c)&&decide (c<=122))||((decide (65<=c)&&decide (c<=90))||c==95)
def bFr (c:Int):Bool:=decide (48<=c)&&decide (c<=57)
theorem aMe c:aJ1 c=some (aOB c):=by
 apply aTT;simp [aDW,aOB,bCw];grind
theorem aMf c:aJ0 c=some (bFr c):=by
 apply aTO;simp [aDU,bFr,bCw];grind
def aYL (c:UInt8):Bool:=aOB c.toNat||bFr c.toNat
def bDB:Str->Bool
 | []=>false
 | c::s=>aOB c.toNat&&s.all aYL
theorem bBb s (h : s.length < 4611686018427387904) : aVM s = some (bDB s) := by
 apply aWW;have key := aOq (b := rM s) s (fun k (_ : Unit) => k) (fun r _ => if r.all (fun c => aYL c) then Sum.inl () else Sum.inr ()) (fun k _ => 1 <= k)
  (by
   simp [rM])
  (by
   intro k x r a l f n m;have i : (decide (k < (List.length s : Int))) = true := by grind
   have g : IntKind.wrap .i64 (k + 1) = ((k + 1 : Nat) : Int) := wadd (by omega);simp only [rM, i, pI, f, aMe, aMf, g];cases d : aOB x.toNat <;> cases e : bFr x.toNat <;> simp [aYL, d, e])
 unfold aGK;cases s with
 | nil => rfl
 | cons c s =>
  have : nthI (c :: s) 0 = some c := rfl;have j : ((c :: s) == ([] : Str)) = false := rfl;simp [this, aMe];cases d : aOB c.toNat with
  | false => simp [bDB, d]
  | true =>
   have := key 1 () (by simp) (by omega);rw [show ((1 : Nat) : Int) = 1 from rfl] at this;simp only [this, List.drop_succ_cons, List.drop_zero, bDB, d];cases e : s.all aYL <;> simp
open Go Go.Ev
mutual
def szV:GValue->Nat
 | ⟨_,_,s,l,m⟩=>1+s.length+szVs l+szMs m
def szVs:List GValue->Nat
 | []=>0
 | x::l=>szV x+szVs l
def szM:GMember->Nat
 | ⟨n,v⟩=>n.length+szV v
def szMs:List GMember->Nat
 | []=>0
 | x::l=>szM x+szMs l
end
theorem aIZ v:szV v=1+v.s.length+szVs v.l+szMs v.m:=by cases v;simp [szV]
theorem aMg x:szM x=x.name.length+szV x.v:=by cases x;simp [szM]
theorem aJ5 {x}:∀ {l},x∈l->szV x<=szVs l
 | a::l,h=>by
  simp [szVs];rcases List.mem_cons.1 h with rfl | h;· omega
  have:=aJ5 h;omega
theorem aJ6 {x}:∀ {l},x∈l->szM x<=szMs l
 | a::l,h=>by
  simp [szMs];rcases List.mem_cons.1 h with rfl | h;· omega
  have:=aJ6 h;omega
theorem aJ7:∀ l,l.length<=szVs l
 | []=>by simp
 | a::l=>by have:=aJ7 l;have:=aIZ a;simp [szVs];omega
theorem aDX:∀ l,l.length<=szMs l
 | []=>by simp
 | a::l=>by have:=aDX l;have:=aMg a;have:=aIZ a.v;simp [szMs];omega
mutual
theorem bDC:∀ v:GValue,szV v<=cR v
 | ⟨_,_,s,l,m⟩=>by
  have b:=bDD l;have a:=aMh m;simp [szV,cR,dM];omega
theorem bDD:∀ l:List GValue,szVs l<=uJ l
 | []=>by simp [szVs]
 | x::l=>by have:=bDC x;have:=bDD l;simp only [szVs,uJ];omega
theorem bG1:∀ x:GMember,szM x<=aY x
 | ⟨n,v⟩=>by have:=bDC v;simp only [szM,aY,dM];omega
theorem aMh:∀ l:List GMember,szMs l<=pO l
 | []=>by simp [szMs]
 | x::l=>by have:=bG1 x;have:=aMh l;simp only [szMs,pO];omega
end
theorem aBF l v (o : Sm l) : ∃ i, eA l v = some i /\ decide (i ≥ 0) = l.contains v := by
 have key := cO (b := bR l v) l (fun k (_ : Nat) => k) (fun r k => match r.findIdx? (fun y => v == y) with | some j => Sum.inr ((k + j : Nat) : Int) | none => Sum.inl ()) (fun k a => a = k) o
  (by simp [bR])
  (by
   intro k x r a t q p m g f n;subst n;simp only [bR, m, g, bV, f, List.findIdx?_cons];cases hv : v == x
   ·refine .inr ⟨a + 1, rfl, rfl, ?_⟩;simp only [Bool.false_eq_true, if_false];cases r.findIdx? (fun y => v == y) with
    | none => rfl
    | some j => simp only [Option.map_some]; congr 2; omega
   simp) (s := 0) (a := 0) rfl rfl
 have c : ∀ i, cP l v = some i -> eA l v = some i := fun i h => sZ h;unfold cP at c;rw [key] at c;simp at c;have d : l.contains v = (l.findIdx? (fun y => v == y)).isSome := by
  rw [List.findIdx?_isSome, List.contains_eq_any_beq]
 cases e : l.findIdx? (fun y => v == y) with
 | none => rw [e] at c d; exact ⟨-1, c _ rfl, by rw [d]; rfl⟩
 | some j => rw [e] at c d; exact ⟨j, c _ rfl, by rw [d]; simp⟩
theorem dC l v (c:Sm l):bJ l v=some (l.contains v):=by
 obtain ⟨i,b,a⟩:=aBF l v c;apply qA;simp [cZ,b,a]
theorem aFR l v (o : Sm l) : ∃ i, iU l v = some i /\ decide (i ≥ 0) = l.contains v := by
 have key := cO (b := cS l v) l (fun k (_ : Nat) => k) (fun r k => match r.findIdx? (fun y => v == y) with | some j => Sum.inr ((k + j : Nat) : Int) | none => Sum.inl ()) (fun k a => a = k) o
  (by intro a _; simp [cS])
  (by
   intro k x r a t q p m g f n;subst n;simp only [cS, m, g, bV, f, List.findIdx?_cons];cases hv : v == x
   ·refine .inr ⟨a + 1, rfl, rfl, ?_⟩;simp only [Bool.false_eq_true, if_false];cases r.findIdx? (fun y => v == y) with
    | none => rfl
    | some j => simp only [Option.map_some]; congr 2; omega
   simp) (s := 0) (a := 0) rfl rfl
 have c : ∀ i, eB l v = some i -> iU l v = some i := fun i h => aAt h;unfold eB at c;rw [key] at c;simp at c;have d : l.contains v = (l.findIdx? (fun y => v == y)).isSome := by
  rw [List.findIdx?_isSome, List.contains_eq_any_beq]
 cases e : l.findIdx? (fun y => v == y) with
 | none => rw [e] at c d; exact ⟨-1, c _ rfl, by rw [d]; rfl⟩
 | some j => rw [e] at c d; exact ⟨j, c _ rfl, by rw [d]; simp⟩
theorem aBG l v (c:Sm l):jX l v=some (l.contains v):=by
 obtain ⟨i,b,a⟩:=aFR l v c;apply wR;simp [eN,b,a]
theorem mY l v (f:Sm l):xJ l v=some (l.contains v):=by
 apply bAs;unfold aJ2;rw [aDr (b:=uX l v) l (fun r=>bif r.contains v then .inr () else .inl ()) f (by simp [uX]) (by
  intro k x r g e d c;simp only [uX,e,d,bV,c,List.contains_cons];rw [BEq.comm (a:=x) (b:=v)];cases v==x;all_goals simp)]
 cases l.contains v<;>rfl
theorem aGT {α:Type} (l:List α) (p:α->Bool) {β:Type} (g:α->β):l.findSome? (fun x=>if p x then some (g x) else none)=(l.find? p).map g:=by
 induction l with
 | nil=>rfl
 | cons a l b =>
  grind
def addD (l:List Str) (n:Str):List Str:=bif l.contains n then l else l++[n]
theorem aJ8 l n:(addD l n).length<=l.length+1:=by
 unfold addD;grind
theorem aIg {l n} (h:l.Nodup):(addD l n).Nodup:=by
 unfold addD;grind
theorem bFs {l n x} (h:x∈addD l n):x∈l∨x=n:=by
 unfold addD at h;grind
abbrev zDef:GDef:=⟨0,[],[],[],[],[]⟩
def aBj (n:Str):Bool:=n==[73,110,116]||(n==[83,116,114,105,110,103]||(n==[66,111,111,108,101,97,110]||n==[73,68]))
theorem aTX n:aLh n=some (aBj n):=by
 apply aQW;simp [aBg,aBj];cases n==[73,110,116]<;>cases n==[83,116,114,105,110,103]<;>cases n==[66,111,111,108,101,97,110]<;>rfl
theorem aTY n:aLg n=some (aBj n):=by
 apply aQN;simp [aBc,aBj];cases n==[73,110,116]<;>cases n==[83,116,114,105,110,103]<;>cases n==[66,111,111,108,101,97,110]<;>rfl
def dR (s:GSchema) (n:Str):GDef×Bool:=bif aBj n then (⟨0,n,[],[],[],[]⟩,true) else match s.defs.find? (fun d=>d.name==n) with | some d=>(d,true) | none=>(zDef,false)
theorem bBc s n (f:Sm s.defs):aVP s n=some (dR s n):=by
 apply aXn;unfold aGS dR;rw [aCf (b:=rP s n) s.defs (fun d=>if (d.name==n)=true then some (.inr (d.kind,d.name,d.faces,d.fields,d.parts,d.params)) else none) (.inl ()) f (by simp [rP]) (by
  intro k x g e c a;simp only [rP,e,c,bV,a];cases x.name==n<;>rfl),aGT,aTX]
 cases aBj n;· cases s.defs.find? (fun d=>d.name==n)<;>rfl
 rfl
theorem aDY s n (f:Sm s.defs):aAN s n=some (dR s n):=by
 apply aWN;unfold aGI dR;rw [aCf (b:=rL s n) s.defs (fun d=>if (d.name==n)=true then some (.inr (d.kind,d.name,d.faces,d.fields,d.parts,d.params)) else none) (.inl ()) f (by simp [rL]) (by
  intro k x g e c a;simp only [rL,e,c,bV,a];cases x.name==n<;>rfl),aGT,aTY]
 cases aBj n;· cases s.defs.find? (fun d=>d.name==n)<;>rfl
 rfl
def tA (s:GSchema) (n:Str) (a:List Int):Bool:=(dR s n).2&&a.contains (dR s n).1.kind
theorem bBd s n a (c:Sm s.defs) (b:Sm a):aVN s n a=some (tA s n a):=by
 apply aXc;simp [aGP,bBc s n c,aBG a _ b,tA];cases (dR s n).2<;>rfl
theorem aQX s n a b c (d:Sm s.defs):bDk s n a b c=some (tA s n [a,b,c]):=by
 apply bDw;simp only [aQL,aDY s n d,bV,tA];have:[a,b,c].contains (dR s n).1.kind=((dR s n).1.kind==a||((dR s n).1.kind==b||(dR s n).1.kind==c)):=by
  simp only [List.contains_cons,List.contains_nil,Bool.or_false]
 rw [this];cases (dR s n).2<;>cases (dR s n).1.kind==a<;>cases (dR s n).1.kind==b<;>rfl
theorem aXp s n (a:Sm s.defs):aPO s n=some (tA s n [0,4,5]) :=
 aTw (by simp [aDR,bBd s n [0,4,5] a (by decide)])
theorem aMi s n (a:Sm s.defs):aCw s n=some (tA s n [1,2,3]) :=
 aJH (by simp [sD,aQX s n _ _ _ a])
theorem aXq s n (a:Sm s.defs):aPM s n=some (tA s n [0,4,5]) :=
 aTh (by simp [aDN,aQX s n _ _ _ a])
structure SOk (s:GSchema):Prop where
 bk:jT s<1073741824
theorem bDE d:1<=aLa d:=by rw [pP];omega
theorem aNU d:1<=iY d:=by rw [mC];omega
theorem aMj d:1<=kT d:=by rw [rC];omega
theorem bDF d:1<=fD d:=by rw [jS];omega
theorem aC5 d:1<=aY d:=by rw [dE];omega
theorem SOk.defs {s} (h:SOk s):s.defs.length<1073741824:=by
 have a:=h.bk;rw [nK] at a;have b:=dD bDE s.defs;omega
theorem SOk.def_bk {s} (h:SOk s) {d} (b:d∈s.defs):aLa d<1073741824:=by
 have a:=h.bk;rw [nK] at a;have c:=fM (f:=aLa) b;omega
theorem SOk.faces {s} (h:SOk s) d (b:d∈s.defs):d.faces.length<1073741824:=by
 have a:=h.def_bk b;rw [pP] at a;have c:=dD aSa d.faces;omega
theorem SOk.parts {s} (h:SOk s) d (b:d∈s.defs):d.parts.length<1073741824:=by
 have a:=h.def_bk b;rw [pP] at a;have c:=dD aSa d.parts;omega
theorem SOk.fields {s} (h:SOk s) d (b:d∈s.defs):d.fields.length<1073741824:=by
 have a:=h.def_bk b;rw [pP] at a;have c:=dD aNU d.fields;omega
theorem SOk.sm {s} (h:SOk s):Sm s.defs:=by have:=h.defs;omega
theorem aC6 s n:(dR s n).1∈s.defs∨((dR s n).1.faces=[]/\(dR s n).1.fields=[]/\(dR s n).1.parts=[]/\(dR s n).1.params=[]):=by
 unfold dR;grind
theorem SOk.partsF {s} (h:SOk s) n:(dR s n).1.parts.length<1073741824:=by
 rcases aC6 s n with a | ⟨_,_,b,_⟩;· exact h.parts _ a
 grind
theorem SOk.fieldsF {s} (h:SOk s) n:(dR s n).1.fields.length<1073741824:=by
 rcases aC6 s n with a | ⟨_,b,_,_⟩;· exact h.fields _ a
 grind
abbrev zF:GFieldDef:=⟨[],[],⟨[],0,0⟩,[]⟩
abbrev tnS:Str:=[95,95,116,121,112,101,110,97,109,101]
abbrev tnF:GFieldDef:=⟨tnS,[],⟨[83,116,114,105,110,103],0,1⟩,[]⟩
def aI0 (s:GSchema) (a b:Str):GFieldDef×Bool :=
 bif b==tnS&&tA s a [1,2,3] then (tnF,true) else bif (dR s a).1.kind==1||(dR s a).1.kind==2 then (match (dR s a).1.fields.find? (fun f=>f.name==b) with | some f=>(f,true) | none=>(zF,false)) else (zF,false)
theorem aXr s a c (h:SOk s):aPR s a c=some (aI0 s a c):=by
 apply aTR;have g:=h.sm;have q:=h.fieldsF a;have n:Sm (dR s a).1.fields:=by omega
 have d:∀ b:Int->Option (Int⊕(Unit⊕(Str×List GParam×Str×Int×Int×List GDir))),(∀ k,b k=cnd (decide (k<(List.length (dR s a).1.fields:Int))) (bnd (nthI (dR s a).1.fields k) fun x=>cnd (x.name==c) (bnd (nthI (dR s a).1.fields k) fun y=>some (.inr (.inr (y.name,y.params,y.t.name,y.t.lists,y.t.musts,y.dirs)))) (some (.inl (IntKind.wrap .i64 (k+1))))) (some (.inr (.inl ())))) ->
   aX b 0=some (match (dR s a).1.fields.find? (fun f=>f.name==c) with | some y => .inr (y.name,y.params,y.t.name,y.t.lists,y.t.musts,y.dirs) | none => .inl ()):=by
  intro b i;rw [aCf (b:=b) (dR s a).1.fields (fun y=>if (y.name==c)=true then some (.inr (y.name,y.params,y.t.name,y.t.lists,y.t.musts,y.dirs)) else none) (.inl ()) n (by rw [i];simp) (by
   intro k x u p o j;rw [i];simp only [p,o,bV,j];cases x.name==c<;>rfl),aGT]
  cases (dR s a).1.fields.find? (fun f=>f.name==c)<;>rfl
 have m:((dR s a).1.kind != 1) = !((dR s a).1.kind==1):=rfl;have l:((dR s a).1.kind != 2) = !((dR s a).1.kind==2):=rfl;simp [aDV,aMi s a g,aDY s a g,aI0,m,l];simp [d (fZ c (dR s a)) (fun k=>rfl),d (fZ c (dR s a)) (fun k=>rfl),d (fZ c (dR s a)) (fun k=>rfl),d (fZ c (dR s a)) (fun k=>rfl)];cases r:c==tnS;· cases (dR s a).1.fields.find? (fun f=>f.name==c)<;>cases (dR s a).1.kind==1<;>cases (dR s a).1.kind==2<;>rfl
 have e:c=tnS:=by grind
 subst e;cases tA s a [1,2,3]<;>cases (dR s a).1.fields.find? (fun f=>f.name==tnS)<;>cases (dR s a).1.kind==1<;>cases (dR s a).1.kind==2<;>rfl
theorem aC7 m (i:m.length<1073741824) (h:∀ x∈m,aDG x.v=some x.v):aAe m=some m:=by
 apply aNp;unfold xR;rw [aKR (b:=kQ m) m (fun k a=>(a,k)) i (by simp [kQ]) (by
  intro k x a c g f e d;simp only [kQ,g,f,bV,e,d,h x c];cases x;rfl) (s:=([],0)) rfl]
 rfl
theorem aTZ:∀ n,n<1073741824->∀ v,szV v<=n->aDG v=some v:=by
 intro n;induction n with
 | zero=>intro _ v h;have:=aIZ v;omega
 | succ n d =>
  intro p v h;have hv:=aIZ v;have j:=aJ7 v.l;have o:=aDX v.m;apply aTB;unfold aDS;rw [aKR (b:=oQ v) v.l (fun k a=>(a,k)) (by omega) (by simp [oQ]) (by
   intro k x a c i g f e;simp only [oQ,i,fC,g,bV,f,e,d (by omega) x (by have:=aJ5 c;omega)]) (s:=([],0)) rfl]
  simp [aC7 v.m (by omega) fun x c=>d (by omega) x.v (by have:=aJ6 c;have:=aMg x;omega)];cases v;rfl
theorem aMk v (h:szV v<1073741824):aDG v=some v:=aTZ _ h v (by omega)
theorem aOC {m} (h:bkSl aY m<1073741824) {x} (a:x∈m):szV x.v<1073741824:=by
 have d:=fM (f:=aY) a;have c:=bG1 x;have b:=aMg x;omega
theorem aOD l (h:bkSl fD l<1073741824):aVI l=some l:=by
 apply aWp;unfold aGD;have n:=dD bDF l;rw [aKR (b:=rH l) l (fun k a=>(a,k)) (by omega) (by simp [rH]) (by
  intro k x a d j i g e;have m:=fM (f:=fD) d;rw [jS] at m;have o:=dD aC5 x.args;simp only [rH,j,fC,i,bV,g,e,aC7 x.args (by omega) fun y c=>aMk y.v (aOC (by omega) c)]) (s:=([],0)) rfl]
 rfl
mutual
def aBk:GSel->List Str
 | ⟨k,_,n,_,_,_,l⟩=>(bif k==1 then [n] else [])++cQ l
def cQ:List GSel->List Str
 | []=>[]
 | x::l=>aBk x++cQ l
end
theorem aOE x:aBk x=(bif x.kind==1 then [x.name] else [])++cQ x.sels:=by cases x;simp [aBk]
mutual
theorem aIh:∀ x:GSel,(aBk x).length<=gI x
 | ⟨k,a,n,c,b,o,l⟩=>by
  have h:=aC8 l;simp [aBk,gI];grind
theorem aC8:∀ l:List GSel,(cQ l).length<=aV l
 | []=>by simp [cQ]
 | x::l=>by have:=aIh x;have:=aC8 l;simp only [cQ,aV,List.length_append];omega
end
theorem vB {x l} (h:x∈l):gI x<=aV l:=by rw [cH];exact fR gI h
theorem aDZ x:aV x.sels+1<=gI x:=by rw [gO,cH];simp [bkSl];omega
theorem bDG x:1<=gI x:=by rw [gO];omega
theorem gD l:l.length<=aV l:=by rw [cH];exact pJ gI bDG l
theorem iL:∀ (a l:List Str),(a.foldl addD l).length<=l.length+a.length
 | [],l=>by simp
 | n::a,l=>by have:=iL a (addD l n);have:=aJ8 l n;grind
theorem kE:∀ (a l:List Str),l.Nodup->(a.foldl addD l).Nodup
 | [],l,h=>h
 | n::a,l,h=>kE a _ (aIg h)
theorem aQY l n x:x∈addD l n↔x∈l∨x=n:=by
 constructor;· exact bFs
 unfold addD;grind
theorem dI:∀ (a l:List Str) x,x∈a.foldl addD l↔x∈l∨x∈a
 | [],l,x=>by simp
 | n::a,l,x=>by rw [List.foldl_cons,dI a,aQY,List.mem_cons];grind
theorem aXs l n:∃ t,addD l n=l++t:=by
 unfold addD;cases l.contains n;all_goals simp
theorem aC9:∀ (a l:List Str),∃ t,a.foldl addD l=l++t
 | [],l=>⟨[],by simp⟩
 | n::a,l=>by
  obtain ⟨t,b⟩:=aXs l n;obtain ⟨u,c⟩:=aC9 a (addD l n);grind
theorem aIi : ∀ n, ∀ c l, aV c <= n -> l.length + aV c < 1073741824 -> eK l c = some ((cQ c).foldl addD l) := by
 intro n;induction n with
 | zero =>
  intro c l h m;have := gD c;have t : c = [] := List.length_eq_zero_iff.1 (by omega);subst t;apply aAp;unfold lU;rw [cK (r := l) (by simp [eH])];rfl
 | succ n A =>
  intro c l h m;apply aAp;unfold lU;have i := gD c;have key := cO (b := eH c) c (fun k a => (a, k)) (fun r a => (cQ r).foldl addD a) (fun k a => a.length + aV (c.drop k) < 1073741824) (by show c.length < _; omega)
   (by intro a _; simp [eH, cQ])
   (by
    intro k x r a y C g w v o j;rw [g] at j;simp [aV] at j;have f : c.drop (k + 1) = r := by rw [<- List.tail_drop, g]; rfl
    have z := vB y;have q := aDZ x;have d : ∀ e , e.length <= a.length + 1 -> eK e x.sels = some ((cQ x.sels).foldl addD e) := fun e p => by grind
    have B := aIh x;refine .inr ⟨(aBk x).foldl addD a, ?_, ?_, ?_⟩
    ·rw [aOE];simp only [eH, w, fC, v, bV, o, dC a x.name (by omega), d a (by omega)];cases x.kind == 1;· rfl
     have u : tapp a [x.name] = some (a ++ [x.name]) := tK (by simp [qY]; omega);simp only [cond_true, List.cons_append, List.foldl_cons, addD, u, bV, d (a ++ [x.name]) (by simp)];cases a.contains x.name <;> rfl
    ·rw [f];have := iL (aBk x) a;omega
    simp [cQ]) (s := (l, 0)) (a := l) rfl (by simpa using m)
  rw [key]; rfl
theorem aBA a l (h:l.length+aV a<1073741824):eK l a=some ((cQ a).foldl addD l):=aIi _ a l (Nat.le_refl _) h
abbrev bJR:GFrag:=⟨[],[],[],[]⟩
theorem aT0 l a b c d (y : Sm l) :
  ∃ i, aPK l a b c d = some i /\ (match l.find? (fun f => f.name == c) with | some f => decide (i < 0) = false /\ nthI l i = some f | none => decide (i < 0) = true) := by
 have q : ∀ f, aCr f a b c d = some (f.name == c) := fun f => aJr rfl;have key := cO (b := rG l a b c d) l (fun k (_ : Nat) => k) (fun r k => match r.findIdx? (fun f => f.name == c) with | some j => Sum.inr ((k + j : Nat) : Int) | none => Sum.inl ()) (fun k a => a = k) y
  (by intro a _; simp [rG])
  (by
   intro k x r v B n A u t p w;subst w;simp only [rG, u, t, bV, p, q, List.findIdx?_cons];cases hv : x.name == c
   ·refine .inr ⟨v + 1, rfl, rfl, ?_⟩;simp only [Bool.false_eq_true, if_false];cases r.findIdx? (fun f => f.name == c) with
    | none => rfl
    | some j => simp only [Option.map_some]; congr 2; omega
   left; simp) (s := 0) (a := 0) rfl rfl
 have e : ∀ i, aCM l a b c d = some i -> aPK l a b c d = some i := fun i h => aWl h;unfold aCM at e;rw [key] at e;simp at e;cases g : l.findIdx? (fun f => f.name == c) with
 | none =>
  rw [g] at e;refine ⟨-1, e _ rfl, ?_⟩;have : l.find? (fun f => f.name == c) = none := by grind
  rw [this]; rfl
 | some j =>
  rw [g] at e;refine ⟨j, e _ rfl, ?_⟩;obtain ⟨m, z, o⟩ := List.findIdx?_eq_some_iff_getElem.1 g;have : l.find? (fun f => f.name == c) = some l[j] := by
   rw [List.find?_eq_some_iff_getElem];exact ⟨z, j, m, rfl, fun k n => by simpa using o k n⟩
  rw [this];exact ⟨by simp, by rw [pI, List.getElem?_eq_getElem m]⟩
def eY (d:GDoc) (n:Str):GFrag×Bool:=match d.frags.find? (fun f=>f.name==n) with | some f=>(f,true) | none=>(bJR,false)
theorem aBl d n (h:Sm d.frags):aDC d n=some (eY d n):=by
 apply aNl;obtain ⟨i,e,a⟩:=aT0 d.frags [] [] n d h;simp [xQ,e,eY];cases g:d.frags.find? (fun f=>f.name==n) with
 | none=>simp_all
 | some f=>rw [g] at a;obtain ⟨c,b⟩:=a;rw [c,b];rfl
theorem mZ {d n} (h:(eY d n).2=true):(eY d n).1∈d.frags/\(eY d n).1.name=n:=by
 revert h;unfold eY;grind
theorem aYM {d f} (h:f∈d.frags):(eY d f.name).2=true:=by
 unfold eY;grind
def qE (d:GDoc) (S:Str->Prop):Prop:=∀ n,S n->(eY d n).2=true->∀ m∈cQ (eY d n).1.sels,S m
def allN (d:GDoc) (a:List GSel):List Str:=cQ a++d.frags.flatMap fun f=>cQ f.sels
theorem lZ:∀ l,(l.flatMap fun f=>cQ f.sels).length<=sumL gQ l
 | []=>by simp
 | f::l=>by
  have c:=lZ l;have b:=aC8 f.sels;have a:aV f.sels<=gQ f:=by rw [kH,cH];simp [bkSl];omega
  simp only [List.flatMap_cons,List.length_append,sumL];omega
theorem iS d:sumL gQ d.frags+1<=fO d:=by rw [pQ];simp [bkSl];omega
theorem aOF f:1<=gQ f:=by rw [kH];omega
theorem wS d:d.frags.length+1<=fO d:=by
 have:=iS d;have:=pJ gQ aOF d.frags;omega
theorem aJM d sels (E : fO d + aV sels < 500000000) :
  ∃ l, aAO d sels = some l /\ l.length < 1073741824 /\ (∀ n ∈ cQ sels, n ∈ l) /\ qE d (· ∈ l) /\ ∀ S , (∀ n ∈ cQ sels, S n) -> qE d S -> ∀ n ∈ l, S n := by
 have z : (allN d sels).length <= fO d + aV sels := by
  have h1 := aC8 sels;have h2 := lZ d.frags;have B := iS d;simp only [allN, List.length_append]; omega
 have D := wS d;have hsm : Sm d.frags := by show d.frags.length < _; omega
 have base : eK [] sels = some ((cQ sels).foldl addD []) := aBA sels [] (by simp only [List.length_nil]; omega);have hsub : ∀ (l : List Str), l.Nodup -> (∀ x ∈ l, x ∈ allN d sels) -> l.length <= fO d + aV sels := fun l h1 h2 => Nat.le_trans (pL l _ h1 h2) z;obtain ⟨l, v, q⟩ := aGk (b := eG d sels)
  (I := fun s => ∃ i : Nat, s.1 = (i : Int) /\ i <= s.2.length /\ s.2.Nodup /\ (∀ x ∈ s.2, x ∈ allN d sels) /\ (∀ n ∈ cQ sels, n ∈ s.2) /\
   (∀ (j : Nat) (n : Str), j < i -> s.2[j]? = some n -> (eY d n).2 = true -> ∀ m ∈ cQ (eY d n).1.sels, m ∈ s.2) /\ (∀ S : Str -> Prop, (∀ n ∈ cQ sels, S n) -> qE d S -> ∀ n ∈ s.2, S n))
  (m := fun s => fO d + aV sels + 1 - s.1.toNat)
  (Q := fun l => l.length < 1073741824 /\ (∀ n ∈ cQ sels, n ∈ l) /\ qE d (· ∈ l) /\ ∀ S : Str -> Prop, (∀ n ∈ cQ sels, S n) -> qE d S -> ∀ n ∈ l, S n)
  (by
   rintro ⟨C, l⟩ ⟨i, g, a, hnd, hall, hin, hcl, hmin⟩;simp only at g a hnd hall hin hcl hmin;subst g;have o := hsub l hnd hall;by_cases r : l.length <= i
   ·left;refine ⟨l, ?_, by omega, hin, ?_, hmin⟩
    ·have e1 : decide (i ≥ (List.length l : Int)) = true := by simp; omega
     simp only [eG, e1, fC]
    ·intro n hn hfr m p;obtain ⟨j, hj⟩ := List.mem_iff_getElem?.1 hn;have w := (List.getElem?_eq_some_iff.1 hj).1;exact by grind
   ·right;have e1 : decide (i ≥ (List.length l : Int)) = false := by simp; omega
    have hx := List.getElem?_eq_getElem (show i < l.length by omega);have k : IntKind.wrap .i64 (i + 1) = ((i + 1 : Nat) : Int) := wadd (by omega);cases hfr : (eY d l[i]).2
    ·refine ⟨(((i + 1 : Nat) : Int), l), ?_, ⟨i + 1, rfl, by simp only; omega, hnd, hall, hin, ?_, hmin⟩, ?_⟩;· simp only [eG, e1, aKQ, pI, hx, bV, aBl d _ hsm, hfr, Bool.not_false, fC, k]
     ·intro j n hj hjn hfn;by_cases hji : j = i;· subst hji;rw [hx] at hjn; cases hjn;rw [hfr] at hfn; simp at hfn
      ·exact hcl j n (by omega) hjn hfn
     ·simp only [Int.toNat_natCast]; omega
    ·obtain ⟨hfm, _⟩ := mZ hfr;have A := fR gQ hfm;have u : aV (eY d l[i]).1.sels <= gQ (eY d l[i]).1 := by rw [kH, cH]; simp only [bkSl]; omega
     have y := iS d;have e := aBA (eY d l[i]).1.sels l (by omega);obtain ⟨t, f⟩ := aC9 (cQ (eY d l[i]).1.sels) l;refine ⟨(((i + 1 : Nat) : Int), (cQ (eY d l[i]).1.sels).foldl addD l), ?_, ⟨i + 1, rfl, by simp only; rw [f]; simp only [List.length_append]; omega, kE _ _ hnd, ?_, ?_, ?_, ?_⟩, ?_⟩;· simp only [eG, e1, aKQ, pI, hx, bV, aBl d _ hsm, hfr, Bool.not_true, e, k]
     ·intro x c;rcases (dI _ _ _).1 c with h | h;· exact hall x h
      ·exact List.mem_append_right _ (List.mem_flatMap.2 ⟨_, hfm, h⟩)
     ·intro n hn; exact by grind
     ·intro j n hj hjn hfn m p;simp at hjn ⊢;rw [f] at hjn;rw [dI];by_cases hji : j = i;· subst hji;rw [List.getElem?_append_left (by omega), hx] at hjn; cases hjn;exact .inr p
      ·rw [List.getElem?_append_left (by omega)] at hjn;exact by grind
     ·intro S h1 h2 n hn;rcases (dI _ _ _).1 hn with h | h;· exact hmin S h1 h2 n h
      exact h2 l[i] (by grind) hfr n h
     ·simp [Int.toNat_natCast]; omega)
  (0, (cQ sels).foldl addD [])
  ⟨0, rfl, Nat.zero_le _, kE _ _ List.nodup_nil, (fun x hx => by
   rcases (dI _ _ _).1 hx with h | h;· simp at h
   exact List.mem_append_left _ h), (fun n hn => (dI _ _ _).2 (.inr hn)), (fun j n hj => by omega), (fun S h1 _ n hn => by
   rcases (dI _ _ _).1 hn with h | h;· simp at h
   exact h1 n h)⟩
 exact ⟨l, aH3 (by simp [qB, base, v]), q⟩
theorem aNV d c (H : fO d + aV c < 500000000) :
  ∃ (r l : List Str), aAL d c = some r /\ r.Nodup /\ r.length < 1073741824 /\ (∀ n, n ∈ r ↔ n ∈ l /\ (eY d n).2 = true) /\ (∀ n ∈ cQ c, n ∈ l) /\ qE d (· ∈ l) /\ ∀ S , (∀ n ∈ cQ c, S n) -> qE d S -> ∀ n ∈ l, S n := by
 obtain ⟨l, A, M, D, w, I⟩ := aJM d c H;have q := wS d;have key := pK (b := jC d l) d.frags (fun k a => (a, k)) (fun a f => bif l.contains f.name then addD a f.name else a) id (fun k a => a.length <= k) (by show d.frags.length < _; omega)
  (by intro a _; simp [jC])
  (by
   intro k x a J K u F G L;have v : tapp a [x.name] = some (a ++ [x.name]) := tK (by simp [qY]; omega);simp only [jC, u, fC, F, bV, G, dC l x.name (by show l.length < _; omega), dC a x.name (by show a.length < _; omega), v];cases l.contains x.name;· exact ⟨rfl, by simp only [cond_false]; omega⟩
   ·simp only [fC, cond_true, addD];cases a.contains x.name;· exact ⟨rfl, by simp; omega⟩
    ·exact ⟨rfl, by simp; omega⟩) (s := ([], 0)) (a := []) rfl (by simp)
 have i : ∀ (fs : List GFrag) a, (a.Nodup -> (fs.foldl (fun a f => bif l.contains f.name then addD a f.name else a) a).Nodup) /\ (fs.foldl (fun a f => bif l.contains f.name then addD a f.name else a) a).length <= a.length + fs.length /\
   ∀ n, n ∈ fs.foldl (fun a f => bif l.contains f.name then addD a f.name else a) a ↔ n ∈ a ∨ ∃ f ∈ fs, n ∈ l /\ f.name = n := by
  intro fs;induction fs with
  | nil => intro a; simp
  | cons f fs y =>
   intro a;rw [List.foldl_cons];obtain ⟨z, p, t⟩ := y (bif l.contains f.name then addD a f.name else a);refine ⟨fun g => z ?_, ?_, fun n => ?_⟩
   ·cases l.contains f.name;· exact g
    ·exact aIg g
   ·have := aJ8 a f.name;cases j : l.contains f.name <;> rw [j] at p <;> simp [cond_true, cond_false, List.length_cons] at p ⊢ <;> omega
   ·rw [t];cases j : l.contains f.name
    ·have g  := by simpa using j
     simp [cond_false, List.mem_cons, exists_eq_or_imp];constructor
     ·rintro (h | h);· exact .inl h
      exact .inr (.inr h)
     rintro (h | ⟨h, e⟩ | h);· exact .inl h
     ·exact by grind
     exact .inr h
    have g  := by simpa using j
    simp [cond_true, aQY, List.mem_cons];constructor
    ·rintro ((h | h) | h);· exact .inl h
     ·exact by grind
     exact .inr (.inr h)
    rintro (h | ⟨h, e⟩ | h);· exact .inl (.inl h)
    ·exact by grind
    exact .inr h
 obtain ⟨B, C, E⟩ := i d.frags [];refine ⟨_, l, aLG (by simp only [uO, A, bV, key]; rfl), B List.nodup_nil, ?_, ?_, D, w, I⟩;· simp only [List.length_nil] at C; omega
 ·intro n;rw [E];constructor
  ·rintro (h | ⟨f, q, g, e⟩);· simp at h
   exact ⟨g, e ▸ aYM q⟩
  rintro ⟨g, m⟩;obtain ⟨J, o⟩ := mZ m;exact by grind
mutual
def varN:GValue->List Str
 | ⟨k,_,s,l,m⟩=>bif k==8 then [s] else bif k==6 then aFS l else bif k==7 then gT m else []
def aFS:List GValue->List Str
 | []=>[]
 | x::l=>varN x++aFS l
def aXt:GMember->List Str
 | ⟨_,v⟩=>varN v
def gT:List GMember->List Str
 | []=>[]
 | x::l=>aXt x++gT l
end
theorem bDH v:varN v=bif v.kind==8 then [v.s] else bif v.kind==6 then aFS v.l else bif v.kind==7 then gT v.m else []:=by cases v;simp [varN]
theorem aJ9 x:aXt x=varN x.v:=by cases x;simp [aXt]
mutual
theorem aBm:∀ v:GValue,(varN v).length<=szV v
 | ⟨k,n,s,l,m⟩=>by
  have b:=aYN l;have a:=aQZ m;simp [varN,szV];grind
theorem aYN:∀ l:List GValue,(aFS l).length<=szVs l
 | []=>by simp [aFS]
 | x::l=>by have:=aBm x;have:=aYN l;simp only [aFS,szVs,List.length_append];omega
theorem bFt:∀ x:GMember,(aXt x).length<=szM x
 | ⟨n,v⟩=>by have:=aBm v;simp only [aXt,szM];omega
theorem aQZ:∀ l:List GMember,(gT l).length<=szMs l
 | []=>by simp [gT]
 | x::l=>by have:=bFt x;have:=aQZ l;simp only [gT,szMs,List.length_append];omega
end
theorem aMl {l x} (h:x∈l):addD l x=l:=by unfold addD;grind
theorem aYO {l x} (h:x∉l):addD l x=l++[x]:=by
 unfold addD;grind
theorem aT1:∀ (L a b:List Str),(L.foldl addD a).foldl addD b=L.foldl addD (a.foldl addD b)
 | [],a,b=>rfl
 | x::L,a,b=>by
  rw [List.foldl_cons,aT1 L (addD a x) b,List.foldl_cons];by_cases h:x∈a;· rw [aMl h,aMl ((dI _ _ _).2 (.inr h))]
  rw [aYO h,List.foldl_append];rfl
theorem twice (L a:List Str):(L.foldl addD []).foldl addD a=L.foldl addD a:=aT1 L [] a
theorem aNW : ∀ n v l, szV v <= n -> l.length + szV v < 1073741824 -> aAi l v = some ((varN v).foldl addD l) := by
 intro n;induction n with
 | zero => intro v l h; have := aIZ v; omega
 | succ n o =>
  intro v l h E;have hv := aIZ v;have D := aJ7 v.l;have B := aDX v.m;apply aNT;unfold xV;rw [bDH];cases A : v.kind == 8
  ·cases z : v.kind == 6
   ·cases C : v.kind == 7;· rfl
    have key := cO (b := kS v) v.m (fun k a => (a, k)) (fun r a => (gT r).foldl addD a) (fun k a => a.length + szMs (v.m.drop k) < 1073741824) (by omega)
     (by intro a _; simp [kS, gT])
     (by
      intro k x r a j y c g e f d;rw [c] at d;simp [szMs] at d;have i : v.m.drop (k + 1) = r := by rw [<- List.tail_drop, c]; rfl
      have p := aJ6 j;have t := aMg x;have w := aBm x.v;have q := iL (varN x.v) a;refine .inr ⟨(varN x.v).foldl addD a, ?_, ?_, ?_⟩;· simp only [kS, g, fC, e, bV, f, o x.v a (by omega) (by omega)]
      ·grind
      simp [gT, aJ9]) (s := (l, 0)) (a := l) rfl (by simp; omega)
    simp_all
   have key := cO (b := kR v) v.l (fun k a => (a, k)) (fun r a => (aFS r).foldl addD a) (fun k a => a.length + szVs (v.l.drop k) < 1073741824) (by omega)
    (by simp [kR, aFS])
    (by
     intro k x r a j y c g e f d;rw [c] at d;simp [szVs] at d;have i : v.l.drop (k + 1) = r := by rw [<- List.tail_drop, c]; rfl
     have p := aJ5 j;have w := aBm x;have q := iL (varN x) a;refine .inr ⟨(varN x).foldl addD a, ?_, ?_, ?_⟩;· simp only [kR, g, fC, e, bV, f, o x a (by omega) (by omega)]
     ·grind
     simp [aFS]) (s := (l, 0)) (a := l) rfl (by simp; omega)
   simp_all
  have u : tapp l [v.s] = some (l ++ [v.s]) := tK (by simp [qY]; omega);simp only [cond_true, dC l v.s (by omega), u, List.foldl_cons, addD];cases l.contains v.s <;> rfl
theorem aQ0 v (h:szV v<1073741824):aHy v=some ((varN v).foldl addD []) :=
 aNJ (by simp [xU,aNW _ v [] (Nat.le_refl _) (by grind)])
theorem aMm : ∀ n v l, szV v <= n -> l.length + szV v < 1073741824 -> aLb v l = some ((varN v).foldl addD l) := by
 intro n;induction n with
 | zero => intro v l h; have := aIZ v; omega
 | succ n y =>
  intro v l h L;have hv := aIZ v;have K := aJ7 v.l;have M := aDX v.m;have w : ∀ F, (v.kind == 6) = F -> True := fun _ _ => trivial;apply aWa;unfold aGy;rw [bDH];have d : ∀ a , (v.kind == 6) = false -> aX (dP v) (a, 0) = some a := by
   intro a e;apply cK;simp [dP, e, aKQ, aDq]
  have c : ∀ a , (v.kind == 7) = false -> aX (dQ v) (a, 0) = some a := by
   intro a f;apply cK;simp [dQ, f, aKQ, aDq]
  cases C : v.kind == 8
  ·cases e : v.kind == 6
   ·cases f : v.kind == 7;· simp only [aKQ, cond_false, d l e, c l f, bV]; rfl
    have key := cO (b := dQ v) v.m (fun k a => (a, k)) (fun r a => (gT r).foldl addD a) (fun k a => a.length + szMs (v.m.drop k) < 1073741824) (by show v.m.length < _; omega)
     (by intro a _; simp [dQ, gT])
     (by
      intro k x r a u o j p q t i;rw [j] at i;simp [szMs] at i;have g : v.m.drop (k + 1) = r := by rw [<- List.tail_drop, j]; rfl
      have E := aJ6 u;have A := aMg x;have J := aBm x.v;have G := iL (varN x.v) a;refine .inr ⟨(varN x.v).foldl addD a, ?_, ?_, ?_⟩;· simp only [dQ, f, p, fC, q, bV, t, y x.v a (by omega) (by omega)]
      ·rw [g]; omega
      simp [gT, aJ9, List.foldl_append]) (s := (l, 0)) (a := l) rfl (by simp; omega)
    simp [aKQ, fC, cond_false, cond_true, d l e, key, bV]
   have key := cO (b := dP v) v.l (fun k a => (a, k)) (fun r a => (aFS r).foldl addD a) (fun k a => a.length + szVs (v.l.drop k) < 1073741824) (by show v.l.length < _; omega)
    (by intro a _; simp [dP, aFS])
    (by
     intro k x r a u o j p q t i;rw [j] at i;simp [szVs] at i;have g : v.l.drop (k + 1) = r := by rw [<- List.tail_drop, j]; rfl
     have E := aJ5 u;have J := aBm x;have G := iL (varN x) a;refine .inr ⟨(varN x).foldl addD a, ?_, ?_, ?_⟩;· simp only [dP, e, p, fC, q, bV, t, y x a (by omega) (by omega)]
     ·rw [g]; omega
     simp [aFS]) (s := (l, 0)) (a := l) rfl (by simp; omega)
   have f : (v.kind == 7) = false := by
    have  := by simpa using e
    rw [this]; rfl
   simp [key, c _ f]
  have B : tapp l [v.s] = some (l ++ [v.s]) := tK (by simp [qY]; omega);have o  := by simpa using C
  have e : (v.kind == 6) = false := by rw [o]; rfl
  have f : (v.kind == 7) = false := by rw [o]; rfl
  have z : ∀ a , aX (dP v) (a, 0) = some a := by
   intro a; apply cK; simp [dP, e, aDq]
  have D : ∀ a , aX (dQ v) (a, 0) = some a := by
   intro a; apply cK; simp [dQ, f, aDq]
  have I : ∀ a , aX (dP v) (a, 0) = some a := by
   intro a; apply cK; simp [dP, e, aDq]
  have H : ∀ a , aX (dQ v) (a, 0) = some a := by
   intro a; apply cK; simp [dQ, f, aDq]
  simp only [cond_true, mY l v.s (by omega), B, z, D, I, H, List.foldl_cons, addD];cases l.contains v.s <;> rfl
theorem bBe v (h:szV v<1073741824):aVO v=some ((varN v).foldl addD []) :=
 aXj (by simp [aGR,aMm _ v [] (Nat.le_refl _) (by grind)])
def tW:List GDir->List Str
 | []=>[]
 | d::l=>gT d.args++tW l
mutual
def aIj:GSel->List Str
 | ⟨_,_,_,b,a,_,l⟩=>gT b++(tW a++useS l)
def useS:List GSel->List Str
 | []=>[]
 | x::l=>aIj x++useS l
end
theorem aQ1 x:aIj x=gT x.args++(tW x.dirs++useS x.sels):=by cases x;simp [aIj]
theorem aBn l:(gT l).length<=bkSl aY l:=by
 have:=aQZ l;have:=aMh l;rw [iD] at this;have e:bkSl aY l=sumL aY l+1:=rfl;omega
theorem aGU:∀ l,(tW l).length<=sumL fD l
 | []=>by simp [tW]
 | d::l=>by
  have b:=aGU l;have a:=aBn d.args;simp [tW,sumL,jS];omega
mutual
theorem aKa:∀ x:GSel,(aIj x).length<=gI x
 | ⟨k,a,n,c,b,o,l⟩=>by
  have h:=aQ2 l;have e:=aBn c;have d:=aGU b;rw [gO];simp [aIj];have i:bkSl fD b=sumL fD b+1:=rfl;have f:bkSl gI l=sumL gI l+1:=rfl;have g:=cH l;omega
theorem aQ2:∀ l:List GSel,(useS l).length<=aV l
 | []=>by simp [useS]
 | x::l=>by have:=aKa x;have:=aQ2 l;simp only [useS,aV,List.length_append];omega
end
theorem aT2 (L:List Str):(L.foldl addD []).length<=L.length:=by have:=iL L [];grind
theorem bBf L c (h : c.length + L.length < 1073741824) : aX (nW L) (c, 0) = some (L.foldl addD c) :=
 pK (b := nW L) L (fun k a => (a, k)) addD id (fun k a => a.length + (L.length - k) < 1073741824) (by omega)
  (by simp [nW])
  (by
   intro k x a l i g e f j;have d : tapp a [x] = some (a ++ [x]) := tK (by simp [qY]; omega);have := aJ8 a x;refine ⟨?_, by omega⟩;simp only [nW, g, e, bV, f, mY a x (by omega), d, addD];cases a.contains x <;> rfl) (s := (c, 0)) (a := c) rfl (by omega)
theorem aOG m c (h : c.length + bkSl aY m < 1073741824) : aPS m c = some ((gT m).foldl addD c) := by
 apply aXh;have p := aMh m;rw [iD] at p;have e : bkSl aY m = sumL aY m + 1 := rfl;have f := aDX m;have key := cO (b := rO m) m (fun k a => (a, k)) (fun r a => (gT r).foldl addD a) (fun k a => a.length + szMs (m.drop k) < 1073741824) (by omega)
  (by simp [rO, gT])
  (by
   intro k x r a y w d o i l g;rw [d] at g;simp [szMs] at g;have q : m.drop (k + 1) = r := by rw [<- List.tail_drop, d]; rfl
   have n := aMg x;have u := aBm x.v;have t := iL (varN x.v) a;have j := aT2 (varN x.v);refine .inr ⟨(varN x.v).foldl addD a, ?_, ?_, ?_⟩;· simp only [rO, o, fC, i, bV, l, bBe x.v (by omega), bBf _ a (show a.length + ((varN x.v).foldl addD []).length < _ by omega), twice]
   ·grind
   simp [gT, aJ9]) (s := (c, 0)) (a := c) rfl (by grind)
 simp [aGQ, key]
theorem aXu l (i : Nat) x (f : nthI l i = some x) c (h : c.length + bkSl fD x.dirs < 1073741824) :
  aX (gK l i) (c, 0) = some ((tW x.dirs).foldl addD c) := by
 have j := pJ fD (fun d => by rw [jS]; omega) x.dirs;have e : bkSl fD x.dirs = sumL fD x.dirs + 1 := rfl;exact cO (b := gK l i) x.dirs (fun k a => (a, k)) (fun r a => (tW r).foldl addD a) (fun k a => a.length + sumL fD (x.dirs.drop k) < 1073741824) (by omega)
  (by simp [gK, f, tW])
  (by
   intro k d r a y v g p n o m;rw [g] at m;simp [sumL] at m;have t : x.dirs.drop (k + 1) = r := by rw [<- List.tail_drop, g]; rfl
   have w := jS d;have q := aBn d.args;have u := iL (gT d.args) a;refine .inr ⟨(gT d.args).foldl addD a, ?_, ?_, ?_⟩;· simp only [gK, f, bV, p, fC, n, o, aOG d.args a (by omega)]
   ·grind
   simp [tW]) (s := (c, 0)) (a := c) rfl (by grind)
theorem aT3 : ∀ n l c, aV l <= n -> c.length + aV l < 1073741824 -> rD l c = some ((useS l).foldl addD c) := by
 intro n;induction n with
 | zero =>
  intro l c h t;have := gD l;have m : l = [] := List.length_eq_zero_iff.1 (by omega);subst m;apply aCX;unfold qD;rw [cK (r := c) (by simp [gL])];rfl
 | succ n o =>
  intro l c h t;apply aCX;unfold qD;have g := gD l;have key := cO (b := gL l) l (fun k a => (a, k)) (fun r a => (useS r).foldl addD a) (fun k a => a.length + aV (l.drop k) < 1073741824) (by omega)
   (by simp [gL, useS])
   (by
    intro k x r a u D e q f j i;rw [e] at i;simp [aV] at i;have d : l.drop (k + 1) = r := by rw [<- List.tail_drop, e]; rfl
    have y := vB u;have p := gO x;have B := cH x.sels;have C : bkSl gI x.sels = sumL gI x.sels + 1 := rfl;have A : bkSl fD x.dirs = sumL fD x.dirs + 1 := rfl;have z := aBn x.args;have w := aGU x.dirs;have E := iL (gT x.args) a;have v := iL (tW x.dirs) ((gT x.args).foldl addD a);refine .inr ⟨(aIj x).foldl addD a, ?_, ?_, ?_⟩;· rw [aQ1, List.foldl_append, List.foldl_append];simp only [gL, q, fC, f, bV, j, aOG x.args a (by omega), aXu l k x f ((gT x.args).foldl addD a) (by omega), o x.sels ((tW x.dirs).foldl addD ((gT x.args).foldl addD a)) (by omega) (by omega)]
    ·rw [d];have := iL (aIj x) a;have := aKa x;omega
    simp [useS]) (s := (c, 0)) (a := c) rfl (by grind)
  simp_all
theorem aEv l a (h:a.length+aV l<1073741824):rD l a=some ((useS l).foldl addD a):=aT3 _ l a (Nat.le_refl _) h
theorem aMn:∀ (x y:Str),Op.bytesLess x y=true↔x<y
 | [],[]=>by simp [Op.bytesLess]
 | _::_,[]=>by simp [Op.bytesLess]
 | [],_::_=>by simp [Op.bytesLess]
 | a::x,b::y=>by rw [Op.bytesLess,List.cons_lt_cons_iff,Bool.or_eq_true,Bool.and_eq_true,aMn x y,beq_iff_eq,decide_eq_true_eq]
abbrev Ris (l:List Str):Prop:=l.Pairwise (· < ·)
theorem Ris.nodup {l} (h:Ris l):l.Nodup:=h.imp fun h e=>by grind
theorem aGV:∀ l s x,x∈insS l s↔x∈l∨x=s
 | [],s,x=>by simp [insS]
 | y::r,s,x=>by
  have a:=aGV r s x;simp [insS];grind
theorem aQ3:∀ l s,Ris l->Ris (insS l s)
 | [],s,h=>by simp [insS]
 | y::r,s,h=>by
  have c:=List.pairwise_cons.1 h;simp [insS];split;· rename_i a;rw [aMn] at a;refine List.pairwise_cons.2 ⟨fun z b => ?_,aQ3 r s c.2⟩;rcases (aGV r s z).1 b with h | h;all_goals grind
  rename_i a;rw [aMn] at a;split;· exact h
  refine List.pairwise_cons.2 ⟨fun z b => ?_,h⟩;grind
theorem aT4:∀ l s,Ris l->s∈l->insS l s=l
 | [],s,_,h=>by grind
 | y::r,s,h,c=>by
  have a:=List.pairwise_cons.1 h;simp [insS];rcases List.mem_cons.1 c with e | b;· subst e;rw [if_neg (by rw [aMn];simp),if_pos rfl]
  rw [if_pos ((aMn _ _).2 (a.1 s b)),aT4 r s a.2 b]
theorem tB:∀ (a l:List Str) x,x∈a.foldl insS l↔x∈l∨x∈a
 | [],l,x=>by simp
 | n::a,l,x=>by rw [List.foldl_cons,tB a,aGV,List.mem_cons,or_assoc]
theorem fP:∀ (a l:List Str),Ris l->Ris (a.foldl insS l)
 | [],l,h=>h
 | n::a,l,h=>fP a _ (aQ3 l n h)
theorem qF:∀ (a l:List Str),(a.foldl insS l).length<=l.length+a.length
 | [],l=>by simp
 | n::a,l=>by have:=qF a (insS l n);have:=aPE l n;grind
theorem aT5:∀ (L a l:List Str),Ris l->(L.foldl addD a).foldl insS l=L.foldl insS (a.foldl insS l)
 | [],a,l,_=>rfl
 | x::L,a,l,b=>by
  rw [List.foldl_cons,aT5 L (addD a x) l b,List.foldl_cons];by_cases h:x∈a;· rw [aMl h,aT4 _ _ (fP a l b) ((tB _ _ _).2 (.inr h))]
  rw [aYO h,List.foldl_append];rfl
theorem bJS (L l:List Str) (a:Ris l):(L.foldl addD []).foldl insS l=L.foldl insS l:=aT5 L [] l a
theorem aQ4:∀ l m,Ris l->Ris m->(∀ x,x∈l↔x∈m)->l=m
 | [],[],_,_,_=>rfl
 | [],y::m,_,_,h=>by have:=(h y).2 (by simp);grind
 | x::l,[],_,_,h=>by have:=(h x).1 (by simp);grind
 | x::l,y::m,c,d,h=>by
  have b:=List.pairwise_cons.1 c;have a:=List.pairwise_cons.1 d;have e:x=y:=by
   rcases List.mem_cons.1 ((h x).1 (by simp)) with e | g;· exact e
   rcases List.mem_cons.1 ((h y).2 (by simp)) with e | f;all_goals grind
  congr 1;refine aQ4 l m b.2 a.2 fun z => ?_;grind
theorem aNX l s (h:l.length<1073741824):aE2 l s=some (insS l s) :=
 aL1 (by unfold aK6;rw [if_pos (by rw [qY];omega)])
theorem bHS L l (h : l.length + L.length < 1073741824) : aX (nR L) (l, 0) = some (L.foldl insS l) :=
 pK (b := nR L) L (fun k a => (a, k)) insS id (fun k a => a.length + (L.length - k) < 1073741824) (by omega)
  (by simp [nR])
  (by
   intro k x a i f e c d g;have := aPE a x;refine ⟨?_, by omega⟩;simp only [nR, e, fC, c, bV, d, aNX a x (by omega)]) (s := (l, 0)) (a := l) rfl (by omega)
theorem aIk m l (g : Ris l) (h : l.length + bkSl aY m < 1073741824) : aHu l m = some ((gT m).foldl insS l) := by
 apply aWh;have q := aMh m;rw [iD] at q;have e : bkSl aY m = sumL aY m + 1 := rfl;have f := aDX m;have key := cO (b := rE m) m (fun k a => (a, k)) (fun r a => (gT r).foldl insS a) (fun k a => Ris a /\ a.length + szMs (m.drop k) < 1073741824) (by omega)
  (by simp [rE, gT])
  (by
   intro k x r a z y d p i n c;rw [d] at c;simp [szMs] at c;have t : m.drop (k + 1) = r := by rw [<- List.tail_drop, d]; rfl
   have o := aMg x;have w := aBm x.v;have u := qF (varN x.v) a;have j := aT2 (varN x.v);refine .inr ⟨(varN x.v).foldl insS a, ?_, ⟨fP _ _ c.1, ?_⟩, ?_⟩;· simp only [rE, p, fC, i, bV, n, aQ0 x.v (by omega), bHS _ a (show a.length + ((varN x.v).foldl addD []).length < _ by omega), bJS _ _ c.1]
   ·grind
   simp [gT, aJ9]) (s := (l, 0)) (a := l) rfl ⟨g, by grind⟩
 simp [aGA, key]
theorem aEw b (i : b = gV ∨ b = eF) x c (l : Ris c) (h : c.length + bkSl fD x.dirs < 1073741824) :
  aX (b x) (c, 0) = some ((tW x.dirs).foldl insS c) := by
 have j := pJ fD (fun d => by rw [jS]; omega) x.dirs;have e : bkSl fD x.dirs = sumL fD x.dirs + 1 := rfl;exact cO (b := b x) x.dirs (fun k a => (a, k)) (fun r a => (tW r).foldl insS a) (fun k a => Ris a /\ a.length + sumL fD (x.dirs.drop k) < 1073741824) (by omega)
  (by rcases i with rfl | rfl <;> simp [gV, eF, tW])
  (by
   intro k d r a w v g p n o f;rw [g] at f;simp [sumL] at f;have t : x.dirs.drop (k + 1) = r := by rw [<- List.tail_drop, g]; rfl
   have m := jS d;have q := aBn d.args;have u := qF (gT d.args) a;refine .inr ⟨(gT d.args).foldl insS a, ?_, ⟨fP _ _ f.1, ?_⟩, ?_⟩;· rcases i with rfl | rfl <;> simp only [gV, eF, p, fC, n, bV, o, aIk d.args a f.1 (by omega)]
   ·grind
   simp [tW]) (s := (c, 0)) (a := c) rfl ⟨l, by grind⟩
theorem aNY : ∀ n l c, Ris c -> aV l <= n -> c.length + aV l < 1073741824 -> jA c l = some ((useS l).foldl insS c) := by
 intro n;induction n with
 | zero =>
  intro l c i h g;have := gD l;have u : l = [] := List.length_eq_zero_iff.1 (by omega);subst u;apply wH;unfold jB;rw [cK (r := c) (by simp [dF])];rfl
 | succ n p =>
  intro l c i h g;apply wH;unfold jB;have m := gD l;have key := cO (b := dF l) l (fun k a => (a, k)) (fun r a => (useS r).foldl insS a) (fun k a => Ris a /\ a.length + aV (l.drop k) < 1073741824) (by show l.length < _; omega)
   (by intro a _; simp [dF, useS])
   (by
    intro k x r a y C j q v t d;rw [j] at d;simp [aV] at d;have e : l.drop (k + 1) = r := by rw [<- List.tail_drop, j]; rfl
    have E := vB y;have w := gO x;have G := cH x.sels;have B : bkSl gI x.sels = sumL gI x.sels + 1 := rfl;have H : bkSl fD x.dirs = sumL fD x.dirs + 1 := rfl;have A := aBn x.args;have z := aGU x.dirs;have D := qF (gT x.args) a;have F := qF (tW x.dirs) ((gT x.args).foldl insS a);have f := fP (gT x.args) a d.1;have o := fP (tW x.dirs) _ f;refine .inr ⟨(aIj x).foldl insS a, ?_, ⟨fP _ _ d.1, ?_⟩, ?_⟩;· rw [aQ1, List.foldl_append, List.foldl_append];simp only [dF, q, fC, v, bV, t, aIk x.args a d.1 (by omega), aEw _ (.inr rfl) x ((gT x.args).foldl insS a) f (by omega), p x.sels ((tW x.dirs).foldl insS ((gT x.args).foldl insS a)) o (by omega) (by omega)]
    ·rw [e];have := qF (aIj x) a;have := aKa x;omega
    simp [useS]) (s := (c, 0)) (a := c) rfl ⟨i, by simpa using g⟩
  rw [key]; rfl
theorem xW l a (b:Ris a) (h:a.length+aV l<1073741824):jA a l=some ((useS l).foldl insS a):=aNY _ l a b (Nat.le_refl _) h
theorem aMo l (h : aV l < 1073741824) : aCo l = some ((useS l).foldl insS []) := by
 apply aJj;unfold rX;have g := gD l;have key := cO (b := gW l) l (fun k a => (a, k)) (fun r a => (useS r).foldl insS a) (fun k a => Ris a /\ a.length + aV (l.drop k) < 1073741824) (by omega)
  (by simp [gW, useS])
  (by
   intro k x r a A y e o m i c;rw [e] at c;simp [aV] at c;have d : l.drop (k + 1) = r := by rw [<- List.tail_drop, e]; rfl
   have n := gO x;have v := cH x.sels;have w : bkSl gI x.sels = sumL gI x.sels + 1 := rfl;have u : bkSl fD x.dirs = sumL fD x.dirs + 1 := rfl;have t := aBn x.args;have q := aGU x.dirs;have z := qF (gT x.args) a;have p := qF (tW x.dirs) ((gT x.args).foldl insS a);have f := fP (gT x.args) a c.1;have j := fP (tW x.dirs) _ f;refine .inr ⟨(aIj x).foldl insS a, ?_, ⟨fP _ _ c.1, ?_⟩, ?_⟩;· rw [aQ1, List.foldl_append, List.foldl_append];simp only [gW, o, fC, m, bV, i, aIk x.args a c.1 (by omega), aEw _ (.inl rfl) x ((gT x.args).foldl insS a) f (by omega), xW x.sels ((tW x.dirs).foldl insS ((gT x.args).foldl insS a)) j (by omega)]
   ·rw [d];have := qF (aIj x) a;have := aKa x;omega
   simp [useS]) (s := ([], 0)) (a := []) rfl ⟨List.Pairwise.nil, by grind⟩
 simp_all
theorem aXv {α:Type} (f:α->α):∀ p a u,(p++a::u).modify p.length f=p++f a::u
 | [],a,u=>by simp
 | x::p,a,u=>by simp [aXv f p a u]
theorem bDI {α:Type} (p:List α) a u:(p++a::u)[p.length]?=some a:=by simp
theorem aYP:∀ l s,s∉l->(insS l s).length=l.length+1
 | [],s,_=>rfl
 | y::r,s,h=>by
  have a:s∉r:=fun b=>by grind
  simp [insS];split;· simp [aYP r s a]
  grind
theorem bHT f S x q (o : Ris S) (T : x ∉ S) (i : f.length = S.length + 1 + q.length) (E : f.length < 1073741824) :
  aX (iK f) (S.length, S ++ x :: q) = some (insS S x ++ q) := by
 obtain ⟨r, M, G⟩ := aGk (b := iK f)
  (I := fun s => ∃ p t, s.1 = p.length /\ s.2 = p ++ x :: (t ++ q) /\ p ++ t = S /\ ∀ y ∈ t, x < y)
  (m := fun s => s.1.toNat) (Q := fun r => r = insS S x ++ q)
  (by
   rintro ⟨k, b⟩ ⟨p, t, A, D, d, J⟩;simp at A D;subst A D;have g : Ris (p ++ x :: t) -> p ++ x :: (t ++ q) = insS S x ++ q := by
    intro R;have : p ++ x :: t = insS S x := aQ4 _ _ R (aQ3 S x o) fun z => by
     rw [aGV, <- d]; simp [List.mem_append, List.mem_cons];constructor
     ·rintro (h | h | h);· exact by grind
      ·exact .inr h
      exact by grind
     rintro ((h | h) | h);· exact .inl h
     ·exact by grind
     exact by grind
    rw [<- this]; simp
   rcases List.eq_nil_or_concat p with l | ⟨c, z, l⟩;· subst l;left;refine ⟨_, by simp only [iK]; rw [show decide (((List.length ([] : List Str) : Nat) : Int) > 0) = false from rfl]; rfl, g ?_⟩;have : t = S := d;subst this;exact by grind
   rw [List.concat_eq_append] at l;subst l;have F : c.length + 1 + t.length = S.length := by rw [<- d]; simp; omega
   have B : decide (((List.length (c ++ [z]) : Nat) : Int) > 0) = true := by rw [decide_eq_true_eq, List.length_append, List.length_singleton]; omega
   have w : tixR (List.length f) ((List.length (c ++ [z]) : Nat) : Int) = some (c ++ [z]).length := by
    rw [bCu (by simp; omega)]; simp
   have v : IntKind.wrap .i64 (((List.length (c ++ [z]) : Nat) : Int) - 1) = c.length := by rw [wi (by simp; omega)]; simp
   have C : tixR (List.length f) c.length = some c.length := by
    rw [bCu (by omega)]; simp
   have g1 : tget ((c ++ [z]) ++ x :: (t ++ q)) (c ++ [z]).length (fun z  => z) = some x := by unfold tget; rw [bDI]; rfl
   have g2 : tget ((c ++ [z]) ++ x :: (t ++ q)) c.length (fun z  => z) = some z := by unfold tget; rw [List.append_assoc, List.singleton_append, bDI]; rfl
   have N : tput ((c ++ [z]) ++ x :: (t ++ q)) (c ++ [z]).length (fun _  => z) = some ((c ++ [z]) ++ z :: (t ++ q)) := by rw [bCv (by simp), aXv]
   have O : tput ((c ++ [z]) ++ z :: (t ++ q)) c.length (fun _  => x) = some (c ++ x :: z :: (t ++ q)) := by
    rw [List.append_assoc, List.singleton_append, bCv (by simp), aXv]
   cases i : Op.bytesLess x z
   ·left;refine ⟨_, by simp only [iK, B, fC, w, bV, g1, v, C, g2, i, aKQ], g ?_⟩;have K : z ∈ S := by rw [<- d]; simp
    have H : z ≠ x := fun e => by grind
    have u : z < x := by
     rcases Std.lt_trichotomy z x with h | h | h;· exact h
     ·exact by grind
     rw [<- aMn, i] at h; simp at h
    rw [<- d] at o;have j := List.pairwise_append.1 o;refine List.pairwise_append.2 ⟨j.1, by grind, fun a P b E => ?_⟩;have n : a < x := by
     rcases List.mem_append.1 P with h | h;· have := List.pairwise_append.1 j.1;exact by grind
     rw [List.mem_singleton] at h; rw [h]; exact u
    rcases List.mem_cons.1 E with h | h;· rw [h]; exact n
    exact by grind
   right;refine ⟨(c.length, c ++ x :: (([z] ++ t) ++ q)), by simp only [iK, B, fC, w, bV, g1, v, C, g2, i, N, O]; simp, ⟨c, [z] ++ t, rfl, rfl, ?_, ?_⟩, ?_⟩;· rw [<- d]; simp
   ·intro y L;rcases List.mem_append.1 L with h | h;· rw [List.mem_singleton] at h; rw [h]; exact (aMn _ _).1 i
    exact J y h
   simp)
  (S.length, S ++ x :: q) ⟨S, [], rfl, by simp, by simp, by simp⟩
 rw [M, G]
theorem aDa (l:List Str) (c:l.Nodup):(l.foldl insS []).length=l.length:=by
 have key:∀ (l a:List Str),l.Nodup->(∀ x∈l,x∉a)->(l.foldl insS a).length=a.length+l.length:=by
  intro l;induction l with
  | nil=>simp
  | cons x l d =>
   intro a c f;have b:=List.nodup_cons.1 c;rw [List.foldl_cons,d (insS a x) b.2 (fun y e=>by
    rw [aGV];grind),aYP a x (by grind),List.length_cons]
   omega
 grind
theorem aT6 l (w : l.Nodup) (h : l.length < 1073741824) : aLf l = some (l.foldl insS []) := by
 apply aQJ;have u : tapl l = some l := bHy (by rw [qY]; omega);have g := aDa l w;have a : aX (kB l) (1, l) = some (l.foldl insS []) := by
  obtain ⟨r, q, p⟩ := aGk (b := kB l)
   (I := fun s => ∃ i : Nat, s.1 = i /\ 1 <= i /\ (i <= l.length ∨ l = []) /\ s.2 = (l.take i).foldl insS [] ++ l.drop i)
   (m := fun s => l.length - s.1.toNat) (Q := fun r => r = l.foldl insS [])
   (by
    rintro ⟨y, b⟩ ⟨i, o, z, x, n⟩;simp at o n;subst o n;by_cases A : i < l.length
    ·right;have j : decide (i < ((List.length l : Nat) : Int)) = true := by simp; omega
     have t : IntKind.wrap .i64 (i + 1) = ((i + 1 : Nat) : Int) := wadd (by omega);have v : l.drop i = l[i] :: l.drop (i + 1) := by simp
     have f : (l.take i).Nodup := by grind
     have c : ((l.take i).foldl insS []).length = i := by rw [aDa _ f, List.length_take]; omega
     have e : l[i] ∉ (l.take i).foldl insS [] := by
      rw [tB];rintro (h | h);· simp at h
      have d : (l.take i ++ l.drop i).Nodup := by simp_all
      grind
     have k := bHT l ((l.take i).foldl insS []) l[i] (l.drop (i + 1)) (fP _ _ List.Pairwise.nil) e (by rw [c, List.length_drop]; omega) h;rw [c] at k;refine ⟨(((i + 1 : Nat) : Int), insS ((l.take i).foldl insS []) l[i] ++ l.drop (i + 1)), ?_, ⟨i + 1, rfl, by omega, by omega, ?_⟩, ?_⟩;· simp only [kB, j, fC, v, k, bV, t]
     all_goals grind
    left;have j : decide (i < ((List.length l : Nat) : Int)) = false := by simp; omega
    refine ⟨_, by simp only [kB, j]; rfl, ?_⟩;grind)
   (1, l) ⟨1, rfl, by omega, by cases l <;> simp, by cases l <;> simp [insS]⟩
  rw [q, p]
 simp [aBb, u, a, g];rw [show Nat.ble l.length l.length = true by simp, fC, List.take_of_length_le (by omega)]
theorem aIl d n (h : Sm d.frags) : aPN d n = some (eY d n) := by
 apply aWH;have key := aCf (b := rK d n) d.frags (fun f => if f.name == n then some (Sum.inr (f.name, f.on_, f.dirs, f.sels)) else none) (.inl ()) h
  (by simp [rK])
  (by
   intro k x i g a c;simp only [rK, g, a, bV, c];cases x.name == n <;> rfl)
 have e := aGT d.frags (fun f => f.name == n) (fun f => (Sum.inr (f.name, f.on_, f.dirs, f.sels) : Unit ⊕ (Str × Str × (List GDir) × (List GSel))));rw [e] at key;simp [aGG, key, eY];cases d.frags.find? (fun f => f.name == n) <;> rfl
theorem aXw : ∀ n c l, aV c <= n -> l.length + aV c < 1073741824 -> mD c l = some ((cQ c).foldl addD l) := by
 intro n;induction n with
 | zero =>
  intro c l h w;have := gD c;have q : c = [] := List.length_eq_zero_iff.1 (by omega);subst q;apply aEs;unfold sV;rw [cK (r := l) (by simp [iQ])];rfl
 | succ n A =>
  intro c l h w;apply aEs;unfold sV;have i := gD c;have key := cO (b := iQ c) c (fun k a => (a, k)) (fun r a => (cQ r).foldl addD a) (fun k a => a.length + aV (c.drop k) < 1073741824) (by omega)
   (by simp [iQ, cQ])
   (by
    intro k x r a y C g v u m j;rw [g] at j;simp [aV] at j;have f : c.drop (k + 1) = r := by rw [<- List.tail_drop, g]; rfl
    have z := vB y;have p := aDZ x;have d : ∀ e , e.length <= a.length + 1 -> mD x.sels e = some ((cQ x.sels).foldl addD e) := fun e o => by grind
    have B := aIh x;refine .inr ⟨(aBk x).foldl addD a, ?_, ?_, ?_⟩
    ·rw [aOE];simp only [iQ, v, u, bV, m, mY a x.name (by omega), d a (by omega)];cases x.kind == 1;· rfl
     have t : tapp a [x.name] = some (a ++ [x.name]) := tK (by simp [qY]; omega);simp only [cond_true, List.cons_append, List.foldl_cons, addD, t, bV, d (a ++ [x.name]) (by simp)];cases a.contains x.name <;> rfl
    ·rw [f];have := iL (aBk x) a;omega
    simp [cQ]) (s := (l, 0)) (a := l) rfl (by grind)
  simp_all
theorem aGW a l (h:l.length+aV a<1073741824):mD a l=some ((cQ a).foldl addD l):=aXw _ a l (Nat.le_refl _) h
theorem aQ5 a (h:aV a<1073741824):aHw a=some ((cQ a).foldl addD []) :=
 aNx (by simp [xS,aGW a [] (by grind)])
theorem aT7 d sels (D : fO d + aV sels < 500000000) :
  ∃ l, aX (jJ d) ((cQ sels).foldl addD [], 0) = some l /\ l.length < 1073741824 /\ (∀ n ∈ cQ sels, n ∈ l) /\ qE d (· ∈ l) /\ ∀ S , (∀ n ∈ cQ sels, S n) -> qE d S -> ∀ n ∈ l, S n := by
 have y : (allN d sels).length <= fO d + aV sels := by
  have h1 := aC8 sels;have a := lZ d.frags;have A := iS d;simp only [allN, List.length_append]; omega
 have C := wS d;have hsm : Sm d.frags := by show d.frags.length < _; omega
 have hsub : ∀ (l : List Str), l.Nodup -> (∀ x ∈ l, x ∈ allN d sels) -> l.length <= fO d + aV sels := fun l h1 a => Nat.le_trans (pL l _ h1 a) y;refine aGk (b := jJ d)
  (I := fun s => ∃ i : Nat, s.2 = (i : Int) /\ i <= s.1.length /\ s.1.Nodup /\ (∀ x ∈ s.1, x ∈ allN d sels) /\ (∀ n ∈ cQ sels, n ∈ s.1) /\
   (∀ j n, j < i -> s.1[j]? = some n -> (eY d n).2 = true -> ∀ m ∈ cQ (eY d n).1.sels, m ∈ s.1) /\ (∀ S , (∀ n ∈ cQ sels, S n) -> qE d S -> ∀ n ∈ s.1, S n))
  (m := fun s => fO d + aV sels + 1 - s.2.toNat)
  (Q := fun l => l.length < 1073741824 /\ (∀ n ∈ cQ sels, n ∈ l) /\ qE d (· ∈ l) /\ ∀ S , (∀ n ∈ cQ sels, S n) -> qE d S -> ∀ n ∈ l, S n)
  (by
   rintro ⟨l, B⟩ ⟨i, k, c, hnd, hall, hin, hcl, hmin⟩;simp only at k c hnd hall hin hcl hmin;subst k;have p := hsub l hnd hall;by_cases r : l.length <= i
   ·left;refine ⟨l, ?_, by omega, hin, ?_, hmin⟩
    ·have e1 : decide (i < (List.length l : Int)) = false := by simp; omega
     simp only [jJ, e1, aKQ]
    intro n hn hfr m q;obtain ⟨j, hj⟩ := List.mem_iff_getElem?.1 hn;have v := (List.getElem?_eq_some_iff.1 hj).1;exact by grind
   right;have e1 : decide (i < (List.length l : Int)) = true := by simp; omega
   have hx := List.getElem?_eq_getElem (show i < l.length by omega);have o : IntKind.wrap .i64 (i + 1) = ((i + 1 : Nat) : Int) := wadd (by omega);cases hfr : (eY d l[i]).2
   ·refine ⟨(l, ((i + 1 : Nat) : Int)), ?_, ⟨i + 1, rfl, by simp only; omega, hnd, hall, hin, ?_, hmin⟩, ?_⟩;· simp only [jJ, e1, fC, pI, hx, bV, aIl d _ hsm, hfr, aKQ, o]
    ·intro j n hj hjn hfn;by_cases hji : j = i;· subst hji;rw [hx] at hjn; cases hjn;rw [hfr] at hfn; simp at hfn
     exact hcl j n (by omega) hjn hfn
    simp only [Int.toNat_natCast]; omega
   obtain ⟨hfm, _⟩ := mZ hfr;have z := fR gQ hfm;have u : aV (eY d l[i]).1.sels <= gQ (eY d l[i]).1 := by rw [kH, cH]; simp only [bkSl]; omega
   have w := iS d;have f := aGW (eY d l[i]).1.sels l (by omega);obtain ⟨t, g⟩ := aC9 (cQ (eY d l[i]).1.sels) l;refine ⟨((cQ (eY d l[i]).1.sels).foldl addD l, ((i + 1 : Nat) : Int)), ?_, ⟨i + 1, rfl, by simp only; rw [g]; simp [List.length_append]; omega, kE _ _ hnd, ?_, ?_, ?_, ?_⟩, ?_⟩;· simp only [jJ, e1, fC, pI, hx, bV, aIl d _ hsm, hfr, f, o]
   ·intro x e;rcases (dI _ _ _).1 e with h | h;· exact hall x h
    exact List.mem_append_right _ (List.mem_flatMap.2 ⟨_, hfm, h⟩)
   ·intro n hn; exact by grind
   ·intro j n hj hjn hfn m q;simp at hjn ⊢;rw [g] at hjn;rw [dI];by_cases hji : j = i;· subst hji;rw [List.getElem?_append_left (by omega), hx] at hjn; cases hjn;exact .inr q
    rw [List.getElem?_append_left (by omega)] at hjn;exact by grind
   ·intro S h1 a n hn;rcases (dI _ _ _).1 hn with h | h;· exact by grind
    exact a l[i] (by grind) hfr n h
   simp; omega)
  ((cQ sels).foldl addD [], 0)
  ⟨0, rfl, by omega, kE _ _ List.nodup_nil, (fun x hx => by
   rcases (dI _ _ _).1 hx with h | h;· simp at h
   exact List.mem_append_left _ h), (fun n hn => (dI _ _ _).2 (.inr hn)), (fun j n hj => by omega), (fun S h1 _ n hn => by
   rcases (dI _ _ _).1 hn with h | h;· simp at h
   exact h1 n h)⟩
theorem aBo d c (H : fO d + aV c < 500000000) :
  ∃ (r l : List Str), aJY d c = some r /\ r.Nodup /\ r.length < 1073741824 /\ (∀ n, n ∈ r ↔ n ∈ l /\ (eY d n).2 = true) /\ (∀ n ∈ cQ c, n ∈ l) /\ qE d (· ∈ l) /\ ∀ S , (∀ n ∈ cQ c, S n) -> qE d S -> ∀ n ∈ l, S n := by
 obtain ⟨l, A, M, D, w, I⟩ := aT7 d c H;have q := wS d;have key := pK (b := oM d l) d.frags (fun k a => (a, k)) (fun a f => bif l.contains f.name then addD a f.name else a) id (fun k a => a.length <= k) (by show d.frags.length < _; omega)
  (by intro a _; simp [oM])
  (by
   intro k x a J K u F G L;have v : tapp a [x.name] = some (a ++ [x.name]) := tK (by simp [qY]; omega);simp only [oM, u, fC, F, bV, G, mY l x.name (by show l.length < _; omega), mY a x.name (by show a.length < _; omega), v];cases l.contains x.name;· exact ⟨rfl, by simp only [cond_false]; omega⟩
   simp only [fC, cond_true, addD];cases a.contains x.name;· exact ⟨rfl, by simp; omega⟩
   exact ⟨rfl, by simp; omega⟩) (s := ([], 0)) (a := []) rfl (by simp)
 have i : ∀ (fs : List GFrag) a, (a.Nodup -> (fs.foldl (fun a f => bif l.contains f.name then addD a f.name else a) a).Nodup) /\ (fs.foldl (fun a f => bif l.contains f.name then addD a f.name else a) a).length <= a.length + fs.length /\
   ∀ n, n ∈ fs.foldl (fun a f => bif l.contains f.name then addD a f.name else a) a ↔ n ∈ a ∨ ∃ f ∈ fs, n ∈ l /\ f.name = n := by
  intro fs;induction fs with
  | nil => intro a; simp
  | cons f fs y =>
   intro a;rw [List.foldl_cons];obtain ⟨z, p, t⟩ := y (bif l.contains f.name then addD a f.name else a);refine ⟨fun g => z ?_, ?_, fun n => ?_⟩
   ·cases l.contains f.name;· exact g
    exact aIg g
   ·have := aJ8 a f.name;cases j : l.contains f.name <;> rw [j] at p <;> simp [cond_true, cond_false, List.length_cons] at p ⊢ <;> omega
   rw [t];cases j : l.contains f.name
   ·have g  := by simpa using j
    simp [cond_false, List.mem_cons, exists_eq_or_imp];constructor
    ·rintro (h | h);· exact .inl h
     exact by grind
    rintro (h | ⟨h, e⟩ | h);· exact .inl h
    ·exact by grind
    exact .inr h
   have g  := by simpa using j
   simp [cond_true, aQY, List.mem_cons, exists_eq_or_imp];constructor
   ·rintro ((h | h) | h);· exact .inl h
    ·exact by grind
    exact by grind
   rintro (h | ⟨h, e⟩ | h);· exact by grind
   ·exact by grind
   exact .inr h
 obtain ⟨B, C, E⟩ := i d.frags [];refine ⟨_, l, aSU (by simp only [aDJ, aQ5 c (by omega), A, bV, key]; rfl), B List.nodup_nil, ?_, ?_, D, w, I⟩;· simp only [List.length_nil] at C; omega
 intro n;rw [E];constructor
 ·rintro (h | ⟨f, q, g, e⟩);· simp at h
  exact ⟨g, e ▸ aYM q⟩
 rintro ⟨g, m⟩;obtain ⟨J, o⟩ := mZ m;exact by grind
def allU (d:GDoc) (l:List GSel):List Str:=useS l++d.frags.flatMap fun f=>useS f.sels
theorem oT f:aV f.sels<=gQ f:=by rw [kH,cH];simp [bkSl];omega
theorem aT8:∀ l,(l.flatMap fun f=>useS f.sels).length<=sumL gQ l
 | []=>by simp
 | f::l=>by
  have c:=aT8 l;have b:=aQ2 f.sels;have a:=oT f;simp only [List.flatMap_cons,List.length_append,sumL];omega
theorem aYQ d l:(allU d l).length<=fO d+aV l:=by
 have c:=aQ2 l;have b:=aT8 d.frags;have a:=iS d;simp only [allU,List.length_append];omega
theorem aT9 d l r (H : aAL d l = some r) (y : r.length < 1073741824) (o : ∀ n ∈ r, (eY d n).2 = true) (N : fO d + aV l < 400000000) :
  ∃ u, pR d l = some u /\ Ris u /\ u.length <= fO d + aV l /\ ∀ x, x ∈ u ↔ x ∈ useS l ∨ ∃ n ∈ r, x ∈ useS (eY d n).1.sels := by
 have G := wS d;have m : Sm d.frags := by omega
 have I := iS d;have J := aYQ d l;have key := pK (b := mF d r) r (fun k a => (a, k)) (fun a n => (useS (eY d n).1.sels).foldl insS a) id (fun k a => Ris a /\ ∀ x ∈ a, x ∈ allU d l) (by omega)
  (by simp [mF])
  (by
   intro k n a L M q E F g;obtain ⟨j, _⟩ := mZ (o n L);have K := fR gQ j;have v := oT (eY d n).1;have w := pL a _ g.1.nodup g.2;refine ⟨?_, fP _ _ g.1, fun x i => ?_⟩;· simp only [mF, q, fC, E, bV, F, aBl d n m, xW (eY d n).1.sels a g.1 (by omega)]
   rcases (tB _ _ _).1 i with h | h;· exact g.2 x h
   exact List.mem_append_right _ (List.mem_flatMap.2 ⟨_, j, h⟩)) (s := ((useS l).foldl insS [], 0)) (a := (useS l).foldl insS []) rfl ⟨fP _ _ List.Pairwise.nil, fun x i => by
    rcases (tB _ _ _).1 i with h | h;· simp at h
    exact List.mem_append_left _ h⟩
 have f : ∀ (e a : List Str), (Ris a -> Ris (e.foldl (fun a n => (useS (eY d n).1.sels).foldl insS a) a)) /\ ∀ x, x ∈ e.foldl (fun a n => (useS (eY d n).1.sels).foldl insS a) a ↔ x ∈ a ∨ ∃ n ∈ e, x ∈ useS (eY d n).1.sels := by
  intro e;induction e with
  | nil => simp
  | cons n e z =>
   intro a;rw [List.foldl_cons];obtain ⟨A, C⟩ := z ((useS (eY d n).1.sels).foldl insS a);refine ⟨fun h => A (fP _ _ h), fun x => ?_⟩;rw [C, tB]; simp [or_assoc]
 obtain ⟨B, D⟩ := f r ((useS l).foldl insS []);have c : ∀ x, x ∈ r.foldl (fun a n => (useS (eY d n).1.sels).foldl insS a) ((useS l).foldl insS []) ↔ x ∈ useS l ∨ ∃ n ∈ r, x ∈ useS (eY d n).1.sels := by
  intro x; rw [D, tB]; simp
 have p := B (fP _ _ List.Pairwise.nil);refine ⟨_, aP2 (by simp only [aAQ, aMo l (by omega), H, bV, key]; rfl), p, ?_, c⟩;refine Nat.le_trans (pL _ (allU d l) p.nodup fun x i => ?_) J;rcases (c x).1 i with h | ⟨n, t, h⟩;· exact List.mem_append_left _ h
 exact List.mem_append_right _ (List.mem_flatMap.2 ⟨_, (mZ (o n t)).1, h⟩)
theorem aIm d l r (q : aJY d l = some r) (hrl : r.length < 1073741824) (hf : ∀ n ∈ r, (eY d n).2 = true) (A : fO d + aV l < 400000000) :
  ∃ u, aHv d l = some u /\ Ris u /\ ∀ x, x ∈ u ↔ x ∈ useS l ∨ ∃ n ∈ r, x ∈ useS (eY d n).1.sels := by
 have o := wS d;have hsm : Sm d.frags := by omega
 have t := iS d;have v := aYQ d l;have key := pK (b := rJ d r) r (fun k a => (a, k)) (fun a n => (useS (eY d n).1.sels).foldl addD a) id (fun k a => a.Nodup /\ ∀ x ∈ a, x ∈ allU d l) (by omega)
  (by simp [rJ])
  (by
   intro k n a y z e1 j m hI;obtain ⟨hfm, _⟩ := mZ (hf n y);have w := fR gQ hfm;have hfs := oT (eY d n).1;have hal := pL a _ hI.1 hI.2;refine ⟨?_, kE _ _ hI.1, fun x hx => ?_⟩;· simp only [rJ, e1, fC, j, bV, m, aIl d n hsm, aEv (eY d n).1.sels a (by omega)]
   rcases (dI _ _ _).1 hx with h | h;· exact hI.2 x h
   exact List.mem_append_right _ (List.mem_flatMap.2 ⟨_, hfm, h⟩)) (s := ((useS l).foldl addD [], 0)) (a := (useS l).foldl addD []) rfl ⟨kE _ _ List.nodup_nil, fun x hx => by
    rcases (dI _ _ _).1 hx with h | h;· simp at h
    exact List.mem_append_left _ h⟩
 have fold : ∀ (ns a : List Str), (a.Nodup -> (ns.foldl (fun a n => (useS (eY d n).1.sels).foldl addD a) a).Nodup) /\ ∀ x, x ∈ ns.foldl (fun a n => (useS (eY d n).1.sels).foldl addD a) a ↔ x ∈ a ∨ ∃ n ∈ ns, x ∈ useS (eY d n).1.sels := by
  intro ns;induction ns with
  | nil => simp
  | cons n ns c =>
   intro a;rw [List.foldl_cons];obtain ⟨e, g⟩ := c ((useS (eY d n).1.sels).foldl addD a);refine ⟨fun h => e (kE _ _ h), fun x => ?_⟩;rw [g, dI]; simp [or_assoc]
 obtain ⟨f, i⟩ := fold r ((useS l).foldl addD []);have hmem : ∀ x, x ∈ r.foldl (fun a n => (useS (eY d n).1.sels).foldl addD a) ((useS l).foldl addD []) ↔ x ∈ useS l ∨ ∃ n ∈ r, x ∈ useS (eY d n).1.sels := by
  intro x; rw [i, dI]; simp
 have hN := f (kE _ _ List.nodup_nil);have hlen := Nat.le_trans (pL _ (allU d l) hN fun x hx => by
  rcases (hmem x).1 hx with h | ⟨n, hn, h⟩;· exact List.mem_append_left _ h
  exact List.mem_append_right _ (List.mem_flatMap.2 ⟨_, (mZ (hf n hn)).1, h⟩)) v
 have p := aT6 _ hN (by omega);refine ⟨_, aWx (by simp [aGF, aEv l [] (show 0 + aV l < _ by omega), q, key, p]; rfl), fP _ _ List.Pairwise.nil, fun x => ?_⟩;rw [tB, hmem]; simp
theorem aFT:aBw=some true:=aEa 100 (by kernel_rfl)
open Go Go.Ev Go.Ev.PV
abbrev E0':El:=⟨true,[(.sl 3 1048576 false),.str,.str]⟩
abbrev E1':El:=⟨true,[(.int .i64),(.int .i64),.str,(.sl 6 1048576 false),(.sl 7 1048576 false)]⟩
abbrev E2':El:=⟨false,[.bool]⟩
abbrev E3':El:=⟨true,[(.sl 10 1048576 false),(.sl 13 1048576 false)]⟩
abbrev E4':El:=⟨true,[.str,.str,(.int .i64),(.int .i64),.bool,(.int .i64),(.int .i64),.str,(.sl 6 1048576 false),(.sl 7 1048576 false)]⟩
abbrev E5':El:=⟨true,[(.int .i64),.str,(.sl 0 1048576 false),(.sl 4 1048576 false),(.sl 0 1048576 false),(.sl 5 1048576 false)]⟩
abbrev E6':El:=⟨false,[(.int .i64)]⟩
abbrev E7':El:=⟨false,[.sl 0 16777216 false]⟩
abbrev E8':El:=⟨true,[.str,(.sl 5 1048576 false),.str,(.int .i64),(.int .i64),(.sl 8 1048576 false)]⟩
abbrev E9':El:=⟨true,[(.int .i64),.str,.str,(.sl 7 1048576 false),(.sl 8 1048576 false),.str,(.sl 12 1048576 false)]⟩
abbrev E10':El:=⟨false,[.str]⟩
abbrev E11':El:=⟨true,[.str,(.int .i64),(.int .i64)]⟩
abbrev E12':El:=⟨false,[.sl 5 16777216 false]⟩
abbrev E16':El:=⟨true,[.str,.str,(.sl 8 1048576 false),(.sl 12 1048576 false)]⟩
abbrev E17':El:=⟨false,[.sl 7 16777216 false]⟩
def sa:Nat->List HV->List HV
 | 0,l=>l
 | n+1,l => .same::sa n l
def lh (i:Nat) (hv:List HV) (cnt top:Nat) (ws:List (Option Nat)):Nat×LH:=(i,{hv:=hv,cnt:=cnt,top:=top,ex:=ws.map fun w=>(w,hv)})
def sv1 (ins outs:List El):Summ:={ins:=ins,outs:=outs}
def sv2 (ins outs:List El):Summ:={ins:=ins,outs:=outs,cap:=2097152}
def tτ:Tb:=[⟨false,[.str]⟩,⟨false,[(.int .i64)]⟩,⟨true,[(.sl 3 1048576 false),.str,.str]⟩,⟨true,[(.int .i64),.str,(.sl 0 1048576 false),(.sl 4 1048576 false),(.sl 0 1048576 false),(.sl 5 1048576 false)]⟩,⟨true,[.str,(.sl 5 1048576 false),.str,(.int .i64),(.int .i64),(.sl 8 1048576 false)]⟩,⟨true,[.str,.str,(.int .i64),(.int .i64),.bool,(.int .i64),(.int .i64),.str,(.sl 6 1048576 false),(.sl 7 1048576 false)]⟩,⟨true,[(.int .i64),(.int .i64),.str,(.sl 6 1048576 false),(.sl 7 1048576 false)]⟩,⟨true,[.str,(.int .i64),(.int .i64),.str,(.sl 6 1048576 false),(.sl 7 1048576 false)]⟩,⟨true,[.str,(.sl 7 1048576 false)]⟩,⟨true,[(.sl 10 1048576 false),(.sl 13 1048576 false)]⟩,⟨true,[(.int .i64),.str,(.sl 11 1048576 false),(.sl 8 1048576 false),(.sl 12 1048576 false)]⟩,⟨true,[.str,.str,(.int .i64),(.int .i64),.bool,(.int .i64),(.int .i64),.str,(.sl 6 1048576 false),(.sl 7 1048576 false)]⟩,⟨true,[(.int .i64),.str,.str,(.sl 7 1048576 false),(.sl 8 1048576 false),.str,(.sl 12 1048576 false)]⟩,⟨true,[.str,.str,(.sl 8 1048576 false),(.sl 12 1048576 false)]⟩,⟨false,[(.sl 8 1048576 false)]⟩,⟨true,[.str,(.int .i64),(.int .i64)]⟩,⟨true,[.str,(.int .i64),.str,.str,(.sl 7 1048576 false),(.sl 8 1048576 false),.str,(.sl 12 1048576 false)]⟩,⟨true,[.str,.str,(.int .i64),(.int .i64),.bool]⟩]
def cf (s:STb) (r:List (FuncId×Summ×Nat)) (me:Nat) (ag:Bool) (l:List (Nat×LH)):Cfg:={τ:=tτ,sums:=s,recs:=r,me:=me,meAg:=ag,loops:=l}
def cg (s:STb) (r:List (FuncId×Summ×Nat)) (me:Nat) (ag:Bool) (l:List (Nat×LH)) (np:Nat):Cfg:={τ:=tτ,sums:=s,recs:=r,me:=me,meAg:=ag,loops:=l,cap:=2097152,np:=np}
abbrev Ds (f:FuncId) (sm:Summ):Prop:=aPC Tryz.prog MT XT tτ f sm
theorem bK (s:Str):dM s=s.length+1:=rfl
theorem lfSl {α:Type} {τ:Tb} {n ub:Nat} {enc:α->PV} {l:List α} (h:∀ x∈l,ElOk τ (elOf τ n) (enc x)) (hl:l.length<=ub):LfOk τ (.sl n ub false) (.slice (l.map enc) [] false):=by
 refine .sl (fun e he => ?_) (by simpa using hl)
 obtain ⟨x,hx,rfl⟩:=List.mem_map.1 he
 exact h x hx
theorem okVM:∀ n:Nat,n<=1048576->(∀ x:GValue,cR x<=n->ElOk tτ (elOf tτ 6) (aJ x))/\(∀ x:GMember,aY x<=n->ElOk tτ (elOf tτ 7) (aD x)):=by
 intro n
 induction n with
 | zero=>intro _;exact ⟨fun x h=>by rw [cL] at h;omega,fun x h=>by rw [dE] at h;omega⟩
 | succ n ih =>
  intro hn
  obtain ⟨ihV,ihM⟩:=ih (by omega)
  have ihValue:=ihV
  have ihMember:=ihM
  refine ⟨fun x hb => ?_,fun x hb => ?_⟩
  ·simp only [cL,bk1,bK] at hb
   rw [gH]
   change ElOk tτ ⟨true,[(.int .i64),(.int .i64),.str,(.sl 6 1048576 false),(.sl 7 1048576 false)]⟩ _
   exact .ag (.cons (.int _ _) (.cons (.int _ _) (.cons (.str (by unfold topL;omega)) (.cons (lfSl (fun y hy=>ihValue y (by have:=fM (f:=cR) hy;omega)) (by have:=dD (f:=cR) (fun d=>by rw [cL];omega) x.l;omega)) (.cons (lfSl (fun y hy=>ihMember y (by have:=fM (f:=aY) hy;omega)) (by have:=dD (f:=aY) (fun d=>by rw [dE];omega) x.m;omega)) (.nil))))))
  
  ·simp only [dE,cL,bk1,bK] at hb
   rw [lD]
   change ElOk tτ ⟨true,[.str,(.int .i64),(.int .i64),.str,(.sl 6 1048576 false),(.sl 7 1048576 false)]⟩ _
   exact .ag (.cons (.str (by unfold topL;omega)) (.cons (.int _ _) (.cons (.int _ _) (.cons (.str (by unfold topL;omega)) (.cons (lfSl (fun y hy=>ihValue y (by have:=fM (f:=cR) hy;omega)) (by have:=dD (f:=cR) (fun d=>by rw [cL];omega) x.v.l;omega)) (.cons (lfSl (fun y hy=>ihMember y (by have:=fM (f:=aY) hy;omega)) (by have:=dD (f:=aY) (fun d=>by rw [dE];omega) x.v.m;omega)) (.nil)))))))
theorem bDJ (x:GValue) (h:cR x<=1048576):ElOk tτ (elOf tτ 6) (aJ x):=(okVM _ (Nat.le_refl _)).1 x h
theorem aKb (x:GMember) (h:aY x<=1048576):ElOk tτ (elOf tτ 7) (aD x):=(okVM _ (Nat.le_refl _)).2 x h
theorem bDK (x:GParam) (hb:kT x<=1048576):ElOk tτ (elOf tτ 5) (bB x):=by
 simp only [rC,lH,cL,bk1,bK] at hb
 rw [lF]
 change ElOk tτ ⟨true,[.str,.str,(.int .i64),(.int .i64),.bool,(.int .i64),(.int .i64),.str,(.sl 6 1048576 false),(.sl 7 1048576 false)]⟩ _
 exact .ag (.cons (.str (by unfold topL;omega)) (.cons (.str (by unfold topL;omega)) (.cons (.int _ _) (.cons (.int _ _) (.cons (.bool _) (.cons (.int _ _) (.cons (.int _ _) (.cons (.str (by unfold topL;omega)) (.cons (lfSl (fun y hy=>bDJ y (by have:=fM (f:=cR) hy;omega)) (by have:=dD (f:=cR) (fun d=>by rw [cL];omega) x.default.l;omega)) (.cons (lfSl (fun y hy=>aKb y (by have:=fM (f:=aY) hy;omega)) (by have:=dD (f:=aY) (fun d=>by rw [dE];omega) x.default.m;omega)) (.nil)))))))))))
theorem bFu (x:GDir) (hb:fD x<=1048576):ElOk tτ (elOf tτ 8) (aI x):=by
 simp only [jS,bk1,bK] at hb
 rw [sJ]
 change ElOk tτ ⟨true,[.str,(.sl 7 1048576 false)]⟩ _
 exact .ag (.cons (.str (by unfold topL;omega)) (.cons (lfSl (fun y hy=>aKb y (by have:=fM (f:=aY) hy;omega)) (by have:=dD (f:=aY) (fun d=>by rw [dE];omega) x.args;omega)) (.nil)))
theorem bBg (x:GFieldDef) (hb:iY x<=1048576):ElOk tτ (elOf tτ 4) (bL x):=by
 simp only [mC,lH,bk1,bK] at hb
 rw [fU]
 change ElOk tτ ⟨true,[.str,(.sl 5 1048576 false),.str,(.int .i64),(.int .i64),(.sl 8 1048576 false)]⟩ _
 exact .ag (.cons (.str (by unfold topL;omega)) (.cons (lfSl (fun y hy=>bDK y (by have:=fM (f:=kT) hy;omega)) (by have:=dD (f:=kT) (fun d=>by rw [rC];omega) x.params;omega)) (.cons (.str (by unfold topL;omega)) (.cons (.int _ _) (.cons (.int _ _) (.cons (lfSl (fun y hy=>bFu y (by have:=fM (f:=fD) hy;omega)) (by have:=dD (f:=fD) (fun d=>by rw [jS];omega) x.dirs;omega)) (.nil)))))))
theorem bJT (x:GDef) (hb:aLa x<=1048576):ElOk tτ (elOf tτ 3) (aL x):=by
 simp only [pP,bk1,bK] at hb
 rw [sK]
 change ElOk tτ ⟨true,[(.int .i64),.str,(.sl 0 1048576 false),(.sl 4 1048576 false),(.sl 0 1048576 false),(.sl 5 1048576 false)]⟩ _
 exact .ag (.cons (.int _ _) (.cons (.str (by unfold topL;omega)) (.cons (lfSl (fun y hy => .one (.str (by have:=fM (f:=dM) hy;rw [bK] at this;unfold topL;omega))) (by have:=dD (f:=dM) (fun d=>by rw [bK];omega) x.faces;omega)) (.cons (lfSl (fun y hy=>bBg y (by have:=fM (f:=iY) hy;omega)) (by have:=dD (f:=iY) (fun d=>by rw [mC];omega) x.fields;omega)) (.cons (lfSl (fun y hy => .one (.str (by have:=fM (f:=dM) hy;rw [bK] at this;unfold topL;omega))) (by have:=dD (f:=dM) (fun d=>by rw [bK];omega) x.parts;omega)) (.cons (lfSl (fun y hy=>bDK y (by have:=fM (f:=kT) hy;omega)) (by have:=dD (f:=kT) (fun d=>by rw [rC];omega) x.params;omega)) (.nil)))))))
theorem aQ6 (x:GSchema) (hb:jT x<=1048576):ElOk tτ (elOf tτ 2) (dG x):=by
 simp only [nK,bk1,bK] at hb
 rw [jH]
 change ElOk tτ ⟨true,[(.sl 3 1048576 false),.str,.str]⟩ _
 exact .ag (.cons (lfSl (fun y hy=>bJT y (by have:=fM (f:=aLa) hy;omega)) (by have:=dD (f:=aLa) (fun d=>by rw [pP];omega) x.defs;omega)) (.cons (.str (by unfold topL;omega)) (.cons (.str (by unfold topL;omega)) (.nil))))
theorem bFv (x:GVarDef) (hb:dZ x<=1048576):ElOk tτ (elOf tτ 11) (aB x):=by
 simp only [fE,lH,cL,bk1,bK] at hb
 rw [dV]
 change ElOk tτ ⟨true,[.str,.str,(.int .i64),(.int .i64),.bool,(.int .i64),(.int .i64),.str,(.sl 6 1048576 false),(.sl 7 1048576 false)]⟩ _
 exact .ag (.cons (.str (by unfold topL;omega)) (.cons (.str (by unfold topL;omega)) (.cons (.int _ _) (.cons (.int _ _) (.cons (.bool _) (.cons (.int _ _) (.cons (.int _ _) (.cons (.str (by unfold topL;omega)) (.cons (lfSl (fun y hy=>bDJ y (by have:=fM (f:=cR) hy;omega)) (by have:=dD (f:=cR) (fun d=>by rw [cL];omega) x.default.l;omega)) (.cons (lfSl (fun y hy=>aKb y (by have:=fM (f:=aY) hy;omega)) (by have:=dD (f:=aY) (fun d=>by rw [dE];omega) x.default.m;omega)) (.nil)))))))))))
theorem bJa:∀ n:Nat,n<=1048576->∀ x:GSel,gI x<=n->ElOk tτ (elOf tτ 12) (aF x):=by
 intro n
 induction n with
 | zero=>intro _ x h;rw [gO] at h;omega
 | succ n ih =>
  intro hn x hb
  have ihSel:=ih (by omega)
  simp only [gO,bk1,bK] at hb
  rw [sL]
  change ElOk tτ ⟨true,[(.int .i64),.str,.str,(.sl 7 1048576 false),(.sl 8 1048576 false),.str,(.sl 12 1048576 false)]⟩ _
  exact .ag (.cons (.int _ _) (.cons (.str (by unfold topL;omega)) (.cons (.str (by unfold topL;omega)) (.cons (lfSl (fun y hy=>aKb y (by have:=fM (f:=aY) hy;omega)) (by have:=dD (f:=aY) (fun d=>by rw [dE];omega) x.args;omega)) (.cons (lfSl (fun y hy=>bFu y (by have:=fM (f:=fD) hy;omega)) (by have:=dD (f:=fD) (fun d=>by rw [jS];omega) x.dirs;omega)) (.cons (.str (by unfold topL;omega)) (.cons (lfSl (fun y hy=>ihSel y (by have:=fM (f:=gI) hy;omega)) (by have:=dD (f:=gI) (fun d=>by rw [gO];omega) x.sels;omega)) (.nil))))))))
theorem bJb (x:GSel) (h:gI x<=1048576):ElOk tτ (elOf tτ 12) (aF x):=bJa _ (Nat.le_refl _) x h
theorem okOp (x:GOp) (hb:bkOp x<=1048576):ElOk tτ (elOf tτ 10) (aR x):=by
 simp only [lI,bk1,bK] at hb
 rw [rU]
 change ElOk tτ ⟨true,[(.int .i64),.str,(.sl 11 1048576 false),(.sl 8 1048576 false),(.sl 12 1048576 false)]⟩ _
 exact .ag (.cons (.int _ _) (.cons (.str (by unfold topL;omega)) (.cons (lfSl (fun y hy=>bFv y (by have:=fM (f:=dZ) hy;omega)) (by have:=dD (f:=dZ) (fun d=>by rw [fE];omega) x.vars;omega)) (.cons (lfSl (fun y hy=>bFu y (by have:=fM (f:=fD) hy;omega)) (by have:=dD (f:=fD) (fun d=>by rw [jS];omega) x.dirs;omega)) (.cons (lfSl (fun y hy=>bJb y (by have:=fM (f:=gI) hy;omega)) (by have:=dD (f:=gI) (fun d=>by rw [gO];omega) x.sels;omega)) (.nil))))))
theorem bJc (x:GFrag) (hb:gQ x<=1048576):ElOk tτ (elOf tτ 13) (aH x):=by
 simp only [kH,bk1,bK] at hb
 rw [oG]
 change ElOk tτ ⟨true,[.str,.str,(.sl 8 1048576 false),(.sl 12 1048576 false)]⟩ _
 exact .ag (.cons (.str (by unfold topL;omega)) (.cons (.str (by unfold topL;omega)) (.cons (lfSl (fun y hy=>bFu y (by have:=fM (f:=fD) hy;omega)) (by have:=dD (f:=fD) (fun d=>by rw [jS];omega) x.dirs;omega)) (.cons (lfSl (fun y hy=>bJb y (by have:=fM (f:=gI) hy;omega)) (by have:=dD (f:=gI) (fun d=>by rw [gO];omega) x.sels;omega)) (.nil)))))
theorem bHU (x:GDoc) (hb:fO x<=1048576):ElOk tτ (elOf tτ 9) (mU x):=by
 simp only [pQ,bk1,bK] at hb
 rw [sM]
 change ElOk tτ ⟨true,[(.sl 10 1048576 false),(.sl 13 1048576 false)]⟩ _
 exact .ag (.cons (lfSl (fun y hy=>okOp y (by have:=fM (f:=bkOp) hy;omega)) (by have:=dD (f:=bkOp) (fun d=>by rw [lI];omega) x.ops;omega)) (.cons (lfSl (fun y hy=>bJc y (by have:=fM (f:=gQ) hy;omega)) (by have:=dD (f:=gQ) (fun d=>by rw [kH];omega) x.frags;omega)) (.nil)))
theorem aN {τ:Tb} {l:Lf} {ls:List Lf} {vs:List PV} (h:CsOk τ (l::ls) vs):∃ v r,vs=v::r/\LfOk τ l v/\CsOk τ ls r:=by
 cases h with | cons h hs=>exact ⟨_,_,rfl,h,hs⟩
theorem aAu {τ:Tb} {vs:List PV} (h:CsOk τ [] vs):vs=[]:=by cases h;rfl
theorem kK {τ:Tb} {v:PV} (h:LfOk τ .str v):∃ s,v = .str s/\s.length<=topL:=by cases h with | str h=>exact ⟨_,rfl,h⟩
theorem oU {τ:Tb} {k:IntKind} {v:PV} (h:LfOk τ (.int k) v):∃ n,v = .int k n:=by cases h with | int k n=>exact ⟨_,rfl⟩
theorem aQ7 {τ:Tb} {v:PV} (h:LfOk τ .bool v):∃ b,v = .bool b:=by cases h with | bool b=>exact ⟨_,rfl⟩
theorem qQ {τ:Tb} {n ub:Nat} {o:Bool} {v:PV} (h:LfOk τ (.sl n ub o) v):∃ es,v = .slice es [] o/\(∀ e,e∈es->ElOk τ (elOf τ n) e)/\es.length<=ub:=by cases h with | sl h hl=>exact ⟨_,rfl,h,hl⟩
theorem cI {α:Type} {f:α->PV}:∀ {es:List PV},(∀ e,e∈es->∃ x,e=f x)->∃ l,es=List.map f l
 | [],_=>⟨[],rfl⟩
 | e::es,h=>by
  obtain ⟨x,rfl⟩:=h e (by simp)
  obtain ⟨l,rfl⟩:=cI (f:=f) (es:=es) (fun e he=>h e (by simp [he]))
  exact ⟨x::l,rfl⟩
theorem bDL {e:PV} (h:ElOk tτ ⟨false,[.str]⟩ e):∃ s,e=PV.str s:=by
 cases h with | one h=>obtain ⟨s,rfl,_⟩:=kK h;exact ⟨s,rfl⟩
theorem bHV {e:PV} (h:ElOk tτ (elOf tτ 15) e):∃ x,e=lC x:=by
 change ElOk tτ ⟨true,[.str,(.int .i64),(.int .i64)]⟩ e at h
 cases h with
 | ag hs =>
  obtain ⟨_,_,rfl,h0,hs1⟩:=aN hs
  obtain ⟨v0,rfl,_⟩:=kK h0
  obtain ⟨_,_,rfl,h1,hs2⟩:=aN hs1
  obtain ⟨v1,rfl⟩:=oU h1
  obtain ⟨_,_,rfl,h2,hs3⟩:=aN hs2
  obtain ⟨v2,rfl⟩:=oU h2
  cases aAu hs3
  exact ⟨⟨v0,v1,v2⟩,by rw [oF]⟩
theorem bJd:∀ n:Nat,(∀ e:PV,bS e<=n->ElOk tτ (elOf tτ 6) e->∃ x,e=aJ x)/\(∀ e:PV,bS e<=n->ElOk tτ (elOf tτ 7) e->∃ x,e=aD x):=by
 intro n
 induction n with
 | zero =>
  refine ⟨fun e hp => ?_,fun e hp => ?_⟩<;>(exfalso;cases e<;>simp only [bS] at hp<;>omega)
 | succ n ih =>
  obtain ⟨ihValue,ihMember⟩:=ih
  refine ⟨fun e hp h => ?_,fun e hp h => ?_⟩
  ·change ElOk tτ ⟨true,[(.int .i64),(.int .i64),.str,(.sl 6 1048576 false),(.sl 7 1048576 false)]⟩ e at h
   cases h with
   | ag hs =>
    obtain ⟨_,_,rfl,h0,hs1⟩:=aN hs
    obtain ⟨v0,rfl⟩:=oU h0
    obtain ⟨_,_,rfl,h1,hs2⟩:=aN hs1
    obtain ⟨v1,rfl⟩:=oU h1
    obtain ⟨_,_,rfl,h2,hs3⟩:=aN hs2
    obtain ⟨v2,rfl,_⟩:=kK h2
    obtain ⟨_,_,rfl,h3,hs4⟩:=aN hs3
    obtain ⟨es3,rfl,he3,_⟩:=qQ h3
    obtain ⟨_,_,rfl,h4,hs5⟩:=aN hs4
    obtain ⟨es4,rfl,he4,_⟩:=qQ h4
    cases aAu hs5
    obtain ⟨v3,rfl⟩:=cI (f:=aJ) (fun e he=>ihValue e (by have:=oD he;simp only [bS,eI] at hp;omega) (he3 e he))
    obtain ⟨v4,rfl⟩:=cI (f:=aD) (fun e he=>ihMember e (by have:=oD he;simp only [bS,eI] at hp;omega) (he4 e he))
    exact ⟨⟨v0,v1,v2,v3,v4⟩,by rw [gH]⟩
  ·change ElOk tτ ⟨true,[.str,(.int .i64),(.int .i64),.str,(.sl 6 1048576 false),(.sl 7 1048576 false)]⟩ e at h
   cases h with
   | ag hs =>
    obtain ⟨_,_,rfl,h0,hs1⟩:=aN hs
    obtain ⟨v0,rfl,_⟩:=kK h0
    obtain ⟨_,_,rfl,h1,hs2⟩:=aN hs1
    obtain ⟨v1,rfl⟩:=oU h1
    obtain ⟨_,_,rfl,h2,hs3⟩:=aN hs2
    obtain ⟨v2,rfl⟩:=oU h2
    obtain ⟨_,_,rfl,h3,hs4⟩:=aN hs3
    obtain ⟨v3,rfl,_⟩:=kK h3
    obtain ⟨_,_,rfl,h4,hs5⟩:=aN hs4
    obtain ⟨es4,rfl,he4,_⟩:=qQ h4
    obtain ⟨_,_,rfl,h5,hs6⟩:=aN hs5
    obtain ⟨es5,rfl,he5,_⟩:=qQ h5
    cases aAu hs6
    obtain ⟨v4,rfl⟩:=cI (f:=aJ) (fun e he=>ihValue e (by have:=oD he;simp only [bS,eI] at hp;omega) (he4 e he))
    obtain ⟨v5,rfl⟩:=cI (f:=aD) (fun e he=>ihMember e (by have:=oD he;simp only [bS,eI] at hp;omega) (he5 e he))
    exact ⟨⟨v0,⟨v1,v2,v3,v4,v5⟩⟩,by rw [lD]⟩
theorem aKc {e:PV} (h:ElOk tτ (elOf tτ 6) e):∃ x,e=aJ x:=(bJd (bS e)).1 e (Nat.le_refl _) h
theorem aGX {e:PV} (h:ElOk tτ (elOf tτ 7) e):∃ x,e=aD x:=(bJd (bS e)).2 e (Nat.le_refl _) h
theorem aYR {e:PV} (h:ElOk tτ (elOf tτ 5) e):∃ x,e=bB x:=by
 change ElOk tτ ⟨true,[.str,.str,(.int .i64),(.int .i64),.bool,(.int .i64),(.int .i64),.str,(.sl 6 1048576 false),(.sl 7 1048576 false)]⟩ e at h
 cases h with
 | ag hs =>
  obtain ⟨_,_,rfl,h0,hs1⟩:=aN hs
  obtain ⟨v0,rfl,_⟩:=kK h0
  obtain ⟨_,_,rfl,h1,hs2⟩:=aN hs1
  obtain ⟨v1,rfl,_⟩:=kK h1
  obtain ⟨_,_,rfl,h2,hs3⟩:=aN hs2
  obtain ⟨v2,rfl⟩:=oU h2
  obtain ⟨_,_,rfl,h3,hs4⟩:=aN hs3
  obtain ⟨v3,rfl⟩:=oU h3
  obtain ⟨_,_,rfl,h4,hs5⟩:=aN hs4
  obtain ⟨v4,rfl⟩:=aQ7 h4
  obtain ⟨_,_,rfl,h5,hs6⟩:=aN hs5
  obtain ⟨v5,rfl⟩:=oU h5
  obtain ⟨_,_,rfl,h6,hs7⟩:=aN hs6
  obtain ⟨v6,rfl⟩:=oU h6
  obtain ⟨_,_,rfl,h7,hs8⟩:=aN hs7
  obtain ⟨v7,rfl,_⟩:=kK h7
  obtain ⟨_,_,rfl,h8,hs9⟩:=aN hs8
  obtain ⟨es8,rfl,he8,_⟩:=qQ h8
  obtain ⟨_,_,rfl,h9,hs10⟩:=aN hs9
  obtain ⟨es9,rfl,he9,_⟩:=qQ h9
  cases aAu hs10
  obtain ⟨v8,rfl⟩:=cI (f:=aJ) (fun e he=>aKc (he8 e he))
  obtain ⟨v9,rfl⟩:=cI (f:=aD) (fun e he=>aGX (he9 e he))
  exact ⟨⟨v0,⟨v1,v2,v3⟩,v4,⟨v5,v6,v7,v8,v9⟩⟩,by rw [lF]⟩
theorem aYS {e:PV} (h:ElOk tτ (elOf tτ 8) e):∃ x,e=aI x:=by
 change ElOk tτ ⟨true,[.str,(.sl 7 1048576 false)]⟩ e at h
 cases h with
 | ag hs =>
  obtain ⟨_,_,rfl,h0,hs1⟩:=aN hs
  obtain ⟨v0,rfl,_⟩:=kK h0
  obtain ⟨_,_,rfl,h1,hs2⟩:=aN hs1
  obtain ⟨es1,rfl,he1,_⟩:=qQ h1
  cases aAu hs2
  obtain ⟨v1,rfl⟩:=cI (f:=aD) (fun e he=>aGX (he1 e he))
  exact ⟨⟨v0,v1⟩,by rw [sJ]⟩
theorem aXx {e:PV} (h:ElOk tτ (elOf tτ 4) e):∃ x,e=bL x:=by
 change ElOk tτ ⟨true,[.str,(.sl 5 1048576 false),.str,(.int .i64),(.int .i64),(.sl 8 1048576 false)]⟩ e at h
 cases h with
 | ag hs =>
  obtain ⟨_,_,rfl,h0,hs1⟩:=aN hs
  obtain ⟨v0,rfl,_⟩:=kK h0
  obtain ⟨_,_,rfl,h1,hs2⟩:=aN hs1
  obtain ⟨es1,rfl,he1,_⟩:=qQ h1
  obtain ⟨_,_,rfl,h2,hs3⟩:=aN hs2
  obtain ⟨v2,rfl,_⟩:=kK h2
  obtain ⟨_,_,rfl,h3,hs4⟩:=aN hs3
  obtain ⟨v3,rfl⟩:=oU h3
  obtain ⟨_,_,rfl,h4,hs5⟩:=aN hs4
  obtain ⟨v4,rfl⟩:=oU h4
  obtain ⟨_,_,rfl,h5,hs6⟩:=aN hs5
  obtain ⟨es5,rfl,he5,_⟩:=qQ h5
  cases aAu hs6
  obtain ⟨v1,rfl⟩:=cI (f:=bB) (fun e he=>aYR (he1 e he))
  obtain ⟨v5,rfl⟩:=cI (f:=aI) (fun e he=>aYS (he5 e he))
  exact ⟨⟨v0,v1,⟨v2,v3,v4⟩,v5⟩,by rw [fU]⟩
theorem bJe {e:PV} (h:ElOk tτ (elOf tτ 3) e):∃ x,e=aL x:=by
 change ElOk tτ ⟨true,[(.int .i64),.str,(.sl 0 1048576 false),(.sl 4 1048576 false),(.sl 0 1048576 false),(.sl 5 1048576 false)]⟩ e at h
 cases h with
 | ag hs =>
  obtain ⟨_,_,rfl,h0,hs1⟩:=aN hs
  obtain ⟨v0,rfl⟩:=oU h0
  obtain ⟨_,_,rfl,h1,hs2⟩:=aN hs1
  obtain ⟨v1,rfl,_⟩:=kK h1
  obtain ⟨_,_,rfl,h2,hs3⟩:=aN hs2
  obtain ⟨es2,rfl,he2,_⟩:=qQ h2
  obtain ⟨_,_,rfl,h3,hs4⟩:=aN hs3
  obtain ⟨es3,rfl,he3,_⟩:=qQ h3
  obtain ⟨_,_,rfl,h4,hs5⟩:=aN hs4
  obtain ⟨es4,rfl,he4,_⟩:=qQ h4
  obtain ⟨_,_,rfl,h5,hs6⟩:=aN hs5
  obtain ⟨es5,rfl,he5,_⟩:=qQ h5
  cases aAu hs6
  obtain ⟨v2,rfl⟩:=cI (f:=PV.str) (fun e he=>bDL (he2 e he))
  obtain ⟨v3,rfl⟩:=cI (f:=bL) (fun e he=>aXx (he3 e he))
  obtain ⟨v4,rfl⟩:=cI (f:=PV.str) (fun e he=>bDL (he4 e he))
  obtain ⟨v5,rfl⟩:=cI (f:=bB) (fun e he=>aYR (he5 e he))
  exact ⟨⟨v0,v1,v2,v3,v4,v5⟩,by rw [sK]⟩
theorem aMp {e:PV} (h:ElOk tτ (elOf tτ 2) e):∃ x,e=dG x:=by
 change ElOk tτ ⟨true,[(.sl 3 1048576 false),.str,.str]⟩ e at h
 cases h with
 | ag hs =>
  obtain ⟨_,_,rfl,h0,hs1⟩:=aN hs
  obtain ⟨es0,rfl,he0,_⟩:=qQ h0
  obtain ⟨_,_,rfl,h1,hs2⟩:=aN hs1
  obtain ⟨v1,rfl,_⟩:=kK h1
  obtain ⟨_,_,rfl,h2,hs3⟩:=aN hs2
  obtain ⟨v2,rfl,_⟩:=kK h2
  cases aAu hs3
  obtain ⟨v0,rfl⟩:=cI (f:=aL) (fun e he=>bJe (he0 e he))
  exact ⟨⟨v0,v1,v2⟩,by rw [jH]⟩
theorem bDM {e:PV} (h:ElOk tτ (elOf tτ 11) e):∃ x,e=aB x:=by
 change ElOk tτ ⟨true,[.str,.str,(.int .i64),(.int .i64),.bool,(.int .i64),(.int .i64),.str,(.sl 6 1048576 false),(.sl 7 1048576 false)]⟩ e at h
 cases h with
 | ag hs =>
  obtain ⟨_,_,rfl,h0,hs1⟩:=aN hs
  obtain ⟨v0,rfl,_⟩:=kK h0
  obtain ⟨_,_,rfl,h1,hs2⟩:=aN hs1
  obtain ⟨v1,rfl,_⟩:=kK h1
  obtain ⟨_,_,rfl,h2,hs3⟩:=aN hs2
  obtain ⟨v2,rfl⟩:=oU h2
  obtain ⟨_,_,rfl,h3,hs4⟩:=aN hs3
  obtain ⟨v3,rfl⟩:=oU h3
  obtain ⟨_,_,rfl,h4,hs5⟩:=aN hs4
  obtain ⟨v4,rfl⟩:=aQ7 h4
  obtain ⟨_,_,rfl,h5,hs6⟩:=aN hs5
  obtain ⟨v5,rfl⟩:=oU h5
  obtain ⟨_,_,rfl,h6,hs7⟩:=aN hs6
  obtain ⟨v6,rfl⟩:=oU h6
  obtain ⟨_,_,rfl,h7,hs8⟩:=aN hs7
  obtain ⟨v7,rfl,_⟩:=kK h7
  obtain ⟨_,_,rfl,h8,hs9⟩:=aN hs8
  obtain ⟨es8,rfl,he8,_⟩:=qQ h8
  obtain ⟨_,_,rfl,h9,hs10⟩:=aN hs9
  obtain ⟨es9,rfl,he9,_⟩:=qQ h9
  cases aAu hs10
  obtain ⟨v8,rfl⟩:=cI (f:=aJ) (fun e he=>aKc (he8 e he))
  obtain ⟨v9,rfl⟩:=cI (f:=aD) (fun e he=>aGX (he9 e he))
  exact ⟨⟨v0,⟨v1,v2,v3⟩,v4,⟨v5,v6,v7,v8,v9⟩⟩,by rw [dV]⟩
theorem bHW:∀ n:Nat,∀ e:PV,bS e<=n->ElOk tτ (elOf tτ 12) e->∃ x,e=aF x:=by
 intro n
 induction n with
 | zero =>
  intro e hp
  exfalso;cases e<;>simp only [bS] at hp<;>omega
 | succ n ihSel =>
  intro e hp h
  change ElOk tτ ⟨true,[(.int .i64),.str,.str,(.sl 7 1048576 false),(.sl 8 1048576 false),.str,(.sl 12 1048576 false)]⟩ e at h
  cases h with
  | ag hs =>
   obtain ⟨_,_,rfl,h0,hs1⟩:=aN hs
   obtain ⟨v0,rfl⟩:=oU h0
   obtain ⟨_,_,rfl,h1,hs2⟩:=aN hs1
   obtain ⟨v1,rfl,_⟩:=kK h1
   obtain ⟨_,_,rfl,h2,hs3⟩:=aN hs2
   obtain ⟨v2,rfl,_⟩:=kK h2
   obtain ⟨_,_,rfl,h3,hs4⟩:=aN hs3
   obtain ⟨es3,rfl,he3,_⟩:=qQ h3
   obtain ⟨_,_,rfl,h4,hs5⟩:=aN hs4
   obtain ⟨es4,rfl,he4,_⟩:=qQ h4
   obtain ⟨_,_,rfl,h5,hs6⟩:=aN hs5
   obtain ⟨v5,rfl,_⟩:=kK h5
   obtain ⟨_,_,rfl,h6,hs7⟩:=aN hs6
   obtain ⟨es6,rfl,he6,_⟩:=qQ h6
   cases aAu hs7
   obtain ⟨v3,rfl⟩:=cI (f:=aD) (fun e he=>aGX (he3 e he))
   obtain ⟨v4,rfl⟩:=cI (f:=aI) (fun e he=>aYS (he4 e he))
   obtain ⟨v6,rfl⟩:=cI (f:=aF) (fun e he=>ihSel e (by have:=oD he;simp only [bS,eI] at hp;omega) (he6 e he))
   exact ⟨⟨v0,v1,v2,v3,v4,v5,v6⟩,by rw [sL]⟩
theorem aYT {e:PV} (h:ElOk tτ (elOf tτ 12) e):∃ x,e=aF x:=bHW (bS e) e (Nat.le_refl _) h
theorem bJU {e:PV} (h:ElOk tτ (elOf tτ 10) e):∃ x,e=aR x:=by
 change ElOk tτ ⟨true,[(.int .i64),.str,(.sl 11 1048576 false),(.sl 8 1048576 false),(.sl 12 1048576 false)]⟩ e at h
 cases h with
 | ag hs =>
  obtain ⟨_,_,rfl,h0,hs1⟩:=aN hs
  obtain ⟨v0,rfl⟩:=oU h0
  obtain ⟨_,_,rfl,h1,hs2⟩:=aN hs1
  obtain ⟨v1,rfl,_⟩:=kK h1
  obtain ⟨_,_,rfl,h2,hs3⟩:=aN hs2
  obtain ⟨es2,rfl,he2,_⟩:=qQ h2
  obtain ⟨_,_,rfl,h3,hs4⟩:=aN hs3
  obtain ⟨es3,rfl,he3,_⟩:=qQ h3
  obtain ⟨_,_,rfl,h4,hs5⟩:=aN hs4
  obtain ⟨es4,rfl,he4,_⟩:=qQ h4
  cases aAu hs5
  obtain ⟨v2,rfl⟩:=cI (f:=aB) (fun e he=>bDM (he2 e he))
  obtain ⟨v3,rfl⟩:=cI (f:=aI) (fun e he=>aYS (he3 e he))
  obtain ⟨v4,rfl⟩:=cI (f:=aF) (fun e he=>aYT (he4 e he))
  exact ⟨⟨v0,v1,v2,v3,v4⟩,by rw [rU]⟩
theorem bHX {e:PV} (h:ElOk tτ (elOf tτ 13) e):∃ x,e=aH x:=by
 change ElOk tτ ⟨true,[.str,.str,(.sl 8 1048576 false),(.sl 12 1048576 false)]⟩ e at h
 cases h with
 | ag hs =>
  obtain ⟨_,_,rfl,h0,hs1⟩:=aN hs
  obtain ⟨v0,rfl,_⟩:=kK h0
  obtain ⟨_,_,rfl,h1,hs2⟩:=aN hs1
  obtain ⟨v1,rfl,_⟩:=kK h1
  obtain ⟨_,_,rfl,h2,hs3⟩:=aN hs2
  obtain ⟨es2,rfl,he2,_⟩:=qQ h2
  obtain ⟨_,_,rfl,h3,hs4⟩:=aN hs3
  obtain ⟨es3,rfl,he3,_⟩:=qQ h3
  cases aAu hs4
  obtain ⟨v2,rfl⟩:=cI (f:=aI) (fun e he=>aYS (he2 e he))
  obtain ⟨v3,rfl⟩:=cI (f:=aF) (fun e he=>aYT (he3 e he))
  exact ⟨⟨v0,v1,v2,v3⟩,by rw [oG]⟩
theorem bDN {e:PV} (h:ElOk tτ (elOf tτ 9) e):∃ x,e=mU x:=by
 change ElOk tτ ⟨true,[(.sl 10 1048576 false),(.sl 13 1048576 false)]⟩ e at h
 cases h with
 | ag hs =>
  obtain ⟨_,_,rfl,h0,hs1⟩:=aN hs
  obtain ⟨es0,rfl,he0,_⟩:=qQ h0
  obtain ⟨_,_,rfl,h1,hs2⟩:=aN hs1
  obtain ⟨es1,rfl,he1,_⟩:=qQ h1
  cases aAu hs2
  obtain ⟨v0,rfl⟩:=cI (f:=aR) (fun e he=>bJU (he0 e he))
  obtain ⟨v1,rfl⟩:=cI (f:=aH) (fun e he=>bHX (he1 e he))
  exact ⟨⟨v0,v1⟩,by rw [sM]⟩
def aYU:Summ:=sv1 [E10'] [⟨false,[.sl 1 1073741824 false]⟩,E2']
def aOH:Summ:=sv1 [E10'] [E6',E6']
def aYV:Summ:=sv2 [E0',E11',E1',E2'] [E2']
def aYW:Summ:=sv2 [E0'] [E2']
def bDO:Summ:=sv2 [E1',⟨false,[.sl 0 16777216 true]⟩] [⟨false,[.sl 0 16777216 true]⟩]
def aD0:Summ:=sv2 [E0',E3'] [⟨false,[.sl 16 4194304 false]⟩]
def aQ8:Summ:=sv2 [E3',⟨false,[.sl 12 16777216 false]⟩] [E7']
def bDP:Summ:=sv2 [E3',⟨false,[.sl 12 16777216 false]⟩] [E7']
theorem bG2 {α β:Type} p (g:α->β):∀ l:List α,(l.any p=true/\∃ x,l.findSome? (fun x=>bif p x then some (g x) else none)=some (g x))∨(l.any p=false/\l.findSome? (fun x=>bif p x then some (g x) else none)=none)
 | []=>by simp
 | x::l=>by
  rw [List.findSome?_cons,List.any_cons];cases a:p x;· simpa using bG2 p g l
  grind
def hasM (name:Str) (l:List GMember):Bool:=l.any fun x=>x.name==name
theorem bDQ a l (i : Sm l) : ∃ v, aYJ a l = some (v, hasM a l) := by
 have h := aCf (b := vA a l) l (fun x => bif x.name == a then some (.inr (x.v.kind, x.v.n, x.v.s, x.v.l, x.v.m)) else none) (.inl ()) i (by simp [vA])
  (fun k x c g f e => by
   simp only [vA, g, f, e, bV];cases x.name == a <;> rfl)
 rcases bG2 (fun x  => x.name == a) (fun x => (.inr (x.v.kind, x.v.n, x.v.s, x.v.l, x.v.m) : Unit ⊕ (Int × Int × Str × (List GValue) × (List GMember)))) l with ⟨d, x, c⟩ | ⟨d, c⟩;· refine ⟨x.v, aOz (r := (x.v, hasM a l)) ?_⟩;simp [aGO, h, c, hasM, d];obtain ⟨j, ⟨_, _, _, _, _⟩⟩ := x; rfl
 refine ⟨GValue.mk 0 0 [] [] [], aOz (r := (GValue.mk 0 0 [] [] [], hasM a l)) ?_⟩;simp [aGO, h, c, hasM, d]
def Nr (p b:Nat):Prop:=p<=b/\b<=2*p
theorem psl {α} {enc:α->PV} {bk}:∀ {l},(∀ x∈l,Nr (bS (enc x)) (bk x))->eI (l.map enc)<=sumL bk l/\sumL bk l<=2*eI (l.map enc)
 | [],_=>by simp [eI,sumL]
 | x::l,h=>by
  have a:=h x (by simp);have c:=psl (l:=l) (fun y b=>h y (by grind));unfold Nr at a;simp [eI,sumL];omega
theorem bJV (s:Str):Nr (bS (PV.str s)) (dM s):=by unfold Nr;rw [bK];simp [bS];omega
theorem bDR l:eI (l.map PV.str)<=sumL dM l/\sumL dM l<=2*eI (l.map PV.str):=psl fun x _=>bJV x
theorem aYX x:Nr (bS (lC x)) (aCl x):=by
 unfold Nr;rw [oF,lH];simp [bS,eI,bk1,bK];omega
theorem psVM:∀ n,(∀ x,cR x<=n->Nr (bS (aJ x)) (cR x))/\(∀ x,aY x<=n->Nr (bS (aD x)) (aY x)):=by
 intro n;induction n with
 | zero=>exact ⟨fun x h=>by rw [cL] at h;omega,fun x h=>by rw [dE] at h;omega⟩
 | succ n f =>
  obtain ⟨a,e⟩:=f;refine ⟨fun x c => ?_,fun x c => ?_⟩;· rw [cL] at c;simp [bkSl] at c;have b:=psl (l:=x.l) (enc:=aJ) (bk:=cR) (fun y d=>a y (by have:=fR cR d;omega));have g:=psl (l:=x.m) (enc:=aD) (bk:=aY) (fun y d=>e y (by have:=fR aY d;omega));unfold Nr;rw [gH,cL];simp [bS,eI,bkSl,bk1,bK];omega
  rw [dE] at c;have b:=a x.v (by omega);unfold Nr at b ⊢;rw [gH] at b;rw [lD,dE];simp [bS,eI,bK] at b ⊢;omega
theorem aQ9 x:Nr (bS (aJ x)) (cR x):=(psVM _).1 x (Nat.le_refl _)
theorem aYY x:Nr (bS (aD x)) (aY x):=(psVM _).2 x (Nat.le_refl _)
theorem bFw x:Nr (bS (aI x)) (fD x):=by
 have a:=psl (l:=x.args) (fun y _=>aYY y);unfold Nr;rw [sJ,jS];simp [bS,eI,bkSl,bK];omega
theorem bDS x:Nr (bS (bB x)) (kT x):=by
 have b:=aYX x.t;have a:=aQ9 x.default;unfold Nr at b a ⊢;rw [gH] at a;rw [lF,rC,lH];simp [bS,eI,bk1,bK] at b a ⊢;omega
theorem bBh x:Nr (bS (bL x)) (iY x):=by
 have a:=aYX x.t;have c:=psl (l:=x.params) (fun y _=>bDS y);have b:=psl (l:=x.dirs) (fun y _=>bFw y);unfold Nr at a ⊢;rw [oF] at a;rw [fU,mC];simp [bS,eI,bkSl,bK] at a ⊢;omega
theorem bJW x:Nr (bS (aL x)) (aLa x):=by
 have d:=psl (l:=x.fields) (fun y _=>bBh y);have c:=psl (l:=x.params) (fun y _=>bDS y);have b:=bDR x.faces;have a:=bDR x.parts;unfold Nr;rw [sK,pP];simp [bS,eI,bkSl,bk1,bK];omega
theorem aGY x:Nr (bS (dG x)) (jT x):=by
 have a:=psl (l:=x.defs) (fun y _=>bJW y);unfold Nr;rw [jH,nK];simp [bS,eI,bkSl,bK];omega
theorem bFx x:Nr (bS (aB x)) (dZ x):=by
 have b:=aYX x.t;have a:=aQ9 x.default;unfold Nr at b a ⊢;rw [gH] at a;rw [dV,fE,lH];simp [bS,eI,bk1,bK] at b a ⊢;omega
theorem bJf:∀ n,∀ x,gI x<=n->Nr (bS (aF x)) (gI x):=by
 intro n;induction n with
 | zero=>intro x h;rw [gO] at h;omega
 | succ n c =>
  intro x a;rw [gO] at a;simp [bkSl] at a;have f:=psl (l:=x.sels) (enc:=aF) (bk:=gI) (fun y b=>c y (by have:=fR gI b;omega));have e:=psl (l:=x.args) (fun y _=>aYY y);have d:=psl (l:=x.dirs) (fun y _=>bFw y);unfold Nr;rw [sL,gO];simp [bS,eI,bkSl,bk1,bK];omega
theorem bFy x:Nr (bS (aF x)) (gI x):=bJf _ x (Nat.le_refl _)
theorem psOp x:Nr (bS (aR x)) (bkOp x):=by
 have c:=psl (l:=x.vars) (fun y _=>bFx y);have b:=psl (l:=x.dirs) (fun y _=>bFw y);have a:=psl (l:=x.sels) (fun y _=>bFy y);unfold Nr;rw [rU,lI];simp [bS,eI,bkSl,bk1,bK];omega
theorem bJg x:Nr (bS (aH x)) (gQ x):=by
 have b:=psl (l:=x.dirs) (fun y _=>bFw y);have a:=psl (l:=x.sels) (fun y _=>bFy y);unfold Nr;rw [oG,kH];simp [bS,eI,bkSl,bK];omega
theorem bDT x:Nr (bS (mU x)) (fO x):=by
 have b:=psl (l:=x.ops) (fun y _=>psOp y);have a:=psl (l:=x.frags) (fun y _=>bJg y);unfold Nr;rw [sM,pQ];simp [bS,eI,bkSl];omega
theorem nY {τ} {e es vs} (h:ElsOk τ (e::es) vs):∃ v r,vs=v::r/\ElOk τ e v/\ElsOk τ es r:=by
 cases h with | cons h a=>grind
theorem aI1 {τ} {vs} (h:ElsOk τ [] vs):vs=[]:=by cases h;rfl
theorem bHY {v} (h:ElOk tτ ⟨false,[.bool]⟩ v):∃ b,v = .bool b:=by cases h with | one h=>exact aQ7 h
theorem bG3 {v} (h:ElOk tτ ⟨false,[.str]⟩ v):∃ s,v = .str s/\s.length<=topL:=by cases h with | one h=>exact kK h
theorem bHZ {n a o v} (h:ElOk tτ ⟨false,[.sl n a o]⟩ v):∃ es,v = .slice es [] o/\(∀ e,e∈es->ElOk tτ (elOf tτ n) e)/\es.length<=a:=by cases h with | one h=>exact qQ h
theorem tX {a args} (h:aVv a args) (b:a.cap=2097152) {v} (hv:v∈args):bS v<=2097152:=by
 rcases h with h | h;all_goals grind
def TN (t:GType):Prop:=t.name.length<4611686018427387904
theorem bH0 t (h:TN t):Tt (fun b=>b=true->0<=t.lists/\t.lists<=4) (sO t):=by
 have:Tt (fun b=>b=true->0<=t.lists/\t.lists<=4) (sA t):=by
  refine Tt.eq (bBb _ h) (Tt.cnd (fun _ => ?_) fun _=>Tt.ret (by simp));refine Tt.cnd (fun c => ?_) fun _=>Tt.ret (by simp);refine Tt.cnd (fun a => ?_) fun _=>Tt.ret (by simp);refine Tt.cnd (fun j => ?_) fun _=>Tt.ret (by simp);simp at c a;have e:IntKind.wrap .u64 t.lists=t.lists:=by rw [wu];omega
  have g:∃ y,tshl .i64 2 t.lists=some y:=by
   unfold tshl;simp_all
  obtain ⟨y,d⟩:=g;rw [e];exact Tt.eq d (Tt.ret fun _=>⟨c,a⟩)
 obtain ⟨b,f,i⟩:=this;exact ⟨b,aJv f,i⟩
theorem bJX t (h:TN t):Te (bHR t):=by
 have:Te (aQP t):=Tt.bnd (bH0 t h) fun b _=>Tt.cnd (fun _=>Tt.ret trivial) fun _=>Tt.ret trivial;obtain ⟨b,a,c⟩:=this;exact ⟨b,bDA a,c⟩
theorem bH1 t (h:TN t):Tt (fun r=>TN r.1/\(r.2=true->r.1.lists.toNat<t.lists.toNat)) (aVK t):=by
 have:Tt (fun r  => TN r.1/\(r.2=true->r.1.lists.toNat<t.lists.toNat)) (aGH t):=by
  refine Tt.bnd (bH0 t h) fun b a=>Tt.cnd (fun _=>Tt.ret ⟨by unfold TN;simp,by simp⟩) fun c => ?_;have c:b=true:=by grind
  have f:=a c;refine Tt.cnd (fun _=>Tt.ret ⟨by unfold TN;simp,by simp⟩) fun d=>Tt.ret ⟨h,fun _ => ?_⟩;have d:t.lists≠0:=by grind
  show (IntKind.wrap .i64 (t.lists-1)).toNat<_;rw [wi (by omega)];omega
 obtain ⟨b,a,e⟩:=this;exact ⟨b,aWJ a,e⟩
theorem bFz l n (i:Sm l):Tt (fun r=>r.2=true->r.1∈l) (aPQ l n):=by
 have:Tt (fun r  => r.2=true->r.1∈l) (aDT l n):=by
  refine Tt.bnd (Q:=fun o=>Ev.elim o (fun _=>True) fun q=>GParam.mk q.1 (GType.mk q.2.1 q.2.2.1 q.2.2.2.1) q.2.2.2.2.1 (GValue.mk q.2.2.2.2.2.1 q.2.2.2.2.2.2.1 q.2.2.2.2.2.2.2.1 q.2.2.2.2.2.2.2.2.1 q.2.2.2.2.2.2.2.2.2)∈l) (Tt.idx l.length i fun k d s => ?_) fun o u=>Tt.elim (fun a e=>Tt.ret (by simp)) fun a e=>Tt.ret fun _=>by simp_all
  refine Tt.cnd (fun c=>Tt.nth ⟨d,aBB c⟩ fun x m e => ?_) fun _=>Tt.ret (Ix.r trivial);refine Tt.cnd (fun _=>Tt.nth ⟨d,aBB c⟩ fun y f t=>Tt.ret (Ix.r ?_)) fun _=>Tt.ret (Ix.l c);obtain ⟨p,⟨_,_,_⟩,g,⟨_,_,_,_,_⟩⟩:=y;exact f
 obtain ⟨b,h,j⟩:=this;exact ⟨b,aTL h,j⟩
theorem bJh n m (a:Sm m):Te (aYJ n m):=by
 obtain ⟨v,hv⟩:=bDQ n m a;exact ⟨_,hv,trivial⟩
theorem SOk.params {s} (h:SOk s) {d} (a:d∈s.defs):bkSl kT d.params<1073741824:=by
 have:=h.def_bk a;rw [pP] at this;omega
theorem bH2 {α} {bk:α->Nat} {l} (a:∀ x,1<=bk x) (h:bkSl bk l<1073741824):Sm l:=by
 have:=pJ bk a l;unfold bkSl at h;omega
theorem aYZ {l} (h:bkSl kT l<1073741824) {p} (a:p∈l):TN p.t:=by
 have:=fR kT a;unfold bkSl at h;rw [rC,lH] at this;unfold TN;rw [bK,bK] at this;omega
theorem aY0 s l m (j:bkSl kT l<1073741824) (n:Sm m) (u:∀ x∈m,∀ t,TN t->Te (xK s t x.v true)):Te (aDF s l m):=by
 have d:=bH2 aMj j;have:Te (aDP s l m):=by
  refine Tt.bnd (Q:=fun _=>True) (Tt.idx m.length n fun i c w => ?_) fun o _=>Tt.elim (fun _ _=>Tt.bnd (Q:=fun _=>True) (Tt.idx l.length d fun i c w => ?_) fun o _=>Tt.elim (fun _ _=>Tt.ret trivial) fun _ _=>Tt.ret trivial) fun _ _=>Tt.ret trivial;· refine Tt.cnd (fun a=>Tt.nth ⟨c,aBB a⟩ fun x C e => ?_) fun _=>Tt.ret (Ix.r trivial);refine Tt.bnd (bFz l x.name d) fun p q=>Tt.cnd (fun _=>Tt.ret (Ix.r trivial)) fun B => ?_;refine Tt.nth ⟨c,aBB a⟩ fun y h e=>Tt.bnd (u y h _ (aYZ j (by grind))) fun b _ => ?_;refine Tt.cnd (fun _=>Tt.ret (Ix.r trivial)) fun _=>Tt.bnd (Q:=fun _=>True) (Tt.idx i.toNat (by omega) fun k z D => ?_) fun o _=>Tt.elim (fun _ _=>Tt.ret (Ix.l a)) fun _ _=>Tt.ret (Ix.r trivial);have f:=aBB a;refine Tt.cnd (fun E => ?_) fun _=>Tt.ret (Ix.r trivial);refine Tt.nth ⟨z,by omega⟩ fun x _ _=>Tt.nth ⟨c,f⟩ fun y _ _=>Tt.cnd (fun _=>Tt.ret (Ix.r trivial)) fun _=>Tt.ret (Ix.l (by grind))
  refine Tt.cnd (fun a => ?_) fun _=>Tt.ret (Ix.r trivial);have f:=aBB a;refine Tt.nth ⟨c,f⟩ fun x _ _=>Tt.bnd (bJh _ m n) fun g _=>Tt.cnd (fun _=>Tt.nth ⟨c,f⟩ fun y h _=>Tt.bnd (bJX _ (aYZ j h)) fun b _ => ?_) fun _=>Tt.ret (Ix.l a);exact Tt.cnd (fun _=>Tt.nth ⟨c,f⟩ fun y h _=>Tt.cnd (fun _=>Tt.ret (Ix.r trivial)) fun _=>Tt.ret (Ix.l a)) fun _=>Tt.ret (Ix.l a)
 obtain ⟨b,A,q⟩:=this;exact ⟨b,aTr A,q⟩
theorem bFA s (h:SOk s):∀ n v,cR v<=n->n<1073741824->∀ k t al,TN t->t.lists.toNat<=k->Te (xK s t v al):=by
 intro n;induction n with
 | zero=>intro v hv;rw [cL] at hv;omega
 | succ n ihn =>
  intro v hv D k;have f:∀ x∈v.l,cR x<=n:=fun x hx=>by have:=fR cR hx;rw [cL] at hv;simp [bkSl] at hv;omega
  have hvm:∀ x∈v.m,cR x.v<=n:=fun x hx=>by have:=fR aY hx;rw [dE] at this;rw [cL] at hv;simp [bkSl] at hv;omega
  have hpos:∀ x,1<=cR x:=fun x=>by rw [cL];omega
  have a:Sm v.l:=bH2 hpos (by rw [cL] at hv;omega);have hsm:Sm v.m:=bH2 aC5 (by rw [cL] at hv;omega);have c:∀ x,x∈s.defs->Te (aDF s x.params v.m):=fun x hx=>aY0 s x.params v.m (h.params hx) hsm fun y hy t ht=>ihn y.v (hvm y hy) (by omega) _ t true ht (Nat.le_refl _);have hfind:∀ n,Tt (fun r=>Te (aDF s r.1.params v.m)/\Sm r.1.parts) (aAN s n):=fun n=>by
   refine ⟨_,aDY s n h.sm,?_,by have:=h.partsF n;omega⟩;rcases aC6 s n with hx | ⟨_,_,_,e⟩;· exact c _ hx
   rw [e];exact aY0 s [] v.m (by simp [bkSl,sumL]) hsm fun y hy t ht=>ihn y.v (hvm y hy) (by omega) _ t true ht (Nat.le_refl _)
  have leaf:∀ n,Te (cnd (n==([73,110,116]:Str)) (cnd (v.kind==2) (cnd (decide (v.n≥(-2147483648))) (some (decide (v.n<=2147483647))) (some false)) (some false)) (cnd (n==([83,116,114,105,110,103]:Str)) (some (v.kind==4)) (cnd (n==([66,111,111,108,101,97,110]:Str)) (some (v.kind==1)) (cnd (n==([73,68]:Str)) (cnd (v.kind==4) (some true) (some (v.kind==2))) (bnd (aAN s n) fun y21=>cnd (y21.1.kind==4) (cnd (v.kind==5) (bnd (xJ y21.1.parts v.s) fun g=>some g) (some false)) (cnd (y21.1.kind==5) (cnd (v.kind==7) (bnd (aDF s y21.1.params v.m) fun j=>some j) (some false)) (some false))))))):=fun n=>by
   refine Tt.cnd (fun _=>Tt.cnd (fun _=>Tt.cnd (fun _=>Tt.ret trivial) fun _=>Tt.ret trivial) fun _=>Tt.ret trivial) fun _=>Tt.cnd (fun _=>Tt.ret trivial) fun _=>Tt.cnd (fun _=>Tt.ret trivial) fun _=>Tt.cnd (fun _=>Tt.cnd (fun _=>Tt.ret trivial) fun _=>Tt.ret trivial) fun _=>Tt.bnd (hfind n) fun r p => ?_;exact Tt.cnd (fun _=>Tt.cnd (fun _=>Tt.eq (mY _ _ p.2) (Tt.ret trivial)) fun _=>Tt.ret trivial) fun _=>Tt.cnd (fun _=>Tt.cnd (fun _=>Tt.bnd p.1 fun _ _=>Tt.ret trivial) fun _=>Tt.ret trivial) fun _=>Tt.ret trivial
  have list1:∀ y4,TN y4.1->Te (aX (xP s v y4) 0):=fun y4 ht=>by
   refine Tt.idx v.l.length a fun i A E => ?_;refine Tt.cnd (fun q=>Tt.nth ⟨A,aBB q⟩ fun x hx _=>Tt.bnd (ihn x (f x hx) (by omega) _ y4.1 false ht (Nat.le_refl _)) fun b _=>Tt.cnd (fun _=>Tt.ret (Ix.r trivial)) fun _=>Tt.ret (Ix.l q)) fun _=>Tt.ret (Ix.r trivial)
  have u:∀ t al,TN t->(∀ t',TN t'->t'.lists.toNat<t.lists.toNat->Te (xK s t' v true))->Te (xK s t v al):=fun t al ht hrec=>by
   have:Te (aDK s t v al):=by
    refine Tt.bnd (bH0 t ht) fun b _=>Tt.cnd (fun _=>Tt.ret trivial) fun _=>Tt.cnd (fun _=>Tt.ret trivial) fun _=>Tt.cnd (fun _=>Tt.ret trivial) fun _=>Tt.bnd (bH1 t ht) fun y4 hy => ?_;refine Tt.jn (fun k=>∀ t,Te (k t)) (fun _ => ?_) fun k d => ?_;· exact Tt.cnd (fun _=>Tt.bnd (list1 _ hy.1) fun o _=>Tt.elim (fun _ _=>Tt.ret trivial) fun _ _=>Tt.ret trivial) fun _=>leaf _
    exact Tt.cnd (fun w=>Tt.cnd (fun _=>Tt.cnd (fun _=>Tt.bnd (hrec _ hy.1 (hy.2 w)) fun _ _=>Tt.ret trivial) fun _=>Tt.ret trivial) fun _=>d _) fun _=>d _
   obtain ⟨b,B,C⟩:=this;exact ⟨b,aSX B,C⟩
  induction k with
  | zero=>exact fun t al ht d=>by grind
  | succ k z=>grind
theorem bFB:Ds 192 aYV:=by
 intro args a c;obtain ⟨v0,u,rfl,g,a⟩:=nY a;obtain ⟨q,o,rfl,k,a⟩:=nY a;obtain ⟨w,m,rfl,i,a⟩:=nY a;obtain ⟨v3,p,rfl,e,a⟩:=nY a;cases aI1 a;obtain ⟨s,rfl⟩:=aMp g;obtain ⟨t,rfl⟩:=bHV k;obtain ⟨v,rfl⟩:=aKc i;obtain ⟨b,rfl⟩:=bHY e;have ps:=tX c rfl (v:=dG s) (by simp);have l:=tX c rfl (v:=lC t) (by simp);have n:=tX c rfl (v:=aJ v) (by simp);have j:=aGY s;have d:=aYX t;have h:=aQ9 v;unfold Nr at j d h;obtain ⟨r,f,_⟩:=bFA s ⟨by omega⟩ _ v (Nat.le_refl _) (by omega) _ t b (by rw [lH,bK] at d;unfold TN;omega) (Nat.le_refl _);exact ⟨.bool r,by simp [tys];exact bA (enc:=fun r=>(PV.bool r,[])) f,.one (.bool r)⟩
theorem bH3 {s:Str} {i n} (h:decide (n>IntKind.wrap .i64 ((List.length s:Int)-i))=false) (m:s.length<=1073741824) (g:0<=i) (f:i<s.length) {F:Int->UInt8->Int} {p q:UInt8->Bool} {b:Int×Int->Option ((Int×Int)⊕(Int⊕Unit))}
  (a:∀ c k,b (c,k)=cnd (decide (k<n)) (bnd (nthI s (IntKind.wrap .i64 (i+k))) fun y=>cnd (p y) (some (.inr (.inr ()))) (cnd (q y) (some (.inr (.inr ()))) (some (.inl (F c y,IntKind.wrap .i64 (k+1)))))) (some (.inr (.inl c)))) c:Te (aX b (c,1)):=by
 rw [wi (by omega)] at h;have o:n<=s.length-i:=by grind
 refine Tt.loop (fun st  => 1<=st.2) (fun st  => (n-st.2).toNat) (fun st e => ?_) (by simp);obtain ⟨c,k⟩:=st;rw [a];refine Tt.cnd (fun d => ?_) fun _=>Tt.ret (Nx.r trivial);have j:=aBB d;rw [wi (n:=i+k) (by omega)];refine Tt.nth (by omega) fun y _ _=>Tt.cnd (fun _=>Tt.ret (Nx.r trivial)) fun _=>Tt.cnd (fun _=>Tt.ret (Nx.r trivial)) fun _=>Tt.ret (Nx.l ?_ ?_);· rw [wi (by omega)];omega
 rw [wi (by omega)];omega
theorem bH4 s (h:s.length<=1073741824) i:Tt (fun r=>0<=r.2/\r.2<=4) (aVL s i):=by
 have:Tt (fun r  => 0<=r.2/\r.2<=4) (aGJ s i):=by
  refine Tt.cnd (fun _=>Tt.ret (by decide)) fun f=>Tt.cnd (fun _=>Tt.ret (by decide)) fun e => ?_;have f:0<=i:=by grind
  have e:i<s.length:=by grind
  refine Tt.nth ⟨f,e⟩ fun y _ _=>Tt.cnd (fun _=>Tt.ret (show 0<=(1:Int)/\(1:Int)<=4 by decide)) fun _ => ?_;refine Tt.jn (fun k=>∀ c n a t g d,0<=n->n<=4->Tt (fun r  => 0<=r.2/\r.2<=4) (k c n a t g d)) (fun c n a _ _ _ m j => ?_) fun k u => ?_
  ·refine Tt.cnd (fun _=>Tt.ret (by decide)) fun l=>Tt.bnd (bH3 l h f e (fun _ _=>rfl) _) fun o _=>Tt.elim (fun _ _ => ?_) fun _ _=>Tt.ret (by decide);repeat' first
    | exact Tt.ret ⟨m,j⟩
    | exact Tt.ret (by decide)
    | (refine Tt.cnd (fun _ => ?_) (fun _ => ?_))
  repeat' first
   | exact Tt.ret (by decide)
   | exact by grind
   | (refine Tt.cnd (fun _ => ?_) (fun _ => ?_))
 obtain ⟨b,p,q⟩:=this;exact ⟨b,aWS p,q⟩
theorem bFC s (h:s.length<=1073741824):Tt (fun r=>r.1.length<=1073741824) (aYH s):=by
 have:Tt (fun r  => r.1.length<=1073741824) (aDL s):=by
  refine Tt.bnd (Q:=fun o=>Ev.elim o (fun l=>l.length<=1073741824) fun _=>True) (Tt.loop (fun st:List Int×Int=>0<=st.2/\st.1.length<=st.2/\st.2<=s.length+4/\st.1.length<=s.length) (fun st  => (s.length+4-st.2).toNat) (fun st d => ?_) (by grind)) fun o w=>Tt.elim (fun a e=>Tt.ret (by simp_all)) fun _ _=>Tt.ret (by simp);obtain ⟨c,i⟩:=st;obtain ⟨k,g,m,q⟩:=d;simp at k g m q;refine Tt.cnd (fun j => ?_) fun _=>Tt.ret (Nx.r (show c.length<=1073741824 by omega));have v:=aBB j;refine Tt.bnd (bH4 s h i) fun y u=>Tt.cnd (fun _=>Tt.ret (Nx.r trivial)) fun f => ?_;have f:y.2≠0:=by grind
  refine Tt.app (by grind) (Tt.ret ?_);rw [wi (n:=i+y.2) (by omega)];refine Nx.l (by grind) ?_;omega
 obtain ⟨b,p,t⟩:=this;exact ⟨b,aS1 p,t⟩
theorem bH5 {l:List Int}:∀ e,e∈l.map (PV.int .i64)->ElOk tτ (elOf tτ 1) e:=by
 intro e a;obtain ⟨x,_,rfl⟩:=List.mem_map.1 a;exact .one (.int _ _)
theorem aUa s (g:s.length<=1073741824) (i:Int) (h:0<=i/\i<=s.length):Tt (fun n=>0<=n/\i+n<=s.length) (aCt s i):=by
 have:Tt (fun n=>0<=n/\i+n<=s.length) (aJ4 s i):=by
  refine Tt.bnd (Q:=fun n=>0<=n/\i+n<=s.length) (Tt.loop (fun n  => 0<=n/\i+n<=s.length) (fun n  => (s.length-n).toNat) (fun n a => ?_) (by omega)) fun n a=>Tt.ret a;unfold aDQ;dsimp;rw [wi (n:=i+n) (by omega)];refine Tt.cnd (fun d => ?_) fun _=>Tt.ret (Nx.r a);have f:=aBB d;refine Tt.nth (by omega) fun y _ _=>Tt.eq (aMf _) (Tt.cnd (fun _=>Tt.ret ?_) fun _=>Tt.ret (Nx.r a));rw [wi (n:=n+1) (by omega)];exact Nx.l (by omega) (by omega)
 obtain ⟨b,c,e⟩:=this;exact ⟨b,bAU c,e⟩
theorem bBi s (hs:s.length<=1073741824):Te (aOy s):=by
 have kloop:∀ (k:Int) z,0<=k->k<=s.length->Te z->Te (bnd (aCt s k) fun y39=>cnd (decide (y39>0)) (bnd (aCt s k) fun y41=>some ((IntKind.wrap .i64 (k+y41)),(4:Int))) z):=fun k z h0 h1 f =>
  Tt.bnd (aUa s hs k ⟨h0,h1⟩) fun _ _=>Tt.cnd (fun _=>Tt.bnd (aUa s hs k ⟨h0,h1⟩) fun _ _=>Tt.ret trivial) fun _=>f
 have:Te (sS s):=by
  unfold sS;refine Tt.jn (fun k=>∀ i t t',0<=i->i<=(s.length:Int)->Te (k i t t')) (fun i t t' h0 h1 => ?_) fun B hk1 => ?_
  ·refine Tt.bnd (aUa s hs i ⟨h0,h1⟩) fun D a=>Tt.cnd (fun _=>Tt.ret trivial) fun hne => ?_;have hne  := by simpa using hne
   refine Tt.jn (fun k=>∀ n t,0<=n->i+n<=s.length->Te (k n t)) (fun n t C n1 => ?_) fun o hk10=>Tt.nth (by omega) fun y _ _=>Tt.cnd (fun _=>hk10 _ _ (by omega) (by omega)) fun _=>hk10 _ _ a.1 a.2;refine Tt.jn (fun k=>∀ j kd t t' t'' r,0<=j->j<=(s.length:Int)->Te (k j kd t t' t'' r)) (fun j kd _ _ _ _ x A => ?_) fun h hk15 => ?_
   ·refine Tt.cnd (fun hc => ?_) fun _=>Tt.ret trivial;have w:=aBB hc;have e1:IntKind.wrap .i64 (j+1)=j+1:=wi (by omega);have c:IntKind.wrap .i64 (j+1+1)=j+1+1:=wi (by omega);simp [e1];refine Tt.nth (by omega) fun y _ _=>Tt.cnd (fun _ => ?_) fun _=>Tt.nth (by omega) fun y _ _=>Tt.cnd (fun _ => ?_) fun _=>Tt.ret trivial;all_goals
     refine Tt.jn (fun k=>∀ q t t',0<=q->q<=(s.length:Int)->Te (k q t t')) (fun q _ _ l m=>kloop q _ l m (Tt.ret trivial)) fun g hk=>Tt.cnd (fun hc => ?_) fun _=>hk _ _ _ (by omega) (by omega);have d:=aBB hc;exact Tt.nth (by omega) fun y _ _=>Tt.cnd (fun _=>hk _ _ _ (by omega) (by omega)) fun _=>Tt.nth (by omega) fun y _ _=>Tt.cnd (fun _=>hk _ _ _ (by omega) (by omega)) fun _=>hk _ _ _ (by omega) (by omega)
   have e1:IntKind.wrap .i64 (i+n)=i+n:=wi (by omega);have c:IntKind.wrap .i64 (i+n+1)=i+n+1:=wi (by omega);simp [e1,c];refine Tt.cnd (fun hc => ?_) fun _=>hk15 _ _ _ _ _ _ (by omega) n1;have d:=aBB hc;refine Tt.nth (by omega) fun y _ _=>Tt.cnd (fun _ => ?_) fun _=>hk15 _ _ _ _ _ _ (by omega) n1;refine Tt.bnd (aUa s hs _ ⟨by omega,by omega⟩) fun e _=>Tt.cnd (fun _=>Tt.bnd (aUa s hs _ ⟨by omega,by omega⟩) fun y21 u => ?_) fun _=>hk15 _ _ _ _ _ _ (by omega) n1;rw [wi (n:=i+n+1+y21) (by omega)];exact hk15 _ _ _ _ _ _ (by omega) (by omega)
  refine Tt.cnd (fun hc => ?_) fun _=>hk1 _ _ _ (by omega) (by omega);have:=aBB hc;exact Tt.nth (by omega) fun y _ _=>Tt.cnd (fun _=>hk1 _ _ _ (by omega) (by omega)) fun _=>hk1 _ _ _ (by omega) (by omega)
 obtain ⟨b,p,v⟩:=this;exact ⟨b,aNa p,v⟩
theorem bFD:Ds 239 aYU:=by
 intro args a f;obtain ⟨v0,g,rfl,c,a⟩:=nY a;cases aI1 a;obtain ⟨s,rfl,d⟩:=bG3 c;obtain ⟨r,b,e⟩:=bFC s d;refine ⟨_,bA (enc:=fun r=>(vV r,[])) b,_,rfl,.cons (.one (.sl bH5 (by grind))) (.cons (.one (.bool _)) .nil)⟩
theorem bBj:Ds 238 aOH:=by
 intro args a f;obtain ⟨v0,g,rfl,c,a⟩:=nY a;cases aI1 a;obtain ⟨s,rfl,d⟩:=bG3 c;obtain ⟨r,b,e⟩:=bBi s d;exact ⟨_,bA (enc:=fun r=>(jV r,[])) b,_,rfl,.cons (.one (.int _ _)) (.cons (.one (.int _ _)) .nil)⟩
mutual
theorem aRa:∀ v:GValue,∀ x∈varN v,x.length<cR v
 | ⟨k,n,s,l,m⟩=>by
  have c:=aUb l;have b:=aGZ m;rw [aAK] at c;rw [iD] at b;intro x a;rw [cL];simp [varN] at a;simp [bkSl,bK];grind
theorem aUb:∀ l:List GValue,∀ x∈aFS l,x.length<uJ l
 | [],x,a=>by simp [aFS] at a
 | y::l,x,a=>by
  simp only [aFS,List.mem_append] at a;simp only [uJ];rcases a with h | h;· have:=aRa y x h;omega
  ·have:=aUb l x h;omega
theorem bDU:∀ y:GMember,∀ x∈aXt y,x.length<aY y
 | ⟨n,v⟩=>by intro x a;have:=aRa v x (by simpa only [aXt] using a);rw [dE];show x.length<dM n+(cR v+0)+1;omega
theorem aGZ:∀ l:List GMember,∀ x∈gT l,x.length<pO l
 | [],x,a=>by simp [gT] at a
 | y::l,x,a=>by
  simp only [gT,List.mem_append] at a;simp only [pO];rcases a with h | h;· have:=bDU y x h;omega
  ·have:=aGZ l x h;omega
end
theorem aXy {l:List Str} (h:∀ x∈l,x.length<=topL):∀ e,e∈l.map PV.str->ElOk tτ (elOf tτ 0) e:=by
 intro e b;obtain ⟨x,a,rfl⟩:=List.mem_map.1 b;exact .one (.str (h x a))
theorem aUc l:l.length<=sumL dM l:=pJ dM (fun s=>by rw [bK];omega) l
theorem bH6:Ds 236 bDO:=by
 intro args b c;obtain ⟨v0,z,rfl,i,b⟩:=nY b;obtain ⟨y,w,rfl,n,b⟩:=nY b;cases aI1 b;obtain ⟨v,rfl⟩:=aKc i;obtain ⟨es,rfl,j,t⟩:=bHZ n;obtain ⟨l,rfl⟩:=cI (f:=PV.str) (fun e h=>bDL (j e h));have u:=tX c rfl (v:=aJ v) (by simp);have m:=tX c rfl (v := .slice (l.map PV.str) [] true) (by simp);have k:=aQ9 v;have s:=bDR l;unfold Nr at k;simp [bS] at m;have p:=aUc l;have q:=bDC v;have g:=aMm (szV v) v l (by omega) (by omega);have d:=iL (varN v) l;have o:=aBm v;refine ⟨_,by simp [tys];exact bA (enc:=fun r=>(fA r,[])) g,.one (.sl (aXy fun x a => ?_) (by grind))⟩;show x.length<=1073741824;rcases (dI _ _ _).1 a with a | a;· have:=fR dM a;rw [bK] at this;omega
 have:=aRa v x a;omega
theorem aY1:Ds 114 aQ8:=by
 intro args a k;obtain ⟨v0,E,rfl,s,a⟩:=nY a;obtain ⟨C,A,rfl,j,a⟩:=nY a;cases aI1 a;obtain ⟨d,rfl⟩:=bDN s;obtain ⟨es,rfl,w,z⟩:=bHZ j;obtain ⟨l,rfl⟩:=cI (f:=aF) (fun e h=>aYT (w e h));have D:=tX k rfl (v:=mU d) (by simp);have o:=tX k rfl (v := .slice (l.map aF) [] false) (by simp);have q:=bDT d;have y:=psl (l:=l) (fun x _=>bFy x);unfold Nr at q;simp [bS] at o;obtain ⟨r,l',p,i,_,b,_⟩:=aBo d l (by rw [cH];omega);have g:∀ n∈r,∃ f∈d.frags,f.name=n:=fun n c=>⟨_,mZ ((b n).1 c).2⟩;have m:r.length<=d.frags.length:=by
  have:=pL r (d.frags.map (·.name)) i (fun n c=>by grind);grind
 have t:=wS d;refine ⟨_,by exact bA (enc:=fun r=>(bU r,[])) p,.one (.sl (aXy fun x c => ?_) (by grind))⟩;obtain ⟨f,u,rfl⟩:=g x c;have j:=fR gQ u;have B:=iS d;rw [kH,bK] at j;show f.name.length<=1073741824;omega
def isIn (s:GSchema) (x:Str):Prop:=x∈s.defs.map (·.name)
theorem bFE {s n} (h:tA s n [5,5,5]=true):isIn s n:=by
 unfold tA dR at h;cases b:aBj n
 ·cases a:s.defs.find? (fun d=>d.name==n) with
  | none=>grind
  | some d=>exact List.mem_map.2 ⟨d,List.mem_of_find?_eq_some a,by grind⟩
 grind
theorem aY2 s (h:SOk s) n:Tt (fun l=>l.length<1073741824/\∀ x∈l,isIn s x) (aJZ s n):=by
 have j:(dR s n).1.params.length<1073741824:=by
  rcases aC6 s n with d | ⟨_,_,_,e⟩;· have:=h.def_bk d;rw [pP] at this;have:=pJ kT aMj (dR s n).1.params;unfold bkSl at *;omega
  grind
 have:Tt (fun l=>l.length<1073741824/\∀ x∈l,isIn s x) (aDO s n):=by
  refine Tt.eq (aDY s n h.sm) (Tt.bnd (Q:=fun l  => l.length<1073741824/\∀ x∈l,isIn s x) (Tt.loop (fun st:List Str×Int=>0<=st.2/\st.2<=(dR s n).1.params.length/\st.1.length<=st.2/\∀ x∈st.1,isIn s x) (fun st  => ((dR s n).1.params.length-st.2:Int).toNat) (fun st g => ?_) (by simp)) fun l A=>Tt.ret A);obtain ⟨a,i⟩:=st;obtain ⟨k,q,w,m⟩:=g;simp at k q w m;have c:Tt (Nx (fun st:List Str×Int=>0<=st.2/\st.2<=(dR s n).1.params.length/\st.1.length<=st.2/\∀ x∈st.1,isIn s x) (fun st  => ((dR s n).1.params.length-st.2:Int).toNat) (a,i) (fun l  => l.length<1073741824/\∀ x∈l,isIn s x)) (some (.inr a)):=Tt.ret (Nx.r ⟨by omega,m⟩);refine Tt.cnd (fun u => ?_) fun _=>c;have v:=aBB u;have e:IntKind.wrap .i64 (i+1)=i+1:=wi (by omega);rw [e];have f:∀ o,o.length<=a.length+1->(∀ x∈o,isIn s x)->Tt (Nx (fun st:List Str×Int=>0<=st.2/\st.2<=(dR s n).1.params.length/\st.1.length<=st.2/\∀ x∈st.1,isIn s x) (fun st  => ((dR s n).1.params.length-st.2:Int).toNat) (a,i) (fun l:List Str=>l.length<1073741824/\∀ x∈l,isIn s x)) (some (.inl (o,i+1))):=fun o B t=>Tt.ret (Nx.l ⟨by omega,by omega,by grind,t⟩ (by omega));refine Tt.cnd (fun _=>Tt.nth ⟨k,v⟩ fun p j _=>Tt.cnd (fun _=>Tt.cnd (fun _=>Tt.eq (aQX s _ 5 5 5 h.sm) (Tt.cnd (fun z=>Tt.app (by grind) (f _ (by simp) fun x d => ?_)) fun _=>by grind)) fun _=>by grind) fun _=>by grind) fun _=>c;rcases List.mem_append.1 d with d | d;· grind
  rw [List.mem_singleton.1 d];exact bFE z
 obtain ⟨b,y,j⟩:=this;exact ⟨b,aTl y,j⟩
def More (s:GSchema) (y l:List Str):Prop:=∃ a,l=y++a/\a.Nodup/\∀ x∈a,isIn s x
theorem More.len {s y l} (h:More s y l):l.length<=y.length+s.defs.length:=by
 obtain ⟨a,rfl,c,b⟩:=h;have:=pL a (s.defs.map fun d:GDef=>d.name) c b;grind
theorem bFF s (h:SOk s):Te (aYG s):=by
 have F:=h.defs;have inner:∀ y l m,More s y l->y.length<2147483648->m.length<1073741824->(∀ x∈m,isIn s x)->Tt (More s y) (aX (sQ m) (l,0)):=fun y l m d hy hm g=>by
  refine Tt.loop (fun st:List Str×Int=>0<=st.2/\st.2<=m.length/\More s y st.1) (fun st  => (m.length-st.2).toNat) (fun st hst => ?_) ⟨by simp,by simp,d⟩;obtain ⟨o,j⟩:=st;obtain ⟨a1,a2,a3⟩:=hst;simp at a1 a2 a3;have hlo:=a3.len;unfold sQ;refine Tt.cnd (fun hc => ?_) fun _=>Tt.ret (Nx.r a3);have hj:=aBB hc;have e:IntKind.wrap .i64 (j+1)=j+1:=wi (by omega);rw [e];refine Tt.nth ⟨a1,hj⟩ fun x t n=>Tt.eq (mY o x (by omega)) (Tt.cnd (fun E=>Tt.nth ⟨a1,hj⟩ fun x' p ex'=>Tt.app (by grind) (Tt.ret (Nx.l ⟨by omega,by omega,?_⟩ (by omega)))) fun _=>Tt.ret (Nx.l ⟨by omega,by omega,a3⟩ (by omega)));rw [n] at ex';cases ex';obtain ⟨a,rfl,C,B⟩:=a3;refine ⟨a++[x],by simp,?_,fun z D => ?_⟩;all_goals grind
 have mid:∀ y,y.length<1073741824->Tt (fun l  => l.length<2147483648) (aX (sR s) (y,0)):=fun y hy=>by
  refine Tt.loop (fun st  => 0<=st.2/\st.2<=st.1.length/\More s y st.1) (fun st  => ((y.length:Int)+s.defs.length-st.2).toNat) (fun st hst => ?_) ⟨by simp,by simp,[],by simp⟩;obtain ⟨o,k⟩:=st;obtain ⟨a1,a2,a3⟩:=hst;simp at a1 a2 a3;have hlo:=a3.len;unfold sR;refine Tt.cnd (fun hc => ?_) fun _=>Tt.ret (Nx.r (by omega));have q:=aBB hc;have e:IntKind.wrap .i64 (k+1)=k+1:=wi (by omega);refine Tt.nth ⟨a1,q⟩ fun x t _=>Tt.bnd (aY2 s h x) fun m hm=>Tt.bnd (Q:=fun l'  => More s y l'/\o.length<=l'.length) ?_ fun l' hl'=>Tt.ret ?_;· obtain ⟨l',h1,v⟩:=inner y o m a3 (by omega) hm.1 hm.2;refine ⟨l',h1,v,?_⟩;obtain ⟨u,h1',h2'⟩:=inner o o m ⟨[],by simp⟩ (by omega) hm.1 hm.2;rw [h1] at h1';cases h1';obtain ⟨a,rfl,_⟩:=h2';simp
  rw [e];have:=hl'.1.len;exact Nx.l ⟨by omega,by grind,hl'.1⟩ (by omega)
 have:Te (aDI s):=by
  refine Tt.bnd (Q:=fun _=>True) (Tt.idx s.defs.length (by omega) fun i f h1 => ?_) fun o _=>Tt.elim (fun _ _=>Tt.ret trivial) fun _ _=>Tt.ret trivial;refine Tt.cnd (fun hc => ?_) fun _=>Tt.ret (Ix.r trivial);have c:=aBB hc;exact Tt.nth ⟨f,c⟩ fun x _ _=>Tt.bnd (aY2 s h _) fun y hy=>Tt.bnd (mid y hy.1) fun l d=>Tt.nth ⟨f,c⟩ fun x _ _=>Tt.eq (mY l _ (by omega)) (Tt.cnd (fun _=>Tt.ret (Ix.r trivial)) fun _=>Tt.ret (Ix.l hc))
 obtain ⟨b,w,A⟩:=this;exact ⟨b,aSO w,A⟩
theorem bFG:Ds 96 aYW:=by
 intro args a e;obtain ⟨v0,f,rfl,d,a⟩:=nY a;cases aI1 a;obtain ⟨s,rfl⟩:=aMp d;have ps:=tX e rfl (v:=dG s) (by simp);have c:=aGY s;unfold Nr at c;obtain ⟨r,b,_⟩:=bFF s ⟨by omega⟩;exact ⟨.bool r,by exact bA (enc:=fun r=>(PV.bool r,[])) b,.one (.bool r)⟩
def aDb (s:GSchema) (typ:Str) (x:GSel):Str:=bif x.kind==0 then (aI0 s typ x.name).1.t.name else bif x.kind==2 then (bif x.on_==([]:Str) then typ else x.on_) else []
def aIn (s:GSchema) (o:GOp):Str:=bif o.kind==1 then s.mutation else s.query
theorem aUd s a x (h:SOk s):aLe s a x=some (aDb s a x):=by
 apply aQE;simp only [aBa,aXr s _ _ h,aDb];cases x.kind==0<;>cases x.kind==2<;>cases x.on_==([]:Str)<;>rfl
theorem bBk s o:aVJ s o=some (aIn s o):=by
 apply aWr;simp [aGE,aIn];cases o.kind==1<;>rfl
mutual
def aUe (s:GSchema) (typ:Str):GSel->List GSeineref13Spot
 | ⟨k,a,n,ar,ds,on,sels⟩=>⟨typ,⟨k,a,n,ar,ds,on,sels⟩⟩::tC s (aDb s typ ⟨k,a,n,ar,ds,on,sels⟩) sels
def tC (s:GSchema) (typ:Str):List GSel->List GSeineref13Spot
 | []=>[]
 | x::l=>aUe s typ x++tC s typ l
end
theorem bFH s a x:aUe s a x=⟨a,x⟩::tC s (aDb s a x) x.sels:=by cases x;simp [aUe]
mutual
theorem aY3 (s:GSchema):∀ (x:GSel) (b:Str),(aUe s b x).length<=gI x
 | ⟨k,a,n,e,ds,d,c⟩,b=>by
  have:=aD1 s c (aDb s b ⟨k,a,n,e,ds,d,c⟩);rw [cH] at this;rw [gO];simp [aUe,bkSl];omega
theorem aD1 (s:GSchema):∀ (l:List GSel) (b:Str),(tC s b l).length<=aV l
 | [],_=>by simp [tC]
 | x::l,b=>by have:=aY3 s x b;have:=aD1 s l b;simp only [tC,aV,List.length_append];omega
end
theorem aUf s (h : SOk s) : ∀ n c d l, aV c <= n -> l.length + aV c < 1073741824 -> aGu s d c l = some (l ++ tC s d c) := by
 intro n;induction n with
 | zero =>
  intro c d l v y;have := gD c;have o : c = [] := List.length_eq_zero_iff.1 (by omega);subst o;apply aIS;unfold aAn;rw [cK (r := l) (by simp [lQ])];simp [tC]
 | succ n t =>
  intro c d l v y;apply aIS;unfold aAn;have f := gD c;have key := cO (b := lQ s d c) c (fun k a => (a, k)) (fun r a => a ++ tC s d r) (fun k a => a.length + aV (c.drop k) < 1073741824) (by omega)
   (by simp [lQ, tC])
   (by
    intro k x r a z B e u q i g;rw [e] at g;simp [aV] at g;have w : c.drop (k + 1) = r := by rw [<- List.tail_drop, e]; rfl
    have A := vB z;have m := aDZ x;have j := aY3 s x d;have p : tapp a [GSeineref13Spot.mk d x] = some (a ++ [⟨d, x⟩]) := tK (by simp [qY]; omega);refine .inr ⟨a ++ aUe s d x, ?_, ?_, ?_⟩;· simp only [lQ, u, q, bV, i, p, aUd s d x h, t x.sels (aDb s d x) (a ++ [⟨d, x⟩]) (by omega) (by grind)];rw [bFH]; simp
    ·grind
    simp [tC]) (s := (l, 0)) (a := l) rfl (by grind)
  simp_all
def aY4 (s:GSchema) (d:GDoc):List GSeineref13Spot:=(d.ops.flatMap fun o=>tC s (aIn s o) o.sels)++d.frags.flatMap fun f=>tC s f.on_ f.sels
theorem aRb s:∀ l,(l.flatMap fun o=>tC s (aIn s o) o.sels).length<=sumL bkOp l
 | []=>by simp
 | o::l=>by
  have c:=aRb s l;have b:=aD1 s o.sels (aIn s o);have a:=lI o;rw [cH] at b;simp [bkSl] at a;simp only [List.flatMap_cons,List.length_append,sumL];omega
theorem aOI s:∀ l,(l.flatMap fun f=>tC s f.on_ f.sels).length<=sumL gQ l
 | []=>by simp
 | f::l=>by
  have c:=aOI s l;have b:=aD1 s f.sels f.on_;have a:=oT f;simp only [List.flatMap_cons,List.length_append,sumL];omega
theorem aUg d:fO d=sumL bkOp d.ops+sumL gQ d.frags+3:=by rw [pQ];simp [bkSl];omega
theorem bBl s d:(aY4 s d).length<=fO d:=by
 have b:=aRb s d.ops;have a:=aOI s d.frags;rw [aUg];simp only [aY4,List.length_append];omega
theorem bFI o:1<=bkOp o:=by rw [lI];omega
theorem bBm o:aV o.sels+1<=bkOp o:=by rw [lI,cH];simp [bkSl];omega
theorem aXz s d (h : SOk s) (w : fO d < 500000000) : aYF s d = some (aY4 s d) := by
 apply aSI;unfold aDH;rw [aUg] at w;have r := pJ bkOp bFI d.ops;have u := pJ gQ aOF d.frags;have y := pK (b := oI s d) d.ops (fun k a => (a, k)) (fun a o => a ++ tC s (aIn s o) o.sels) (fun a => a) (fun k a => a.length + sumL bkOp (d.ops.drop k) <= sumL bkOp d.ops) (by omega)
  (by intro a _; simp [oI])
  (by
   intro k x a B i p g m j;have A := bBm x;have v := aD1 s x.sels (aIn s x);have c : d.ops.drop k = x :: d.ops.drop (k + 1) := by
    rw [List.drop_eq_getElem_cons i];rw [pI, List.getElem?_eq_getElem i] at g;grind
   rw [c] at j;simp [sumL] at j;refine ⟨?_, ?_⟩;· simp only [oI, p, fC, g, bV, m, bBk, aUf s h _ x.sels (aIn s x) a (Nat.le_refl _) (by omega)]
   grind) (s := ([], 0)) (a := []) rfl (by simp)
 rw [y];simp only [bV];have e : ∀ (l : List GOp) a, l.foldl (fun a o => a ++ tC s (aIn s o) o.sels) a = a ++ l.flatMap fun o => tC s (aIn s o) o.sels := fun l => by
  induction l with
  | nil => simp
  | cons o l z => grind
 have n : ∀ (l : List GFrag) a, l.foldl (fun a f => a ++ tC s f.on_ f.sels) a = a ++ l.flatMap fun f => tC s f.on_ f.sels := fun l => by
  induction l with
  | nil => simp
  | cons o l z => grind
 rw [e];have t := aRb s d.ops;have q := pK (b := oJ s d) d.frags (fun k a => (a, k)) (fun a f => a ++ tC s f.on_ f.sels) (fun a => a) (fun k a => a.length + sumL gQ (d.frags.drop k) <= sumL bkOp d.ops + sumL gQ d.frags) (by omega)
  (by simp [oJ])
  (by
   intro k x a B i p g m j;have A := oT x;have v := aD1 s x.sels x.on_;have c : d.frags.drop k = x :: d.frags.drop (k + 1) := by
    rw [List.drop_eq_getElem_cons i];rw [pI, List.getElem?_eq_getElem i] at g;grind
   rw [c] at j;simp [sumL] at j;refine ⟨?_, ?_⟩;· simp only [oJ, p, fC, g, bV, m, aUf s h _ x.sels x.on_ a (by omega) (by omega)]
   grind) (s := ([] ++ d.ops.flatMap fun o => tC s (aIn s o) o.sels, 0)) (a := [] ++ d.ops.flatMap fun o => tC s (aIn s o) o.sels) rfl (by grind)
 rw [q, n];simp [aY4]
theorem bBn s b a:(aI0 s b a).1=tnF∨(aI0 s b a).1=zF∨∃ d∈s.defs,(aI0 s b a).1∈d.fields:=by
 unfold aI0;cases a==tnS&&tA s b [1,2,3]
 ·cases (dR s b).1.kind==1||(dR s b).1.kind==2;· simp
  cases g:(dR s b).1.fields.find? (fun f=>f.name==a) with
  | none=>simp
  | some f =>
   rcases aC6 s b with c | ⟨_,e,_⟩;all_goals grind
 simp
theorem SOk.field_bk {s} (h:SOk s) {d} (c:d∈s.defs) {f} (b:f∈d.fields):iY f<1073741824:=by
 have a:=h.def_bk c;have e:=fR iY b;rw [pP] at a;simp [bkSl] at a;omega
theorem aXA {s} (h:SOk s) b a:(aI0 s b a).1.t.name.length<=topL:=by
 unfold topL;rcases bBn s b a with e | e | ⟨d,f,c⟩;· simp_all
 ·grind
 have:=h.field_bk f c;rw [mC,lH,bK,bK] at this;omega
theorem aUh {τ} {n b o a} {α:Type} {f} {l:List α} (h:LfOk τ (.sl n b o) (.slice (l.map f) [] a)):∀ y∈l,ElOk τ (elOf τ n) (f y):=by
 obtain ⟨es,e,c,_⟩:=qQ h;grind
theorem bDV {τ} {s:Str} (h:LfOk τ .str (.str s)):s.length<=topL:=by obtain ⟨_,e,a⟩:=kK h;grind
def OkS (x:GSel):Prop:=ElOk tτ (elOf tτ 12) (aF x)
theorem OkS.cells {x} (h:OkS x):CsOk tτ [(.int .i64),.str,.str,(.sl 7 1048576 false),(.sl 8 1048576 false),.str,(.sl 12 1048576 false)] [.int .i64 x.kind,.str x.alias,.str x.name,.slice (List.map aD x.args) [] false,.slice (List.map aI x.dirs) [] false,.str x.on_,.slice (List.map aF x.sels) [] false]:=by
 unfold OkS at h;rw [sL] at h;cases h with | ag a=>exact a
theorem OkS.parts {x} (h:OkS x):x.on_.length<=topL/\∀ y∈x.sels,OkS y:=by
 obtain ⟨_,_,e,_,h⟩:=aN h.cells;cases e;obtain ⟨_,_,e,_,h⟩:=aN h;cases e;obtain ⟨_,_,e,_,h⟩:=aN h;cases e;obtain ⟨_,_,e,_,h⟩:=aN h;cases e;obtain ⟨_,_,e,_,h⟩:=aN h;cases e;obtain ⟨_,_,e,b,h⟩:=aN h;cases e;obtain ⟨_,_,e,a,h⟩:=aN h;cases e;exact ⟨bDV b,aUh a⟩
theorem aXB {s} (h:SOk s) {a x} (c:a.length<=topL) (b:OkS x):(aDb s a x).length<=topL:=by
 have e:=aXA h a x.name;have d:=b.parts.1;unfold aDb;grind
theorem bH7 {a x} (c:a.length<=topL) (b:OkS x):ElOk tτ (elOf tτ 16) (aM ⟨a,x⟩):=by
 exact .ag (.cons (.str c) b.cells)
mutual
theorem bFJ {s:GSchema} (h:SOk s):∀ (x:GSel) (b:Str),b.length<=topL->OkS x->∀ p∈aUe s b x,ElOk tτ (elOf tτ 16) (aM p)
 | ⟨k,a,n,j,ds,i,e⟩,b,d,f,p,c=>by
  simp [aUe] at c;rcases c with rfl | c;· exact bH7 d f
  exact aKd h e _ (aXB h d f) f.parts.2 p c
theorem aKd {s:GSchema} (h:SOk s):∀ (l:List GSel) (b:Str),b.length<=topL->(∀ x∈l,OkS x)->∀ p∈tC s b l,ElOk tτ (elOf tτ 16) (aM p)
 | [],_,_,_,p,c=>by simp [tC] at c
 | x::l,b,d,f,p,c=>by
  simp only [tC,List.mem_append] at c;rcases c with c | c;· exact bFJ h x b d (by grind) p c
  ·exact aKd h l b d (fun y g=>by grind) p c
end
theorem bBo {o} (h:ElOk tτ (elOf tτ 10) (aR o)):∀ x∈o.sels,OkS x:=by
 cases h with
 | ag h =>
  obtain ⟨_,_,e,_,h⟩:=aN h;cases e;obtain ⟨_,_,e,_,h⟩:=aN h;cases e;obtain ⟨_,_,e,_,h⟩:=aN h;cases e;obtain ⟨_,_,e,_,h⟩:=aN h;cases e;obtain ⟨_,_,e,a,h⟩:=aN h;cases e;exact aUh a
theorem aI2 {o} (h:ElOk tτ (elOf tτ 13) (aH o)):o.on_.length<=topL/\∀ x∈o.sels,OkS x:=by
 cases h with
 | ag h =>
  obtain ⟨_,_,e,_,h⟩:=aN h;cases e;obtain ⟨_,_,e,b,h⟩:=aN h;cases e;obtain ⟨_,_,e,_,h⟩:=aN h;cases e;obtain ⟨_,_,e,a,h⟩:=aN h;cases e;exact ⟨bDV b,aUh a⟩
theorem aUi {d} (h:ElOk tτ (elOf tτ 9) (mU d)):(∀ o∈d.ops,ElOk tτ (elOf tτ 10) (aR o))/\∀ f∈d.frags,ElOk tτ (elOf tτ 13) (aH f):=by
 cases h with
 | ag h =>
  obtain ⟨_,_,e,b,h⟩:=aN h;cases e;obtain ⟨_,_,e,a,h⟩:=aN h;cases e;exact ⟨aUh b,aUh a⟩
theorem aG0:Ds 58 aD0:=by
 intro args b j;obtain ⟨v0,A,rfl,m,b⟩:=nY b;obtain ⟨x,w,rfl,g,b⟩:=nY b;cases aI1 b;obtain ⟨s,rfl⟩:=aMp m;obtain ⟨d,rfl⟩:=bDN g;have ps:=tX j rfl (v:=dG s) (by simp);have z:=tX j rfl (v:=mU d) (by simp);have t:=aGY s;have l:=bDT d;unfold Nr at t l;have c:SOk s:=⟨by omega⟩;have k:=aXz s d c (by omega);have y  := by
  have g:=bBl s d;omega
 obtain ⟨q,h⟩:=aUi g;refine ⟨_,by exact bA (enc:=fun r=>(aAd r,[])) k,.one (.sl (fun e n => ?_) (by grind))⟩;obtain ⟨p,a,rfl⟩:=List.mem_map.1 n;rcases List.mem_append.1 a with a | a;· obtain ⟨o,u,a⟩:=List.mem_flatMap.1 a;refine aKd c _ _ ?_ (bBo (q o u)) p a;have:=nK s;rw [bK,bK] at this;unfold aIn topL;grind
 obtain ⟨f,i,a⟩:=List.mem_flatMap.1 a;exact aKd c _ _ (aI2 (h f i)).1 (aI2 (h f i)).2 p a
def idxG {α:Type} (p:α->Bool):List α->Nat->Unit⊕Int
 | [],_ => .inl ()
 | x::r,k=>bif p x then .inr k else idxG p r (k+1)
theorem bDW {α} (p:α->Bool):∀ l k,(l.any p=false/\idxG p l k = .inl ())∨(l.any p=true/\∃ j x,idxG p l k = .inr ((k+j:Nat):Int)/\l[j]?=some x)
 | [],k => .inl ⟨rfl,rfl⟩
 | x::r,k=>by
  simp only [List.any_cons,idxG];cases d:p x
  ·rcases bDW p r (k+1) with ⟨b,a⟩ | ⟨b,j,y,a,c⟩;· exact by grind
   exact .inr ⟨by simpa using b,j+1,y,by simp only [cond_false];rw [a];congr 2;omega,by simpa using c⟩
  exact .inr ⟨rfl,0,x,rfl,rfl⟩
theorem aD2 {α} (l:List α) p (i:Sm l) (b:Int->Option (Int⊕(Unit⊕Int))) (g:b l.length=some (.inr (.inl ())))
  (h:∀ (k:Nat) x,x∈l->decide ((k:Int)<l.length)=true->nthI l k=some x->IntKind.wrap .i64 (k+1)=((k+1:Nat):Int)->b k=cnd (p x) (some (.inr (.inr k))) (some (.inl ((k+1:Nat):Int)))) :
  aX b 0=some (idxG p l 0) :=
 cO (b:=b) l (fun k (_:Nat)=>k) (fun r k=>idxG p r k) (fun k a=>a=k) i (fun a c=>g) (fun k x r a j m n f e d c=>by
  subst c;rw [h a x j f e d];simp [idxG];cases p x;all_goals simp) (s:=0) (a:=0) rfl rfl
theorem aIo {α} (p:α->Bool) l:∃ i,Ev.elim (idxG p l 0) (fun _=>(-1:Int)) (fun t=>t)=i/\decide (i≥0)=l.any p/\(l.any p=true->∃ x,nthI l i=some x):=by
 rcases bDW p l 0 with ⟨b,a⟩ | ⟨b,j,x,a,c⟩;· simp_all
 refine ⟨((0+j:Nat):Int),by simp_all,by grind,fun _=>⟨x,?_⟩⟩;rw [pI];grind
theorem aAv {α β γ} (o:α⊕β) (f:α->γ) g:Ev.elim o (fun a=>some (f a)) (fun b=>some (g b))=some (Ev.elim o f g):=by cases o<;>rfl
def bW (l:List GVarDef):List Str:=l.map (·.name)
theorem bJi o n (h:Sm o.vars):∃ v,aPP o n=some (v,(bW o.vars).contains n):=by
 have l:∀ v,aHx v [] [] 0 0 false 0 0 [] n o=some (v.name==n):=fun v=>aNH (by simp [xT]);have q:=aD2 o.vars (fun v=>v.name==n) h (gZ o.vars [] [] 0 0 false 0 0 [] n o) (by simp [gZ]) (fun k x s f d e=>by
  simp only [gZ,f,fC,d,bV,e,l])
 obtain ⟨i,m,j,c⟩:=aIo (fun v  => v.name==n) o.vars;have g:(o.vars.any fun v=>v.name==n)=(bW o.vars).contains n:=by
  unfold bW;grind
 have b:aCu o.vars [] [] 0 0 false 0 0 [] n o=some i:=aJD (by
  simp [sC,q];rw [aAv (idxG (fun v  => v.name==n) o.vars 0) (fun _=>(-1:Int)) (fun t=>t),m])
 rw [g] at j c;cases p:(bW o.vars).contains n
 ·have a:decide (i<0)=true:=by grind
  exact ⟨_,aIW (r:=(_,_)) (by simp [aAo,b,a];rfl)⟩
 obtain ⟨x,c⟩:=c p;have a:decide (i<0)=false:=by grind
 exact ⟨x,aIW (r:=(_,_)) (by simp [aAo,b,a,c])⟩
theorem bH8 l o d s (j:Sm l) (g:Sm s.defs):gR l o d s=some (l.any fun v => !tA s v.t.name [0,4,5]):=by
 have e:∀ v,aEX v o d s=some (!tA s v.t.name [0,4,5]):=fun v=>aLt (by simp [uL,aXp s _ g]);have f:=aD2 l (fun v => !tA s v.t.name [0,4,5]) j (mH l o d s) (by simp [mH]) (fun k x n h a c=>by
  simp only [mH,h,fC,a,bV,c,e])
 obtain ⟨i,b,m,_⟩:=aIo (fun v  => !tA s v.t.name [0,4,5]) l;have:=aQb (s:=l) (u0_6:=o) (u0_5:=d) (u0_4:=s) (r:=i) (by simp [aAY,f];rw [aAv (idxG (fun v  => !tA s v.t.name [0,4,5]) l 0) (fun _=>(-1:Int)) (fun t=>t),b]);exact sU (by simp [dK,this,m])
theorem bH9 l u o d s (j:Sm l) (g:Sm u):fF l u o d s=some (l.any fun v => !u.contains v.name):=by
 have e:∀ v,aEZ v u o d s=some (!u.contains v.name):=fun v=>aLy (by simp [uN,dC u _ g]);have f:=aD2 l (fun v => !u.contains v.name) j (gX l u o d s) (by simp [gX]) (fun k x n h a c=>by
  simp only [gX,h,fC,a,bV,c,e])
 obtain ⟨i,b,m,_⟩:=aIo (fun v  => !u.contains v.name) l;have:=aJp (s:=l) (u0_9:=u) (u0_6:=o) (u0_5:=d) (u0_4:=s) (r:=i) (by simp only [rZ,f,bV];rw [aAv (idxG (fun v  => !u.contains v.name) l 0) (fun _=>(-1:Int)) (fun t=>t),b]);exact pT (by simp [cX,this,m])
theorem bIa l v o (g:Sm l):fG l v o=some (l.any fun x=>x.name==v.name):=by
 have d:∀ x,aE1 x v o=some (x.name==v.name):=fun x=>aLV (by simp [uQ]);have e:=aD2 l (fun x=>x.name==v.name) g (gY l v o) (by simp [gY]) (fun k x j f a c=>by
  simp only [gY,f,fC,a,bV,c,d])
 obtain ⟨i,b,h,_⟩:=aIo (fun x  => x.name==v.name) l;have:=aJz (s:=l) (u0_4:=v) (u0_1:=o) (r:=i) (by simp [sB,e];rw [aAv (idxG (fun x  => x.name==v.name) l 0) (fun _=>(-1:Int)) (fun t=>t),b]);exact pY (by simp [cY,this,h])
theorem bIb l o d s (j:Sm l) (m:Sm o.vars):dN l o d s=some (l.any fun n => !(bW o.vars).contains n):=by
 have f:∀ n,aEY n o d s=some (!(bW o.vars).contains n):=fun n=>by
  obtain ⟨v,hv⟩:=bJi o n m;exact aLw (by simp [uM,hv])
 have h:=aD2 l (fun n => !(bW o.vars).contains n) j (dU l o d s) (by simp [dU]) (fun k x p c a b=>by
  simp only [dU,c,fC,a,bV,b,f])
 obtain ⟨i,g,e,_⟩:=aIo (fun n  => !(bW o.vars).contains n) l;have:=aEe (s:=l) (u0_6:=o) (u0_5:=d) (u0_4:=s) (r:=i) (by simp only [kV,h,bV];rw [aAv (idxG (fun n  => !(bW o.vars).contains n) l 0) (fun _=>(-1:Int)) (fun t=>t),g]);exact mP (by simp [cG,this,e])
def dupA:List Str->List Str->Bool
 | _,[]=>false
 | a,x::r=>a.contains x||dupA (a++[x]) r
theorem bBp {α:Type} {l:List α} {k x r} (h:l.drop k=x::r) (a:k<l.length):l.take k++[x]=l.take (k+1):=by
 grind
theorem bBq {α} (l:List α) k (h:k<=l.length):tslc l 0 k=some (l.take k):=by
 unfold tslc;grind
theorem bIc o (h : Sm o.vars) : aLd o = some (!dupA [] (bW o.vars)) := by
 apply aQy;have c := cO (b := mJ o) o.vars (fun k (_ : List Str) => k) (fun r a => bif dupA a (bW r) then (.inr () : Unit ⊕ Unit) else .inl ()) (fun k a => a = bW (o.vars.take k)) h
  (fun a d => by simp [mJ]; rfl)
  (fun k x r a j c m g f e d => by
   subst d;have i : ((o.vars.take k).any fun y => y.name == x.name) = (bW (o.vars.take k)).contains x.name := by
    unfold bW;grind
   simp only [mJ, g, f, e, bV, bBq o.vars k (by omega), bIa (o.vars.take k) x o (by grind), i];simp only [bW, List.map_cons, dupA];cases l : (List.map (fun v  => v.name) (o.vars.take k)).contains x.name;· right; exact ⟨_, rfl, rfl, by grind⟩
   simp) (s := 0) (a := []) rfl rfl
 simp [aA7, c];cases dupA [] (bW o.vars) <;> rfl
theorem bFK l (h : Sm l) : aPL l = some (dupA [] l) := by
 apply aTe;have d : ∀ i x, i < l.length -> nthI l i = some x -> aX (lS l i) 0 = some (bif (l.take i).contains x then (.inr () : Unit ⊕ Unit) else .inl ()) := fun i x t n => by
  have c : (l.take i).length = i := by grind
  exact aDr (b := lS l i) (l.take i) (fun r => bif r.contains x then (.inr () : Unit ⊕ Unit) else .inl ()) (by omega)
   (by simp only [lS, c, aYf]; rfl)
   (fun k y r q e j g => by
    rw [c] at e;have m : nthI l k = some y := by
     rw [pI] at j ⊢;grind
    simp only [lS, e, m, g, n, bV, List.contains_cons];cases x == y;all_goals simp)
 have f := cO (b := oO l) l (fun k (_ : List Str) => k) (fun r a => bif dupA a r then (.inr () : Unit ⊕ Unit) else .inl ()) (fun k a => a = l.take k) h
  (fun a o => by simp [oO]; rfl)
  (fun k x r a n f p e j g o => by
   subst o;simp only [oO, e, g, d k x f j, dupA, bBp p f];cases (l.take k).contains x;all_goals simp) (s := 0) (a := []) rfl rfl
 simp [aDM, f];cases dupA [] l <;> rfl
theorem aY5 a b (h : Sm a) (g : Sm b) : aIL a b = some (a.all fun x => b.contains x) := by
 apply bAK;have f := aDr (b := uY a b) a (fun r => bif r.all fun x => b.contains x then (.inl () : Unit ⊕ Unit) else .inr ()) h (by simp only [uY, aYf]; rfl)
  (fun k x r i e d c => by
   simp only [uY, e, d, c, bV, mY b x g, List.all_cons];cases b.contains x;all_goals simp)
 simp only [aJ3, f];cases a.all fun x => b.contains x <;> rfl
theorem aXC l (h : l.length < 1073741824) : aE0 l = some (bW l) := by
 apply aLM;have c := cO (b := jD l) l (fun k a => (a, k)) (fun r a => a ++ bW r) (fun k a => a.length = k) (by omega)
  (fun a _ => by simp [jD, bW])
  (fun k x r a g c i f e d j => by
   refine .inr ⟨a ++ [x.name], ?_, by grind, by simp [bW]⟩;simp only [jD, f, e, d, bV, fC, tK (show a.length + [x.name].length <= lim by simp [qY]; omega)]) (s := ([], 0)) (a := []) rfl rfl
 simp [uP, c]
theorem aUj d l (h:fO d+aV l<200000000):∃ u,pR d l=some u/\aHv d l=some u/\u.length<=fO d+aV l/\∀ x∈u,x∈allU d l:=by
 obtain ⟨B,G,f,_,q,c,z,y,s⟩:=aNV d l (by omega);obtain ⟨A,H,t,_,o,j,v,w,i⟩:=aBo d l (by omega);obtain ⟨D,k,e,m,b⟩:=aT9 d l B f q (fun n a=>((c n).1 a).2) (by omega);obtain ⟨F,p,r,g⟩:=aIm d l A t o (fun n a=>((j n).1 a).2) (by omega);have E  := aQ4 _ _ e r fun x=>by
  rw [b,g];constructor
  ·rintro (h | ⟨n,a,h⟩);· exact .inl h
   exact by grind
  rintro (h | ⟨n,a,h⟩);· exact .inl h
  exact by grind
 subst E;refine ⟨D,k,p,m,fun x C => ?_⟩;rcases (b x).1 C with h | ⟨n,a,h⟩;· exact List.mem_append_left _ h
 exact List.mem_append_right _ (List.mem_flatMap.2 ⟨_,(mZ ((c n).1 a).2).1,h⟩)
theorem aUk:∀ l,∀ x∈tW l,x.length<sumL fD l
 | [],x,a=>by simp [tW] at a
 | y::l,x,a=>by
  simp [tW] at a;simp [sumL];rcases a with h | h;· have:=aGZ y.args x h;rw [iD] at this;rw [jS];simp [bkSl];omega
  have:=aUk l x h;omega
mutual
theorem bDX:∀ (y:GSel),∀ x∈aIj y,x.length<gI y
 | ⟨k,a,n,d,ds,e,c⟩,x,b=>by
  rw [gO];simp [aIj] at b;simp [bkSl];rcases b with h | h | h;· have:=aGZ d x h;rw [iD] at this;omega
  ·have:=aUk ds x h;omega
  have:=aKe c x h;rw [cH] at this;omega
theorem aKe:∀ (l:List GSel),∀ x∈useS l,x.length<aV l
 | [],x,b=>by simp [useS] at b
 | y::l,x,b=>by
  simp only [useS,List.mem_append] at b;simp only [aV];rcases b with h | h;· have:=bDX y x h;omega
  ·have:=aKe l x h;omega
end
theorem bFL d l:∀ x∈allU d l,x.length<fO d+aV l:=by
 intro x a;rcases List.mem_append.1 a with h | h;· have:=aKe l x h;omega
 obtain ⟨f,b,h⟩:=List.mem_flatMap.1 h;have i:=aKe f.sels x h;have g:=oT f;have e:=fR gQ b;have c:=iS d;omega
theorem bId:Ds 127 bDP:=by
 intro args a c;obtain ⟨v0,A,rfl,m,a⟩:=nY a;obtain ⟨y,w,rfl,q,a⟩:=nY a;cases aI1 a;obtain ⟨d,rfl⟩:=bDN m;obtain ⟨es,rfl,n,t⟩:=bHZ q;obtain ⟨l,rfl⟩:=cI (f:=aF) (fun e h=>aYT (n e h));have z:=tX c rfl (v:=mU d) (by simp);have p:=tX c rfl (v := .slice (l.map aF) [] false) (by simp);have k:=bDT d;have s:=psl (l:=l) (fun x _=>bFy x);unfold Nr at k;simp [bS] at p;have j:=cH l;obtain ⟨u,_,o,g,b⟩:=aUj d l (by omega);refine ⟨_,by exact bA (enc:=fun r=>(bU r,[])) o,.one (.sl (aXy fun x i => ?_) (by grind))⟩;have:=bFL d l x (b x i);show x.length<=1073741824;omega
noncomputable def oZ (d:GDoc) (l:List GSel):List Str:=(aHv d l).getD []
theorem aRc d l (h:fO d+aV l<200000000):pR d l=some (oZ d l)/\aHv d l=some (oZ d l)/\(oZ d l).length<200000000:=by
 obtain ⟨u,c,b,a,_⟩:=aUj d l h;have:oZ d l=u:=by unfold oZ;grind
 grind
noncomputable def opOk (s:GSchema) (d:GDoc) (n:Int) (o:GOp):Bool :=
 bif n==18 then !dupA [] (bW o.vars) else bif n==19 then o.vars.all fun v=>tA s v.t.name [0,4,5] else bif n==20 then (oZ d o.sels).all fun x=>(bW o.vars).contains x else (bW o.vars).all fun x=>(oZ d o.sels).contains x
theorem aXD {α:Type} p (l:List α):(!l.any fun x => !p x)=l.all p:=by
 grind
theorem bDY p l:(l.all fun v=>p v.name)=(bW l).all p:=by
 induction l with
 | nil=>rfl
 | cons x l a=>simp [bW] at a ⊢;rw [a]
structure OOk (s:GSchema) (d:GDoc) (o:GOp):Prop where
 s:SOk s
 u:fO d+aV o.sels<200000000
 v:o.vars.length<1073741824
theorem bIe s d o n (h:OOk s d o):aLc s d o n=some (opOk s d n o):=by
 obtain ⟨a,c,b⟩:=aRc d o.sels h.u;have hv:Sm o.vars:=by have:=h.v;omega
 apply aQd;simp only [aAZ,bIc o hv,bH8 o.vars o d s hv h.s.sm,a,bIb (oZ d o.sels) o d s (by omega) hv,bH9 o.vars (oZ d o.sels) o d s hv (by omega),bV,opOk];rw [aXD (fun v  => tA s v.t.name [0,4,5]) o.vars,aXD (fun x=>(bW o.vars).contains x) (oZ d o.sels),aXD (fun v  => (oZ d o.sels).contains v.name) o.vars,bDY (fun x=>(oZ d o.sels).contains x) o.vars];cases n==18<;>cases n==19<;>cases n==20<;>rfl
theorem aUl s d n (g:18<=n/\n<=21) (h:∀ o∈d.ops,OOk s d o) (q:Sm d.ops):mV s d n=some (d.ops.all (opOk s d n)):=by
 have p:=aD2 d.ops (fun o => !opOk s d n o) q (aAk d.ops n d s) (by simp [aAk]) (fun k o u e b c=>by
  have l:aEW o n d s=some (!opOk s d n o):=aLj (by simp [uK,bIe s d o n (h o u)]);simp only [aAk,e,fC,b,bV,c,l])
 obtain ⟨i,m,f,_⟩:=aIo (fun o => !opOk s d n o) d.ops;have j:=bDo (s:=d.ops) (u0_5:=n) (u0_4:=d) (u0_3:=s) (r:=i) (by simp [aPW,p];rw [aAv (idxG (fun o => !opOk s d n o) d.ops 0) (fun _=>(-1:Int)) (fun t=>t),m]);have a:=wW (s:=d.ops) (u0_5:=n) (u0_4:=d) (u0_3:=s) (r:=d.ops.any fun o => !opOk s d n o) (by simp [fB,j,f]);apply aPY;simp [aAP,decide_eq_true g.2,show decide (n≥18)=true from by grind,a];grind
theorem bBr s d n (z:18<=n/\n<=21) (h:∀ o∈d.ops,OOk s d o) (q:Sm d.ops):aHt s d n=some (d.ops.all (opOk s d n)):=by
 have c:∀ o∈d.ops,aX (fW s n o) 0=some (bif n==19 then (bif o.vars.all fun v=>tA s v.t.name [0,4,5] then (.inl ():Unit⊕Unit) else .inr ()) else .inl ()):=fun o m=>by
  have hv:Sm o.vars:=by have:=(h o m).v;show o.vars.length<_;omega
  cases f:n==19;· refine cK ?_;simp only [fW,f];cases decide ((0:Int)<o.vars.length)<;>rfl
  exact aDr (b:=fW s n o) o.vars (fun r=>bif r.all fun v=>tA s v.t.name [0,4,5] then (.inl ():Unit⊕Unit) else .inr ()) hv (by simp only [fW,aYf];rfl) (fun k x r g l j i=>by
   simp only [fW,l,j,i,f,bV,aXq s _ (h o m).s.sm,List.all_cons];cases tA s x.t.name [0,4,5];· exact .inl rfl
   exact by simp)
 have key:=aDr (b:=kP s d n) d.ops (fun r=>bif r.all (opOk s d n) then (.inl ():Unit⊕Unit) else .inr ()) q (by simp only [kP,aYf];rfl) (fun k o r g l j i=>by
  obtain ⟨y,p,w⟩:=aRc d o.sels (h o g).u;have hv:=(h o g).v;have a:Sm (bW o.vars):=by unfold bW;simp;omega
  simp only [kP,l,j,i,bV,aXC o.vars hv,p,bFK _ a,aY5 _ _ (show Sm (oZ d o.sels) by omega) a,aY5 _ _ a (show Sm (oZ d o.sels) by omega),Ev.jn,c o g,List.all_cons];rcases (by omega:n=18∨n=19∨n=20∨n=21) with rfl | rfl | rfl | rfl
  ·have e:opOk s d 18 o = !dupA [] (bW o.vars):=rfl;rw [e];cases dupA [] (bW o.vars);· exact by simp
   exact .inl rfl
  ·have e:opOk s d 19 o=o.vars.all fun v=>tA s v.t.name [0,4,5]:=rfl;rw [e];cases o.vars.all fun v=>tA s v.t.name [0,4,5];· exact .inl rfl
   exact by simp
  ·have e:opOk s d 20 o=(oZ d o.sels).all fun x=>(bW o.vars).contains x:=rfl;rw [e];cases (oZ d o.sels).all fun x=>(bW o.vars).contains x;· exact .inl rfl
   exact by simp
  have e:opOk s d 21 o=(bW o.vars).all fun x=>(oZ d o.sels).contains x:=rfl;rw [e];cases (bW o.vars).all fun x=>(oZ d o.sels).contains x;· exact .inl rfl
  exact by simp)
 apply aM2;simp [xN,key];cases d.ops.all (opOk s d n)<;>rfl
inductive W4 where
 | a | b | c | d
def nV:W4->Int
 | .a=>18
 | .b=>19
 | .c=>20
 | .d=>21
theorem bIf (w:W4) (O:Orc) (LP:LBs) (s:GSchema) (d:GDoc):zZ Tryz.prog (MT 20) {decs:=[(113,.bool)],ups:=[],loops:=[]} Tryz.f20.ntmps O LP Tryz.f20 [(eS s),(eD d),(i6 (nV w))] []=aQ O 62 [(eS s),(eD d),(i6 (nV w))] fun x=>cnd (chk .bool x) (some ((.bool (bM x)),[])) none:=by cases w<;>kernel_rfl
theorem aD3 (w:W4) (s:GSchema) (d:GDoc) (b:Bool) (h:aHt s d (nV w)=some b):yG s d (nV w)=some b:=by
 have h2:=bA (enc:=fun r=>(aA r,[])) h
 refine aMP (uI aE) (bCr {decs:=[(113,.bool)],ups:=[],loops:=[]} rfl rfl Tryz.func20 ((bIf w _ _ s d).trans ?_))
 unfold aQ
 rw [show ([(eS s),(eD d),(i6 (nV w))]:List PV).all free=true from rfl]
 simp only [fC]
 rw [show OL Tryz.prog MT XT 62 _ []=_ from h2]
 rfl
def aY6:Summ:=sv1 [⟨false,[(.int .u8)]⟩] [E2']
theorem bFM:Ds 169 aY6:=aK (C:=cf [] [] 0 false []) Tryz.func169 rfl rfl sn' (by kernel_rfl)
def aY7:Summ:=sv1 [⟨false,[(.int .u8)]⟩] [E2']
theorem bFN:Ds 170 aY7:=aK (C:=cf [] [] 0 false []) Tryz.func170 rfl rfl sn' (by kernel_rfl)
def rQ:Summ:=sv1 [E10'] [E2']
theorem tY:Ds 98 rQ:=aK (C:=cf [(169,aY6),(170,aY7)] [] 0 false [lh 4 [.same,.same,.lf (.int .i64)] 2 1073741824 [some 0,none]]) Tryz.func98 rfl rfl (sc' bFM (sc' bFN sn')) (by kernel_rfl)
def jK:Summ:=sv1 [E11'] [E2']
theorem lV:Ds 101 jK:=aK (C:=cf [(98,rQ)] [] 0 false []) Tryz.func101 rfl rfl (sc' tY sn') (by kernel_rfl)
def aD4:Summ:=sv1 [E1'] [E6']
def bFO:Cfg:=cf [] [(213,aD4,0)] 0 true [lh 4 (.same :: .lf (.int .i64) :: .lf (.int .i64)::sa 5 []) 2 1048576 [some 0],lh 10 (.same :: .lf (.int .i64) :: .lf (.int .i64)::sa 5 []) 2 1048576 [some 2]]
theorem bFP:∀ x,x∈([(213,aD4,0)]:List (FuncId×Summ×Nat))->Ds x.1 x.2.1 :=
 aAH (fun x=>bFO) (all_cons ⟨rfl,rfl,rfl,sn',rfl,_,Tryz.func213,by kernel_rfl⟩ (aEQ))
theorem aY8:Ds 213 aD4:=bFP (213,aD4,0) (by simp)
def bG4:Summ:=sv1 [E10',E17'] [E1',E2']
theorem bJj:Ds 219 bG4:=aK (C:=cf [] [] 0 false [(2,{hv:=(sa 4 (.lf (.int .i64)::sa 5 [])),cnt:=4,top:=16777216,ex:=[(some 0,(sa 4 (.lf (.int .i64)::sa 5 []))),(none,[.same,.same,.same,.lf .bool,.lf (.int .i64),.lf (.int .i64),.lf (.int .i64),.lf .str,.lf (.sl 6 1048576 false),.lf (.sl 7 1048576 false)])]})]) Tryz.func219 rfl rfl sn' (by kernel_rfl)
def bDZ:Summ:=sv1 [E10'] [E2']
theorem bIg:Ds 223 bDZ:=aK (C:=cf [(239,aYU)] [] 0 false []) Tryz.func223 rfl rfl (sc' bFD sn') (by kernel_rfl)
def aUm:Summ:=sv1 [E10'] [E6']
theorem bD0:Ds 221 aUm:=aK (C:=cf [(238,aOH)] [] 0 false []) Tryz.func221 rfl rfl (sc' bBj sn') (by kernel_rfl)
def aY9:Summ:=sv1 [E10'] [E6',E2']
theorem bFQ:Ds 222 aY9:=aK (C:=cf [] [] 0 false [lh 5 (sa 3 (.lf (.int .i64) :: .same::[.lf (.int .i64)])) 3 1073741824 [some 0,none]]) Tryz.func222 rfl rfl sn' (by kernel_rfl)
def oV:Summ:=sv1 [E1'] [E2']
def aUn:Cfg:=cf [(221,aUm),(222,aY9),(223,bDZ),(98,rQ)] [(191,oV,0)] 0 true [lh 25 (sa 2 (.lf (.int .i64)::sa 5 [])) 2 1048576 [some 1,none],lh 32 (sa 2 (.lf (.int .i64)::sa 5 [])) 2 1048576 [some 3,none]]
theorem aUo:∀ x,x∈([(191,oV,0)]:List (FuncId×Summ×Nat))->Ds x.1 x.2.1 :=
 aAH (fun x=>aUn) (all_cons ⟨rfl,rfl,rfl,(sc' bD0 (sc' bFQ (sc' bIg (sc' tY sn')))),rfl,_,Tryz.func191,by kernel_rfl⟩ (aEQ))
theorem aI3:Ds 191 oV:=aUo (191,oV,0) (by simp)
def aG1:Summ:=sv1 [E7',E10'] [E2']
theorem aI4:Ds 29 aG1:=aK (C:=cf [] [] 0 false [(2,{hv:=[.same,.same,.same,.lf (.int .i64)],cnt:=3,top:=16777216,ex:=[(some 0,[.same,.same,.same,.lf (.int .i64)]),(none,[.same,.same,.lf .bool,.lf (.int .i64)])]})]) Tryz.func29 rfl rfl sn' (by kernel_rfl)
def bIh:Summ:=sv1 [E11'] [E2']
theorem bJk:Ds 195 bIh:=aK (C:=cf [(101,jK)] [] 0 false []) Tryz.func195 rfl rfl (sc' lV sn') (by kernel_rfl)
def aIp:Summ:=sv1 [E1',E1'] [E2']
def aIq:Summ:=sv1 [E17',E17'] [E2']
def bIi:Cfg:=cf [] [(174,aIp,0),(215,aIq,0)] 0 true [lh 4 (sa 3 (.lf (.int .i64)::sa 10 [])) 3 16777216 [some 0,none]]
def bBs:Cfg:=cf [] [(174,aIp,0),(215,aIq,0)] 0 false [lh 4 [.same,.same,.same,.lf (.int .i64)] 3 16777216 [some 0,none]]
theorem bIj:∀ x,x∈([(174,aIp,0),(215,aIq,0)]:List (FuncId×Summ×Nat))->Ds x.1 x.2.1 :=
 aAH (fun x=>if x.1=174 then bIi else bBs) (all_cons ⟨rfl,rfl,rfl,sn',rfl,_,Tryz.func174,by kernel_rfl⟩ (all_cons ⟨rfl,rfl,rfl,sn',rfl,_,Tryz.func215,by kernel_rfl⟩ (aEQ)))
theorem bIk:Ds 174 aIp:=bIj (174,aIp,0) (by simp)
def aG2:Summ:=sv1 [E1'] [E2']
def bFR:Cfg:=cf [(98,rQ)] [(235,aG2,0)] 0 true [lh 2 (sa 2 (.lf (.int .i64)::sa 5 [])) 2 1048576 [some 0,none],lh 7 (sa 2 (.lf (.int .i64)::sa 5 [])) 2 1048576 [some 2,none]]
theorem bFS:∀ x,x∈([(235,aG2,0)]:List (FuncId×Summ×Nat))->Ds x.1 x.2.1 :=
 aAH (fun x=>bFR) (all_cons ⟨rfl,rfl,rfl,(sc' tY sn'),rfl,_,Tryz.func235,by kernel_rfl⟩ (aEQ))
theorem bFT:Ds 235 aG2:=bFS (235,aG2,0) (by simp)
def aZa:Summ:=sv1 [E1'] [E2']
theorem bFU:Ds 212 aZa:=aK (C:=cf [(191,oV),(213,aD4),(235,aG2)] [] 0 false []) Tryz.func212 rfl rfl (sc' aI3 (sc' aY8 (sc' bFT sn'))) (by kernel_rfl)
def aOJ:Summ:=sv1 [E11',E11'] [E2']
theorem bBt:Ds 197 aOJ:=aK (C:=cf [(101,jK)] [] 0 false []) Tryz.func197 rfl rfl (sc' lV sn') (by kernel_rfl)
def bD1:Summ:=sv2 [E1'] [E7']
theorem bIl:Ds 214 bD1:=aK (C:=cg [(236,bDO)] [] 0 false [] 1) Tryz.func214 rfl rfl (sc' bH6 sn') (by kernel_rfl)
def aFU:Summ:=sv1 [E10'] [E4',E2']
theorem aMq:Ds 121 aFU:=aK (C:=cf [] [] 0 false []) Tryz.func121 rfl rfl sn' (by kernel_rfl)
def aXE:Summ:=sv1 [E3',E10'] [E16',E2']
theorem bD2:Ds 113 aXE:=aK (C:=cf [] [] 0 false [(2,{hv:=(sa 4 (.lf (.int .i64)::sa 6 [])),cnt:=4,top:=1048576,ex:=[(some 0,(sa 4 (.lf (.int .i64)::sa 6 []))),(none,(sa 3 (.lf .bool :: .lf (.int .i64) :: .lf .str :: .lf .str :: .lf (.sl 8 1048576 false) :: .lf (.sl 12 1048576 false)::sa 2 [])))]})]) Tryz.func113 rfl rfl sn' (by kernel_rfl)
def aRd:Summ:=sv1 [E12',E10'] [E4',E2']
theorem aZb:Ds 193 aRd:=aK (C:=cf [] [] 0 false [(2,{hv:=(sa 4 (.lf (.int .i64)::sa 10 [])),cnt:=4,top:=16777216,ex:=[(some 0,(sa 4 (.lf (.int .i64)::sa 10 []))),(none,[.same,.same,.same,.lf .bool,.lf (.int .i64),.lf .str,.lf .str,.lf (.int .i64),.lf (.int .i64),.lf .bool,.lf (.int .i64),.lf (.int .i64),.lf .str,.lf (.sl 6 1048576 false),.lf (.sl 7 1048576 false)])]})]) Tryz.func193 rfl rfl sn' (by kernel_rfl)
def aZc:Summ:=sv1 [E12',E17'] [E2']
theorem bFV:Ds 186 aZc:=aK (C:=cf [(193,aRd)] [] 0 false [lh 2 [.same,.same,.same,.lf (.int .i64)] 3 16777216 [some 0,none]]) Tryz.func186 rfl rfl (sc' aZb sn') (by kernel_rfl)
def aUp:Summ:=sv1 [E12',E17'] [E2']
theorem bD3:Ds 188 aUp:=aK (C:=cf [(219,bG4),(195,bIh)] [] 0 false [lh 2 [.same,.same,.same,.lf (.int .i64)] 3 16777216 [some 0,none]]) Tryz.func188 rfl rfl (sc' bJj (sc' bJk sn')) (by kernel_rfl)
def bD4:Summ:=sv1 [E17'] [E2']
theorem bIm:Ds 187 bD4:=aK (C:=cf [] [] 0 false [lh 5 [.same,.same,.same,.lf (.int .i64)] 3 16777216 [some 2,none],lh 2 [.same,.same,.lf (.int .i64)] 2 16777216 [some 0,none]]) Tryz.func187 rfl rfl sn' (by kernel_rfl)
def aMr:Summ:=sv1 [E10'] [E2']
theorem aUq:Ds 156 aMr:=aK (C:=cf [] [] 0 false []) Tryz.func156 rfl rfl sn' (by kernel_rfl)
def aFV:Summ:=sv1 [E0',E10'] [E5',E2']
theorem aIr:Ds 164 aFV:=aK (C:=cf [(156,aMr)] [] 0 false [(4,{hv:=(sa 4 (.lf (.int .i64)::sa 9 [])),cnt:=4,top:=1048576,ex:=[(some 0,(sa 4 (.lf (.int .i64)::sa 9 []))),(none,(sa 3 (.lf .bool :: .lf (.int .i64) :: .lf (.int .i64) :: .lf .str :: .lf (.sl 0 1048576 false) :: .lf (.sl 4 1048576 false) :: .lf (.sl 0 1048576 false) :: .lf (.sl 5 1048576 false)::sa 3 [])))]})]) Tryz.func164 rfl rfl (sc' aUq sn') (by kernel_rfl)
def bD5:Summ:=sv1 [E0',E10',E6',E6',E6'] [E2']
theorem bFW:Ds 159 bD5:=aK (C:=cf [(164,aFV)] [] 0 false []) Tryz.func159 rfl rfl (sc' aIr sn') (by kernel_rfl)
def aRe:Summ:=sv1 [E0',E10'] [E2']
theorem aXF:Ds 118 aRe:=aK (C:=cf [(159,bD5)] [] 0 false []) Tryz.func118 rfl rfl (sc' bFW sn') (by kernel_rfl)
def tD:Summ:=sv1 [E0',E10'] [E2']
theorem xX:Ds 112 tD:=aK (C:=cf [(159,bD5)] [] 0 false []) Tryz.func112 rfl rfl (sc' bFW sn') (by kernel_rfl)
def aKf:Summ:=sv1 [E0',E10',E10'] [E8',E2']
theorem aRf:Ds 117 aKf:=aK (C:=cf [(112,tD),(164,aFV)] [] 0 false [(7,{hv:=(sa 4 (.lf (.int .i64)::sa 15 [])),cnt:=4,top:=1048576,ex:=[(some 0,(sa 4 (.lf (.int .i64)::sa 15 []))),(none,(sa 2 (.lf .bool :: .same :: .lf (.int .i64)::sa 6 (.lf .str :: .lf (.sl 5 1048576 false) :: .lf .str :: .lf (.int .i64) :: .lf (.int .i64) :: .lf (.sl 8 1048576 false)::sa 3 []))))]})]) Tryz.func117 rfl rfl (sc' xX (sc' aIr sn')) (by kernel_rfl)
def bG5:Summ:=sv1 [E7',E7'] [E2']
theorem bJl:Ds 128 bG5:=aK (C:=cf [(29,aG1)] [] 0 false [lh 2 [.same,.same,.same,.lf (.int .i64)] 3 16777216 [some 0,none]]) Tryz.func128 rfl rfl (sc' aI4 sn') (by kernel_rfl)
def aUr:Summ:=sv1 [E0',⟨true,[.str,(.int .i64),.str,.str,(.sl 7 1048576 false),(.sl 8 1048576 false),.str,(.sl 12 1048576 false)]⟩] [E12']
theorem bD6:Ds 124 aUr:=aK (C:=cf [(117,aKf)] [] 0 false []) Tryz.func124 rfl rfl (sc' aRf sn') (by kernel_rfl)
def aMs:Summ:=sv1 [E12',E17',E6'] [E2']
theorem aXG:Ds 123 aMs:=aK (C:=cf [(186,aZc),(187,bD4),(188,aUp)] [] 0 false []) Tryz.func123 rfl rfl (sc' bFV (sc' bIm (sc' bD3 sn'))) (by kernel_rfl)
def aI5:Summ:=sv1 [⟨true,[.str,(.sl 7 1048576 false)]⟩] [E12']
theorem aUs:Ds 125 aI5:=aK (C:=cf [(121,aFU)] [] 0 false []) Tryz.func125 rfl rfl (sc' aMq sn') (by kernel_rfl)
def aOK:Summ:=sv2 [E0',E3',E6'] [E2']
theorem bBu:Ds 61 aOK:=aK (C:=cg [(58,aD0),(124,aUr),(123,aMs),(125,aI5)] [] 0 false [lh 8 (sa 5 (.lf (.int .i64)::sa 5 [])) 5 16777216 [some 2,none],lh 3 (sa 4 (.lf (.int .i64)::sa 5 [])) 4 16777216 [some 0,none]] 3) Tryz.func61 rfl rfl (sc' aG0 (sc' bD6 (sc' aXG (sc' aUs sn')))) (by kernel_rfl)
def aMt:Summ:=sv1 [⟨false,[.sl 8 16777216 false]⟩] [E7']
theorem aXH:Ds 122 aMt:=aK (C:=cf [] [] 0 false [lh 3 [.same,.acc 0 0 1,.lf (.int .i64)] 2 16777216 [some 0]]) Tryz.func122 rfl rfl sn' (by kernel_rfl)
def aMu:Summ:=sv2 [E0',E3'] [⟨false,[.sl 14 16777216 false]⟩]
theorem aXI:Ds 120 aMu:=aK (C:=cg [(58,aD0)] [] 0 false [lh 3 (sa 2 (.acc 14 0 1 :: .lf (.int .i64)::sa 5 [])) 3 4194304 [some 0],lh 7 (sa 2 (.acc 14 4194304 1 :: .lf (.int .i64)::sa 5 [])) 3 4194304 [some 2],lh 12 (.acc 14 8388608 1 :: .same :: .lf (.int .i64)::sa 5 []) 2 4194304 [some 4]] 2) Tryz.func120 rfl rfl (sc' aG0 sn') (by kernel_rfl)
def aKg:Summ:=sv1 [E7'] [E2']
theorem aRg:Ds 50 aKg:=aK (C:=cf [] [] 0 false [(5,{hv:=[.same,.same,.same,.lf (.int .i64)],cnt:=3,top:=16777216,ex:=[(some 2,[.same,.same,.same,.lf (.int .i64)]),(none,[.same,.lf .bool,.same,.lf (.int .i64)])]}),(2,{hv:=[.same,.same,.lf (.int .i64)],cnt:=2,top:=16777216,ex:=[(some 0,[.same,.same,.lf (.int .i64)]),(none,[.same,.lf .bool,.lf (.int .i64)])]})]) Tryz.func50 rfl rfl sn' (by kernel_rfl)
def aOL:Summ:=sv2 [E0',E3',E6'] [E2']
theorem bBv:Ds 60 aOL:=aK (C:=cg [(120,aMu),(121,aFU),(122,aMt),(50,aKg)] [] 0 false [lh 6 (sa 5 (.lf (.int .i64)::sa 5 [])) 5 16777216 [some 2,none],lh 3 (sa 4 (.lf (.int .i64)::sa 5 [])) 4 16777216 [some 0,none]] 3) Tryz.func60 rfl rfl (sc' aXI (sc' aMq (sc' aXH (sc' aRg sn')))) (by kernel_rfl)
def aG3:Summ:=sv1 [E0',E10'] [E2']
theorem aMv:Ds 90 aG3:=aK (C:=cf [(159,bD5)] [] 0 false []) Tryz.func90 rfl rfl (sc' bFW sn') (by kernel_rfl)
def aFW:Summ:=sv1 [E0',E10'] [E7']
theorem aMw:Ds 185 aFW:=aK (C:=cf [(164,aFV),(29,aG1),(90,aG3)] [] 0 false [lh 8 (sa 2 (.acc 0 0 1 :: .lf (.int .i64)::sa 9 [])) 3 1048576 [some 1],lh 15 (sa 2 (.acc 0 0 1 :: .lf (.int .i64)::sa 9 [])) 3 1048576 [some 3]]) Tryz.func185 rfl rfl (sc' aIr (sc' aI4 (sc' aMv sn'))) (by kernel_rfl)
def aZd:Summ:=sv1 [E0',E10',E10'] [E2']
theorem bFX:Ds 119 aZd:=aK (C:=cf [(185,aFW),(29,aG1)] [] 0 false [(3,{hv:=(sa 3 (.lf (.int .i64)::sa 3 [])),cnt:=3,top:=16777216,ex:=[(some 0,(sa 3 (.lf (.int .i64)::sa 3 []))),(none,(.lf .bool::sa 2 (.lf (.int .i64)::sa 3 [])))]})]) Tryz.func119 rfl rfl (sc' aMw (sc' aI4 sn')) (by kernel_rfl)
def aI6:Summ:=sv1 [E0',E3',⟨true,[.str,(.int .i64),.str,.str,(.sl 7 1048576 false),(.sl 8 1048576 false),.str,(.sl 12 1048576 false)]⟩,E6'] [E2']
theorem aUt:Ds 59 aI6:=aK (C:=cf [(117,aKf),(118,aRe),(112,tD),(119,aZd),(113,aXE)] [] 0 false []) Tryz.func59 rfl rfl (sc' aRf (sc' aXF (sc' xX (sc' bFX (sc' bD2 sn'))))) (by kernel_rfl)
def aZe:Summ:=sv1 [E0',E3'] [E2']
theorem bFY:Ds 52 aZe:=aK (C:=cf [] [] 0 false [lh 2 (sa 3 (.lf (.int .i64)::sa 5 [])) 3 1048576 [some 0,none]]) Tryz.func52 rfl rfl sn' (by kernel_rfl)
def aMx:Summ:=sv1 [⟨false,[.sl 11 16777216 false]⟩] [E7']
theorem aXJ:Ds 126 aMx:=aK (C:=cf [] [] 0 false [lh 3 [.same,.acc 0 0 1,.lf (.int .i64)] 2 16777216 [some 0]]) Tryz.func126 rfl rfl sn' (by kernel_rfl)
def aRh:Summ:=sv1 [E0',E10'] [E2']
theorem aZf:Ds 129 aRh:=aK (C:=cf [(159,bD5)] [] 0 false []) Tryz.func129 rfl rfl (sc' bFW sn') (by kernel_rfl)
def aOM:Summ:=sv2 [E0',E3',E6'] [E2']
theorem bBw:Ds 62 aOM:=aK (C:=cg [(126,aMx),(127,bDP),(50,aKg),(128,bG5),(129,aRh)] [] 0 false [lh 9 (sa 6 (.lf (.int .i64)::sa 10 [])) 6 1048576 [some 2,none],lh 2 (sa 4 (.lf (.int .i64)::sa 5 [])) 4 1048576 [some 0,none]] 3) Tryz.func62 rfl rfl (sc' aXJ (sc' bId (sc' aRg (sc' bJl (sc' aZf sn'))))) (by kernel_rfl)
def aBp:Summ:=sv2 [E1',E6',E2'] [E2']
theorem aG4:Ds 173 aBp:=aK (C:=cg [(212,aZa),(213,aD4),(214,bD1)] [] 0 false [] 3) Tryz.func173 rfl rfl (sc' bFU (sc' aY8 (sc' bIl sn'))) (by kernel_rfl)
def wT:Summ:=sv2 [E17',E6',E2'] [E2']
theorem aDc:Ds 171 wT:=aK (C:=cg [(98,rQ),(173,aBp)] [] 0 false [lh 2 (sa 4 ([.lf (.int .i64)])) 4 16777216 [some 0,none]] 3) Tryz.func171 rfl rfl (sc' tY (sc' aG4 sn')) (by kernel_rfl)
def xY:Summ:=sv2 [⟨false,[.sl 8 16777216 false]⟩,E6',E2'] [E2']
theorem aDd:Ds 99 xY:=aK (C:=cg [(98,rQ),(171,wT)] [] 0 false [lh 2 (sa 4 ([.lf (.int .i64)])) 4 16777216 [some 0,none]] 3) Tryz.func99 rfl rfl (sc' tY (sc' aDc sn')) (by kernel_rfl)
def oW:Summ:=sv2 [⟨false,[.sl 12 16777216 false]⟩,E6'] [E2']
def aFX:Summ:=sv2 [E9',E6'] [E2']
def aUu:Cfg:=cg [] [(100,oW,0),(172,aFX,0)] 0 false [lh 4 [.same,.same,.same,.lf (.int .i64)] 3 16777216 [some 0,none]] 2
def aXK:Cfg:=cg [(99,xY),(98,rQ),(171,wT)] [(100,oW,0),(172,aFX,0)] 0 true [] 2
theorem aUv:∀ x,x∈([(100,oW,0),(172,aFX,0)]:List (FuncId×Summ×Nat))->Ds x.1 x.2.1 :=
 aAH (fun x=>if x.1=100 then aUu else aXK) (all_cons ⟨rfl,rfl,rfl,sn',rfl,_,Tryz.func100,by kernel_rfl⟩ (all_cons ⟨rfl,rfl,rfl,(sc' aDd (sc' tY (sc' aDc sn'))),rfl,_,Tryz.func172,by kernel_rfl⟩ (aEQ)))
theorem aUw:Ds 100 oW:=aUv (100,oW,0) (by simp)
def wU:Summ:=sv2 [E2',E1'] [E2']
theorem aDe:Ds 102 wU:=aK (C:=cg [(173,aBp),(174,aIp)] [] 0 false [] 2) Tryz.func102 rfl rfl (sc' aG4 (sc' bIk sn')) (by kernel_rfl)
def bFZ:Summ:=sv2 [E3'] [E2']
theorem bF0:Ds 33 bFZ:=aK (C:=cg [(98,rQ),(99,xY),(100,oW),(101,jK),(102,wU)] [] 0 false [lh 8 (sa 4 (.lf (.int .i64)::sa 7 [])) 4 1048576 [some 2,none],lh 2 (sa 2 (.lf (.int .i64)::sa 2 [])) 2 1048576 [some 0,none],lh 13 (sa 2 (.lf (.int .i64)::sa 2 [])) 2 1048576 [some 4,none]] 1) Tryz.func33 rfl rfl (sc' tY (sc' aDd (sc' aUw (sc' lV (sc' aDe sn'))))) (by kernel_rfl)
def aG5:Summ:=sv1 [E7'] [E2']
theorem aRi:Ds 232 aG5:=aK (C:=cf [(98,rQ)] [] 0 false [lh 2 [.same,.same,.lf (.int .i64)] 2 16777216 [some 0,none]]) Tryz.func232 rfl rfl (sc' tY sn') (by kernel_rfl)
def yZ:Summ:=sv2 [E12'] [E2']
theorem aEx:Ds 234 yZ:=aK (C:=cg [(98,rQ),(101,jK),(102,wU)] [] 0 false [lh 2 [.same,.same,.lf (.int .i64)] 2 16777216 [some 0,none]] 1) Tryz.func234 rfl rfl (sc' tY (sc' lV (sc' aDe sn'))) (by kernel_rfl)
def aEy:Summ:=sv2 [⟨false,[.sl 4 16777216 false]⟩] [E2']
theorem aNZ:Ds 233 aEy:=aK (C:=cg [(98,rQ),(234,yZ),(101,jK),(99,xY)] [] 0 false [lh 2 [.same,.same,.lf (.int .i64)] 2 16777216 [some 0,none]] 1) Tryz.func233 rfl rfl (sc' tY (sc' aEx (sc' lV (sc' aDd sn')))) (by kernel_rfl)
def aMy:Summ:=sv2 [E5'] [E2']
theorem aXL:Ds 209 aMy:=aK (C:=cg [(98,rQ),(232,aG5),(233,aEy),(234,yZ),(29,aG1)] [] 0 false [] 1) Tryz.func209 rfl rfl (sc' tY (sc' aRi (sc' aNZ (sc' aEx (sc' aI4 sn'))))) (by kernel_rfl)
def aEz:Summ:=sv2 [E0'] [E2']
theorem aN0:Ds 157 aEz:=aK (C:=cg [(209,aMy),(98,rQ)] [] 0 false [lh 2 (sa 2 (.lf (.int .i64)::sa 3 [])) 2 1048576 [some 0,none]] 1) Tryz.func157 rfl rfl (sc' aXL (sc' tY sn')) (by kernel_rfl)
def bG6:Summ:=sv1 [E0',E11',E11'] [E2']
theorem bJm:Ds 211 bG6:=aK (C:=cf [(101,jK),(197,aOJ),(164,aFV),(185,aFW),(29,aG1)] [] 0 false []) Tryz.func211 rfl rfl (sc' lV (sc' bBt (sc' aIr (sc' aMw (sc' aI4 sn'))))) (by kernel_rfl)
def aZg:Summ:=sv1 [E0',E8',E8'] [E2']
theorem bF1:Ds 165 aZg:=aK (C:=cf [(211,bG6),(193,aRd),(195,bIh)] [] 0 false [lh 4 (sa 3 (.lf (.int .i64)::sa 15 [])) 3 1048576 [some 0,none],lh 10 (sa 3 (.lf (.int .i64)::sa 15 [])) 3 1048576 [some 2,none]]) Tryz.func165 rfl rfl (sc' bJm (sc' aZb (sc' bJk sn'))) (by kernel_rfl)
def aMz:Summ:=sv1 [E0'] [E7']
theorem aXM:Ds 155 aMz:=aK (C:=cf [] [] 0 false [lh 3 (.same :: .acc 0 0 1 :: .lf (.int .i64)::sa 3 []) 2 1048576 [some 0]]) Tryz.func155 rfl rfl sn' (by kernel_rfl)
def aON:Summ:=sv1 [E0',E12'] [E2']
theorem bBx:Ds 163 aON:=aK (C:=cf [(129,aRh)] [] 0 false [lh 2 (sa 3 (.lf (.int .i64)::sa 3 [])) 3 16777216 [some 0,none]]) Tryz.func163 rfl rfl (sc' aZf sn') (by kernel_rfl)
def aG6:Summ:=sv1 [⟨false,[.sl 4 16777216 false]⟩] [E7']
theorem aRj:Ds 160 aG6:=aK (C:=cf [] [] 0 false [lh 3 [.same,.acc 0 0 1,.lf (.int .i64)] 2 16777216 [some 0]]) Tryz.func160 rfl rfl sn' (by kernel_rfl)
def aZh:Summ:=sv1 [E10'] [E2']
theorem bF2:Ds 210 aZh:=aK (C:=cf [] [] 0 false []) Tryz.func210 rfl rfl sn' (by kernel_rfl)
def aDf:Summ:=sv1 [E0',E12'] [E2']
theorem aMA:Ds 168 aDf:=aK (C:=cf [(118,aRe)] [] 0 false [lh 2 (sa 3 (.lf (.int .i64)::sa 3 [])) 3 16777216 [some 0,none]]) Tryz.func168 rfl rfl (sc' aXF sn') (by kernel_rfl)
def aRk:Summ:=sv1 [E7'] [E2']
theorem aZi:Ds 162 aRk:=aK (C:=cf [] [] 0 false [(5,{hv:=[.same,.same,.same,.lf (.int .i64)],cnt:=3,top:=16777216,ex:=[(some 2,[.same,.same,.same,.lf (.int .i64)]),(none,[.same,.lf .bool,.same,.lf (.int .i64)])]}),(2,{hv:=[.same,.same,.lf (.int .i64)],cnt:=2,top:=16777216,ex:=[(some 0,[.same,.same,.lf (.int .i64)]),(none,[.same,.lf .bool,.lf (.int .i64)])]})]) Tryz.func162 rfl rfl sn' (by kernel_rfl)
def bD7:Summ:=sv1 [E7'] [E2']
theorem bG7:Ds 158 bD7:=aK (C:=cf [(210,aZh),(162,aRk)] [] 0 false [lh 2 [.same,.same,.lf (.int .i64)] 2 16777216 [some 0,none]]) Tryz.func158 rfl rfl (sc' bF2 (sc' aZi sn')) (by kernel_rfl)
def aG7:Summ:=sv1 [E12'] [E7']
theorem aRl:Ds 161 aG7:=aK (C:=cf [] [] 0 false [lh 3 [.same,.acc 0 0 1,.lf (.int .i64)] 2 16777216 [some 0]]) Tryz.func161 rfl rfl sn' (by kernel_rfl)
def aZj:Summ:=sv2 [E0'] [E2']
theorem bF3:Ds 89 aZj:=aK (C:=cg [(155,aMz),(156,aMr),(157,aEz),(158,bD7)] [] 0 false [lh 3 (sa 3 (.lf (.int .i64)::sa 3 [])) 3 16777216 [some 0,none]] 1) Tryz.func89 rfl rfl (sc' aXM (sc' aUq (sc' aN0 (sc' bG7 sn')))) (by kernel_rfl)
def aZk:Summ:=sv1 [E0'] [E2']
theorem bF4:Ds 91 aZk:=aK (C:=cf [(160,aG6),(158,bD7),(161,aG7),(162,aRk)] [] 0 false [lh 8 (sa 4 (.lf (.int .i64)::sa 9 [])) 4 1048576 [some 2,none],lh 2 (sa 2 (.lf (.int .i64)::sa 3 [])) 2 1048576 [some 0,none]]) Tryz.func91 rfl rfl (sc' aRj (sc' bG7 (sc' aRl (sc' aZi sn')))) (by kernel_rfl)
def aZl:Summ:=sv1 [E0'] [E2']
theorem bF5:Ds 92 aZl:=aK (C:=cf [(163,aON),(118,aRe),(112,tD)] [] 0 false [lh 8 (sa 4 (.lf (.int .i64)::sa 9 [])) 4 1048576 [some 2,none],lh 2 (sa 2 (.lf (.int .i64)::sa 3 [])) 2 1048576 [some 0,none]]) Tryz.func92 rfl rfl (sc' bBx (sc' aXF (sc' xX sn'))) (by kernel_rfl)
def aZm:Summ:=sv1 [E0'] [E2']
theorem bF6:Ds 93 aZm:=aK (C:=cf [(164,aFV),(29,aG1)] [] 0 false [lh 12 (sa 6 (.lf (.int .i64)::sa 15 [])) 6 1048576 [some 4,none],lh 6 (sa 4 (.lf (.int .i64)::sa 9 [])) 4 1048576 [some 2,none],lh 2 (sa 2 (.lf (.int .i64)::sa 3 [])) 2 1048576 [some 0,none]]) Tryz.func93 rfl rfl (sc' aIr (sc' aI4 sn')) (by kernel_rfl)
def aZn:Summ:=sv1 [E0'] [E2']
theorem bF7:Ds 94 aZn:=aK (C:=cf [(164,aFV),(117,aKf),(165,aZg)] [] 0 false [lh 10 (sa 6 (.lf (.int .i64)::sa 15 [])) 6 1048576 [some 4,none],lh 6 (sa 4 (.lf (.int .i64)::sa 9 [])) 4 1048576 [some 2,none],lh 2 (sa 2 (.lf (.int .i64)::sa 3 [])) 2 1048576 [some 0,none]]) Tryz.func94 rfl rfl (sc' aIr (sc' aRf (sc' bF1 sn'))) (by kernel_rfl)
def aZo:Summ:=sv1 [E0'] [E2']
theorem bF8:Ds 95 aZo:=aK (C:=cf [(90,aG3)] [] 0 false [lh 5 (sa 3 (.lf (.int .i64)::sa 3 [])) 3 1048576 [some 2,none],lh 2 (sa 2 (.lf (.int .i64)::sa 3 [])) 2 1048576 [some 0,none]]) Tryz.func95 rfl rfl (sc' aMv sn') (by kernel_rfl)
def aZp:Summ:=sv2 [E0',E11',E1'] [E2']
theorem bF9:Ds 130 aZp:=aK (C:=cg [(101,jK),(191,oV),(192,aYV)] [] 0 false [] 3) Tryz.func130 rfl rfl (sc' lV (sc' aI3 (sc' bFB sn'))) (by kernel_rfl)
def aMB:Summ:=sv2 [E0',E12'] [E2']
theorem aXN:Ds 167 aMB:=aK (C:=cg [(130,aZp)] [] 0 false [lh 2 (sa 3 (.lf (.int .i64)::sa 3 [])) 3 16777216 [some 0,none]] 2) Tryz.func167 rfl rfl (sc' bF9 sn') (by kernel_rfl)
def aZq:Summ:=sv2 [E0'] [E2']
theorem bGa:Ds 97 aZq:=aK (C:=cg [(167,aMB),(168,aDf)] [] 0 false [lh 7 (sa 3 (.lf (.int .i64)::sa 3 [])) 3 1048576 [some 2,none],lh 2 (sa 2 (.lf (.int .i64)::sa 3 [])) 2 1048576 [some 0,none]] 1) Tryz.func97 rfl rfl (sc' aXN (sc' aMA sn')) (by kernel_rfl)
def bD8:Summ:=sv2 [E0',E6'] [E2']
theorem bIn:Ds 32 bD8:=aK (C:=cg [(89,aZj),(90,aG3),(91,aZk),(92,aZl),(93,aZm),(94,aZn),(95,aZo),(96,aYW),(97,aZq)] [] 0 false [] 2) Tryz.func32 rfl rfl (sc' bF3 (sc' aMv (sc' bF4 (sc' bF5 (sc' bF6 (sc' bF7 (sc' bF8 (sc' bFG (sc' bGa sn'))))))))) (by kernel_rfl)
def bGb:Summ:=sv2 [E0'] [E6']
theorem bGc:Ds 10 bGb:=aK (C:=cg [(32,bD8)] [] 0 false [(2,{hv:=(sa 2 (.lf (.int .i64)::sa 3 [])),cnt:=2,top:=1048576,ex:=[(some 0,(sa 2 (.lf (.int .i64)::sa 3 []))),(none,(.same :: .lf (.int .i64) :: .lf (.int .i64)::sa 3 []))]})] 1) Tryz.func10 rfl rfl (sc' bIn sn') (by kernel_rfl)
def aZr:Summ:=sv1 [E3'] [E7']
theorem bGd:Ds 51 aZr:=aK (C:=cf [] [] 0 false [lh 3 [.same,.acc 0 0 1,.lf (.int .i64),.same,.same] 2 1048576 [some 0]]) Tryz.func51 rfl rfl sn' (by kernel_rfl)
def aI7:Summ:=sv1 [E3'] [E7']
theorem aUx:Ds 53 aI7:=aK (C:=cf [] [] 0 false [lh 3 [.same,.acc 0 0 1,.lf (.int .i64),.same,.same] 2 1048576 [some 0]]) Tryz.func53 rfl rfl sn' (by kernel_rfl)
def aZs:Summ:=sv2 [E0',E3'] [E2']
theorem bGe:Ds 54 aZs:=aK (C:=cg [(112,tD),(58,aD0)] [] 0 false [lh 2 (sa 3 (.lf (.int .i64)::sa 5 [])) 3 16777216 [some 0,none],lh 8 (sa 3 (.lf (.int .i64)::sa 5 [])) 3 16777216 [some 2,none]] 2) Tryz.func54 rfl rfl (sc' xX (sc' aG0 sn')) (by kernel_rfl)
def aZt:Summ:=sv2 [E0',E3'] [E2']
theorem bGf:Ds 55 aZt:=aK (C:=cg [(58,aD0),(113,aXE)] [] 0 false [lh 3 (sa 3 (.lf (.int .i64)::sa 5 [])) 3 16777216 [some 0,none]] 2) Tryz.func55 rfl rfl (sc' aG0 (sc' bD2 sn')) (by kernel_rfl)
def aZu:Summ:=sv2 [E3'] [E2']
theorem bGg:Ds 56 aZu:=aK (C:=cg [(114,aQ8),(29,aG1)] [] 0 false [(2,{hv:=(sa 2 (.lf (.int .i64)::sa 2 [])),cnt:=2,top:=1048576,ex:=[(some 0,(sa 2 (.lf (.int .i64)::sa 2 []))),(none,[.same,.lf .bool,.lf (.int .i64),.same,.same])]})] 1) Tryz.func56 rfl rfl (sc' aY1 (sc' aI4 sn')) (by kernel_rfl)
def aZv:Summ:=sv2 [E3'] [E2']
theorem bGh:Ds 57 aZv:=aK (C:=cg [(114,aQ8),(29,aG1)] [] 0 false [lh 6 (sa 2 (.lf .bool :: .lf (.int .i64)::sa 2 [])) 3 1048576 [some 2],(2,{hv:=[.same,.any,.lf (.int .i64),.same,.same],cnt:=2,top:=1048576,ex:=[(some 0,[.same,.any,.lf (.int .i64),.same,.same]),(none,(sa 2 (.lf (.int .i64)::sa 2 [])))]})] 1) Tryz.func57 rfl rfl (sc' aY1 (sc' aI4 sn')) (by kernel_rfl)
def bIo:Summ:=sv2 [E0',E3',⟨false,[.rng .i64 0 21]⟩] [E2']
theorem bIp:Ds 20 bIo:=aK (C:=cg [(51,aZr),(50,aKg),(52,aZe),(53,aI7),(54,aZs),(55,aZt),(56,aZu),(57,aZv),(58,aD0),(59,aI6),(60,aOL),(61,aOK),(62,aOM)] [] 0 false [lh 23 (sa 5 (.lf (.int .i64)::sa 5 [])) 5 16777216 [some 1,none]] 3) Tryz.func20 rfl rfl (sc' bGd (sc' aRg (sc' bFY (sc' aUx (sc' bGe (sc' bGf (sc' bGg (sc' bGh (sc' aG0 (sc' aUt (sc' bBv (sc' bBu (sc' bBw sn'))))))))))))) (by kernel_rfl)
def aBq:Summ:=sv1 [E1'] [E6']
def bIq:Cfg:=cf [] [(88,aBq,0)] 0 true [lh 3 (.same :: .lf (.int .i64) :: .lf (.int .i64)::sa 5 []) 2 1048576 [some 0],lh 7 (.same :: .lf (.int .i64) :: .lf (.int .i64)::sa 5 []) 2 1048576 [some 2]]
theorem bIr:∀ x,x∈([(88,aBq,0)]:List (FuncId×Summ×Nat))->Ds x.1 x.2.1 :=
 aAH (fun x=>bIq) (all_cons ⟨rfl,rfl,rfl,sn',rfl,_,Tryz.func88,by kernel_rfl⟩ (aEQ))
theorem aMC:Ds 88 aBq:=bIr (88,aBq,0) (by simp)
def aDg:Summ:=sv1 [⟨false,[.sl 8 16777216 false]⟩] [E6']
theorem aI8:Ds 86 aDg:=aK (C:=cf [(88,aBq)] [] 0 false [lh 3 [.same,.lf (.int .i64),.lf (.int .i64)] 2 16777216 [some 0]]) Tryz.func86 rfl rfl (sc' aMC sn') (by kernel_rfl)
def tE:Summ:=sv1 [⟨false,[.sl 12 16777216 false]⟩] [E6']
def aUy:Cfg:=cf [(88,aBq),(86,aDg)] [(87,tE,0)] 0 false [lh 3 [.same,.lf (.int .i64),.lf (.int .i64)] 2 16777216 [some 0]]
theorem aUz:∀ x,x∈([(87,tE,0)]:List (FuncId×Summ×Nat))->Ds x.1 x.2.1 :=
 aAH (fun x=>aUy) (all_cons ⟨rfl,rfl,rfl,(sc' aMC (sc' aI8 sn')),rfl,_,Tryz.func87,by kernel_rfl⟩ (aEQ))
theorem aUA:Ds 87 tE:=aUz (87,tE,0) (by simp)
def bGi:Summ:=sv1 [E3'] [E2']
theorem bGj:Ds 31 bGi:=aK (C:=cf [(86,aDg),(87,tE),(88,aBq)] [] 0 false [lh 7 [.same,.lf (.int .i64),.same,.lf (.int .i64),.same,.same] 3 1048576 [some 2],lh 3 [.same,.lf (.int .i64),.lf (.int .i64),.same,.same] 2 1048576 [some 0],lh 11 [.same,.lf (.int .i64),.lf (.int .i64),.same,.same] 2 1048576 [some 4]]) Tryz.func31 rfl rfl (sc' aI8 (sc' aUA (sc' aMC sn'))) (by kernel_rfl)
def aG8:Summ:=sv1 [E7'] [E6']
theorem aRm:Ds 83 aG8:=aK (C:=cf [] [] 0 false [lh 3 [.same,.lf (.int .i64),.lf (.int .i64)] 2 16777216 [some 0]]) Tryz.func83 rfl rfl sn' (by kernel_rfl)
def aEA:Summ:=sv1 [E12'] [E6']
theorem aN1:Ds 84 aEA:=aK (C:=cf [(88,aBq)] [] 0 false [lh 3 [.same,.lf (.int .i64),.lf (.int .i64)] 2 16777216 [some 0]]) Tryz.func84 rfl rfl (sc' aMC sn') (by kernel_rfl)
def aI9:Summ:=sv1 [⟨false,[.sl 8 16777216 false]⟩] [E6']
theorem aUB:Ds 85 aI9:=aK (C:=cf [(88,aBq)] [] 0 false [lh 3 [.same,.lf (.int .i64),.lf (.int .i64)] 2 16777216 [some 0]]) Tryz.func85 rfl rfl (sc' aMC sn') (by kernel_rfl)
def bGk:Summ:=sv1 [E0'] [E2']
theorem bGl:Ds 30 bGk:=aK (C:=cf [(83,aG8),(84,aEA),(85,aI9)] [] 0 false [lh 8 (.same :: .lf (.int .i64)::sa 2 (.lf (.int .i64)::sa 9 [])) 4 1048576 [some 2],lh 3 (.same :: .lf (.int .i64) :: .lf (.int .i64)::sa 3 []) 2 1048576 [some 0]]) Tryz.func30 rfl rfl (sc' aRm (sc' aN1 (sc' aUB sn'))) (by kernel_rfl)
end Go.Proofs.YtphmfillajagdaaGreat
