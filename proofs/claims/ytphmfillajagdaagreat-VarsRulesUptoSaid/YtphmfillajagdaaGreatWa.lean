import Derived.Test.YtphmfillajagdaaGreatGd
import Derived.Test.YtphmfillajagdaaGreatEd
import Derived.KernelRfl
import Derived.Test.YtphmfillajagdaaGreatEt
import Derived.Test.YtphmfillajagdaaGreatGa
set_option linter.unusedVariables false
set_option linter.unusedSimpArgs false
set_option linter.unusedSimpArgs false
open Go Go.Ev
namespace Go.Proofs.YtphmfillajagdaaGreat
def aNb (c:Int):Bool:=(decide (97≤c)&&decide (c≤122))||((decide (65≤c)&&decide (c≤90))||c==95)
def bCo (c:Int):Bool:=decide (48≤c)&&decide (c≤57)
theorem aK4 (c:Int):aI2 c=some (aNb c):=by
 apply aSa
 simp only [aDj,aNb,aZP,ge_iff_le]
 cases decide (97≤c)<;>cases decide (c≤122)<;>cases decide (65≤c)<;>cases decide (c≤90)<;>simp
theorem aK5 (c:Int):aI1 c=some (bCo c):=by
 apply aR0
 simp only [aDg,bCo,aZP,ge_iff_le]
 cases decide (48≤c)<;>simp
def aWv (c:UInt8):Bool:=aNb c.toNat||bCo c.toNat
def bAT:Str→Bool
 | []=>false
 | c::s=>aNb c.toNat&&s.all aWv
theorem aYG (s : Str) (h : s.length < 4611686018427387904) : aTM s = some (bAT s) := by
 apply aUH
 have key := aM1 (b := qM s) s (fun k (_ : Unit) => (k : Int)) (fun r _ => if r.all (fun c => aWv c) then Sum.inl () else Sum.inr ()) (fun k _ => 1 ≤ k)
  (by
   intro a _
   simp [qM])
  (by
   intro k x r a hk hx hd hI
   have e1 : (decide ((k : Int) < (List.length s : Int))) = true := by simp; omega
   have e3 : IntKind.wrap .i64 ((k : Int) + 1) = ((k + 1 : Nat) : Int) := wadd (by omega)
   simp only [qM, e1, cT, mT, hx, aV, aK4, aK5, iW, e3]
   cases h1 : aNb x.toNat <;> cases h2 : bCo x.toNat <;> simp [aWv, h1, h2])
 unfold aFX
 cases s with
 | nil => rfl
 | cons c s =>
  have : nthI (c :: s) 0 = some c := rfl
  have e0 : ((c :: s) == ([] : Str)) = false := rfl
  simp only [e0, iW, this, aV, aK4]
  cases h1 : aNb c.toNat with
  | false => simp [bAT, h1]
  | true =>
   have := key 1 () (by simp) (by omega)
   rw [show ((1 : Nat) : Int) = 1 from rfl] at this
   simp only [Bool.not_true, iW, this, List.drop_succ_cons, List.drop_zero, aV, bAT, h1, Bool.true_and]
   cases h2 : s.all aWv <;> simp
open Go Go.Ev
mutual
def szV:GValue→Nat
 | ⟨_,_,s,l,m⟩=>1+s.length+szVs l+szMs m
def szVs:List GValue→Nat
 | []=>0
 | x::l=>szV x+szVs l
def szM:GMember→Nat
 | ⟨n,v⟩=>n.length+szV v
def szMs:List GMember→Nat
 | []=>0
 | x::l=>szM x+szMs l
end
theorem aNc (v:GValue):szV v=1+v.s.length+szVs v.l+szMs v.m:=by cases v;simp only [szV]
theorem aSe (x:GMember):szM x=x.name.length+szV x.v:=by cases x;simp only [szM]
theorem aPl {x:GValue}:∀ {l:List GValue},x∈l→szV x≤szVs l
 | a::l,h=>by
  simp only [szVs]
  rcases List.mem_cons.1 h with rfl | h
  ·omega
  ·have:=aPl h;omega
theorem aPm {x:GMember}:∀ {l:List GMember},x∈l→szM x≤szMs l
 | a::l,h=>by
  simp only [szMs]
  rcases List.mem_cons.1 h with rfl | h
  ·omega
  ·have:=aPm h;omega
theorem aPn:∀ (l:List GValue),l.length≤szVs l
 | []=>by simp [szVs]
 | a::l=>by have:=aPn l;have:=aNc a;simp only [szVs,List.length_cons];omega
theorem aF8:∀ (l:List GMember),l.length≤szMs l
 | []=>by simp [szMs]
 | a::l=>by have:=aF8 l;have:=aSe a;have:=aNc a.v;simp only [szMs,List.length_cons];omega
mutual
theorem bAU:∀ v:GValue,szV v≤cJ v
 | ⟨_,_,s,l,m⟩=>by
  have h1:=bAV l
  have h2:=aK6 m
  simp only [szV,cJ,bk1,dW];omega
theorem bAV:∀ l:List GValue,szVs l≤tE l
 | []=>by simp [szVs]
 | x::l=>by have:=bAU x;have:=bAV l;simp only [szVs,tE];omega
theorem bFv:∀ x:GMember,szM x≤aZ x
 | ⟨n,v⟩=>by have:=bAU v;simp only [szM,aZ,dW];omega
theorem aK6:∀ l:List GMember,szMs l≤oS l
 | []=>by simp [szMs]
 | x::l=>by have:=bFv x;have:=aK6 l;simp only [szMs,oS];omega
end
theorem aBu (l : List Str) (v : Str) (hl : Sm l) : ∃ i, dV l v = some i ∧ decide (i ≥ 0) = l.contains v := by
 have key := cN (b := bQ l v) l (fun k (_ : Nat) => (k : Int)) (fun r k => match r.findIdx? (fun y => v == y) with | some j => Sum.inr ((k + j : Nat) : Int) | none => Sum.inl ()) (fun k a => a = k) hl
  (by intro a _; simp [bQ])
  (by
   intro k x r a hm hk hd h1 h2 h3 hI
   subst hI
   simp only [bQ, h1, cT, h2, aV, h3, List.findIdx?_cons]
   cases hv : v == x
   ·refine .inr ⟨a + 1, rfl, rfl, ?_⟩
    simp only [Bool.false_eq_true, if_false]
    cases r.findIdx? (fun y => v == y) with
    | none => rfl
    | some j => simp only [Option.map_some]; congr 2; omega
   ·left; simp) (s := 0) (a := 0) rfl rfl
 have hrun : ∀ i, cH l v = some i → dV l v = some i := fun i h => sA h
 unfold cH at hrun
 rw [key] at hrun
 simp only [aV, Nat.zero_add] at hrun
 have hc : l.contains v = (l.findIdx? (fun y => v == y)).isSome := by
  rw [List.findIdx?_isSome, List.contains_eq_any_beq]
 cases hf : l.findIdx? (fun y => v == y) with
 | none => rw [hf] at hrun hc; exact ⟨-1, hrun _ rfl, by rw [hc]; rfl⟩
 | some j => rw [hf] at hrun hc; exact ⟨(j : Int), hrun _ rfl, by rw [hc]; simp⟩
theorem cW (l:List Str) (v:Str) (hl:Sm l):bL l v=some (l.contains v):=by
 obtain ⟨i,h1,h2⟩:=aBu l v hl
 apply pE
 simp only [cS,h1,aV,h2]
theorem aE5 (l : List Int) (v : Int) (hl : Sm l) : ∃ i, iM l v = some i ∧ decide (i ≥ 0) = l.contains v := by
 have key := cN (b := cL l v) l (fun k (_ : Nat) => (k : Int)) (fun r k => match r.findIdx? (fun y => v == y) with | some j => Sum.inr ((k + j : Nat) : Int) | none => Sum.inl ()) (fun k a => a = k) hl
  (by intro a _; simp [cL])
  (by
   intro k x r a hm hk hd h1 h2 h3 hI
   subst hI
   simp only [cL, h1, cT, h2, aV, h3, List.findIdx?_cons]
   cases hv : v == x
   ·refine .inr ⟨a + 1, rfl, rfl, ?_⟩
    simp only [Bool.false_eq_true, if_false]
    cases r.findIdx? (fun y => v == y) with
    | none => rfl
    | some j => simp only [Option.map_some]; congr 2; omega
   ·left; simp) (s := 0) (a := 0) rfl rfl
 have hrun : ∀ i, dY l v = some i → iM l v = some i := fun i h => aAe h
 unfold dY at hrun
 rw [key] at hrun
 simp only [aV, Nat.zero_add] at hrun
 have hc : l.contains v = (l.findIdx? (fun y => v == y)).isSome := by
  rw [List.findIdx?_isSome, List.contains_eq_any_beq]
 cases hf : l.findIdx? (fun y => v == y) with
 | none => rw [hf] at hrun hc; exact ⟨-1, hrun _ rfl, by rw [hc]; rfl⟩
 | some j => rw [hf] at hrun hc; exact ⟨(j : Int), hrun _ rfl, by rw [hc]; simp⟩
theorem aBv (l:List Int) (v:Int) (hl:Sm l):jO l v=some (l.contains v):=by
 obtain ⟨i,h1,h2⟩:=aE5 l v hl
 apply vJ
 simp only [eI,h1,aV,h2]
theorem pG (l:List Str) (v:Str) (hl:Sm l):aBi l v=some (l.contains v):=by
 apply aYb
 unfold aI5
 rw [aCZ (b:=tU l v) l (fun r=>bif r.contains v then .inr () else .inl ()) hl (by simp [tU]) (by
  intro k x r hm h1 h2 h3
  simp only [tU,h1,cT,h2,aV,h3,List.contains_cons]
  rw [BEq.comm (a:=x) (b:=v)]
  cases v==x
  ·right;simp
  ·left;simp)]
 cases l.contains v<;>rfl
theorem aF9 {α:Type} (l:List α) (p:α→Bool) {β:Type} (g:α→β):l.findSome? (fun x=>if p x then some (g x) else none)=(l.find? p).map g:=by
 induction l with
 | nil=>rfl
 | cons a l ih =>
  rw [List.findSome?_cons,List.find?_cons]
  cases p a with
  | true=>rfl
  | false=>exact ih
def addD (l:List Str) (n:Str):List Str:=bif l.contains n then l else l++[n]
theorem aI6 (l:List Str) (n:Str):(addD l n).length≤l.length+1:=by
 unfold addD;cases l.contains n<;>simp
theorem aHp {l:List Str} {n:Str} (h:l.Nodup):(addD l n).Nodup:=by
 unfold addD
 cases hc:l.contains n
 ·simp only [cond_false]
  have hm:n∉l:=by simpa using hc
  exact List.nodup_append.2 ⟨h,by simp,fun a ha b hb=>by simp at hb;subst hb;exact fun e=>hm (e ▸ ha)⟩
 ·exact h
theorem bCp {l:List Str} {n x:Str} (h:x∈addD l n):x∈l∨x=n:=by
 unfold addD at h
 cases hc:l.contains n
 ·rw [hc] at h;simpa using h
 ·rw [hc] at h;exact .inl h
abbrev zDef:GDef:=⟨0,[],[],[],[],[]⟩
def aA4 (n:Str):Bool:=n==[73,110,116]||(n==[83,116,114,105,110,103]||(n==[66,111,111,108,101,97,110]||n==[73,68]))
theorem aSf (n:Str):aJ7 n=some (aA4 n):=by
 apply aPk
 simp only [aA1,aA4]
 cases n==[73,110,116]<;>cases n==[83,116,114,105,110,103]<;>cases n==[66,111,111,108,101,97,110]<;>rfl
theorem aSg (n:Str):aJ5 n=some (aA4 n):=by
 apply aOY
 simp only [aAS,aA4]
 cases n==[73,110,116]<;>cases n==[83,116,114,105,110,103]<;>cases n==[66,111,111,108,101,97,110]<;>rfl
def dD (s:GSchema) (n:Str):GDef×Bool:=bif aA4 n then (⟨0,n,[],[],[],[]⟩,true) else match s.defs.find? (fun d=>d.name==n) with | some d=>(d,true) | none=>(zDef,false)
theorem aYH (s:GSchema) (n:Str) (hl:Sm s.defs):aTP s n=some (dD s n):=by
 apply aVf
 unfold aF7 dD
 rw [aBX (b:=qR s n) s.defs (fun d=>if (d.name==n)=true then some (.inr (d.kind,d.name,d.faces,d.fields,d.parts,d.params)) else none) (.inl ()) hl (by simp [qR]) (by
  intro k x hm h1 h2 h3
  simp only [qR,h1,cT,h2,aV,h3]
  cases x.name==n<;>rfl)]
 rw [aF9,aSf]
 cases aA4 n
 ·simp only [aV,iW,cond_false]
  cases s.defs.find? (fun d=>d.name==n)<;>rfl
 ·rfl
theorem aDk (s:GSchema) (n:Str) (hl:Sm s.defs):aAx s n=some (dD s n):=by
 apply aUy
 unfold aFQ dD
 rw [aBX (b:=qL s n) s.defs (fun d=>if (d.name==n)=true then some (.inr (d.kind,d.name,d.faces,d.fields,d.parts,d.params)) else none) (.inl ()) hl (by simp [qL]) (by
  intro k x hm h1 h2 h3
  simp only [qL,h1,cT,h2,aV,h3]
  cases x.name==n<;>rfl)]
 rw [aF9,aSg]
 cases aA4 n
 ·simp only [aV,iW,cond_false]
  cases s.defs.find? (fun d=>d.name==n)<;>rfl
 ·rfl
def tN (s:GSchema) (n:Str) (ks:List Int):Bool:=(dD s n).2&&ks.contains (dD s n).1.kind
theorem aYI (s:GSchema) (n:Str) (ks:List Int) (hl:Sm s.defs) (hk:Sm ks):aTN s n ks=some (tN s n ks):=by
 apply aU9
 simp only [aF5,aYH s n hl,aV,aBv ks _ hk,tN]
 cases (dD s n).2<;>rfl
theorem aPo (s:GSchema) (n:Str) (a b c:Int) (hl:Sm s.defs):bAv s n a b c=some (tN s n [a,b,c]):=by
 apply bAO
 simp only [aOV,aDk s n hl,aV,tN]
 have:[a,b,c].contains (dD s n).1.kind=((dD s n).1.kind==a||((dD s n).1.kind==b||(dD s n).1.kind==c)):=by
  simp only [List.contains_cons,List.contains_nil,Bool.or_false]
 rw [this]
 cases (dD s n).2<;>cases (dD s n).1.kind==a<;>cases (dD s n).1.kind==b<;>rfl
theorem aVh (s:GSchema) (n:Str) (hl:Sm s.defs):aOg s n=some (tN s n [0,4,5]) :=
 aR4 (by simp [aDh,aYI s n [0,4,5] hl (by decide)])
theorem aK7 (s:GSchema) (n:Str) (hl:Sm s.defs):aCa s n=some (tN s n [1,2,3]) :=
 aIG (by simp [rB,aPo s n _ _ _ hl])
theorem aVi (s:GSchema) (n:Str) (hl:Sm s.defs):aOc s n=some (tN s n [0,4,5]) :=
 aRv (by simp [aDe,aPo s n _ _ _ hl])
structure SOk (s:GSchema):Prop where
 bk:qW s<1073741824
theorem bAW (d:GDef):1≤aJ8 d:=by rw [oT];omega
theorem aMw (d:GFieldDef):1≤iP d:=by rw [lR];omega
theorem aK8 (d:GParam):1≤kH d:=by rw [qF];omega
theorem aSh (d:GMember):1≤aZ d:=by rw [cZ];omega
theorem SOk.defs {s:GSchema} (h:SOk s):s.defs.length<1073741824:=by
 have h1:=h.bk;rw [qG] at h1
 have h2:=gG bAW s.defs
 omega
theorem SOk.def_bk {s:GSchema} (h:SOk s) {d:GDef} (hd:d∈s.defs):aJ8 d<1073741824:=by
 have h1:=h.bk;rw [qG] at h1
 have h2:=iN (f:=aJ8) hd
 omega
theorem SOk.faces {s:GSchema} (h:SOk s) (d:GDef) (hd:d∈s.defs):d.faces.length<1073741824:=by
 have h1:=h.def_bk hd;rw [oT] at h1
 have h2:=gG aQv d.faces
 omega
theorem SOk.parts {s:GSchema} (h:SOk s) (d:GDef) (hd:d∈s.defs):d.parts.length<1073741824:=by
 have h1:=h.def_bk hd;rw [oT] at h1
 have h2:=gG aQv d.parts
 omega
theorem SOk.fields {s:GSchema} (h:SOk s) (d:GDef) (hd:d∈s.defs):d.fields.length<1073741824:=by
 have h1:=h.def_bk hd;rw [oT] at h1
 have h2:=gG aMw d.fields
 omega
theorem SOk.sm {s:GSchema} (h:SOk s):Sm s.defs:=by have:=h.defs;show s.defs.length<_;omega
theorem aCG (s:GSchema) (n:Str):(dD s n).1∈s.defs∨((dD s n).1.faces=[]∧(dD s n).1.fields=[]∧(dD s n).1.parts=[]∧(dD s n).1.params=[]):=by
 unfold dD
 cases aA4 n
 ·simp only [cond_false]
  cases h:s.defs.find? (fun d=>d.name==n) with
  | none=>exact .inr ⟨rfl,rfl,rfl,rfl⟩
  | some d=>exact .inl (List.mem_of_find?_eq_some h)
 ·exact .inr ⟨rfl,rfl,rfl,rfl⟩
theorem SOk.partsF {s:GSchema} (h:SOk s) (n:Str):(dD s n).1.parts.length<1073741824:=by
 rcases aCG s n with hm | ⟨_,_,hp,_⟩
 ·exact h.parts _ hm
 ·rw [hp];decide
theorem SOk.fieldsF {s:GSchema} (h:SOk s) (n:Str):(dD s n).1.fields.length<1073741824:=by
 rcases aCG s n with hm | ⟨_,hp,_,_⟩
 ·exact h.fields _ hm
 ·rw [hp];decide
abbrev zF:GFieldDef:=⟨[],[],⟨[],0,0⟩,[]⟩
abbrev tnS:Str:=[95,95,116,121,112,101,110,97,109,101]
abbrev tnF:GFieldDef:=⟨tnS,[],⟨[83,116,114,105,110,103],0,1⟩,[]⟩
def aH3 (s:GSchema) (typ name:Str):GFieldDef×Bool :=
 bif name==tnS&&tN s typ [1,2,3] then (tnF,true) else bif (dD s typ).1.kind==1||(dD s typ).1.kind==2 then (match (dD s typ).1.fields.find? (fun f=>f.name==name) with | some f=>(f,true) | none=>(zF,false)) else (zF,false)
theorem aVj (s:GSchema) (typ name:Str) (h:SOk s):aOi s typ name=some (aH3 s typ name):=by
 apply aR8
 have hs:=h.sm
 have hf:=h.fieldsF typ
 have sm:Sm (dD s typ).1.fields:=by show (dD s typ).1.fields.length<_;omega
 have hg:∀ b:Int→Option (Int⊕(Unit⊕(Str×List GParam×Str×Int×Int×List GDir))),(∀ k:Int,b k=cnd (decide (k<(List.length (dD s typ).1.fields:Int))) (bnd (nthI (dD s typ).1.fields k) fun x=>cnd (x.name==name) (bnd (nthI (dD s typ).1.fields k) fun y=>some (.inr (.inr (y.name,y.params,y.t.name,y.t.lists,y.t.musts,y.dirs)))) (some (.inl (IntKind.wrap .i64 (k+1))))) (some (.inr (.inl ())))) →
   aY b 0=some (match (dD s typ).1.fields.find? (fun f=>f.name==name) with | some y => .inr (y.name,y.params,y.t.name,y.t.lists,y.t.musts,y.dirs) | none => .inl ()):=by
  intro b hb
  rw [aBX (b:=b) (dD s typ).1.fields (fun y=>if (y.name==name)=true then some (.inr (y.name,y.params,y.t.name,y.t.lists,y.t.musts,y.dirs)) else none) (.inl ()) sm (by rw [hb];simp) (by
   intro k x hm h1 h2 h3
   rw [hb]
   simp only [h1,cT,h2,aV,h3]
   cases x.name==name<;>rfl)]
  rw [aF9]
  cases (dD s typ).1.fields.find? (fun f=>f.name==name)<;>rfl
 have e1:((dD s typ).1.kind != 1) = !((dD s typ).1.kind==1):=rfl
 have e2:((dD s typ).1.kind != 2) = !((dD s typ).1.kind==2):=rfl
 simp only [aDi,aK7 s typ hs,aDk s typ hs,aV,aH3,e1,e2]
 simp only [hg (fQ name (dD s typ)) (fun k=>rfl),hg (fQ name (dD s typ)) (fun k=>rfl),hg (fQ name (dD s typ)) (fun k=>rfl),hg (fQ name (dD s typ)) (fun k=>rfl),aV]
 cases hn:name==tnS
 ·cases (dD s typ).1.fields.find? (fun f=>f.name==name)<;>cases (dD s typ).1.kind==1<;>cases (dD s typ).1.kind==2<;>rfl
 ·have hn':name=tnS:=beq_iff_eq.1 hn
  subst hn'
  cases tN s typ [1,2,3]<;>cases (dD s typ).1.fields.find? (fun f=>f.name==tnS)<;>cases (dD s typ).1.kind==1<;>cases (dD s typ).1.kind==2<;>rfl
mutual
def aA5:GSel→List Str
 | ⟨k,_,n,_,_,_,l⟩=>(bif k==1 then [n] else [])++cI l
def cI:List GSel→List Str
 | []=>[]
 | x::l=>aA5 x++cI l
end
theorem aNd (x:GSel):aA5 x=(bif x.kind==1 then [x.name] else [])++cI x.sels:=by cases x;simp only [aA5]
mutual
theorem aHq:∀ x:GSel,(aA5 x).length≤iF x
 | ⟨k,a,n,ar,di,o,l⟩=>by
  have h:=aCH l
  simp only [aA5,iF,List.length_append]
  cases k==1<;>simp only [cond_true,cond_false,List.length_singleton,List.length_nil,bk1]<;>omega
theorem aCH:∀ l:List GSel,(cI l).length≤bJ l
 | []=>by simp [cI]
 | x::l=>by have:=aHq x;have:=aCH l;simp only [cI,bJ,List.length_append];omega
end
theorem tX {x:GSel} {l:List GSel} (h:x∈l):iF x≤bJ l:=by rw [dH];exact gD iF h
theorem tY (x:GSel):bJ x.sels+1≤iF x:=by rw [gZ,dH];simp only [bkSl];omega
theorem bAX (x:GSel):1≤iF x:=by rw [gZ];omega
theorem iV (l:List GSel):l.length≤bJ l:=by rw [dH];exact lM iF bAX l
theorem gC:∀ (ns l:List Str),(ns.foldl addD l).length≤l.length+ns.length
 | [],l=>by simp
 | n::ns,l=>by have:=gC ns (addD l n);have:=aI6 l n;rw [List.foldl_cons,List.length_cons];omega
theorem jV:∀ (ns l:List Str),l.Nodup→(ns.foldl addD l).Nodup
 | [],l,h=>h
 | n::ns,l,h=>jV ns _ (aHp h)
theorem aPp (l:List Str) (n x:Str):x∈addD l n↔x∈l∨x=n:=by
 constructor
 ·exact bCp
 ·unfold addD
  cases hc:l.contains n
  ·intro h;simpa using h
  ·rintro (h | h)
   ·exact h
   ·subst h;simpa using hc
theorem cX:∀ (ns l:List Str) (x:Str),x∈ns.foldl addD l↔x∈l∨x∈ns
 | [],l,x=>by simp
 | n::ns,l,x=>by rw [List.foldl_cons,cX ns,aPp,List.mem_cons];exact or_assoc
theorem aVk (l:List Str) (n:Str):∃ t,addD l n=l++t:=by
 unfold addD;cases l.contains n
 ·exact ⟨[n],rfl⟩
 ·exact ⟨[],by simp⟩
theorem aCI:∀ (ns l:List Str),∃ t,ns.foldl addD l=l++t
 | [],l=>⟨[],by simp⟩
 | n::ns,l=>by
  obtain ⟨t,ht⟩:=aVk l n
  obtain ⟨u,hu⟩:=aCI ns (addD l n)
  exact ⟨t++u,by rw [List.foldl_cons,hu,ht,List.append_assoc]⟩
theorem aHr : ∀ (n : Nat), ∀ (sels : List GSel) (l : List Str), bJ sels ≤ n → l.length + bJ sels < 1073741824 → eG l sels = some ((cI sels).foldl addD l) := by
 intro n
 induction n with
 | zero =>
  intro sels l h hl
  have := iV sels
  have hs : sels = [] := List.length_eq_zero_iff.1 (by omega)
  subst hs
  apply aAa
  unfold lG
  rw [cP (r := l) (by simp [eC])]
  rfl
 | succ n ih =>
  intro sels l h hl
  apply aAa
  unfold lG
  have hlen := iV sels
  have key := cN (b := eC sels) sels (fun k (a : List Str) => (a, (k : Int))) (fun r a => (cI r).foldl addD a) (fun k a => a.length + bJ (sels.drop k) < 1073741824) (by show sels.length < _; omega)
   (by intro a _; simp [eC, cI])
   (by
    intro k x r a hm hk hd h1 h2 h3 hI
    rw [hd] at hI
    simp only [bJ] at hI
    have hdr : sels.drop (k + 1) = r := by rw [← List.tail_drop, hd]; rfl
    have hx := tX hm
    have hx2 := tY x
    have hrec : ∀ a' : List Str, a'.length ≤ a.length + 1 → eG a' x.sels = some ((cI x.sels).foldl addD a') := fun a' ha' => ih x.sels a' (by omega) (by omega)
    have hb := aHq x
    refine .inr ⟨(aA5 x).foldl addD a, ?_, ?_, ?_⟩
    ·rw [aNd]
     simp only [eC, h1, cT, h2, aV, h3, cW a x.name (by show a.length < _; omega), hrec a (by omega)]
     cases x.kind == 1
     ·rfl
     ·have ht : tapp a [x.name] = some (a ++ [x.name]) := xG (by simp [sI]; omega)
      simp only [cT, cond_true, List.cons_append, List.nil_append, List.foldl_cons, addD, ht, aV, hrec (a ++ [x.name]) (by simp)]
      cases a.contains x.name <;> rfl
    ·rw [hdr]
     have := gC (aA5 x) a
     omega
    ·simp only [cI, List.foldl_append]) (s := (l, 0)) (a := l) rfl (by simpa using hl)
  rw [key]; rfl
theorem aBo (sels:List GSel) (l:List Str) (h:l.length+bJ sels<1073741824):eG l sels=some ((cI sels).foldl addD l):=aHr _ sels l (Nat.le_refl _) h
abbrev bFW:GFrag:=⟨[],[],[],[]⟩
theorem aSi (l : List GFrag) (a b name : Str) (d : GDoc) (hl : Sm l) :
  ∃ i, aOf l a b name d = some i ∧ (match l.find? (fun f => f.name == name) with | some f => decide (i < 0) = false ∧ nthI l i = some f | none => decide (i < 0) = true) := by
 have hc : ∀ f, aB8 f a b name d = some (f.name == name) := fun f => aIv rfl
 have key := cN (b := qO l a b name d) l (fun k (_ : Nat) => (k : Int)) (fun r k => match r.findIdx? (fun f => f.name == name) with | some j => Sum.inr ((k + j : Nat) : Int) | none => Sum.inl ()) (fun k a => a = k) hl
  (by intro a _; simp [qO])
  (by
   intro k x r a' hm hk hd h1 h2 h3 hI
   subst hI
   simp only [qO, h1, cT, h2, aV, h3, hc, List.findIdx?_cons]
   cases hv : x.name == name
   ·refine .inr ⟨a' + 1, rfl, rfl, ?_⟩
    simp only [Bool.false_eq_true, if_false]
    cases r.findIdx? (fun f => f.name == name) with
    | none => rfl
    | some j => simp only [Option.map_some]; congr 2; omega
   ·left; simp) (s := 0) (a := 0) rfl rfl
 have hrun : ∀ i, aCB l a b name d = some i → aOf l a b name d = some i := fun i h => aUU h
 unfold aCB at hrun
 rw [key] at hrun
 simp only [aV, Nat.zero_add] at hrun
 cases hf : l.findIdx? (fun f => f.name == name) with
 | none =>
  rw [hf] at hrun
  refine ⟨-1, hrun _ rfl, ?_⟩
  rw [List.findIdx?_eq_none_iff] at hf
  have : l.find? (fun f => f.name == name) = none := List.find?_eq_none.2 fun x hx => by simp [hf x hx]
  rw [this]; rfl
 | some j =>
  rw [hf] at hrun
  refine ⟨(j : Int), hrun _ rfl, ?_⟩
  obtain ⟨hj, hp, hq⟩ := List.findIdx?_eq_some_iff_getElem.1 hf
  have : l.find? (fun f => f.name == name) = some l[j] := by
   rw [List.find?_eq_some_iff_getElem]
   exact ⟨hp, j, hj, rfl, fun k hk => by simpa using hq k hk⟩
  rw [this]
  exact ⟨by simp, by rw [mT, List.getElem?_eq_getElem hj]⟩
def eU (d:GDoc) (n:Str):GFrag×Bool:=match d.frags.find? (fun f=>f.name==n) with | some f=>(f,true) | none=>(bFW,false)
theorem aA6 (d:GDoc) (n:Str) (hl:Sm d.frags):aC9 d n=some (eU d n):=by
 apply aMj
 obtain ⟨i,h1,h2⟩:=aSi d.frags [] [] n d hl
 simp only [wS,h1,aV,eU]
 cases hf:d.frags.find? (fun f=>f.name==n) with
 | none=>rw [hf] at h2;simp only at h2;rw [h2];rfl
 | some f=>rw [hf] at h2;obtain ⟨h3,h4⟩:=h2;rw [h3,h4];rfl
theorem mO {d:GDoc} {n:Str} (h:(eU d n).2=true):(eU d n).1∈d.frags∧(eU d n).1.name=n:=by
 revert h
 unfold eU
 cases hf:d.frags.find? (fun f=>f.name==n) with
 | none=>intro h;simp at h
 | some f=>intro _;exact ⟨List.mem_of_find?_eq_some hf,by simpa using List.find?_some hf⟩
theorem aWw {d:GDoc} {f:GFrag} (h:f∈d.frags):(eU d f.name).2=true:=by
 unfold eU
 cases hf:d.frags.find? (fun g=>g.name==f.name) with
 | none=>have:=List.find?_eq_none.1 hf f h;simp at this
 | some g=>rfl
def pH (d:GDoc) (S:Str→Prop):Prop:=∀ n,S n→(eU d n).2=true→∀ m∈cI (eU d n).1.sels,S m
def allN (d:GDoc) (sels:List GSel):List Str:=cI sels++d.frags.flatMap fun f=>cI f.sels
theorem lL:∀ l:List GFrag,(l.flatMap fun f=>cI f.sels).length≤sumL iK l
 | []=>by simp [sumL]
 | f::l=>by
  have h1:=lL l
  have h2:=aCH f.sels
  have h3:bJ f.sels≤iK f:=by rw [mJ,dH];simp only [bkSl];omega
  simp only [List.flatMap_cons,List.length_append,sumL];omega
theorem iJ (d:GDoc):sumL iK d.frags+1≤mK d:=by rw [aFJ];simp only [bkSl];omega
theorem aNe (f:GFrag):1≤iK f:=by rw [mJ];omega
theorem vK (d:GDoc):d.frags.length+1≤mK d:=by
 have:=iJ d;have:=lM iK aNe d.frags;omega
theorem aIN (d : GDoc) (sels : List GSel) (hd : mK d + bJ sels < 500000000) :
  ∃ l, aAz d sels = some l ∧ l.length < 1073741824 ∧ (∀ n ∈ cI sels, n ∈ l) ∧ pH d (· ∈ l) ∧ ∀ S : Str → Prop, (∀ n ∈ cI sels, S n) → pH d S → ∀ n ∈ l, S n := by
 have hU : (allN d sels).length ≤ mK d + bJ sels := by
  have h1 := aCH sels
  have h2 := lL d.frags
  have h3 := iJ d
  simp only [allN, List.length_append]; omega
 have hf := vK d
 have hsm : Sm d.frags := by show d.frags.length < _; omega
 have base : eG [] sels = some ((cI sels).foldl addD []) := aBo sels [] (by simp only [List.length_nil]; omega)
 have hsub : ∀ (l : List Str), l.Nodup → (∀ x ∈ l, x ∈ allN d sels) → l.length ≤ mK d + bJ sels := fun l h1 h2 => Nat.le_trans (oP l _ h1 h2) hU
 obtain ⟨l, hl, hq⟩ := aFA (b := eB d sels)
  (I := fun s => ∃ i : Nat, s.1 = (i : Int) ∧ i ≤ s.2.length ∧ s.2.Nodup ∧ (∀ x ∈ s.2, x ∈ allN d sels) ∧ (∀ n ∈ cI sels, n ∈ s.2) ∧
   (∀ (j : Nat) (n : Str), j < i → s.2[j]? = some n → (eU d n).2 = true → ∀ m ∈ cI (eU d n).1.sels, m ∈ s.2) ∧ (∀ S : Str → Prop, (∀ n ∈ cI sels, S n) → pH d S → ∀ n ∈ s.2, S n))
  (m := fun s => mK d + bJ sels + 1 - s.1.toNat)
  (Q := fun l => l.length < 1073741824 ∧ (∀ n ∈ cI sels, n ∈ l) ∧ pH d (· ∈ l) ∧ ∀ S : Str → Prop, (∀ n ∈ cI sels, S n) → pH d S → ∀ n ∈ l, S n)
  (by
   rintro ⟨i', l⟩ ⟨i, hi, hle, hnd, hall, hin, hcl, hmin⟩
   simp only at hi hle hnd hall hin hcl hmin
   subst hi
   have hlen := hsub l hnd hall
   by_cases hil : l.length ≤ i
   ·left
    refine ⟨l, ?_, by omega, hin, ?_, hmin⟩
    ·have e1 : decide ((i : Int) ≥ (List.length l : Int)) = true := by simp; omega
     simp only [eB, e1, cT]
    ·intro n hn hfr m hm
     obtain ⟨j, hj⟩ := List.mem_iff_getElem?.1 hn
     have hjl := (List.getElem?_eq_some_iff.1 hj).1
     exact hcl j n (by omega) hj hfr m hm
   ·right
    have e1 : decide ((i : Int) ≥ (List.length l : Int)) = false := by simp; omega
    have hx := List.getElem?_eq_getElem (show i < l.length by omega)
    have e3 : IntKind.wrap .i64 ((i : Int) + 1) = ((i + 1 : Nat) : Int) := wadd (by omega)
    cases hfr : (eU d l[i]).2
    ·refine ⟨(((i + 1 : Nat) : Int), l), ?_, ⟨i + 1, rfl, by simp only; omega, hnd, hall, hin, ?_, hmin⟩, ?_⟩
     ·simp only [eB, e1, iW, mT, hx, aV, aA6 d _ hsm, hfr, Bool.not_false, cT, e3]
     ·intro j n hj hjn hfn
      by_cases hji : j = i
      ·subst hji
       rw [hx] at hjn; cases hjn
       rw [hfr] at hfn; simp at hfn
      ·exact hcl j n (by omega) hjn hfn
     ·simp only [Int.toNat_natCast]; omega
    ·obtain ⟨hfm, _⟩ := mO hfr
     have hfb := gD iK hfm
     have hfs : bJ (eU d l[i]).1.sels ≤ iK (eU d l[i]).1 := by rw [mJ, dH]; simp only [bkSl]; omega
     have hdf := iJ d
     have hsp := aBo (eU d l[i]).1.sels l (by omega)
     obtain ⟨t, ht⟩ := aCI (cI (eU d l[i]).1.sels) l
     refine ⟨(((i + 1 : Nat) : Int), (cI (eU d l[i]).1.sels).foldl addD l), ?_, ⟨i + 1, rfl, by simp only; rw [ht]; simp only [List.length_append]; omega, jV _ _ hnd, ?_, ?_, ?_, ?_⟩, ?_⟩
     ·simp only [eB, e1, iW, mT, hx, aV, aA6 d _ hsm, hfr, Bool.not_true, hsp, e3]
     ·intro x hxm
      rcases (cX _ _ _).1 hxm with h | h
      ·exact hall x h
      ·exact List.mem_append_right _ (List.mem_flatMap.2 ⟨_, hfm, h⟩)
     ·intro n hn; exact (cX _ _ _).2 (.inl (hin n hn))
     ·intro j n hj hjn hfn m hm
      simp only at hjn ⊢
      rw [ht] at hjn
      rw [cX]
      by_cases hji : j = i
      ·subst hji
       rw [List.getElem?_append_left (by omega), hx] at hjn; cases hjn
       exact .inr hm
      ·rw [List.getElem?_append_left (by omega)] at hjn
       exact .inl (hcl j n (by omega) hjn hfn m hm)
     ·intro S h1 h2 n hn
      rcases (cX _ _ _).1 hn with h | h
      ·exact hmin S h1 h2 n h
      ·exact h2 l[i] (hmin S h1 h2 _ (List.getElem_mem _)) hfr n h
     ·simp only [Int.toNat_natCast]; omega)
  (0, (cI sels).foldl addD [])
  ⟨0, rfl, Nat.zero_le _, jV _ _ List.nodup_nil, (fun x hx => by
   rcases (cX _ _ _).1 hx with h | h
   ·simp at h
   ·exact List.mem_append_left _ h), (fun n hn => (cX _ _ _).2 (.inr hn)), (fun j n hj => by omega), (fun S h1 _ n hn => by
   rcases (cX _ _ _).1 hn with h | h
   ·simp at h
   ·exact h1 n h)⟩
 exact ⟨l, aHh (by simp only [pF, base, aV, hl]), hq⟩
theorem aMx (d : GDoc) (sels : List GSel) (hd : mK d + bJ sels < 500000000) :
  ∃ (r l : List Str), aAy d sels = some r ∧ r.Nodup ∧ r.length < 1073741824 ∧ (∀ n, n ∈ r ↔ n ∈ l ∧ (eU d n).2 = true) ∧ (∀ n ∈ cI sels, n ∈ l) ∧ pH d (· ∈ l) ∧ ∀ S : Str → Prop, (∀ n ∈ cI sels, S n) → pH d S → ∀ n ∈ l, S n := by
 obtain ⟨l, h1, h2, h3, h4, h5⟩ := aIN d sels hd
 have hf := vK d
 have key := rI (b := iS d l) d.frags (fun k (a : List Str) => (a, (k : Int))) (fun a f => bif l.contains f.name then addD a f.name else a) id (fun k a => a.length ≤ k) (by show d.frags.length < _; omega)
  (by intro a _; simp [iS])
  (by
   intro k x a hm hk e1 e2 e3 hI
   have ht : tapp a [x.name] = some (a ++ [x.name]) := xG (by simp [sI]; omega)
   simp only [iS, e1, cT, e2, aV, e3, cW l x.name (by show l.length < _; omega), cW a x.name (by show a.length < _; omega), ht]
   cases l.contains x.name
   ·exact ⟨rfl, by simp only [cond_false]; omega⟩
   ·simp only [cT, cond_true, addD]
    cases a.contains x.name
    ·exact ⟨rfl, by simp; omega⟩
    ·exact ⟨rfl, by simp; omega⟩) (s := ([], 0)) (a := []) rfl (by simp)
 have fold : ∀ (fs : List GFrag) (a : List Str), (a.Nodup → (fs.foldl (fun a f => bif l.contains f.name then addD a f.name else a) a).Nodup) ∧ (fs.foldl (fun a f => bif l.contains f.name then addD a f.name else a) a).length ≤ a.length + fs.length ∧
   ∀ n, n ∈ fs.foldl (fun a f => bif l.contains f.name then addD a f.name else a) a ↔ n ∈ a ∨ ∃ f ∈ fs, n ∈ l ∧ f.name = n := by
  intro fs
  induction fs with
  | nil => intro a; simp
  | cons f fs ih =>
   intro a
   rw [List.foldl_cons]
   obtain ⟨i1, i2, i3⟩ := ih (bif l.contains f.name then addD a f.name else a)
   refine ⟨fun hn => i1 ?_, ?_, fun n => ?_⟩
   ·cases l.contains f.name
    ·exact hn
    ·exact aHp hn
   ·have := aI6 a f.name
    cases hc : l.contains f.name <;> rw [hc] at i2 <;> simp only [cond_true, cond_false, List.length_cons] at i2 ⊢ <;> omega
   ·rw [i3]
    cases hc : l.contains f.name
    ·have hn : f.name ∉ l := by simpa using hc
     simp only [cond_false, List.mem_cons, exists_eq_or_imp]
     constructor
     ·rintro (h | h)
      ·exact .inl h
      ·exact .inr (.inr h)
     ·rintro (h | ⟨h, e⟩ | h)
      ·exact .inl h
      ·exact absurd (e ▸ h) hn
      ·exact .inr h
    ·have hn : f.name ∈ l := by simpa using hc
     simp only [cond_true, aPp, List.mem_cons, exists_eq_or_imp]
     constructor
     ·rintro ((h | h) | h)
      ·exact .inl h
      ·exact .inr (.inl ⟨h ▸ hn, h.symm⟩)
      ·exact .inr (.inr h)
     ·rintro (h | ⟨h, e⟩ | h)
      ·exact .inl (.inl h)
      ·exact .inl (.inr e.symm)
      ·exact .inr h
 obtain ⟨f1, f2, f3⟩ := fold d.frags []
 refine ⟨_, l, aKQ (by simp only [tL, h1, aV, key]; rfl), f1 List.nodup_nil, ?_, ?_, h3, h4, h5⟩
 ·simp only [List.length_nil] at f2; omega
 ·intro n
  rw [f3]
  constructor
  ·rintro (h | ⟨f, hf, hn, e⟩)
   ·simp at h
   ·exact ⟨hn, e ▸ aWw hf⟩
  ·rintro ⟨hn, hfr⟩
   obtain ⟨hm, hname⟩ := mO hfr
   exact .inr ⟨_, hm, hn, hname⟩
mutual
def varN:GValue→List Str
 | ⟨k,_,s,l,m⟩=>bif k==8 then [s] else bif k==6 then aE6 l else bif k==7 then gF m else []
def aE6:List GValue→List Str
 | []=>[]
 | x::l=>varN x++aE6 l
def aVl:GMember→List Str
 | ⟨_,v⟩=>varN v
def gF:List GMember→List Str
 | []=>[]
 | x::l=>aVl x++gF l
end
theorem bAY (v:GValue):varN v=bif v.kind==8 then [v.s] else bif v.kind==6 then aE6 v.l else bif v.kind==7 then gF v.m else []:=by cases v;simp only [varN]
theorem aI7 (x:GMember):aVl x=varN x.v:=by cases x;simp only [aVl]
mutual
theorem aA7:∀ v:GValue,(varN v).length≤szV v
 | ⟨k,n,s,l,m⟩=>by
  have h1:=aWx l
  have h2:=aPq m
  simp only [varN,szV]
  cases k==8<;>cases k==6<;>cases k==7<;>simp only [cond_true,cond_false,List.length_nil,List.length_singleton]<;>omega
theorem aWx:∀ l:List GValue,(aE6 l).length≤szVs l
 | []=>by simp [aE6]
 | x::l=>by have:=aA7 x;have:=aWx l;simp only [aE6,szVs,List.length_append];omega
theorem bCq:∀ x:GMember,(aVl x).length≤szM x
 | ⟨n,v⟩=>by have:=aA7 v;simp only [aVl,szM];omega
theorem aPq:∀ l:List GMember,(gF l).length≤szMs l
 | []=>by simp [gF]
 | x::l=>by have:=bCq x;have:=aPq l;simp only [gF,szMs,List.length_append];omega
end
theorem aK9 {l:List Str} {x:Str} (h:x∈l):addD l x=l:=by unfold addD;rw [List.contains_iff_mem.2 h];rfl
theorem aWy {l:List Str} {x:Str} (h:x∉l):addD l x=l++[x]:=by
 have:l.contains x=false:=by rw [Bool.eq_false_iff];intro hc;exact h (List.contains_iff_mem.1 hc)
 unfold addD;rw [this];rfl
theorem aSj:∀ (L a out:List Str),(L.foldl addD a).foldl addD out=L.foldl addD (a.foldl addD out)
 | [],a,out=>rfl
 | x::L,a,out=>by
  rw [List.foldl_cons,aSj L (addD a x) out,List.foldl_cons]
  congr 1
  by_cases h:x∈a
  ·rw [aK9 h,aK9 ((cX _ _ _).2 (.inr h))]
  ·rw [aWy h,List.foldl_append];rfl
theorem bFX (L out:List Str):(L.foldl addD []).foldl addD out=L.foldl addD out:=aSj L [] out
theorem aMy : ∀ (n : Nat) (v : GValue) (l : List Str), szV v ≤ n → l.length + szV v < 1073741824 → yX l v = some ((varN v).foldl addD l) := by
 intro n
 induction n with
 | zero => intro v l h; have := aNc v; omega
 | succ n ih =>
  intro v l h hl
  have hv := aNc v
  have h1 := aPn v.l
  have h2 := aF8 v.m
  apply aMv
  unfold wV
  rw [bAY]
  cases h8 : v.kind == 8
  ·cases h6 : v.kind == 6
   ·cases h7 : v.kind == 7
    ·rfl
    ·have key := cN (b := kF v) v.m (fun k (a : List Str) => (a, (k : Int))) (fun r a => (gF r).foldl addD a) (fun k a => a.length + szMs (v.m.drop k) < 1073741824) (by show v.m.length < _; omega)
      (by intro a _; simp [kF, gF])
      (by
       intro k x r a hm hk hd e1 e2 e3 hI
       rw [hd] at hI
       simp only [szMs] at hI
       have hdr : v.m.drop (k + 1) = r := by rw [← List.tail_drop, hd]; rfl
       have hx := aPm hm
       have hx2 := aSe x
       have hb := aA7 x.v
       have hf := gC (varN x.v) a
       refine .inr ⟨(varN x.v).foldl addD a, ?_, ?_, ?_⟩
       ·simp only [kF, e1, cT, e2, aV, e3, ih x.v a (by omega) (by omega)]
       ·rw [hdr]; omega
       ·simp only [gF, aI7, List.foldl_append]) (s := (l, 0)) (a := l) rfl (by simp; omega)
     simp only [iW, cT, cond_false, cond_true, key, aV]
   ·have key := cN (b := kE v) v.l (fun k (a : List Str) => (a, (k : Int))) (fun r a => (aE6 r).foldl addD a) (fun k a => a.length + szVs (v.l.drop k) < 1073741824) (by show v.l.length < _; omega)
     (by intro a _; simp [kE, aE6])
     (by
      intro k x r a hm hk hd e1 e2 e3 hI
      rw [hd] at hI
      simp only [szVs] at hI
      have hdr : v.l.drop (k + 1) = r := by rw [← List.tail_drop, hd]; rfl
      have hx := aPl hm
      have hb := aA7 x
      have hf := gC (varN x) a
      refine .inr ⟨(varN x).foldl addD a, ?_, ?_, ?_⟩
      ·simp only [kE, e1, cT, e2, aV, e3, ih x a (by omega) (by omega)]
      ·rw [hdr]; omega
      ·simp only [aE6, List.foldl_append]) (s := (l, 0)) (a := l) rfl (by simp; omega)
    simp only [iW, cT, cond_false, cond_true, key, aV]
  ·have ht : tapp l [v.s] = some (l ++ [v.s]) := xG (by simp [sI]; omega)
   simp only [cT, cond_true, cW l v.s (by show l.length < _; omega), aV, ht, List.foldl_cons, List.foldl_nil, addD]
   cases l.contains v.s <;> rfl
theorem aPr (v:GValue) (h:szV v<1073741824):aGM v=some ((varN v).foldl addD []) :=
 aMp (by simp only [wU,aMy _ v [] (Nat.le_refl _) (by simpa using h),aV])
theorem aLa : ∀ (n : Nat) (v : GValue) (l : List Str), szV v ≤ n → l.length + szV v < 1073741824 → aJ1 v l = some ((varN v).foldl addD l) := by
 intro n
 induction n with
 | zero => intro v l h; have := aNc v; omega
 | succ n ih =>
  intro v l h hl
  have hv := aNc v
  have h1 := aPn v.l
  have h2 := aF8 v.m
  have stop : ∀ (F : Bool), (v.kind == 6) = F → True := fun _ _ => trivial
  apply aT7
  unfold aFK
  rw [bAY]
  have stay5 : ∀ a : List Str, (v.kind == 6) = false → aY (dJ v) (a, 0) = some a := by
   intro a h6
   apply cP
   simp only [dJ, h6, iW, aAq]
  have stay6 : ∀ a : List Str, (v.kind == 7) = false → aY (dK v) (a, 0) = some a := by
   intro a h7
   apply cP
   simp only [dK, h7, iW, aAq]
  cases h8 : v.kind == 8
  ·cases h6 : v.kind == 6
   ·cases h7 : v.kind == 7
    ·simp only [iW, cond_false, stay5 l h6, stay6 l h7, aV]; rfl
    ·have key := cN (b := dK v) v.m (fun k (a : List Str) => (a, (k : Int))) (fun r a => (gF r).foldl addD a) (fun k a => a.length + szMs (v.m.drop k) < 1073741824) (by show v.m.length < _; omega)
      (by intro a _; simp [dK, gF])
      (by
       intro k x r a hm hk hd e1 e2 e3 hI
       rw [hd] at hI
       simp only [szMs] at hI
       have hdr : v.m.drop (k + 1) = r := by rw [← List.tail_drop, hd]; rfl
       have hx := aPm hm
       have hx2 := aSe x
       have hb := aA7 x.v
       have hf := gC (varN x.v) a
       refine .inr ⟨(varN x.v).foldl addD a, ?_, ?_, ?_⟩
       ·simp only [dK, h7, e1, cT, e2, aV, e3, ih x.v a (by omega) (by omega)]
       ·rw [hdr]; omega
       ·simp only [gF, aI7, List.foldl_append]) (s := (l, 0)) (a := l) rfl (by simp; omega)
     simp only [iW, cT, cond_false, cond_true, stay5 l h6, key, aV]
   ·have key := cN (b := dJ v) v.l (fun k (a : List Str) => (a, (k : Int))) (fun r a => (aE6 r).foldl addD a) (fun k a => a.length + szVs (v.l.drop k) < 1073741824) (by show v.l.length < _; omega)
     (by intro a _; simp [dJ, aE6])
     (by
      intro k x r a hm hk hd e1 e2 e3 hI
      rw [hd] at hI
      simp only [szVs] at hI
      have hdr : v.l.drop (k + 1) = r := by rw [← List.tail_drop, hd]; rfl
      have hx := aPl hm
      have hb := aA7 x
      have hf := gC (varN x) a
      refine .inr ⟨(varN x).foldl addD a, ?_, ?_, ?_⟩
      ·simp only [dJ, h6, e1, cT, e2, aV, e3, ih x a (by omega) (by omega)]
      ·rw [hdr]; omega
      ·simp only [aE6, List.foldl_append]) (s := (l, 0)) (a := l) rfl (by simp; omega)
    have h7 : (v.kind == 7) = false := by
     have : v.kind = 6 := by simpa using h6
     rw [this]; rfl
    simp only [iW, cT, cond_false, cond_true, key, stay6 _ h7, aV]
  ·have ht : tapp l [v.s] = some (l ++ [v.s]) := xG (by simp [sI]; omega)
   have hk : v.kind = 8 := by simpa using h8
   have h6 : (v.kind == 6) = false := by rw [hk]; rfl
   have h7 : (v.kind == 7) = false := by rw [hk]; rfl
   have s1 : ∀ a : List Str, aY (dJ v) (a, 0) = some a := by
    intro a; apply cP; simp only [dJ, h6, iW, aAq]
   have s2 : ∀ a : List Str, aY (dK v) (a, 0) = some a := by
    intro a; apply cP; simp only [dK, h7, iW, aAq]
   have s3 : ∀ a : List Str, aY (dJ v) (a, 0) = some a := by
    intro a; apply cP; simp only [dJ, h6, iW, aAq]
   have s4 : ∀ a : List Str, aY (dK v) (a, 0) = some a := by
    intro a; apply cP; simp only [dK, h7, iW, aAq]
   simp only [cT, cond_true, pG l v.s (by show l.length < _; omega), aV, ht, s1, s2, s3, s4, List.foldl_cons, List.foldl_nil, addD]
   cases l.contains v.s <;> rfl
theorem aYJ (v:GValue) (h:szV v<1073741824):aTO v=some ((varN v).foldl addD []) :=
 aVb (by simp only [aF6,aLa _ v [] (Nat.le_refl _) (by simpa using h),aV])
def sB:List GDir→List Str
 | []=>[]
 | d::l=>gF d.args++sB l
mutual
def aHs:GSel→List Str
 | ⟨_,_,_,ar,di,_,l⟩=>gF ar++(sB di++useS l)
def useS:List GSel→List Str
 | []=>[]
 | x::l=>aHs x++useS l
end
theorem aPs (x:GSel):aHs x=gF x.args++(sB x.dirs++useS x.sels):=by cases x;simp only [aHs]
theorem aA8 (l:List GMember):(gF l).length≤bkSl aZ l:=by
 have:=aPq l
 have:=aK6 l
 rw [gY] at this
 have e:bkSl aZ l=sumL aZ l+1:=rfl
 omega
theorem aGa:∀ l:List GDir,(sB l).length≤sumL iX l
 | []=>by simp [sB]
 | d::l=>by
  have h1:=aGa l
  have h2:=aA8 d.args
  simp only [sB,sumL,List.length_append,lQ];omega
mutual
theorem aI8:∀ x:GSel,(aHs x).length≤iF x
 | ⟨k,a,n,ar,di,o,l⟩=>by
  have h:=aE7 l
  have h2:=aA8 ar
  have h3:=aGa di
  rw [gZ]
  simp only [aHs,List.length_append]
  have e1:bkSl iX di=sumL iX di+1:=rfl
  have e2:bkSl iF l=sumL iF l+1:=rfl
  have e3:=dH l
  omega
theorem aE7:∀ l:List GSel,(useS l).length≤bJ l
 | []=>by simp [useS]
 | x::l=>by have:=aI8 x;have:=aE7 l;simp only [useS,bJ,List.length_append];omega
end
theorem aSk (L:List Str):(L.foldl addD []).length≤L.length:=by have:=gC L [];simpa using this
theorem aYK (L out : List Str) (h : out.length + L.length < 1073741824) : aY (nG L) (out, 0) = some (L.foldl addD out) :=
 rI (b := nG L) L (fun k (a : List Str) => (a, (k : Int))) addD id (fun k a => a.length + (L.length - k) < 1073741824) (by show L.length < _; omega)
  (by intro a _; simp [nG])
  (by
   intro k x a hm hk e1 e2 e3 hI
   have ht : tapp a [x] = some (a ++ [x]) := xG (by simp [sI]; omega)
   have := aI6 a x
   refine ⟨?_, by omega⟩
   simp only [nG, e1, cT, e2, aV, e3, pG a x (by show a.length < _; omega), ht, addD]
   cases a.contains x <;> rfl) (s := (out, 0)) (a := out) rfl (by omega)
theorem aNf (m : List GMember) (out : List Str) (h : out.length + bkSl aZ m < 1073741824) : aOj m out = some ((gF m).foldl addD out) := by
 apply aU5
 have h4 := aK6 m
 rw [gY] at h4
 have e : bkSl aZ m = sumL aZ m + 1 := rfl
 have hlen := aF8 m
 have key := cN (b := qQ m) m (fun k (a : List Str) => (a, (k : Int))) (fun r a => (gF r).foldl addD a) (fun k a => a.length + szMs (m.drop k) < 1073741824) (by show m.length < _; omega)
  (by intro a _; simp [qQ, gF])
  (by
   intro k x r a hm hk hd e1 e2 e3 hI
   rw [hd] at hI
   simp only [szMs] at hI
   have hdr : m.drop (k + 1) = r := by rw [← List.tail_drop, hd]; rfl
   have hx2 := aSe x
   have hb := aA7 x.v
   have hf := gC (varN x.v) a
   have hdl := aSk (varN x.v)
   refine .inr ⟨(varN x.v).foldl addD a, ?_, ?_, ?_⟩
   ·simp only [qQ, e1, cT, e2, aV, e3, aYJ x.v (by omega), aYK _ a (show a.length + ((varN x.v).foldl addD []).length < _ by omega), bFX]
   ·rw [hdr]; omega
   ·simp only [gF, aI7, List.foldl_append]) (s := (out, 0)) (a := out) rfl (by simp; omega)
 simp only [aF4, key, aV]
theorem aVm (l : List GSel) (i : Nat) (x : GSel) (hx : nthI l (i : Int) = some x) (out : List Str) (h : out.length + bkSl iX x.dirs < 1073741824) :
  aY (fZ l (i : Int)) (out, 0) = some ((sB x.dirs).foldl addD out) := by
 have hlen := lM iX (fun d => by rw [lQ]; omega) x.dirs
 have e : bkSl iX x.dirs = sumL iX x.dirs + 1 := rfl
 exact cN (b := fZ l (i : Int)) x.dirs (fun k (a : List Str) => (a, (k : Int))) (fun r a => (sB r).foldl addD a) (fun k a => a.length + sumL iX (x.dirs.drop k) < 1073741824) (by show x.dirs.length < _; omega)
  (by intro a _; simp [fZ, hx, sB])
  (by
   intro k d r a hm hk hd e1 e2 e3 hI
   rw [hd] at hI
   simp only [sumL] at hI
   have hdr : x.dirs.drop (k + 1) = r := by rw [← List.tail_drop, hd]; rfl
   have hb := lQ d
   have hb2 := aA8 d.args
   have hf := gC (gF d.args) a
   refine .inr ⟨(gF d.args).foldl addD a, ?_, ?_, ?_⟩
   ·simp only [fZ, hx, aV, e1, cT, e2, e3, aNf d.args a (by omega)]
   ·rw [hdr]; omega
   ·simp only [sB, List.foldl_append]) (s := (out, 0)) (a := out) rfl (by simp; omega)
theorem aSl : ∀ (n : Nat) (l : List GSel) (out : List Str), bJ l ≤ n → out.length + bJ l < 1073741824 → qE l out = some ((useS l).foldl addD out) := by
 intro n
 induction n with
 | zero =>
  intro l out h hl
  have := iV l
  have hs : l = [] := List.length_eq_zero_iff.1 (by omega)
  subst hs
  apply aCt
  unfold oX
  rw [cP (r := out) (by simp [gA])]
  rfl
 | succ n ih =>
  intro l out h hl
  apply aCt
  unfold oX
  have hlen := iV l
  have key := cN (b := gA l) l (fun k (a : List Str) => (a, (k : Int))) (fun r a => (useS r).foldl addD a) (fun k a => a.length + bJ (l.drop k) < 1073741824) (by show l.length < _; omega)
   (by intro a _; simp [gA, useS])
   (by
    intro k x r a hm hk hd h1 h2 h3 hI
    rw [hd] at hI
    simp only [bJ] at hI
    have hdr : l.drop (k + 1) = r := by rw [← List.tail_drop, hd]; rfl
    have hx := tX hm
    have hx2 := tY x
    have hx3 := gZ x
    have e3 := dH x.sels
    have e4 : bkSl iF x.sels = sumL iF x.sels + 1 := rfl
    have e5 : bkSl iX x.dirs = sumL iX x.dirs + 1 := rfl
    have b1 := aA8 x.args
    have b2 := aGa x.dirs
    have b3 := aE7 x.sels
    have f1 := gC (gF x.args) a
    have f2 := gC (sB x.dirs) ((gF x.args).foldl addD a)
    have f3 := gC (useS x.sels) ((sB x.dirs).foldl addD ((gF x.args).foldl addD a))
    refine .inr ⟨(aHs x).foldl addD a, ?_, ?_, ?_⟩
    ·rw [aPs, List.foldl_append, List.foldl_append]
     simp only [gA, h1, cT, h2, aV, h3, aNf x.args a (by omega), aVm l k x h2 ((gF x.args).foldl addD a) (by omega), ih x.sels ((sB x.dirs).foldl addD ((gF x.args).foldl addD a)) (by omega) (by omega)]
    ·rw [hdr]
     have := gC (aHs x) a
     have := aI8 x
     omega
    ·simp only [useS, List.foldl_append]) (s := (out, 0)) (a := out) rfl (by simpa using hl)
  rw [key]; rfl
theorem aDN (l:List GSel) (out:List Str) (h:out.length+bJ l<1073741824):qE l out=some ((useS l).foldl addD out):=aSl _ l out (Nat.le_refl _) h
theorem aLb:∀ (x y:Str),Op.bytesLess x y=true↔x<y
 | [],[]=>by simp [Op.bytesLess]
 | _::_,[]=>by simp [Op.bytesLess]
 | [],_::_=>by simp [Op.bytesLess]
 | a::x,b::y=>by rw [Op.bytesLess,List.cons_lt_cons_iff,Bool.or_eq_true,Bool.and_eq_true,aLb x y,beq_iff_eq,decide_eq_true_eq]
abbrev Ris (l:List Str):Prop:=l.Pairwise (· < ·)
theorem Ris.nodup {l:List Str} (h:Ris l):l.Nodup:=h.imp fun h e=>by subst e;exact List.lt_irrefl _ h
theorem aGb:∀ (l:List Str) (s x:Str),x∈insS l s↔x∈l∨x=s
 | [],s,x=>by simp [insS]
 | y::r,s,x=>by
  have ih:=aGb r s x
  simp only [insS]
  split
  ·simp only [List.mem_cons,ih,or_assoc]
  ·split
   ·rename_i h;subst h;simp only [List.mem_cons];constructor
    ·rintro (h | h)
     ·exact .inl (.inl h)
     ·exact .inl (.inr h)
    ·rintro ((h | h) | h)
     ·exact .inl h
     ·exact .inr h
     ·exact .inl h
   ·simp only [List.mem_cons];constructor
    ·rintro (h | h | h)
     ·exact .inr h
     ·exact .inl (.inl h)
     ·exact .inl (.inr h)
    ·rintro ((h | h) | h)
     ·exact .inr (.inl h)
     ·exact .inr (.inr h)
     ·exact .inl h
theorem aPt:∀ (l:List Str) (s:Str),Ris l→Ris (insS l s)
 | [],s,h=>by simp [insS,Ris]
 | y::r,s,h=>by
  have h1:=List.pairwise_cons.1 h
  simp only [insS]
  split
  ·rename_i hl
   rw [aLb] at hl
   refine List.pairwise_cons.2 ⟨fun z hz => ?_,aPt r s h1.2⟩
   rcases (aGb r s z).1 hz with h | h
   ·exact h1.1 z h
   ·rw [h];exact hl
  ·rename_i hl
   rw [aLb] at hl
   split
   ·exact h
   ·rename_i hne
    have hs:s<y:=by
     rcases Std.lt_trichotomy s y with h | h | h
     ·exact h
     ·exact absurd h.symm hne
     ·exact absurd h hl
    refine List.pairwise_cons.2 ⟨fun z hz => ?_,h⟩
    rcases List.mem_cons.1 hz with h | h
    ·rw [h];exact hs
    ·exact List.lt_trans hs (h1.1 z h)
theorem aSm:∀ (l:List Str) (s:Str),Ris l→s∈l→insS l s=l
 | [],s,_,h=>by simp at h
 | y::r,s,h,hs=>by
  have h1:=List.pairwise_cons.1 h
  simp only [insS]
  rcases List.mem_cons.1 hs with e | hm
  ·subst e
   rw [if_neg (by rw [aLb];exact List.lt_irrefl _),if_pos rfl]
  ·rw [if_pos ((aLb _ _).2 (h1.1 s hm)),aSm r s h1.2 hm]
theorem sC:∀ (ns l:List Str) (x:Str),x∈ns.foldl insS l↔x∈l∨x∈ns
 | [],l,x=>by simp
 | n::ns,l,x=>by rw [List.foldl_cons,sC ns,aGb,List.mem_cons,or_assoc]
theorem fH:∀ (ns l:List Str),Ris l→Ris (ns.foldl insS l)
 | [],l,h=>h
 | n::ns,l,h=>fH ns _ (aPt l n h)
theorem pI:∀ (ns l:List Str),(ns.foldl insS l).length≤l.length+ns.length
 | [],l=>by simp
 | n::ns,l=>by have:=pI ns (insS l n);have:=aN9 l n;rw [List.foldl_cons,List.length_cons];omega
theorem aSn:∀ (L a l:List Str),Ris l→(L.foldl addD a).foldl insS l=L.foldl insS (a.foldl insS l)
 | [],a,l,_=>rfl
 | x::L,a,l,hl=>by
  rw [List.foldl_cons,aSn L (addD a x) l hl,List.foldl_cons]
  congr 1
  by_cases h:x∈a
  ·rw [aK9 h,aSm _ _ (fH a l hl) ((sC _ _ _).2 (.inr h))]
  ·rw [aWy h,List.foldl_append];rfl
theorem bFY (L l:List Str) (hl:Ris l):(L.foldl addD []).foldl insS l=L.foldl insS l:=aSn L [] l hl
theorem aVn:∀ (l m:List Str),Ris l→Ris m→(∀ x,x∈l↔x∈m)→l=m
 | [],[],_,_,_=>rfl
 | [],y::m,_,_,h=>by have:=(h y).2 (by simp);simp at this
 | x::l,[],_,_,h=>by have:=(h x).1 (by simp);simp at this
 | x::l,y::m,hl,hm,h=>by
  have h1:=List.pairwise_cons.1 hl
  have h2:=List.pairwise_cons.1 hm
  have e:x=y:=by
   rcases List.mem_cons.1 ((h x).1 (by simp)) with e | hx
   ·exact e
   ·rcases List.mem_cons.1 ((h y).2 (by simp)) with e | hy
    ·exact e.symm
    ·exact absurd (List.lt_trans (h1.1 y hy) (h2.1 x hx)) (List.lt_irrefl _)
  subst e
  congr 1
  refine aVn l m h1.2 h2.2 fun z => ?_
  constructor
  ·intro hz
   rcases List.mem_cons.1 ((h z).1 (by simp [hz])) with e | h
   ·subst e;exact absurd (h1.1 z hz) (List.lt_irrefl _)
   ·exact h
  ·intro hz
   rcases List.mem_cons.1 ((h z).2 (by simp [hz])) with e | h
   ·subst e;exact absurd (h2.1 z hz) (List.lt_irrefl _)
   ·exact h
theorem aMz (l:List Str) (s:Str) (h:l.length<1073741824):aEh l s=some (insS l s) :=
 aK3 (by unfold aJY;rw [if_pos (by rw [sI];omega)])
theorem bEn (L l : List Str) (h : l.length + L.length < 1073741824) : aY (nE L) (l, 0) = some (L.foldl insS l) :=
 rI (b := nE L) L (fun k (a : List Str) => (a, (k : Int))) insS id (fun k a => a.length + (L.length - k) < 1073741824) (by show L.length < _; omega)
  (by intro a _; simp [nE])
  (by
   intro k x a hm hk e1 e2 e3 hI
   have := aN9 a x
   refine ⟨?_, by omega⟩
   simp only [nE, e1, cT, e2, aV, e3, aMz a x (by omega)]) (s := (l, 0)) (a := l) rfl (by omega)
theorem aHt (m : List GMember) (l : List Str) (hr : Ris l) (h : l.length + bkSl aZ m < 1073741824) : aGK l m = some ((gF m).foldl insS l) := by
 apply aUQ
 have h4 := aK6 m
 rw [gY] at h4
 have e : bkSl aZ m = sumL aZ m + 1 := rfl
 have hlen := aF8 m
 have key := cN (b := qN m) m (fun k (a : List Str) => (a, (k : Int))) (fun r a => (gF r).foldl insS a) (fun k a => Ris a ∧ a.length + szMs (m.drop k) < 1073741824) (by show m.length < _; omega)
  (by intro a _; simp [qN, gF])
  (by
   intro k x r a hm hk hd e1 e2 e3 hI
   rw [hd] at hI
   simp only [szMs] at hI
   have hdr : m.drop (k + 1) = r := by rw [← List.tail_drop, hd]; rfl
   have hx2 := aSe x
   have hb := aA7 x.v
   have hf := pI (varN x.v) a
   have hdl := aSk (varN x.v)
   refine .inr ⟨(varN x.v).foldl insS a, ?_, ⟨fH _ _ hI.1, ?_⟩, ?_⟩
   ·simp only [qN, e1, cT, e2, aV, e3, aPr x.v (by omega), bEn _ a (show a.length + ((varN x.v).foldl addD []).length < _ by omega), bFY _ _ hI.1]
   ·rw [hdr]; omega
   ·simp only [gF, aI7, List.foldl_append]) (s := (l, 0)) (a := l) rfl ⟨hr, by simp; omega⟩
 simp only [aFZ, key, aV]
theorem aDO (b : GSel → (List Str × Int) → Option ((List Str × Int) ⊕ List Str)) (hb : b = gL ∨ b = eA) (x : GSel) (out : List Str) (hr : Ris out) (h : out.length + bkSl iX x.dirs < 1073741824) :
  aY (b x) (out, 0) = some ((sB x.dirs).foldl insS out) := by
 have hlen := lM iX (fun d => by rw [lQ]; omega) x.dirs
 have e : bkSl iX x.dirs = sumL iX x.dirs + 1 := rfl
 exact cN (b := b x) x.dirs (fun k (a : List Str) => (a, (k : Int))) (fun r a => (sB r).foldl insS a) (fun k a => Ris a ∧ a.length + sumL iX (x.dirs.drop k) < 1073741824) (by show x.dirs.length < _; omega)
  (by intro a _; rcases hb with rfl | rfl <;> simp [gL, eA, sB])
  (by
   intro k d r a hm hk hd e1 e2 e3 hI
   rw [hd] at hI
   simp only [sumL] at hI
   have hdr : x.dirs.drop (k + 1) = r := by rw [← List.tail_drop, hd]; rfl
   have hb1 := lQ d
   have hb2 := aA8 d.args
   have hf := pI (gF d.args) a
   refine .inr ⟨(gF d.args).foldl insS a, ?_, ⟨fH _ _ hI.1, ?_⟩, ?_⟩
   ·rcases hb with rfl | rfl <;> simp only [gL, eA, e1, cT, e2, aV, e3, aHt d.args a hI.1 (by omega)]
   ·rw [hdr]; omega
   ·simp only [sB, List.foldl_append]) (s := (out, 0)) (a := out) rfl ⟨hr, by simp; omega⟩
theorem aMA : ∀ (n : Nat) (l : List GSel) (out : List Str), Ris out → bJ l ≤ n → out.length + bJ l < 1073741824 → iO out l = some ((useS l).foldl insS out) := by
 intro n
 induction n with
 | zero =>
  intro l out hr h hl
  have := iV l
  have hs : l = [] := List.length_eq_zero_iff.1 (by omega)
  subst hs
  apply vA
  unfold iR
  rw [cP (r := out) (by simp [dA])]
  rfl
 | succ n ih =>
  intro l out hr h hl
  apply vA
  unfold iR
  have hlen := iV l
  have key := cN (b := dA l) l (fun k (a : List Str) => (a, (k : Int))) (fun r a => (useS r).foldl insS a) (fun k a => Ris a ∧ a.length + bJ (l.drop k) < 1073741824) (by show l.length < _; omega)
   (by intro a _; simp [dA, useS])
   (by
    intro k x r a hm hk hd h1 h2 h3 hI
    rw [hd] at hI
    simp only [bJ] at hI
    have hdr : l.drop (k + 1) = r := by rw [← List.tail_drop, hd]; rfl
    have hx := tX hm
    have hx2 := tY x
    have hx3 := gZ x
    have e3 := dH x.sels
    have e4 : bkSl iF x.sels = sumL iF x.sels + 1 := rfl
    have e5 : bkSl iX x.dirs = sumL iX x.dirs + 1 := rfl
    have b1 := aA8 x.args
    have b2 := aGa x.dirs
    have b3 := aE7 x.sels
    have f1 := pI (gF x.args) a
    have f2 := pI (sB x.dirs) ((gF x.args).foldl insS a)
    have r1 := fH (gF x.args) a hI.1
    have r2 := fH (sB x.dirs) _ r1
    refine .inr ⟨(aHs x).foldl insS a, ?_, ⟨fH _ _ hI.1, ?_⟩, ?_⟩
    ·rw [aPs, List.foldl_append, List.foldl_append]
     simp only [dA, h1, cT, h2, aV, h3, aHt x.args a hI.1 (by omega), aDO _ (.inr rfl) x ((gF x.args).foldl insS a) r1 (by omega), ih x.sels ((sB x.dirs).foldl insS ((gF x.args).foldl insS a)) r2 (by omega) (by omega)]
    ·rw [hdr]
     have := pI (aHs x) a
     have := aI8 x
     omega
    ·simp only [useS, List.foldl_append]) (s := (out, 0)) (a := out) rfl ⟨hr, by simpa using hl⟩
  rw [key]; rfl
theorem wW (l:List GSel) (out:List Str) (hr:Ris out) (h:out.length+bJ l<1073741824):iO out l=some ((useS l).foldl insS out):=aMA _ l out hr (Nat.le_refl _) h
theorem aLc (l : List GSel) (h : bJ l < 1073741824) : aB7 l = some ((useS l).foldl insS []) := by
 apply aIp
 unfold qX
 have hlen := iV l
 have key := cN (b := gM l) l (fun k (a : List Str) => (a, (k : Int))) (fun r a => (useS r).foldl insS a) (fun k a => Ris a ∧ a.length + bJ (l.drop k) < 1073741824) (by show l.length < _; omega)
  (by intro a _; simp [gM, useS])
  (by
   intro k x r a hm hk hd h1 h2 h3 hI
   rw [hd] at hI
   simp only [bJ] at hI
   have hdr : l.drop (k + 1) = r := by rw [← List.tail_drop, hd]; rfl
   have hx := tX hm
   have hx2 := tY x
   have hx3 := gZ x
   have e3 := dH x.sels
   have e4 : bkSl iF x.sels = sumL iF x.sels + 1 := rfl
   have e5 : bkSl iX x.dirs = sumL iX x.dirs + 1 := rfl
   have b1 := aA8 x.args
   have b2 := aGa x.dirs
   have b3 := aE7 x.sels
   have f1 := pI (gF x.args) a
   have f2 := pI (sB x.dirs) ((gF x.args).foldl insS a)
   have r1 := fH (gF x.args) a hI.1
   have r2 := fH (sB x.dirs) _ r1
   refine .inr ⟨(aHs x).foldl insS a, ?_, ⟨fH _ _ hI.1, ?_⟩, ?_⟩
   ·rw [aPs, List.foldl_append, List.foldl_append]
    simp only [gM, h1, cT, h2, aV, h3, aHt x.args a hI.1 (by omega), aDO _ (.inl rfl) x ((gF x.args).foldl insS a) r1 (by omega), wW x.sels ((sB x.dirs).foldl insS ((gF x.args).foldl insS a)) r2 (by omega)]
   ·rw [hdr]
    have := pI (aHs x) a
    have := aI8 x
    omega
   ·simp only [useS, List.foldl_append]) (s := ([], 0)) (a := []) rfl ⟨List.Pairwise.nil, by simpa using h⟩
 rw [key]; rfl
theorem aVo {α:Type} (f:α→α):∀ (p:List α) (a:α) (u:List α),(p++a::u).modify p.length f=p++f a::u
 | [],a,u=>by simp
 | x::p,a,u=>by simp [aVo f p a u]
theorem bAZ {α:Type} (p:List α) (a:α) (u:List α):(p++a::u)[p.length]?=some a:=by simp
theorem aWz:∀ (l:List Str) (s:Str),s∉l→(insS l s).length=l.length+1
 | [],s,_=>rfl
 | y::r,s,h=>by
  have h1:s∉r:=fun hh=>h (by simp [hh])
  simp only [insS]
  split
  ·simp [aWz r s h1]
  ·split
   ·rename_i e;exact absurd (by simp [e]) h
   ·simp
theorem bEo (y2 S : List Str) (x : Str) (q : List Str) (hS : Ris S) (hx : x ∉ S) (hl : y2.length = S.length + 1 + q.length) (hb : y2.length < 1073741824) :
  aY (iB y2) ((S.length : Int), S ++ x :: q) = some (insS S x ++ q) := by
 obtain ⟨r, hr, hq⟩ := aFA (b := iB y2)
  (I := fun s => ∃ p t : List Str, s.1 = (p.length : Int) ∧ s.2 = p ++ x :: (t ++ q) ∧ p ++ t = S ∧ ∀ y ∈ t, x < y)
  (m := fun s => s.1.toNat) (Q := fun r => r = insS S x ++ q)
  (by
   rintro ⟨k, b⟩ ⟨p, t, h1, h2, h3, h4⟩
   simp only at h1 h2
   subst h1 h2
   have fin : Ris (p ++ x :: t) → p ++ x :: (t ++ q) = insS S x ++ q := by
    intro hR
    have : p ++ x :: t = insS S x := aVn _ _ hR (aPt S x hS) fun z => by
     rw [aGb, ← h3]; simp only [List.mem_append, List.mem_cons]
     constructor
     ·rintro (h | h | h)
      ·exact .inl (.inl h)
      ·exact .inr h
      ·exact .inl (.inr h)
     ·rintro ((h | h) | h)
      ·exact .inl h
      ·exact .inr (.inr h)
      ·exact .inr (.inl h)
    rw [← this]; simp
   rcases List.eq_nil_or_concat p with hp | ⟨p', z, hp⟩
   ·subst hp
    left
    refine ⟨_, by simp only [iB]; rw [show decide (((List.length ([] : List Str) : Nat) : Int) > 0) = false from rfl]; rfl, fin ?_⟩
    have : t = S := h3
    subst this
    exact List.pairwise_cons.2 ⟨h4, hS⟩
   ·rw [List.concat_eq_append] at hp
    subst hp
    have hlen : p'.length + 1 + t.length = S.length := by rw [← h3]; simp; omega
    have e0 : decide (((List.length (p' ++ [z]) : Nat) : Int) > 0) = true := by rw [decide_eq_true_eq, List.length_append, List.length_singleton]; omega
    have e1 : tixR (List.length y2) ((List.length (p' ++ [z]) : Nat) : Int) = some (p' ++ [z]).length := by
     rw [aZN (by simp; omega)]; simp
    have ew : IntKind.wrap .i64 (((List.length (p' ++ [z]) : Nat) : Int) - 1) = (p'.length : Int) := by rw [wi (by simp; omega)]; simp
    have e2 : tixR (List.length y2) (p'.length : Int) = some p'.length := by
     rw [aZN (by omega)]; simp
    have g1 : tget ((p' ++ [z]) ++ x :: (t ++ q)) (p' ++ [z]).length (fun z : Str => z) = some x := by unfold tget; rw [bAZ]; rfl
    have g2 : tget ((p' ++ [z]) ++ x :: (t ++ q)) p'.length (fun z : Str => z) = some z := by unfold tget; rw [List.append_assoc, List.singleton_append, bAZ]; rfl
    have u1 : tput ((p' ++ [z]) ++ x :: (t ++ q)) (p' ++ [z]).length (fun _ : Str => z) = some ((p' ++ [z]) ++ z :: (t ++ q)) := by rw [aZO (by simp), aVo]
    have u2 : tput ((p' ++ [z]) ++ z :: (t ++ q)) p'.length (fun _ : Str => x) = some (p' ++ x :: z :: (t ++ q)) := by
     rw [List.append_assoc, List.singleton_append, aZO (by simp), aVo]
    cases hl : Op.bytesLess x z
    ·left
     refine ⟨_, by simp only [iB, e0, cT, e1, aV, g1, ew, e2, g2, hl, iW], fin ?_⟩
     have hzS : z ∈ S := by rw [← h3]; simp
     have hne : z ≠ x := fun e => hx (e ▸ hzS)
     have hzx : z < x := by
      rcases Std.lt_trichotomy z x with h | h | h
      ·exact h
      ·exact absurd h hne
      ·rw [← aLb, hl] at h; simp at h
     rw [← h3] at hS
     have hS' := List.pairwise_append.1 hS
     refine List.pairwise_append.2 ⟨hS'.1, List.pairwise_cons.2 ⟨h4, hS'.2.1⟩, fun a ha b hb => ?_⟩
     have hax : a < x := by
      rcases List.mem_append.1 ha with h | h
      ·have := List.pairwise_append.1 hS'.1
       exact List.lt_trans (this.2.2 a h z (by simp)) hzx
      ·rw [List.mem_singleton] at h; rw [h]; exact hzx
     rcases List.mem_cons.1 hb with h | h
     ·rw [h]; exact hax
     ·exact hS'.2.2 a ha b h
    ·right
     refine ⟨((p'.length : Int), p' ++ x :: (([z] ++ t) ++ q)), by simp only [iB, e0, cT, e1, aV, g1, ew, e2, g2, hl, u1, u2]; simp, ⟨p', [z] ++ t, rfl, rfl, ?_, ?_⟩, ?_⟩
     ·rw [← h3]; simp
     ·intro y hy
      rcases List.mem_append.1 hy with h | h
      ·rw [List.mem_singleton] at h; rw [h]; exact (aLb _ _).1 hl
      ·exact h4 y h
     ·simp)
  ((S.length : Int), S ++ x :: q) ⟨S, [], rfl, by simp, by simp, by simp⟩
 rw [hr, hq]
theorem aCJ (l:List Str) (hn:l.Nodup):(l.foldl insS []).length=l.length:=by
 have key:∀ (l a:List Str),l.Nodup→(∀ x∈l,x∉a)→(l.foldl insS a).length=a.length+l.length:=by
  intro l
  induction l with
  | nil=>intro a _ _;simp
  | cons x l ih =>
   intro a hn ha
   have hn':=List.nodup_cons.1 hn
   rw [List.foldl_cons,ih (insS a x) hn'.2 (fun y hy=>by
    rw [aGb];rintro (h | h)
    ·exact ha y (by simp [hy]) h
    ·exact hn'.1 (h ▸ hy)),aWz a x (ha x (by simp)),List.length_cons]
   omega
 simpa using key l [] hn (by simp)
theorem aSo (l : List Str) (hn : l.Nodup) (h : l.length < 1073741824) : aJ4 l = some (l.foldl insS []) := by
 apply aOT
 have hc : tapl l = some l := bD5 (by rw [sI]; omega)
 have hfl := aCJ l hn
 have done : aY (jR l) (1, l) = some (l.foldl insS []) := by
  obtain ⟨r, hr, hq⟩ := aFA (b := jR l)
   (I := fun s => ∃ i : Nat, s.1 = (i : Int) ∧ 1 ≤ i ∧ (i ≤ l.length ∨ l = []) ∧ s.2 = (l.take i).foldl insS [] ++ l.drop i)
   (m := fun s => l.length - s.1.toNat) (Q := fun r => r = l.foldl insS [])
   (by
    rintro ⟨i', b⟩ ⟨i, h1, h2, h3, h4⟩
    simp only at h1 h4
    subst h1 h4
    by_cases hi : i < l.length
    ·right
     have e1 : decide ((i : Int) < ((List.length l : Nat) : Int)) = true := by simp; omega
     have e3 : IntKind.wrap .i64 ((i : Int) + 1) = ((i + 1 : Nat) : Int) := wadd (by omega)
     have hd : l.drop i = l[i] :: l.drop (i + 1) := List.drop_eq_getElem_cons hi
     have htn : (l.take i).Nodup := hn.sublist (List.take_sublist _ _)
     have hSl : ((l.take i).foldl insS []).length = i := by rw [aCJ _ htn, List.length_take]; omega
     have hnx : l[i] ∉ (l.take i).foldl insS [] := by
      rw [sC]
      rintro (h | h)
      ·simp at h
      ·have hsplit : (l.take i ++ l.drop i).Nodup := by rw [List.take_append_drop]; exact hn
       exact (List.nodup_append.1 hsplit).2.2 _ h _ (by rw [hd]; exact List.mem_cons_self) rfl
     have hs := bEo l ((l.take i).foldl insS []) l[i] (l.drop (i + 1)) (fH _ _ List.Pairwise.nil) hnx (by rw [hSl, List.length_drop]; omega) h
     rw [hSl] at hs
     refine ⟨(((i + 1 : Nat) : Int), insS ((l.take i).foldl insS []) l[i] ++ l.drop (i + 1)), ?_, ⟨i + 1, rfl, by omega, by omega, ?_⟩, ?_⟩
     ·simp only [jR, e1, cT, hd, hs, aV, e3]
     ·simp only
      rw [List.take_succ_eq_append_getElem hi, List.foldl_append]; rfl
     ·simp only [Int.toNat_natCast]; omega
    ·left
     have e1 : decide ((i : Int) < ((List.length l : Nat) : Int)) = false := by simp; omega
     refine ⟨_, by simp only [jR, e1, iW]; rfl, ?_⟩
     rw [List.take_of_length_le (by omega), List.drop_eq_nil_of_le (by omega), List.append_nil])
   (1, l) ⟨1, rfl, Nat.le_refl _, by cases l <;> simp, by cases l <;> simp [insS]⟩
  rw [hr, hq]
 simp only [aAR, hc, aV, done, hfl]
 rw [show Nat.ble l.length l.length = true by simp, cT, List.take_of_length_le (by omega)]
theorem aHu (d : GDoc) (n : Str) (hl : Sm d.frags) : aOd d n = some (eU d n) := by
 apply aUs
 have key := aBX (b := qK d n) d.frags (fun f => if f.name == n then some (Sum.inr (f.name, f.on_, f.dirs, f.sels)) else none) (.inl ()) hl
  (by simp [qK])
  (by
   intro k x hm e1 e2 e3
   simp only [qK, e1, cT, e2, aV, e3]
   cases x.name == n <;> rfl)
 have hf := aF9 d.frags (fun f => f.name == n) (fun f => (Sum.inr (f.name, f.on_, f.dirs, f.sels) : Unit ⊕ (Str × Str × (List GDir) × (List GSel))))
 rw [hf] at key
 simp only [aFO, key, aV, eU]
 cases d.frags.find? (fun f => f.name == n) <;> rfl
theorem aVp : ∀ (n : Nat) (sels : List GSel) (l : List Str), bJ sels ≤ n → l.length + bJ sels < 1073741824 → lP sels l = some ((cI sels).foldl addD l) := by
 intro n
 induction n with
 | zero =>
  intro sels l h hl
  have := iV sels
  have hs : sels = [] := List.length_eq_zero_iff.1 (by omega)
  subst hs
  apply aDK
  unfold rU
  rw [cP (r := l) (by simp [iH])]
  rfl
 | succ n ih =>
  intro sels l h hl
  apply aDK
  unfold rU
  have hlen := iV sels
  have key := cN (b := iH sels) sels (fun k (a : List Str) => (a, (k : Int))) (fun r a => (cI r).foldl addD a) (fun k a => a.length + bJ (sels.drop k) < 1073741824) (by show sels.length < _; omega)
   (by intro a _; simp [iH, cI])
   (by
    intro k x r a hm hk hd h1 h2 h3 hI
    rw [hd] at hI
    simp only [bJ] at hI
    have hdr : sels.drop (k + 1) = r := by rw [← List.tail_drop, hd]; rfl
    have hx := tX hm
    have hx2 := tY x
    have hrec : ∀ a' : List Str, a'.length ≤ a.length + 1 → lP x.sels a' = some ((cI x.sels).foldl addD a') := fun a' ha' => ih x.sels a' (by omega) (by omega)
    have hb := aHq x
    refine .inr ⟨(aA5 x).foldl addD a, ?_, ?_, ?_⟩
    ·rw [aNd]
     simp only [iH, h1, cT, h2, aV, h3, pG a x.name (by show a.length < _; omega), hrec a (by omega)]
     cases x.kind == 1
     ·rfl
     ·have ht : tapp a [x.name] = some (a ++ [x.name]) := xG (by simp [sI]; omega)
      simp only [cT, cond_true, List.cons_append, List.nil_append, List.foldl_cons, addD, ht, aV, hrec (a ++ [x.name]) (by simp)]
      cases a.contains x.name <;> rfl
    ·rw [hdr]
     have := gC (aA5 x) a
     omega
    ·simp only [cI, List.foldl_append]) (s := (l, 0)) (a := l) rfl (by simpa using hl)
  rw [key]; rfl
theorem aGc (sels:List GSel) (l:List Str) (h:l.length+bJ sels<1073741824):lP sels l=some ((cI sels).foldl addD l):=aVp _ sels l (Nat.le_refl _) h
theorem aPu (sels:List GSel) (h:bJ sels<1073741824):aGI sels=some ((cI sels).foldl addD []) :=
 aL0 (by simp only [wN,aGc sels [] (by simpa using h),aV])
theorem aSp (d : GDoc) (sels : List GSel) (hd : mK d + bJ sels < 500000000) :
  ∃ l, aY (jA d) ((cI sels).foldl addD [], 0) = some l ∧ l.length < 1073741824 ∧ (∀ n ∈ cI sels, n ∈ l) ∧ pH d (· ∈ l) ∧ ∀ S : Str → Prop, (∀ n ∈ cI sels, S n) → pH d S → ∀ n ∈ l, S n := by
 have hU : (allN d sels).length ≤ mK d + bJ sels := by
  have h1 := aCH sels
  have h2 := lL d.frags
  have h3 := iJ d
  simp only [allN, List.length_append]; omega
 have hf := vK d
 have hsm : Sm d.frags := by show d.frags.length < _; omega
 have hsub : ∀ (l : List Str), l.Nodup → (∀ x ∈ l, x ∈ allN d sels) → l.length ≤ mK d + bJ sels := fun l h1 h2 => Nat.le_trans (oP l _ h1 h2) hU
 refine aFA (b := jA d)
  (I := fun s => ∃ i : Nat, s.2 = (i : Int) ∧ i ≤ s.1.length ∧ s.1.Nodup ∧ (∀ x ∈ s.1, x ∈ allN d sels) ∧ (∀ n ∈ cI sels, n ∈ s.1) ∧
   (∀ (j : Nat) (n : Str), j < i → s.1[j]? = some n → (eU d n).2 = true → ∀ m ∈ cI (eU d n).1.sels, m ∈ s.1) ∧ (∀ S : Str → Prop, (∀ n ∈ cI sels, S n) → pH d S → ∀ n ∈ s.1, S n))
  (m := fun s => mK d + bJ sels + 1 - s.2.toNat)
  (Q := fun l => l.length < 1073741824 ∧ (∀ n ∈ cI sels, n ∈ l) ∧ pH d (· ∈ l) ∧ ∀ S : Str → Prop, (∀ n ∈ cI sels, S n) → pH d S → ∀ n ∈ l, S n)
  (by
   rintro ⟨l, i'⟩ ⟨i, hi, hle, hnd, hall, hin, hcl, hmin⟩
   simp only at hi hle hnd hall hin hcl hmin
   subst hi
   have hlen := hsub l hnd hall
   by_cases hil : l.length ≤ i
   ·left
    refine ⟨l, ?_, by omega, hin, ?_, hmin⟩
    ·have e1 : decide ((i : Int) < (List.length l : Int)) = false := by simp; omega
     simp only [jA, e1, iW]
    ·intro n hn hfr m hm
     obtain ⟨j, hj⟩ := List.mem_iff_getElem?.1 hn
     have hjl := (List.getElem?_eq_some_iff.1 hj).1
     exact hcl j n (by omega) hj hfr m hm
   ·right
    have e1 : decide ((i : Int) < (List.length l : Int)) = true := by simp; omega
    have hx := List.getElem?_eq_getElem (show i < l.length by omega)
    have e3 : IntKind.wrap .i64 ((i : Int) + 1) = ((i + 1 : Nat) : Int) := wadd (by omega)
    cases hfr : (eU d l[i]).2
    ·refine ⟨(l, ((i + 1 : Nat) : Int)), ?_, ⟨i + 1, rfl, by simp only; omega, hnd, hall, hin, ?_, hmin⟩, ?_⟩
     ·simp only [jA, e1, cT, mT, hx, aV, aHu d _ hsm, hfr, iW, e3]
     ·intro j n hj hjn hfn
      by_cases hji : j = i
      ·subst hji
       rw [hx] at hjn; cases hjn
       rw [hfr] at hfn; simp at hfn
      ·exact hcl j n (by omega) hjn hfn
     ·simp only [Int.toNat_natCast]; omega
    ·obtain ⟨hfm, _⟩ := mO hfr
     have hfb := gD iK hfm
     have hfs : bJ (eU d l[i]).1.sels ≤ iK (eU d l[i]).1 := by rw [mJ, dH]; simp only [bkSl]; omega
     have hdf := iJ d
     have hsp := aGc (eU d l[i]).1.sels l (by omega)
     obtain ⟨t, ht⟩ := aCI (cI (eU d l[i]).1.sels) l
     refine ⟨((cI (eU d l[i]).1.sels).foldl addD l, ((i + 1 : Nat) : Int)), ?_, ⟨i + 1, rfl, by simp only; rw [ht]; simp only [List.length_append]; omega, jV _ _ hnd, ?_, ?_, ?_, ?_⟩, ?_⟩
     ·simp only [jA, e1, cT, mT, hx, aV, aHu d _ hsm, hfr, hsp, e3]
     ·intro x hxm
      rcases (cX _ _ _).1 hxm with h | h
      ·exact hall x h
      ·exact List.mem_append_right _ (List.mem_flatMap.2 ⟨_, hfm, h⟩)
     ·intro n hn; exact (cX _ _ _).2 (.inl (hin n hn))
     ·intro j n hj hjn hfn m hm
      simp only at hjn ⊢
      rw [ht] at hjn
      rw [cX]
      by_cases hji : j = i
      ·subst hji
       rw [List.getElem?_append_left (by omega), hx] at hjn; cases hjn
       exact .inr hm
      ·rw [List.getElem?_append_left (by omega)] at hjn
       exact .inl (hcl j n (by omega) hjn hfn m hm)
     ·intro S h1 h2 n hn
      rcases (cX _ _ _).1 hn with h | h
      ·exact hmin S h1 h2 n h
      ·exact h2 l[i] (hmin S h1 h2 _ (List.getElem_mem _)) hfr n h
     ·simp only [Int.toNat_natCast]; omega)
  ((cI sels).foldl addD [], 0)
  ⟨0, rfl, Nat.zero_le _, jV _ _ List.nodup_nil, (fun x hx => by
   rcases (cX _ _ _).1 hx with h | h
   ·simp at h
   ·exact List.mem_append_left _ h), (fun n hn => (cX _ _ _).2 (.inr hn)), (fun j n hj => by omega), (fun S h1 _ n hn => by
   rcases (cX _ _ _).1 hn with h | h
   ·simp at h
   ·exact h1 n h)⟩
theorem aLd (d : GDoc) (sels : List GSel) (hd : mK d + bJ sels < 500000000) :
  ∃ (r l : List Str), aIZ d sels = some r ∧ r.Nodup ∧ r.length < 1073741824 ∧ (∀ n, n ∈ r ↔ n ∈ l ∧ (eU d n).2 = true) ∧ (∀ n ∈ cI sels, n ∈ l) ∧ pH d (· ∈ l) ∧ ∀ S : Str → Prop, (∀ n ∈ cI sels, S n) → pH d S → ∀ n ∈ l, S n := by
 obtain ⟨l, h1, h2, h3, h4, h5⟩ := aSp d sels hd
 have hf := vK d
 have key := rI (b := nU d l) d.frags (fun k (a : List Str) => (a, (k : Int))) (fun a f => bif l.contains f.name then addD a f.name else a) id (fun k a => a.length ≤ k) (by show d.frags.length < _; omega)
  (by intro a _; simp [nU])
  (by
   intro k x a hm hk e1 e2 e3 hI
   have ht : tapp a [x.name] = some (a ++ [x.name]) := xG (by simp [sI]; omega)
   simp only [nU, e1, cT, e2, aV, e3, pG l x.name (by show l.length < _; omega), pG a x.name (by show a.length < _; omega), ht]
   cases l.contains x.name
   ·exact ⟨rfl, by simp only [cond_false]; omega⟩
   ·simp only [cT, cond_true, addD]
    cases a.contains x.name
    ·exact ⟨rfl, by simp; omega⟩
    ·exact ⟨rfl, by simp; omega⟩) (s := ([], 0)) (a := []) rfl (by simp)
 have fold : ∀ (fs : List GFrag) (a : List Str), (a.Nodup → (fs.foldl (fun a f => bif l.contains f.name then addD a f.name else a) a).Nodup) ∧ (fs.foldl (fun a f => bif l.contains f.name then addD a f.name else a) a).length ≤ a.length + fs.length ∧
   ∀ n, n ∈ fs.foldl (fun a f => bif l.contains f.name then addD a f.name else a) a ↔ n ∈ a ∨ ∃ f ∈ fs, n ∈ l ∧ f.name = n := by
  intro fs
  induction fs with
  | nil => intro a; simp
  | cons f fs ih =>
   intro a
   rw [List.foldl_cons]
   obtain ⟨i1, i2, i3⟩ := ih (bif l.contains f.name then addD a f.name else a)
   refine ⟨fun hn => i1 ?_, ?_, fun n => ?_⟩
   ·cases l.contains f.name
    ·exact hn
    ·exact aHp hn
   ·have := aI6 a f.name
    cases hc : l.contains f.name <;> rw [hc] at i2 <;> simp only [cond_true, cond_false, List.length_cons] at i2 ⊢ <;> omega
   ·rw [i3]
    cases hc : l.contains f.name
    ·have hn : f.name ∉ l := by simpa using hc
     simp only [cond_false, List.mem_cons, exists_eq_or_imp]
     constructor
     ·rintro (h | h)
      ·exact .inl h
      ·exact .inr (.inr h)
     ·rintro (h | ⟨h, e⟩ | h)
      ·exact .inl h
      ·exact absurd (e ▸ h) hn
      ·exact .inr h
    ·have hn : f.name ∈ l := by simpa using hc
     simp only [cond_true, aPp, List.mem_cons, exists_eq_or_imp]
     constructor
     ·rintro ((h | h) | h)
      ·exact .inl h
      ·exact .inr (.inl ⟨h ▸ hn, h.symm⟩)
      ·exact .inr (.inr h)
     ·rintro (h | ⟨h, e⟩ | h)
      ·exact .inl (.inl h)
      ·exact .inl (.inr e.symm)
      ·exact .inr h
 obtain ⟨f1, f2, f3⟩ := fold d.frags []
 refine ⟨_, l, aRa (by simp only [aDc, aPu sels (by omega), h1, aV, key]; rfl), f1 List.nodup_nil, ?_, ?_, h3, h4, h5⟩
 ·simp only [List.length_nil] at f2; omega
 ·intro n
  rw [f3]
  constructor
  ·rintro (h | ⟨f, hf, hn, e⟩)
   ·simp at h
   ·exact ⟨hn, e ▸ aWw hf⟩
  ·rintro ⟨hn, hfr⟩
   obtain ⟨hm, hname⟩ := mO hfr
   exact .inr ⟨_, hm, hn, hname⟩
def allU (d:GDoc) (l:List GSel):List Str:=useS l++d.frags.flatMap fun f=>useS f.sels
theorem nZ (f:GFrag):bJ f.sels≤iK f:=by rw [mJ,dH];simp only [bkSl];omega
theorem aSq:∀ l:List GFrag,(l.flatMap fun f=>useS f.sels).length≤sumL iK l
 | []=>by simp [sumL]
 | f::l=>by
  have h1:=aSq l
  have h2:=aE7 f.sels
  have h3:=nZ f
  simp only [List.flatMap_cons,List.length_append,sumL];omega
theorem aWA (d:GDoc) (l:List GSel):(allU d l).length≤mK d+bJ l:=by
 have h1:=aE7 l
 have h2:=aSq d.frags
 have h3:=iJ d
 simp only [allU,List.length_append];omega
theorem aSr (d : GDoc) (l : List GSel) (r : List Str) (hg : aAy d l = some r) (hrl : r.length < 1073741824) (hf : ∀ n ∈ r, (eU d n).2 = true) (hd : mK d + bJ l < 400000000) :
  ∃ u, yT d l = some u ∧ Ris u ∧ u.length ≤ mK d + bJ l ∧ ∀ x, x ∈ u ↔ x ∈ useS l ∨ ∃ n ∈ r, x ∈ useS (eU d n).1.sels := by
 have hfl := vK d
 have hsm : Sm d.frags := by show d.frags.length < _; omega
 have hdf := iJ d
 have hU := aWA d l
 have key := rI (b := lV d r) r (fun k (a : List Str) => (a, (k : Int))) (fun a n => (useS (eU d n).1.sels).foldl insS a) id (fun k a => Ris a ∧ ∀ x ∈ a, x ∈ allU d l) (by show r.length < _; omega)
  (by intro a _; simp [lV])
  (by
   intro k n a hm hk e1 e2 e3 hI
   obtain ⟨hfm, _⟩ := mO (hf n hm)
   have hfb := gD iK hfm
   have hfs := nZ (eU d n).1
   have hal := oP a _ hI.1.nodup hI.2
   refine ⟨?_, fH _ _ hI.1, fun x hx => ?_⟩
   ·simp only [lV, e1, cT, e2, aV, e3, aA6 d n hsm, wW (eU d n).1.sels a hI.1 (by omega)]
   ·rcases (sC _ _ _).1 hx with h | h
    ·exact hI.2 x h
    ·exact List.mem_append_right _ (List.mem_flatMap.2 ⟨_, hfm, h⟩)) (s := ((useS l).foldl insS [], 0)) (a := (useS l).foldl insS []) rfl ⟨fH _ _ List.Pairwise.nil, fun x hx => by
    rcases (sC _ _ _).1 hx with h | h
    ·simp at h
    ·exact List.mem_append_left _ h⟩
 have fold : ∀ (ns a : List Str), (Ris a → Ris (ns.foldl (fun a n => (useS (eU d n).1.sels).foldl insS a) a)) ∧ ∀ x, x ∈ ns.foldl (fun a n => (useS (eU d n).1.sels).foldl insS a) a ↔ x ∈ a ∨ ∃ n ∈ ns, x ∈ useS (eU d n).1.sels := by
  intro ns
  induction ns with
  | nil => intro a; simp
  | cons n ns ih =>
   intro a
   rw [List.foldl_cons]
   obtain ⟨i1, i2⟩ := ih ((useS (eU d n).1.sels).foldl insS a)
   refine ⟨fun h => i1 (fH _ _ h), fun x => ?_⟩
   rw [i2, sC]; simp only [List.mem_cons, exists_eq_or_imp, or_assoc]
 obtain ⟨f1, f2⟩ := fold r ((useS l).foldl insS [])
 have hmem : ∀ x, x ∈ r.foldl (fun a n => (useS (eU d n).1.sels).foldl insS a) ((useS l).foldl insS []) ↔ x ∈ useS l ∨ ∃ n ∈ r, x ∈ useS (eU d n).1.sels := by
  intro x; rw [f2, sC]; simp
 have hR := f1 (fH _ _ List.Pairwise.nil)
 refine ⟨_, aOG (by simp only [aAN, aLc l (by omega), hg, aV, key]; rfl), hR, ?_, hmem⟩
 refine Nat.le_trans (oP _ (allU d l) hR.nodup fun x hx => ?_) hU
 rcases (hmem x).1 hx with h | ⟨n, hn, h⟩
 ·exact List.mem_append_left _ h
 ·exact List.mem_append_right _ (List.mem_flatMap.2 ⟨_, (mO (hf n hn)).1, h⟩)
theorem aYL (d : GDoc) (l : List GSel) (r : List Str) (hg : aIZ d l = some r) (hrl : r.length < 1073741824) (hf : ∀ n ∈ r, (eU d n).2 = true) (hd : mK d + bJ l < 400000000) :
  ∃ u, aGH d l = some u ∧ Ris u ∧ ∀ x, x ∈ u ↔ x ∈ useS l ∨ ∃ n ∈ r, x ∈ useS (eU d n).1.sels := by
 have hfl := vK d
 have hsm : Sm d.frags := by show d.frags.length < _; omega
 have hdf := iJ d
 have hU := aWA d l
 have key := rI (b := qJ d r) r (fun k (a : List Str) => (a, (k : Int))) (fun a n => (useS (eU d n).1.sels).foldl addD a) id (fun k a => a.Nodup ∧ ∀ x ∈ a, x ∈ allU d l) (by show r.length < _; omega)
  (by intro a _; simp [qJ])
  (by
   intro k n a hm hk e1 e2 e3 hI
   obtain ⟨hfm, _⟩ := mO (hf n hm)
   have hfb := gD iK hfm
   have hfs := nZ (eU d n).1
   have hal := oP a _ hI.1 hI.2
   refine ⟨?_, jV _ _ hI.1, fun x hx => ?_⟩
   ·simp only [qJ, e1, cT, e2, aV, e3, aHu d n hsm, aDN (eU d n).1.sels a (by omega)]
   ·rcases (cX _ _ _).1 hx with h | h
    ·exact hI.2 x h
    ·exact List.mem_append_right _ (List.mem_flatMap.2 ⟨_, hfm, h⟩)) (s := ((useS l).foldl addD [], 0)) (a := (useS l).foldl addD []) rfl ⟨jV _ _ List.nodup_nil, fun x hx => by
    rcases (cX _ _ _).1 hx with h | h
    ·simp at h
    ·exact List.mem_append_left _ h⟩
 have fold : ∀ (ns a : List Str), (a.Nodup → (ns.foldl (fun a n => (useS (eU d n).1.sels).foldl addD a) a).Nodup) ∧ ∀ x, x ∈ ns.foldl (fun a n => (useS (eU d n).1.sels).foldl addD a) a ↔ x ∈ a ∨ ∃ n ∈ ns, x ∈ useS (eU d n).1.sels := by
  intro ns
  induction ns with
  | nil => intro a; simp
  | cons n ns ih =>
   intro a
   rw [List.foldl_cons]
   obtain ⟨i1, i2⟩ := ih ((useS (eU d n).1.sels).foldl addD a)
   refine ⟨fun h => i1 (jV _ _ h), fun x => ?_⟩
   rw [i2, cX]; simp only [List.mem_cons, exists_eq_or_imp, or_assoc]
 obtain ⟨f1, f2⟩ := fold r ((useS l).foldl addD [])
 have hmem : ∀ x, x ∈ r.foldl (fun a n => (useS (eU d n).1.sels).foldl addD a) ((useS l).foldl addD []) ↔ x ∈ useS l ∨ ∃ n ∈ r, x ∈ useS (eU d n).1.sels := by
  intro x; rw [f2, cX]; simp
 have hN := f1 (jV _ _ List.nodup_nil)
 have hlen := Nat.le_trans (oP _ (allU d l) hN fun x hx => by
  rcases (hmem x).1 hx with h | ⟨n, hn, h⟩
  ·exact List.mem_append_left _ h
  ·exact List.mem_append_right _ (List.mem_flatMap.2 ⟨_, (mO (hf n hn)).1, h⟩)) hU
 have hs := aSo _ hN (by omega)
 refine ⟨_, aUi (by simp only [aFN, aDN l [] (show 0 + bJ l < _ by omega), hg, aV, key, id, hs]; rfl), fH _ _ List.Pairwise.nil, fun x => ?_⟩
 rw [sC, hmem]; simp
theorem aE8:dO=some true:=aDt 100 (by kernel_rfl)
open Go Go.Ev Go.Ev.PV
abbrev E0':El:=⟨true,[(.sl 3 1048576 false),.str,.str]⟩
abbrev E1':El:=⟨true,[(.int .i64),(.int .i64),.str,(.sl 6 1048576 false),(.sl 7 1048576 false)]⟩
abbrev E2':El:=⟨false,[.bool]⟩
abbrev E3':El:=⟨true,[(.sl 10 1048576 false),(.sl 13 1048576 false)]⟩
abbrev E4':El:=⟨true,[.str,.str,(.int .i64),(.int .i64),.bool,(.int .i64),(.int .i64),.str,(.sl 6 1048576 false),(.sl 7 1048576 false)]⟩
abbrev E5':El:=⟨true,[.str,(.int .i64),(.int .i64)]⟩
abbrev E6':El:=⟨true,[(.int .i64),.str,.str,(.sl 7 1048576 false),(.sl 8 1048576 false),.str,(.sl 12 1048576 false)]⟩
abbrev E7':El:=⟨true,[(.int .i64),.str,(.sl 0 1048576 false),(.sl 4 1048576 false),(.sl 0 1048576 false),(.sl 5 1048576 false)]⟩
abbrev E8':El:=⟨false,[(.int .i64)]⟩
abbrev E9':El:=⟨false,[.sl 0 16777216 false]⟩
abbrev E10':El:=⟨true,[.str,(.sl 5 1048576 false),.str,(.int .i64),(.int .i64),(.sl 8 1048576 false)]⟩
abbrev E11':El:=⟨false,[.str]⟩
abbrev E12':El:=⟨true,[(.int .i64),.str,(.sl 11 1048576 false),(.sl 8 1048576 false),(.sl 12 1048576 false)]⟩
abbrev E13':El:=⟨false,[.sl 5 16777216 false]⟩
abbrev E15':El:=⟨true,[.str,.str,(.sl 8 1048576 false),(.sl 12 1048576 false)]⟩
abbrev E16':El:=⟨false,[.sl 7 16777216 false]⟩
def sa:Nat→List HV→List HV
 | 0,l=>l
 | n+1,l => .same::sa n l
def lh (i:Nat) (hv:List HV) (cnt top:Nat) (ws:List (Option Nat)):Nat×LH:=(i,{hv:=hv,cnt:=cnt,top:=top,ex:=ws.map fun w=>(w,hv)})
def sv1 (ins outs:List El):Summ:={ins:=ins,outs:=outs}
def sv2 (ins outs:List El):Summ:={ins:=ins,outs:=outs,cap:=2097152}
def tτ:Tb:=[⟨false,[.str]⟩,⟨false,[(.int .i64)]⟩,⟨true,[(.sl 3 1048576 false),.str,.str]⟩,⟨true,[(.int .i64),.str,(.sl 0 1048576 false),(.sl 4 1048576 false),(.sl 0 1048576 false),(.sl 5 1048576 false)]⟩,⟨true,[.str,(.sl 5 1048576 false),.str,(.int .i64),(.int .i64),(.sl 8 1048576 false)]⟩,⟨true,[.str,.str,(.int .i64),(.int .i64),.bool,(.int .i64),(.int .i64),.str,(.sl 6 1048576 false),(.sl 7 1048576 false)]⟩,⟨true,[(.int .i64),(.int .i64),.str,(.sl 6 1048576 false),(.sl 7 1048576 false)]⟩,⟨true,[.str,(.int .i64),(.int .i64),.str,(.sl 6 1048576 false),(.sl 7 1048576 false)]⟩,⟨true,[.str,(.sl 7 1048576 false)]⟩,⟨true,[(.sl 10 1048576 false),(.sl 13 1048576 false)]⟩,⟨true,[(.int .i64),.str,(.sl 11 1048576 false),(.sl 8 1048576 false),(.sl 12 1048576 false)]⟩,⟨true,[.str,.str,(.int .i64),(.int .i64),.bool,(.int .i64),(.int .i64),.str,(.sl 6 1048576 false),(.sl 7 1048576 false)]⟩,⟨true,[(.int .i64),.str,.str,(.sl 7 1048576 false),(.sl 8 1048576 false),.str,(.sl 12 1048576 false)]⟩,⟨true,[.str,.str,(.sl 8 1048576 false),(.sl 12 1048576 false)]⟩,⟨false,[(.sl 8 1048576 false)]⟩,⟨true,[.str,(.int .i64),(.int .i64)]⟩,⟨true,[.str,(.int .i64),.str,.str,(.sl 7 1048576 false),(.sl 8 1048576 false),.str,(.sl 12 1048576 false)]⟩,⟨true,[.str,.str,(.int .i64),(.int .i64),.bool]⟩]
def cf (s:STb) (r:List (FuncId×Summ×Nat)) (me:Nat) (ag:Bool) (l:List (Nat×LH)):Cfg:={τ:=tτ,sums:=s,recs:=r,me:=me,meAg:=ag,loops:=l}
def cg (s:STb) (r:List (FuncId×Summ×Nat)) (me:Nat) (ag:Bool) (l:List (Nat×LH)) (np:Nat):Cfg:={τ:=tτ,sums:=s,recs:=r,me:=me,meAg:=ag,loops:=l,cap:=2097152,np:=np}
abbrev Ds (f:FuncId) (sm:Summ):Prop:=aN7 Tryz.prog MT XT tτ f sm
theorem bA (s:Str):dW s=s.length+1:=rfl
theorem lfSl {α:Type} {τ:Tb} {n ub:Nat} {enc:α→PV} {l:List α} (h:∀ x∈l,ElOk τ (elOf τ n) (enc x)) (hl:l.length≤ub):LfOk τ (.sl n ub false) (.slice (l.map enc) [] false):=by
 refine .sl (fun e he => ?_) (by simpa using hl)
 obtain ⟨x,hx,rfl⟩:=List.mem_map.1 he
 exact h x hx
theorem okVM:∀ n:Nat,n≤1048576→(∀ x:GValue,cJ x≤n→ElOk tτ (elOf tτ 6) (aI x))∧(∀ x:GMember,aZ x≤n→ElOk tτ (elOf tτ 7) (aE x)):=by
 intro n
 induction n with
 | zero=>intro _;exact ⟨fun x h=>by rw [cK] at h;omega,fun x h=>by rw [cZ] at h;omega⟩
 | succ n ih =>
  intro hn
  obtain ⟨ihV,ihM⟩:=ih (by omega)
  have ihValue:=ihV
  have ihMember:=ihM
  refine ⟨fun x hb => ?_,fun x hb => ?_⟩
  ·simp only [cK,bk1,bA] at hb
   rw [fX]
   change ElOk tτ ⟨true,[(.int .i64),(.int .i64),.str,(.sl 6 1048576 false),(.sl 7 1048576 false)]⟩ _
   exact .ag (.cons (.int _ _) (.cons (.int _ _) (.cons (.str (by unfold topL;omega)) (.cons (lfSl (fun y hy=>ihValue y (by have:=iN (f:=cJ) hy;omega)) (by have:=gG (f:=cJ) (fun d=>by rw [cK];omega) x.l;omega)) (.cons (lfSl (fun y hy=>ihMember y (by have:=iN (f:=aZ) hy;omega)) (by have:=gG (f:=aZ) (fun d=>by rw [cZ];omega) x.m;omega)) (.nil))))))
  
  ·simp only [cZ,cK,bk1,bA] at hb
   rw [kR]
   change ElOk tτ ⟨true,[.str,(.int .i64),(.int .i64),.str,(.sl 6 1048576 false),(.sl 7 1048576 false)]⟩ _
   exact .ag (.cons (.str (by unfold topL;omega)) (.cons (.int _ _) (.cons (.int _ _) (.cons (.str (by unfold topL;omega)) (.cons (lfSl (fun y hy=>ihValue y (by have:=iN (f:=cJ) hy;omega)) (by have:=gG (f:=cJ) (fun d=>by rw [cK];omega) x.v.l;omega)) (.cons (lfSl (fun y hy=>ihMember y (by have:=iN (f:=aZ) hy;omega)) (by have:=gG (f:=aZ) (fun d=>by rw [cZ];omega) x.v.m;omega)) (.nil)))))))
theorem bA0 (x:GValue) (h:cJ x≤1048576):ElOk tτ (elOf tτ 6) (aI x):=(okVM _ (Nat.le_refl _)).1 x h
theorem aI9 (x:GMember) (h:aZ x≤1048576):ElOk tτ (elOf tτ 7) (aE x):=(okVM _ (Nat.le_refl _)).2 x h
theorem bA1 (x:GParam) (hb:kH x≤1048576):ElOk tτ (elOf tτ 5) (aX x):=by
 simp only [qF,mI,cK,bk1,bA] at hb
 rw [kS]
 change ElOk tτ ⟨true,[.str,.str,(.int .i64),(.int .i64),.bool,(.int .i64),(.int .i64),.str,(.sl 6 1048576 false),(.sl 7 1048576 false)]⟩ _
 exact .ag (.cons (.str (by unfold topL;omega)) (.cons (.str (by unfold topL;omega)) (.cons (.int _ _) (.cons (.int _ _) (.cons (.bool _) (.cons (.int _ _) (.cons (.int _ _) (.cons (.str (by unfold topL;omega)) (.cons (lfSl (fun y hy=>bA0 y (by have:=iN (f:=cJ) hy;omega)) (by have:=gG (f:=cJ) (fun d=>by rw [cK];omega) x.default.l;omega)) (.cons (lfSl (fun y hy=>aI9 y (by have:=iN (f:=aZ) hy;omega)) (by have:=gG (f:=aZ) (fun d=>by rw [cZ];omega) x.default.m;omega)) (.nil)))))))))))
theorem bCr (x:GDir) (hb:iX x≤1048576):ElOk tτ (elOf tτ 8) (aK x):=by
 simp only [lQ,bk1,bA] at hb
 rw [rJ]
 change ElOk tτ ⟨true,[.str,(.sl 7 1048576 false)]⟩ _
 exact .ag (.cons (.str (by unfold topL;omega)) (.cons (lfSl (fun y hy=>aI9 y (by have:=iN (f:=aZ) hy;omega)) (by have:=gG (f:=aZ) (fun d=>by rw [cZ];omega) x.args;omega)) (.nil)))
theorem aYM (x:GFieldDef) (hb:iP x≤1048576):ElOk tτ (elOf tτ 4) (bO x):=by
 simp only [lR,mI,bk1,bA] at hb
 rw [fL]
 change ElOk tτ ⟨true,[.str,(.sl 5 1048576 false),.str,(.int .i64),(.int .i64),(.sl 8 1048576 false)]⟩ _
 exact .ag (.cons (.str (by unfold topL;omega)) (.cons (lfSl (fun y hy=>bA1 y (by have:=iN (f:=kH) hy;omega)) (by have:=gG (f:=kH) (fun d=>by rw [qF];omega) x.params;omega)) (.cons (.str (by unfold topL;omega)) (.cons (.int _ _) (.cons (.int _ _) (.cons (lfSl (fun y hy=>bCr y (by have:=iN (f:=iX) hy;omega)) (by have:=gG (f:=iX) (fun d=>by rw [lQ];omega) x.dirs;omega)) (.nil)))))))
theorem bFZ (x:GDef) (hb:aJ8 x≤1048576):ElOk tτ (elOf tτ 3) (aM x):=by
 simp only [oT,bk1,bA] at hb
 rw [rK]
 change ElOk tτ ⟨true,[(.int .i64),.str,(.sl 0 1048576 false),(.sl 4 1048576 false),(.sl 0 1048576 false),(.sl 5 1048576 false)]⟩ _
 exact .ag (.cons (.int _ _) (.cons (.str (by unfold topL;omega)) (.cons (lfSl (fun y hy => .one (.str (by have:=iN (f:=dW) hy;rw [bA] at this;unfold topL;omega))) (by have:=gG (f:=dW) (fun d=>by rw [bA];omega) x.faces;omega)) (.cons (lfSl (fun y hy=>aYM y (by have:=iN (f:=iP) hy;omega)) (by have:=gG (f:=iP) (fun d=>by rw [lR];omega) x.fields;omega)) (.cons (lfSl (fun y hy => .one (.str (by have:=iN (f:=dW) hy;rw [bA] at this;unfold topL;omega))) (by have:=gG (f:=dW) (fun d=>by rw [bA];omega) x.parts;omega)) (.cons (lfSl (fun y hy=>bA1 y (by have:=iN (f:=kH) hy;omega)) (by have:=gG (f:=kH) (fun d=>by rw [qF];omega) x.params;omega)) (.nil)))))))
theorem aPv (x:GSchema) (hb:qW x≤1048576):ElOk tτ (elOf tτ 2) (fG x):=by
 simp only [qG,bk1,bA] at hb
 rw [kT]
 change ElOk tτ ⟨true,[(.sl 3 1048576 false),.str,.str]⟩ _
 exact .ag (.cons (lfSl (fun y hy=>bFZ y (by have:=iN (f:=aJ8) hy;omega)) (by have:=gG (f:=aJ8) (fun d=>by rw [oT];omega) x.defs;omega)) (.cons (.str (by unfold topL;omega)) (.cons (.str (by unfold topL;omega)) (.nil))))
theorem bCs (x:GVarDef) (hb:tF x≤1048576):ElOk tτ (elOf tτ 11) (aC x):=by
 simp only [uO,mI,cK,bk1,bA] at hb
 rw [iY]
 change ElOk tτ ⟨true,[.str,.str,(.int .i64),(.int .i64),.bool,(.int .i64),(.int .i64),.str,(.sl 6 1048576 false),(.sl 7 1048576 false)]⟩ _
 exact .ag (.cons (.str (by unfold topL;omega)) (.cons (.str (by unfold topL;omega)) (.cons (.int _ _) (.cons (.int _ _) (.cons (.bool _) (.cons (.int _ _) (.cons (.int _ _) (.cons (.str (by unfold topL;omega)) (.cons (lfSl (fun y hy=>bA0 y (by have:=iN (f:=cJ) hy;omega)) (by have:=gG (f:=cJ) (fun d=>by rw [cK];omega) x.default.l;omega)) (.cons (lfSl (fun y hy=>aI9 y (by have:=iN (f:=aZ) hy;omega)) (by have:=gG (f:=aZ) (fun d=>by rw [cZ];omega) x.default.m;omega)) (.nil)))))))))))
theorem bFw:∀ n:Nat,n≤1048576→∀ x:GSel,iF x≤n→ElOk tτ (elOf tτ 12) (aG x):=by
 intro n
 induction n with
 | zero=>intro _ x h;rw [gZ] at h;omega
 | succ n ih =>
  intro hn x hb
  have ihSel:=ih (by omega)
  simp only [gZ,bk1,bA] at hb
  rw [rL]
  change ElOk tτ ⟨true,[(.int .i64),.str,.str,(.sl 7 1048576 false),(.sl 8 1048576 false),.str,(.sl 12 1048576 false)]⟩ _
  exact .ag (.cons (.int _ _) (.cons (.str (by unfold topL;omega)) (.cons (.str (by unfold topL;omega)) (.cons (lfSl (fun y hy=>aI9 y (by have:=iN (f:=aZ) hy;omega)) (by have:=gG (f:=aZ) (fun d=>by rw [cZ];omega) x.args;omega)) (.cons (lfSl (fun y hy=>bCr y (by have:=iN (f:=iX) hy;omega)) (by have:=gG (f:=iX) (fun d=>by rw [lQ];omega) x.dirs;omega)) (.cons (.str (by unfold topL;omega)) (.cons (lfSl (fun y hy=>ihSel y (by have:=iN (f:=iF) hy;omega)) (by have:=gG (f:=iF) (fun d=>by rw [gZ];omega) x.sels;omega)) (.nil))))))))
theorem bFx (x:GSel) (h:iF x≤1048576):ElOk tτ (elOf tτ 12) (aG x):=bFw _ (Nat.le_refl _) x h
theorem okOp (x:GOp) (hb:bkOp x≤1048576):ElOk tτ (elOf tτ 10) (aT x):=by
 simp only [aCe,bk1,bA] at hb
 rw [wD]
 change ElOk tτ ⟨true,[(.int .i64),.str,(.sl 11 1048576 false),(.sl 8 1048576 false),(.sl 12 1048576 false)]⟩ _
 exact .ag (.cons (.int _ _) (.cons (.str (by unfold topL;omega)) (.cons (lfSl (fun y hy=>bCs y (by have:=iN (f:=tF) hy;omega)) (by have:=gG (f:=tF) (fun d=>by rw [uO];omega) x.vars;omega)) (.cons (lfSl (fun y hy=>bCr y (by have:=iN (f:=iX) hy;omega)) (by have:=gG (f:=iX) (fun d=>by rw [lQ];omega) x.dirs;omega)) (.cons (lfSl (fun y hy=>bFx y (by have:=iN (f:=iF) hy;omega)) (by have:=gG (f:=iF) (fun d=>by rw [gZ];omega) x.sels;omega)) (.nil))))))
theorem bFy (x:GFrag) (hb:iK x≤1048576):ElOk tτ (elOf tτ 13) (aH x):=by
 simp only [mJ,bk1,bA] at hb
 rw [lN]
 change ElOk tτ ⟨true,[.str,.str,(.sl 8 1048576 false),(.sl 12 1048576 false)]⟩ _
 exact .ag (.cons (.str (by unfold topL;omega)) (.cons (.str (by unfold topL;omega)) (.cons (lfSl (fun y hy=>bCr y (by have:=iN (f:=iX) hy;omega)) (by have:=gG (f:=iX) (fun d=>by rw [lQ];omega) x.dirs;omega)) (.cons (lfSl (fun y hy=>bFx y (by have:=iN (f:=iF) hy;omega)) (by have:=gG (f:=iF) (fun d=>by rw [gZ];omega) x.sels;omega)) (.nil)))))
theorem bFz (x:GDoc) (hb:mK x≤1048576):ElOk tτ (elOf tτ 9) (sW x):=by
 simp only [aFJ,bk1,bA] at hb
 rw [rM]
 change ElOk tτ ⟨true,[(.sl 10 1048576 false),(.sl 13 1048576 false)]⟩ _
 exact .ag (.cons (lfSl (fun y hy=>okOp y (by have:=iN (f:=bkOp) hy;omega)) (by have:=gG (f:=bkOp) (fun d=>by rw [aCe];omega) x.ops;omega)) (.cons (lfSl (fun y hy=>bFy y (by have:=iN (f:=iK) hy;omega)) (by have:=gG (f:=iK) (fun d=>by rw [mJ];omega) x.frags;omega)) (.nil)))
theorem aP {τ:Tb} {l:Lf} {ls:List Lf} {vs:List PV} (h:CsOk τ (l::ls) vs):∃ v r,vs=v::r∧LfOk τ l v∧CsOk τ ls r:=by
 cases h with | cons h hs=>exact ⟨_,_,rfl,h,hs⟩
theorem aAf {τ:Tb} {vs:List PV} (h:CsOk τ [] vs):vs=[]:=by cases h;rfl
theorem jZ {τ:Tb} {v:PV} (h:LfOk τ .str v):∃ s,v = .str s∧s.length≤topL:=by cases h with | str h=>exact ⟨_,rfl,h⟩
theorem oA {τ:Tb} {k:IntKind} {v:PV} (h:LfOk τ (.int k) v):∃ n,v = .int k n:=by cases h with | int k n=>exact ⟨_,rfl⟩
theorem aPw {τ:Tb} {v:PV} (h:LfOk τ .bool v):∃ b,v = .bool b:=by cases h with | bool b=>exact ⟨_,rfl⟩
theorem pS {τ:Tb} {n ub:Nat} {o:Bool} {v:PV} (h:LfOk τ (.sl n ub o) v):∃ es,v = .slice es [] o∧(∀ e,e∈es→ElOk τ (elOf τ n) e)∧es.length≤ub:=by cases h with | sl h hl=>exact ⟨_,rfl,h,hl⟩
theorem cC {α:Type} {f:α→PV}:∀ {es:List PV},(∀ e,e∈es→∃ x,e=f x)→∃ l,es=List.map f l
 | [],_=>⟨[],rfl⟩
 | e::es,h=>by
  obtain ⟨x,rfl⟩:=h e (by simp)
  obtain ⟨l,rfl⟩:=cC (f:=f) (es:=es) (fun e he=>h e (by simp [he]))
  exact ⟨x::l,rfl⟩
theorem bA2 {e:PV} (h:ElOk tτ ⟨false,[.str]⟩ e):∃ s,e=PV.str s:=by
 cases h with | one h=>obtain ⟨s,rfl,_⟩:=jZ h;exact ⟨s,rfl⟩
theorem bEp {e:PV} (h:ElOk tτ (elOf tτ 15) e):∃ x,e=kQ x:=by
 change ElOk tτ ⟨true,[.str,(.int .i64),(.int .i64)]⟩ e at h
 cases h with
 | ag hs =>
  obtain ⟨_,_,rfl,h0,hs1⟩:=aP hs
  obtain ⟨v0,rfl,_⟩:=jZ h0
  obtain ⟨_,_,rfl,h1,hs2⟩:=aP hs1
  obtain ⟨v1,rfl⟩:=oA h1
  obtain ⟨_,_,rfl,h2,hs3⟩:=aP hs2
  obtain ⟨v2,rfl⟩:=oA h2
  cases aAf hs3
  exact ⟨⟨v0,v1,v2⟩,by rw [kB]⟩
theorem bFA:∀ n:Nat,(∀ e:PV,bR e≤n→ElOk tτ (elOf tτ 6) e→∃ x,e=aI x)∧(∀ e:PV,bR e≤n→ElOk tτ (elOf tτ 7) e→∃ x,e=aE x):=by
 intro n
 induction n with
 | zero =>
  refine ⟨fun e hp => ?_,fun e hp => ?_⟩<;>(exfalso;cases e<;>simp only [bR] at hp<;>omega)
 | succ n ih =>
  obtain ⟨ihValue,ihMember⟩:=ih
  refine ⟨fun e hp h => ?_,fun e hp h => ?_⟩
  ·change ElOk tτ ⟨true,[(.int .i64),(.int .i64),.str,(.sl 6 1048576 false),(.sl 7 1048576 false)]⟩ e at h
   cases h with
   | ag hs =>
    obtain ⟨_,_,rfl,h0,hs1⟩:=aP hs
    obtain ⟨v0,rfl⟩:=oA h0
    obtain ⟨_,_,rfl,h1,hs2⟩:=aP hs1
    obtain ⟨v1,rfl⟩:=oA h1
    obtain ⟨_,_,rfl,h2,hs3⟩:=aP hs2
    obtain ⟨v2,rfl,_⟩:=jZ h2
    obtain ⟨_,_,rfl,h3,hs4⟩:=aP hs3
    obtain ⟨es3,rfl,he3,_⟩:=pS h3
    obtain ⟨_,_,rfl,h4,hs5⟩:=aP hs4
    obtain ⟨es4,rfl,he4,_⟩:=pS h4
    cases aAf hs5
    obtain ⟨v3,rfl⟩:=cC (f:=aI) (fun e he=>ihValue e (by have:=nN he;simp only [bR,dX] at hp;omega) (he3 e he))
    obtain ⟨v4,rfl⟩:=cC (f:=aE) (fun e he=>ihMember e (by have:=nN he;simp only [bR,dX] at hp;omega) (he4 e he))
    exact ⟨⟨v0,v1,v2,v3,v4⟩,by rw [fX]⟩
  ·change ElOk tτ ⟨true,[.str,(.int .i64),(.int .i64),.str,(.sl 6 1048576 false),(.sl 7 1048576 false)]⟩ e at h
   cases h with
   | ag hs =>
    obtain ⟨_,_,rfl,h0,hs1⟩:=aP hs
    obtain ⟨v0,rfl,_⟩:=jZ h0
    obtain ⟨_,_,rfl,h1,hs2⟩:=aP hs1
    obtain ⟨v1,rfl⟩:=oA h1
    obtain ⟨_,_,rfl,h2,hs3⟩:=aP hs2
    obtain ⟨v2,rfl⟩:=oA h2
    obtain ⟨_,_,rfl,h3,hs4⟩:=aP hs3
    obtain ⟨v3,rfl,_⟩:=jZ h3
    obtain ⟨_,_,rfl,h4,hs5⟩:=aP hs4
    obtain ⟨es4,rfl,he4,_⟩:=pS h4
    obtain ⟨_,_,rfl,h5,hs6⟩:=aP hs5
    obtain ⟨es5,rfl,he5,_⟩:=pS h5
    cases aAf hs6
    obtain ⟨v4,rfl⟩:=cC (f:=aI) (fun e he=>ihValue e (by have:=nN he;simp only [bR,dX] at hp;omega) (he4 e he))
    obtain ⟨v5,rfl⟩:=cC (f:=aE) (fun e he=>ihMember e (by have:=nN he;simp only [bR,dX] at hp;omega) (he5 e he))
    exact ⟨⟨v0,⟨v1,v2,v3,v4,v5⟩⟩,by rw [kR]⟩
theorem aJa {e:PV} (h:ElOk tτ (elOf tτ 6) e):∃ x,e=aI x:=(bFA (bR e)).1 e (Nat.le_refl _) h
theorem aGd {e:PV} (h:ElOk tτ (elOf tτ 7) e):∃ x,e=aE x:=(bFA (bR e)).2 e (Nat.le_refl _) h
theorem aWB {e:PV} (h:ElOk tτ (elOf tτ 5) e):∃ x,e=aX x:=by
 change ElOk tτ ⟨true,[.str,.str,(.int .i64),(.int .i64),.bool,(.int .i64),(.int .i64),.str,(.sl 6 1048576 false),(.sl 7 1048576 false)]⟩ e at h
 cases h with
 | ag hs =>
  obtain ⟨_,_,rfl,h0,hs1⟩:=aP hs
  obtain ⟨v0,rfl,_⟩:=jZ h0
  obtain ⟨_,_,rfl,h1,hs2⟩:=aP hs1
  obtain ⟨v1,rfl,_⟩:=jZ h1
  obtain ⟨_,_,rfl,h2,hs3⟩:=aP hs2
  obtain ⟨v2,rfl⟩:=oA h2
  obtain ⟨_,_,rfl,h3,hs4⟩:=aP hs3
  obtain ⟨v3,rfl⟩:=oA h3
  obtain ⟨_,_,rfl,h4,hs5⟩:=aP hs4
  obtain ⟨v4,rfl⟩:=aPw h4
  obtain ⟨_,_,rfl,h5,hs6⟩:=aP hs5
  obtain ⟨v5,rfl⟩:=oA h5
  obtain ⟨_,_,rfl,h6,hs7⟩:=aP hs6
  obtain ⟨v6,rfl⟩:=oA h6
  obtain ⟨_,_,rfl,h7,hs8⟩:=aP hs7
  obtain ⟨v7,rfl,_⟩:=jZ h7
  obtain ⟨_,_,rfl,h8,hs9⟩:=aP hs8
  obtain ⟨es8,rfl,he8,_⟩:=pS h8
  obtain ⟨_,_,rfl,h9,hs10⟩:=aP hs9
  obtain ⟨es9,rfl,he9,_⟩:=pS h9
  cases aAf hs10
  obtain ⟨v8,rfl⟩:=cC (f:=aI) (fun e he=>aJa (he8 e he))
  obtain ⟨v9,rfl⟩:=cC (f:=aE) (fun e he=>aGd (he9 e he))
  exact ⟨⟨v0,⟨v1,v2,v3⟩,v4,⟨v5,v6,v7,v8,v9⟩⟩,by rw [kS]⟩
theorem aWC {e:PV} (h:ElOk tτ (elOf tτ 8) e):∃ x,e=aK x:=by
 change ElOk tτ ⟨true,[.str,(.sl 7 1048576 false)]⟩ e at h
 cases h with
 | ag hs =>
  obtain ⟨_,_,rfl,h0,hs1⟩:=aP hs
  obtain ⟨v0,rfl,_⟩:=jZ h0
  obtain ⟨_,_,rfl,h1,hs2⟩:=aP hs1
  obtain ⟨es1,rfl,he1,_⟩:=pS h1
  cases aAf hs2
  obtain ⟨v1,rfl⟩:=cC (f:=aE) (fun e he=>aGd (he1 e he))
  exact ⟨⟨v0,v1⟩,by rw [rJ]⟩
theorem aVq {e:PV} (h:ElOk tτ (elOf tτ 4) e):∃ x,e=bO x:=by
 change ElOk tτ ⟨true,[.str,(.sl 5 1048576 false),.str,(.int .i64),(.int .i64),(.sl 8 1048576 false)]⟩ e at h
 cases h with
 | ag hs =>
  obtain ⟨_,_,rfl,h0,hs1⟩:=aP hs
  obtain ⟨v0,rfl,_⟩:=jZ h0
  obtain ⟨_,_,rfl,h1,hs2⟩:=aP hs1
  obtain ⟨es1,rfl,he1,_⟩:=pS h1
  obtain ⟨_,_,rfl,h2,hs3⟩:=aP hs2
  obtain ⟨v2,rfl,_⟩:=jZ h2
  obtain ⟨_,_,rfl,h3,hs4⟩:=aP hs3
  obtain ⟨v3,rfl⟩:=oA h3
  obtain ⟨_,_,rfl,h4,hs5⟩:=aP hs4
  obtain ⟨v4,rfl⟩:=oA h4
  obtain ⟨_,_,rfl,h5,hs6⟩:=aP hs5
  obtain ⟨es5,rfl,he5,_⟩:=pS h5
  cases aAf hs6
  obtain ⟨v1,rfl⟩:=cC (f:=aX) (fun e he=>aWB (he1 e he))
  obtain ⟨v5,rfl⟩:=cC (f:=aK) (fun e he=>aWC (he5 e he))
  exact ⟨⟨v0,v1,⟨v2,v3,v4⟩,v5⟩,by rw [fL]⟩
theorem bFB {e:PV} (h:ElOk tτ (elOf tτ 3) e):∃ x,e=aM x:=by
 change ElOk tτ ⟨true,[(.int .i64),.str,(.sl 0 1048576 false),(.sl 4 1048576 false),(.sl 0 1048576 false),(.sl 5 1048576 false)]⟩ e at h
 cases h with
 | ag hs =>
  obtain ⟨_,_,rfl,h0,hs1⟩:=aP hs
  obtain ⟨v0,rfl⟩:=oA h0
  obtain ⟨_,_,rfl,h1,hs2⟩:=aP hs1
  obtain ⟨v1,rfl,_⟩:=jZ h1
  obtain ⟨_,_,rfl,h2,hs3⟩:=aP hs2
  obtain ⟨es2,rfl,he2,_⟩:=pS h2
  obtain ⟨_,_,rfl,h3,hs4⟩:=aP hs3
  obtain ⟨es3,rfl,he3,_⟩:=pS h3
  obtain ⟨_,_,rfl,h4,hs5⟩:=aP hs4
  obtain ⟨es4,rfl,he4,_⟩:=pS h4
  obtain ⟨_,_,rfl,h5,hs6⟩:=aP hs5
  obtain ⟨es5,rfl,he5,_⟩:=pS h5
  cases aAf hs6
  obtain ⟨v2,rfl⟩:=cC (f:=PV.str) (fun e he=>bA2 (he2 e he))
  obtain ⟨v3,rfl⟩:=cC (f:=bO) (fun e he=>aVq (he3 e he))
  obtain ⟨v4,rfl⟩:=cC (f:=PV.str) (fun e he=>bA2 (he4 e he))
  obtain ⟨v5,rfl⟩:=cC (f:=aX) (fun e he=>aWB (he5 e he))
  exact ⟨⟨v0,v1,v2,v3,v4,v5⟩,by rw [rK]⟩
theorem aLe {e:PV} (h:ElOk tτ (elOf tτ 2) e):∃ x,e=fG x:=by
 change ElOk tτ ⟨true,[(.sl 3 1048576 false),.str,.str]⟩ e at h
 cases h with
 | ag hs =>
  obtain ⟨_,_,rfl,h0,hs1⟩:=aP hs
  obtain ⟨es0,rfl,he0,_⟩:=pS h0
  obtain ⟨_,_,rfl,h1,hs2⟩:=aP hs1
  obtain ⟨v1,rfl,_⟩:=jZ h1
  obtain ⟨_,_,rfl,h2,hs3⟩:=aP hs2
  obtain ⟨v2,rfl,_⟩:=jZ h2
  cases aAf hs3
  obtain ⟨v0,rfl⟩:=cC (f:=aM) (fun e he=>bFB (he0 e he))
  exact ⟨⟨v0,v1,v2⟩,by rw [kT]⟩
theorem bA3 {e:PV} (h:ElOk tτ (elOf tτ 11) e):∃ x,e=aC x:=by
 change ElOk tτ ⟨true,[.str,.str,(.int .i64),(.int .i64),.bool,(.int .i64),(.int .i64),.str,(.sl 6 1048576 false),(.sl 7 1048576 false)]⟩ e at h
 cases h with
 | ag hs =>
  obtain ⟨_,_,rfl,h0,hs1⟩:=aP hs
  obtain ⟨v0,rfl,_⟩:=jZ h0
  obtain ⟨_,_,rfl,h1,hs2⟩:=aP hs1
  obtain ⟨v1,rfl,_⟩:=jZ h1
  obtain ⟨_,_,rfl,h2,hs3⟩:=aP hs2
  obtain ⟨v2,rfl⟩:=oA h2
  obtain ⟨_,_,rfl,h3,hs4⟩:=aP hs3
  obtain ⟨v3,rfl⟩:=oA h3
  obtain ⟨_,_,rfl,h4,hs5⟩:=aP hs4
  obtain ⟨v4,rfl⟩:=aPw h4
  obtain ⟨_,_,rfl,h5,hs6⟩:=aP hs5
  obtain ⟨v5,rfl⟩:=oA h5
  obtain ⟨_,_,rfl,h6,hs7⟩:=aP hs6
  obtain ⟨v6,rfl⟩:=oA h6
  obtain ⟨_,_,rfl,h7,hs8⟩:=aP hs7
  obtain ⟨v7,rfl,_⟩:=jZ h7
  obtain ⟨_,_,rfl,h8,hs9⟩:=aP hs8
  obtain ⟨es8,rfl,he8,_⟩:=pS h8
  obtain ⟨_,_,rfl,h9,hs10⟩:=aP hs9
  obtain ⟨es9,rfl,he9,_⟩:=pS h9
  cases aAf hs10
  obtain ⟨v8,rfl⟩:=cC (f:=aI) (fun e he=>aJa (he8 e he))
  obtain ⟨v9,rfl⟩:=cC (f:=aE) (fun e he=>aGd (he9 e he))
  exact ⟨⟨v0,⟨v1,v2,v3⟩,v4,⟨v5,v6,v7,v8,v9⟩⟩,by rw [iY]⟩
theorem bEq:∀ n:Nat,∀ e:PV,bR e≤n→ElOk tτ (elOf tτ 12) e→∃ x,e=aG x:=by
 intro n
 induction n with
 | zero =>
  intro e hp
  exfalso;cases e<;>simp only [bR] at hp<;>omega
 | succ n ihSel =>
  intro e hp h
  change ElOk tτ ⟨true,[(.int .i64),.str,.str,(.sl 7 1048576 false),(.sl 8 1048576 false),.str,(.sl 12 1048576 false)]⟩ e at h
  cases h with
  | ag hs =>
   obtain ⟨_,_,rfl,h0,hs1⟩:=aP hs
   obtain ⟨v0,rfl⟩:=oA h0
   obtain ⟨_,_,rfl,h1,hs2⟩:=aP hs1
   obtain ⟨v1,rfl,_⟩:=jZ h1
   obtain ⟨_,_,rfl,h2,hs3⟩:=aP hs2
   obtain ⟨v2,rfl,_⟩:=jZ h2
   obtain ⟨_,_,rfl,h3,hs4⟩:=aP hs3
   obtain ⟨es3,rfl,he3,_⟩:=pS h3
   obtain ⟨_,_,rfl,h4,hs5⟩:=aP hs4
   obtain ⟨es4,rfl,he4,_⟩:=pS h4
   obtain ⟨_,_,rfl,h5,hs6⟩:=aP hs5
   obtain ⟨v5,rfl,_⟩:=jZ h5
   obtain ⟨_,_,rfl,h6,hs7⟩:=aP hs6
   obtain ⟨es6,rfl,he6,_⟩:=pS h6
   cases aAf hs7
   obtain ⟨v3,rfl⟩:=cC (f:=aE) (fun e he=>aGd (he3 e he))
   obtain ⟨v4,rfl⟩:=cC (f:=aK) (fun e he=>aWC (he4 e he))
   obtain ⟨v6,rfl⟩:=cC (f:=aG) (fun e he=>ihSel e (by have:=nN he;simp only [bR,dX] at hp;omega) (he6 e he))
   exact ⟨⟨v0,v1,v2,v3,v4,v5,v6⟩,by rw [rL]⟩
theorem aWD {e:PV} (h:ElOk tτ (elOf tτ 12) e):∃ x,e=aG x:=bEq (bR e) e (Nat.le_refl _) h
theorem bF0 {e:PV} (h:ElOk tτ (elOf tτ 10) e):∃ x,e=aT x:=by
 change ElOk tτ ⟨true,[(.int .i64),.str,(.sl 11 1048576 false),(.sl 8 1048576 false),(.sl 12 1048576 false)]⟩ e at h
 cases h with
 | ag hs =>
  obtain ⟨_,_,rfl,h0,hs1⟩:=aP hs
  obtain ⟨v0,rfl⟩:=oA h0
  obtain ⟨_,_,rfl,h1,hs2⟩:=aP hs1
  obtain ⟨v1,rfl,_⟩:=jZ h1
  obtain ⟨_,_,rfl,h2,hs3⟩:=aP hs2
  obtain ⟨es2,rfl,he2,_⟩:=pS h2
  obtain ⟨_,_,rfl,h3,hs4⟩:=aP hs3
  obtain ⟨es3,rfl,he3,_⟩:=pS h3
  obtain ⟨_,_,rfl,h4,hs5⟩:=aP hs4
  obtain ⟨es4,rfl,he4,_⟩:=pS h4
  cases aAf hs5
  obtain ⟨v2,rfl⟩:=cC (f:=aC) (fun e he=>bA3 (he2 e he))
  obtain ⟨v3,rfl⟩:=cC (f:=aK) (fun e he=>aWC (he3 e he))
  obtain ⟨v4,rfl⟩:=cC (f:=aG) (fun e he=>aWD (he4 e he))
  exact ⟨⟨v0,v1,v2,v3,v4⟩,by rw [wD]⟩
theorem bEr {e:PV} (h:ElOk tτ (elOf tτ 13) e):∃ x,e=aH x:=by
 change ElOk tτ ⟨true,[.str,.str,(.sl 8 1048576 false),(.sl 12 1048576 false)]⟩ e at h
 cases h with
 | ag hs =>
  obtain ⟨_,_,rfl,h0,hs1⟩:=aP hs
  obtain ⟨v0,rfl,_⟩:=jZ h0
  obtain ⟨_,_,rfl,h1,hs2⟩:=aP hs1
  obtain ⟨v1,rfl,_⟩:=jZ h1
  obtain ⟨_,_,rfl,h2,hs3⟩:=aP hs2
  obtain ⟨es2,rfl,he2,_⟩:=pS h2
  obtain ⟨_,_,rfl,h3,hs4⟩:=aP hs3
  obtain ⟨es3,rfl,he3,_⟩:=pS h3
  cases aAf hs4
  obtain ⟨v2,rfl⟩:=cC (f:=aK) (fun e he=>aWC (he2 e he))
  obtain ⟨v3,rfl⟩:=cC (f:=aG) (fun e he=>aWD (he3 e he))
  exact ⟨⟨v0,v1,v2,v3⟩,by rw [lN]⟩
theorem bA4 {e:PV} (h:ElOk tτ (elOf tτ 9) e):∃ x,e=sW x:=by
 change ElOk tτ ⟨true,[(.sl 10 1048576 false),(.sl 13 1048576 false)]⟩ e at h
 cases h with
 | ag hs =>
  obtain ⟨_,_,rfl,h0,hs1⟩:=aP hs
  obtain ⟨es0,rfl,he0,_⟩:=pS h0
  obtain ⟨_,_,rfl,h1,hs2⟩:=aP hs1
  obtain ⟨es1,rfl,he1,_⟩:=pS h1
  cases aAf hs2
  obtain ⟨v0,rfl⟩:=cC (f:=aT) (fun e he=>bF0 (he0 e he))
  obtain ⟨v1,rfl⟩:=cC (f:=aH) (fun e he=>bEr (he1 e he))
  exact ⟨⟨v0,v1⟩,by rw [rM]⟩
end Go.Proofs.YtphmfillajagdaaGreat
open Go Go.Ev Go.Ev.PV
set_option maxRecDepth 100000
namespace Go.Proofs.YtphmfillajagdaaGreat
def aWE:Summ:=sv1 [E11'] [⟨false,[.sl 1 1073741824 false]⟩,E2']
def aNg:Summ:=sv1 [E11'] [E8',E8']
def aWF:Summ:=sv2 [E0',E5',E1',E2'] [E2']
def aWG:Summ:=sv2 [E0'] [E2']
def bA5:Summ:=sv2 [E1',⟨false,[.sl 0 16777216 true]⟩] [⟨false,[.sl 0 16777216 true]⟩]
def aDl:Summ:=sv2 [E0',E3'] [⟨false,[.sl 16 4194304 false]⟩]
def aPx:Summ:=sv2 [E3',⟨false,[.sl 12 16777216 false]⟩] [E9']
def bA6:Summ:=sv2 [E3',⟨false,[.sl 12 16777216 false]⟩] [E9']
open Go Go.Ev
theorem bDD {α β:Type} (p:α→Bool) (g:α→β):∀ l:List α,(l.any p=true∧∃ x,l.findSome? (fun x=>bif p x then some (g x) else none)=some (g x))∨(l.any p=false∧l.findSome? (fun x=>bif p x then some (g x) else none)=none)
 | [] => .inr ⟨rfl,rfl⟩
 | x::l=>by
  rw [List.findSome?_cons,List.any_cons]
  cases hp:p x
  ·simpa using bDD p g l
  ·exact .inl ⟨by simp,x,rfl⟩
def hasM (name:Str) (l:List GMember):Bool:=l.any fun x=>x.name==name
theorem bA7 (name : Str) (l : List GMember) (hl : Sm l) : ∃ v, aWs name l = some (v, hasM name l) := by
 have h := aBX (b := tW name l) l (fun x => bif x.name == name then some (.inr (x.v.kind, x.v.n, x.v.s, x.v.l, x.v.m)) else none) (.inl ()) hl (by simp only [tW, yM, iW])
  (fun k x hx h1 h2 h3 => by
   simp only [tW, h1, h2, h3, aV, cT]
   cases x.name == name <;> rfl)
 rcases bDD (fun x : GMember => x.name == name) (fun x => (.inr (x.v.kind, x.v.n, x.v.s, x.v.l, x.v.m) : Unit ⊕ (Int × Int × Str × (List GValue) × (List GMember)))) l with ⟨ha, x, hx⟩ | ⟨ha, hx⟩
 ·refine ⟨x.v, aM9 (r := (x.v, hasM name l)) ?_⟩
  simp only [aFY, h, hx, Option.getD_some, aV, aO, hasM, ha]
  obtain ⟨nm, ⟨_, _, _, _, _⟩⟩ := x; rfl
 ·refine ⟨GValue.mk 0 0 [] [] [], aM9 (r := (GValue.mk 0 0 [] [] [], hasM name l)) ?_⟩
  simp only [aFY, h, hx, Option.getD_none, aV, aN, hasM, ha]
open Go Go.Ev Go.Ev.PV
def Nr (p b:Nat):Prop:=p≤b∧b≤2*p
theorem psl {α:Type} {enc:α→PV} {bk:α→Nat}:∀ {l:List α},(∀ x∈l,Nr (bR (enc x)) (bk x))→dX (l.map enc)≤sumL bk l∧sumL bk l≤2*dX (l.map enc)
 | [],_=>by simp [dX,sumL]
 | x::l,h=>by
  have h1:=h x (by simp)
  have h2:=psl (l:=l) (fun y hy=>h y (by simp [hy]))
  unfold Nr at h1
  simp only [List.map_cons,dX,sumL]
  omega
theorem bF1 (s:Str):Nr (bR (PV.str s)) (dW s):=by unfold Nr;rw [bA];simp only [bR];omega
theorem bA8 (l:List Str):dX (l.map PV.str)≤sumL dW l∧sumL dW l≤2*dX (l.map PV.str):=psl fun x _=>bF1 x
theorem aWH (x:GType):Nr (bR (kQ x)) (aCb x):=by
 unfold Nr;rw [kB,mI];simp only [bR,dX,bk1,bA];omega
theorem psVM:∀ n:Nat,(∀ x:GValue,cJ x≤n→Nr (bR (aI x)) (cJ x))∧(∀ x:GMember,aZ x≤n→Nr (bR (aE x)) (aZ x)):=by
 intro n
 induction n with
 | zero=>exact ⟨fun x h=>by rw [cK] at h;omega,fun x h=>by rw [cZ] at h;omega⟩
 | succ n ih =>
  obtain ⟨ihV,ihM⟩:=ih
  refine ⟨fun x hb => ?_,fun x hb => ?_⟩
  ·rw [cK] at hb
   simp only [bkSl,bk1,bA] at hb
   have h1:=psl (l:=x.l) (enc:=aI) (bk:=cJ) (fun y hy=>ihV y (by have:=gD cJ hy;omega))
   have h2:=psl (l:=x.m) (enc:=aE) (bk:=aZ) (fun y hy=>ihM y (by have:=gD aZ hy;omega))
   unfold Nr
   rw [fX,cK]
   simp only [bR,dX,bkSl,bk1,bA]
   omega
  ·rw [cZ] at hb
   have h1:=ihV x.v (by omega)
   unfold Nr at h1 ⊢
   rw [fX] at h1
   rw [kR,cZ]
   simp only [bR,dX,bA] at h1 ⊢
   omega
theorem aPy (x:GValue):Nr (bR (aI x)) (cJ x):=(psVM _).1 x (Nat.le_refl _)
theorem aWI (x:GMember):Nr (bR (aE x)) (aZ x):=(psVM _).2 x (Nat.le_refl _)
theorem bCt (x:GDir):Nr (bR (aK x)) (iX x):=by
 have h1:=psl (l:=x.args) (fun y _=>aWI y)
 unfold Nr;rw [rJ,lQ];simp only [bR,dX,bkSl,bk1,bA];omega
theorem bA9 (x:GParam):Nr (bR (aX x)) (kH x):=by
 have h1:=aWH x.t
 have h2:=aPy x.default
 unfold Nr at h1 h2 ⊢
 rw [kB] at h1;rw [fX] at h2
 rw [kS,qF,mI];simp only [bR,dX,bk1,bA] at h1 h2 ⊢;omega
theorem aYN (x:GFieldDef):Nr (bR (bO x)) (iP x):=by
 have h1:=aWH x.t
 have h2:=psl (l:=x.params) (fun y _=>bA9 y)
 have h3:=psl (l:=x.dirs) (fun y _=>bCt y)
 unfold Nr at h1 ⊢
 rw [kB] at h1
 rw [fL,lR];simp only [bR,dX,bkSl,bk1,bA] at h1 ⊢;omega
theorem bF2 (x:GDef):Nr (bR (aM x)) (aJ8 x):=by
 have h1:=psl (l:=x.fields) (fun y _=>aYN y)
 have h2:=psl (l:=x.params) (fun y _=>bA9 y)
 have h3:=bA8 x.faces
 have h4:=bA8 x.parts
 unfold Nr;rw [rK,oT];simp only [bR,dX,bkSl,bk1,bA];omega
theorem aGe (x:GSchema):Nr (bR (fG x)) (qW x):=by
 have h1:=psl (l:=x.defs) (fun y _=>bF2 y)
 unfold Nr;rw [kT,qG];simp only [bR,dX,bkSl,bk1,bA];omega
theorem bCu (x:GVarDef):Nr (bR (aC x)) (tF x):=by
 have h1:=aWH x.t
 have h2:=aPy x.default
 unfold Nr at h1 h2 ⊢
 rw [kB] at h1;rw [fX] at h2
 rw [iY,uO,mI];simp only [bR,dX,bk1,bA] at h1 h2 ⊢;omega
theorem bFC:∀ n:Nat,∀ x:GSel,iF x≤n→Nr (bR (aG x)) (iF x):=by
 intro n
 induction n with
 | zero=>intro x h;rw [gZ] at h;omega
 | succ n ih =>
  intro x hb
  rw [gZ] at hb
  simp only [bkSl,bk1,bA] at hb
  have h1:=psl (l:=x.sels) (enc:=aG) (bk:=iF) (fun y hy=>ih y (by have:=gD iF hy;omega))
  have h2:=psl (l:=x.args) (fun y _=>aWI y)
  have h3:=psl (l:=x.dirs) (fun y _=>bCt y)
  unfold Nr
  rw [rL,gZ]
  simp only [bR,dX,bkSl,bk1,bA]
  omega
theorem bCv (x:GSel):Nr (bR (aG x)) (iF x):=bFC _ x (Nat.le_refl _)
theorem psOp (x:GOp):Nr (bR (aT x)) (bkOp x):=by
 have h1:=psl (l:=x.vars) (fun y _=>bCu y)
 have h2:=psl (l:=x.dirs) (fun y _=>bCt y)
 have h3:=psl (l:=x.sels) (fun y _=>bCv y)
 unfold Nr;rw [wD,aCe];simp only [bR,dX,bkSl,bk1,bA];omega
theorem bFD (x:GFrag):Nr (bR (aH x)) (iK x):=by
 have h2:=psl (l:=x.dirs) (fun y _=>bCt y)
 have h3:=psl (l:=x.sels) (fun y _=>bCv y)
 unfold Nr;rw [lN,mJ];simp only [bR,dX,bkSl,bk1,bA];omega
theorem bCw (x:GDoc):Nr (bR (sW x)) (mK x):=by
 have h2:=psl (l:=x.ops) (fun y _=>psOp y)
 have h3:=psl (l:=x.frags) (fun y _=>bFD y)
 unfold Nr;rw [rM,aFJ];simp only [bR,dX,bkSl,bk1,bA];omega
theorem nI {τ:Tb} {e:El} {es:List El} {vs:List PV} (h:ElsOk τ (e::es) vs):∃ v r,vs=v::r∧ElOk τ e v∧ElsOk τ es r:=by
 cases h with | cons h hs=>exact ⟨_,_,rfl,h,hs⟩
theorem aH4 {τ:Tb} {vs:List PV} (h:ElsOk τ [] vs):vs=[]:=by cases h;rfl
theorem bEs {v:PV} (h:ElOk tτ ⟨false,[.bool]⟩ v):∃ b,v = .bool b:=by cases h with | one h=>exact aPw h
theorem bDE {v:PV} (h:ElOk tτ ⟨false,[.str]⟩ v):∃ s,v = .str s∧s.length≤topL:=by cases h with | one h=>exact jZ h
theorem bEt {n ub:Nat} {o:Bool} {v:PV} (h:ElOk tτ ⟨false,[.sl n ub o]⟩ v):∃ es,v = .slice es [] o∧(∀ e,e∈es→ElOk tτ (elOf tτ n) e)∧es.length≤ub:=by cases h with | one h=>exact pS h
theorem sT {sm:Summ} {args:List PV} (h:aTC sm args) (hc:sm.cap=2097152) {v:PV} (hv:v∈args):bR v≤2097152:=by
 rcases h with h | h
 ·omega
 ·have:=h v hv;omega
end Go.Proofs.YtphmfillajagdaaGreat
