import Derived.Test.YtphmfillajagdaaGreatGc
import Derived.Test.YtphmfillajagdaaGreatEd
import Derived.Test.YtphmfillajagdaaGreatEt
import Derived.Test.YtphmfillajagdaaGreatGa
import Derived.KernelRfl
set_option linter.unusedVariables false
set_option linter.unusedSimpArgs false
set_option linter.unusedSimpArgs false
open Go Go.Ev
namespace Go.Proofs.YtphmfillajagdaaGreat
def aKc (c:Int):Bool:=(decide (97≤c)&&decide (c≤122))||((decide (65≤c)&&decide (c≤90))||c==95)
def aYM (c:Int):Bool:=decide (48≤c)&&decide (c≤57)
theorem aId (c:Int):aGK c=some (aKc c):=by
 apply aOM
 simp only [aBB,aKc,aWj,ge_iff_le]
 cases decide (97≤c)<;>cases decide (c≤122)<;>cases decide (65≤c)<;>cases decide (c≤90)<;>simp
theorem aIe (c:Int):aGJ c=some (aYM c):=by
 apply aOF
 simp only [aBy,aYM,aWj,ge_iff_le]
 cases decide (48≤c)<;>simp
def aSW (c:UInt8):Bool:=aKc c.toNat||aYM c.toNat
def aSX:Str→Bool
 | []=>false
 | c::s=>aKc c.toNat&&s.all aSW
theorem aU7 (s : Str) (h : s.length < 4611686018427387904) : aQv s = some (aSX s) := by
 apply aRu
 have key := aJ2 (b := nX s) s (fun k (_ : Unit) => (k : Int)) (fun r _ => if r.all (fun c => aSW c) then Sum.inl () else Sum.inr ()) (fun k _ => 1 ≤ k)
  (by
   intro a _
   simp [nX])
  (by
   intro k x r a hk hx hd hI
   have e1 : (decide ((k : Int) < (List.length s : Int))) = true := by simp; omega
   have e3 : IntKind.wrap .i64 ((k : Int) + 1) = ((k + 1 : Nat) : Int) := wadd (by omega)
   simp only [nX, e1, fT, sE, hx, bQ, aId, aIe, pK, e3]
   cases h1 : aKc x.toNat <;> cases h2 : aYM x.toNat <;> simp [aSW, h1, h2])
 unfold aD9
 cases s with
 | nil => rfl
 | cons c s =>
  have : nthI (c :: s) 0 = some c := rfl
  have e0 : ((c :: s) == ([] : Str)) = false := rfl
  simp only [e0, pK, this, bQ, aId]
  cases h1 : aKc c.toNat with
  | false => simp [aSX, h1]
  | true =>
   have := key 1 () (by simp) (by omega)
   rw [show ((1 : Nat) : Int) = 1 from rfl] at this
   simp only [Bool.not_true, pK, this, List.drop_succ_cons, List.drop_zero, bQ, aSX, h1, Bool.true_and]
   cases h2 : s.all aSW <;> simp
open Go Go.Ev
mutual
def szV:GValue→Nat
 | ⟨_,_,s,l,m⟩=>1+s.length+szVs l+szMs m
def szVs:List GValue→Nat
 | []=>0
 | x::l=>szV x+szVs l
def szM:GMember→Nat
 | ⟨n,v⟩=>n.length+szV v
def szMs:List GMember→Nat
 | []=>0
 | x::l=>szM x+szMs l
end
theorem aKd (v:GValue):szV v=1+v.s.length+szVs v.l+szMs v.m:=by cases v;simp only [szV]
theorem aSY (x:GMember):szM x=x.name.length+szV x.v:=by cases x;simp only [szM]
theorem aL7 {x:GValue}:∀ {l:List GValue},x∈l→szV x≤szVs l
 | a::l,h=>by
  simp only [szVs]
  rcases List.mem_cons.1 h with rfl | h
  ·omega
  ·have:=aL7 h;omega
theorem aL8 {x:GMember}:∀ {l:List GMember},x∈l→szM x≤szMs l
 | a::l,h=>by
  simp only [szMs]
  rcases List.mem_cons.1 h with rfl | h
  ·omega
  ·have:=aL8 h;omega
theorem aL9:∀ (l:List GValue),l.length≤szVs l
 | []=>by simp [szVs]
 | a::l=>by have:=aL9 l;have:=aKd a;simp only [szVs,List.length_cons];omega
theorem aMa:∀ (l:List GMember),l.length≤szMs l
 | []=>by simp [szMs]
 | a::l=>by have:=aMa l;have:=aSY a;have:=aKd a.v;simp only [szMs,List.length_cons];omega
mutual
theorem aXg:∀ v:GValue,szV v≤cD v
 | ⟨_,_,s,l,m⟩=>by
  have h1:=aXh l
  have h2:=aXi m
  simp only [szV,cD,bk1,dA];omega
theorem aXh:∀ l:List GValue,szVs l≤qC l
 | []=>by simp [szVs]
 | x::l=>by have:=aXg x;have:=aXh l;simp only [szVs,qC];omega
theorem bAi:∀ x:GMember,szM x≤bF x
 | ⟨n,v⟩=>by have:=aXg v;simp only [szM,bF,dA];omega
theorem aXi:∀ l:List GMember,szMs l≤mM l
 | []=>by simp [szMs]
 | x::l=>by have:=bAi x;have:=aXi l;simp only [szMs,mM];omega
end
def TOk (t:GType):Prop:=(-9223372036854775808≤t.lists∧t.lists≤9223372036854775807)∧(-9223372036854775808≤t.musts∧t.musts≤9223372036854775807)∧t.name.length<4611686018427387904
def bAj (t:GType):Bool:=aSX t.name&&(decide (0≤t.lists)&&(decide (t.lists≤4)&&(decide (0≤t.musts)&&decide (t.musts<2 ^ (t.lists.toNat+1)))))
def bB4 (t:GType):GType:=bif bAj t then ⟨t.name,t.lists,bits .andNot .i64 t.musts 1⟩ else t
theorem aU8 (op:BinOp) (a b:Int) : -9223372036854775808≤bits op .i64 a b∧bits op .i64 a b≤9223372036854775807:=by
 have key:∀ n:Int,-9223372036854775808≤IntKind.wrap .i64 n∧IntKind.wrap .i64 n≤9223372036854775807:=by
  intro n;rw [IntKind.wrap_i64];omega
 unfold bits
 cases op<;>exact key _
theorem TOk.bare {t:GType} (h:TOk t):TOk (bB4 t):=by
 unfold bB4
 cases bAj t
 ·exact h
 ·show TOk ⟨t.name,t.lists,bits .andNot .i64 t.musts 1⟩
  exact ⟨h.1,aU8 .andNot t.musts 1,h.2.2⟩
theorem aDb (l : List Int) (v : Int) (hl : Sm l) : ∃ i, fW l v = some i ∧ decide (i ≥ 0) = l.contains v := by
 have key := fF (b := cG l v) l (fun k (_ : Nat) => (k : Int)) (fun r k => match r.findIdx? (fun y => v == y) with | some j => Sum.inr ((k + j : Nat) : Int) | none => Sum.inl ()) (fun k a => a = k) hl
  (by intro a _; simp [cG])
  (by
   intro k x r a hm hk hd h1 h2 h3 hI
   subst hI
   simp only [cG, h1, fT, h2, bQ, h3, List.findIdx?_cons]
   cases hv : v == x
   ·refine .inr ⟨a + 1, rfl, rfl, ?_⟩
    simp only [Bool.false_eq_true, if_false]
    cases r.findIdx? (fun y => v == y) with
    | none => rfl
    | some j => simp only [Option.map_some]; congr 2; omega
   ·left; simp) (s := 0) (a := 0) rfl rfl
 have hrun : ∀ i, dD l v = some i → fW l v = some i := fun i h => vC h
 unfold dD at hrun
 rw [key] at hrun
 simp only [bQ, Nat.zero_add] at hrun
 have hc : l.contains v = (l.findIdx? (fun y => v == y)).isSome := by
  rw [List.findIdx?_isSome, List.contains_eq_any_beq]
 cases hf : l.findIdx? (fun y => v == y) with
 | none => rw [hf] at hrun hc; exact ⟨-1, hrun _ rfl, by rw [hc]; rfl⟩
 | some j => rw [hf] at hrun hc; exact ⟨(j : Int), hrun _ rfl, by rw [hc]; simp⟩
theorem yH (l:List Int) (v:Int) (hl:Sm l):gT l v=some (l.contains v):=by
 obtain ⟨i,h1,h2⟩:=aDb l v hl
 apply rN
 simp only [dK,h1,bQ,h2]
theorem rO (l:List Str) (v:Str) (hl:Sm l):aBY l v=some (l.contains v):=by
 apply aUJ
 unfold aGM
 rw [vO (b:=qM l v) l (fun r=>bif r.contains v then .inr () else .inl ()) hl (by simp [qM]) (by
  intro k x r hm h1 h2 h3
  simp only [qM,h1,fT,h2,bQ,h3,List.contains_cons]
  rw [BEq.comm (a:=x) (b:=v)]
  cases v==x
  ·right;simp
  ·left;simp)]
 cases l.contains v<;>rfl
theorem aEd {α:Type} (l:List α) (p:α→Bool) {β:Type} (g:α→β):l.findSome? (fun x=>if p x then some (g x) else none)=(l.find? p).map g:=by
 induction l with
 | nil=>rfl
 | cons a l ih =>
  rw [List.findSome?_cons,List.find?_cons]
  cases p a with
  | true=>rfl
  | false=>exact ih
def addD (l:List Str) (n:Str):List Str:=bif l.contains n then l else l++[n]
theorem aSZ (l:List Str) (n:Str):(addD l n).length≤l.length+1:=by
 unfold addD;cases l.contains n<;>simp
theorem aKe {l:List Str} {n:Str} (h:l.Nodup):(addD l n).Nodup:=by
 unfold addD
 cases hc:l.contains n
 ·simp only [cond_false]
  have hm:n∉l:=by simpa using hc
  exact List.nodup_append.2 ⟨h,by simp,fun a ha b hb=>by simp at hb;subst hb;exact fun e=>hm (e ▸ ha)⟩
 ·exact h
theorem aYN {l:List Str} {n x:Str} (h:x∈addD l n):x∈l∨x=n:=by
 unfold addD at h
 cases hc:l.contains n
 ·rw [hc] at h;simpa using h
 ·rw [hc] at h;exact .inl h
abbrev zDef:GDef:=⟨0,[],[],[],[],[]⟩
def tU (n:Str):Bool:=n==[73,110,116]||(n==[83,116,114,105,110,103]||(n==[66,111,111,108,101,97,110]||n==[73,68]))
theorem aOP (n:Str):aHM n=some (tU n):=by
 apply aL6
 simp only [xH,tU]
 cases n==[73,110,116]<;>cases n==[83,116,114,105,110,103]<;>cases n==[66,111,111,108,101,97,110]<;>rfl
theorem aOQ (n:Str):aHK n=some (tU n):=by
 apply aLZ
 simp only [xF,tU]
 cases n==[73,110,116]<;>cases n==[83,116,114,105,110,103]<;>cases n==[66,111,111,108,101,97,110]<;>rfl
def bN (s:GSchema) (n:Str):GDef×Bool:=bif tU n then (⟨0,n,[],[],[],[]⟩,true) else match s.defs.find? (fun d=>d.name==n) with | some d=>(d,true) | none=>(zDef,false)
theorem aKf (s:GSchema) (n:Str) (hl:Sm s.defs):aHL s n=some (bN s n):=by
 apply aRI
 unfold aEb bN
 rw [aAc (b:=nZ s n) s.defs (fun d=>if (d.name==n)=true then some (.inr (d.kind,d.name,d.faces,d.fields,d.parts,d.params)) else none) (.inl ()) hl (by simp [nZ]) (by
  intro k x hm h1 h2 h3
  simp only [nZ,h1,fT,h2,bQ,h3]
  cases x.name==n<;>rfl)]
 rw [aEd,aOP]
 cases tU n
 ·simp only [bQ,pK,cond_false]
  cases s.defs.find? (fun d=>d.name==n)<;>rfl
 ·rfl
theorem aBC (s:GSchema) (n:Str) (hl:Sm s.defs):vZ s n=some (bN s n):=by
 apply aRf
 unfold aD5 bN
 rw [aAc (b:=nW s n) s.defs (fun d=>if (d.name==n)=true then some (.inr (d.kind,d.name,d.faces,d.fields,d.parts,d.params)) else none) (.inl ()) hl (by simp [nW]) (by
  intro k x hm h1 h2 h3
  simp only [nW,h1,fT,h2,bQ,h3]
  cases x.name==n<;>rfl)]
 rw [aEd,aOQ]
 cases tU n
 ·simp only [bQ,pK,cond_false]
  cases s.defs.find? (fun d=>d.name==n)<;>rfl
 ·rfl
def aGv (s:GSchema) (n:Str) (ks:List Int):Bool:=(bN s n).2&&ks.contains (bN s n).1.kind
theorem aU9 (s:GSchema) (n:Str) (ks:List Int) (hl:Sm s.defs) (hk:Sm ks):aQw s n ks=some (aGv s n ks):=by
 apply aRK
 simp only [aEc,aKf s n hl,bQ,yH ks _ hk,aGv]
 cases (bN s n).2<;>rfl
theorem aS0 (s:GSchema) (n:Str) (a b c:Int) (hl:Sm s.defs):aYF s n a b c=some (aGv s n [a,b,c]):=by
 apply aXb
 simp only [aLW,aBC s n hl,bQ,aGv]
 have:[a,b,c].contains (bN s n).1.kind=((bN s n).1.kind==a||((bN s n).1.kind==b||(bN s n).1.kind==c)):=by
  simp only [List.contains_cons,List.contains_nil,Bool.or_false]
 rw [this]
 cases (bN s n).2<;>cases (bN s n).1.kind==a<;>cases (bN s n).1.kind==b<;>rfl
theorem aIf (s:GSchema) (n:Str) (hl:Sm s.defs):aAs s n=some (aGv s n [1,2,3]) :=
 aGu (by simp [oM,aU9 s n [1,2,3] hl (by decide)])
theorem aIg (s:GSchema) (n:Str) (hl:Sm s.defs):aAr s n=some (aGv s n [1,2,3]) :=
 aGs (by simp [oL,aS0 s n _ _ _ hl])
structure SOk (s:GSchema):Prop where
 bk:oH s<1073741824
theorem aXj (d:GDef):1≤aHF d:=by rw [mN];omega
theorem aJB (d:GFieldDef):1≤gB d:=by rw [jM];omega
theorem aIh (d:GParam):1≤iL d:=by rw [nO];omega
theorem aEe (d:GDir):1≤kN d:=by rw [qD];omega
theorem aAQ (d:GMember):1≤bF d:=by rw [cO];omega
theorem SOk.defs {s:GSchema} (h:SOk s):s.defs.length<1073741824:=by
 have h1:=h.bk;rw [nP] at h1
 have h2:=cZ aXj s.defs
 omega
theorem SOk.def_bk {s:GSchema} (h:SOk s) {d:GDef} (hd:d∈s.defs):aHF d<1073741824:=by
 have h1:=h.bk;rw [nP] at h1
 have h2:=dW (f:=aHF) hd
 omega
theorem SOk.faces {s:GSchema} (h:SOk s) (d:GDef) (hd:d∈s.defs):d.faces.length<1073741824:=by
 have h1:=h.def_bk hd;rw [mN] at h1
 have h2:=cZ aNc d.faces
 omega
theorem SOk.parts {s:GSchema} (h:SOk s) (d:GDef) (hd:d∈s.defs):d.parts.length<1073741824:=by
 have h1:=h.def_bk hd;rw [mN] at h1
 have h2:=cZ aNc d.parts
 omega
theorem SOk.fields {s:GSchema} (h:SOk s) (d:GDef) (hd:d∈s.defs):d.fields.length<1073741824:=by
 have h1:=h.def_bk hd;rw [mN] at h1
 have h2:=cZ aJB d.fields
 omega
theorem SOk.sm {s:GSchema} (h:SOk s):Sm s.defs:=by have:=h.defs;show s.defs.length<_;omega
theorem aAR (s:GSchema) (n:Str):(bN s n).1∈s.defs∨((bN s n).1.faces=[]∧(bN s n).1.fields=[]∧(bN s n).1.parts=[]∧(bN s n).1.params=[]):=by
 unfold bN
 cases tU n
 ·simp only [cond_false]
  cases h:s.defs.find? (fun d=>d.name==n) with
  | none=>exact .inr ⟨rfl,rfl,rfl,rfl⟩
  | some d=>exact .inl (List.mem_of_find?_eq_some h)
 ·exact .inr ⟨rfl,rfl,rfl,rfl⟩
theorem SOk.partsF {s:GSchema} (h:SOk s) (n:Str):(bN s n).1.parts.length<1073741824:=by
 rcases aAR s n with hm | ⟨_,_,hp,_⟩
 ·exact h.parts _ hm
 ·rw [hp];decide
theorem SOk.fieldsF {s:GSchema} (h:SOk s) (n:Str):(bN s n).1.fields.length<1073741824:=by
 rcases aAR s n with hm | ⟨_,hp,_,_⟩
 ·exact h.fields _ hm
 ·rw [hp];decide
abbrev zF:GFieldDef:=⟨[],[],⟨[],0,0⟩,[]⟩
abbrev tnS:Str:=[95,95,116,121,112,101,110,97,109,101]
abbrev tnF:GFieldDef:=⟨tnS,[],⟨[83,116,114,105,110,103],0,1⟩,[]⟩
theorem aOR (l : List GFieldDef) (d : GDef) (a b : Str) (p q : Int) (name : Str) (s : GSchema) (hl : Sm l) :
  ∃ i, kR l d a b p q name s = some i ∧ (match l.find? (fun f => f.name == name) with | some f => decide (i < 0) = false ∧ nthI l i = some f | none => decide (i < 0) = true) := by
 have hc : ∀ f, aEY f d a b p q name s = some (f.name == name) := fun f => aJy rfl
 have key := fF (b := gC l d a b p q name s) l (fun k (_ : Nat) => (k : Int)) (fun r k => match r.findIdx? (fun f => f.name == name) with | some j => Sum.inr ((k + j : Nat) : Int) | none => Sum.inl ()) (fun k a => a = k) hl
  (by intro a _; simp [gC])
  (by
   intro k x r a' hm hk hd h1 h2 h3 hI
   subst hI
   simp only [gC, h1, fT, h2, bQ, h3, hc, List.findIdx?_cons]
   cases hv : x.name == name
   ·refine .inr ⟨a' + 1, rfl, rfl, ?_⟩
    simp only [Bool.false_eq_true, if_false]
    cases r.findIdx? (fun f => f.name == name) with
    | none => rfl
    | some j => simp only [Option.map_some]; congr 2; omega
   ·left; simp) (s := 0) (a := 0) rfl rfl
 have hrun : ∀ i, mZ l d a b p q name s = some i → kR l d a b p q name s = some i := fun i h => aH8 h
 unfold mZ at hrun
 rw [key] at hrun
 simp only [bQ, Nat.zero_add] at hrun
 cases hf : l.findIdx? (fun f => f.name == name) with
 | none =>
  rw [hf] at hrun
  refine ⟨-1, hrun _ rfl, ?_⟩
  rw [List.findIdx?_eq_none_iff] at hf
  have : l.find? (fun f => f.name == name) = none := List.find?_eq_none.2 fun x hx => by simp [hf x hx]
  rw [this]; rfl
 | some j =>
  rw [hf] at hrun
  refine ⟨(j : Int), hrun _ rfl, ?_⟩
  obtain ⟨hj, hp, hq⟩ := List.findIdx?_eq_some_iff_getElem.1 hf
  have : l.find? (fun f => f.name == name) = some l[j] := by
   rw [List.find?_eq_some_iff_getElem]
   exact ⟨hp, j, hj, rfl, fun k hk => by simpa using hq k hk⟩
  rw [this]
  exact ⟨by simp, by rw [sE, List.getElem?_eq_getElem hj]⟩
def aB1 (s:GSchema) (typ name:Str):GFieldDef×Bool :=
 bif name==tnS&&aGv s typ [1,2,3] then (tnF,true) else bif (bN s typ).1.kind==1||(bN s typ).1.kind==2 then (match (bN s typ).1.fields.find? (fun f=>f.name==name) with | some f=>(f,true) | none=>(zF,false)) else (zF,false)
theorem aVa {s:GSchema} {n:Str} (h:(bN s n).2=false):(bN s n).1=zDef:=by
 revert h
 unfold bN
 cases tU n
 ·simp only [cond_false]
  cases hf:s.defs.find? (fun d=>d.name==n) with
  | none=>intro _;rfl
  | some d=>intro h;simp at h
 ·intro h;simp at h
theorem aRL (s:GSchema) (typ name:Str) (h:SOk s):aLg s typ name=some (aB1 s typ name):=by
 apply aOH
 have hs:=h.sm
 have hf:=h.fieldsF typ
 obtain ⟨i,h1,h2⟩:=aOR (bN s typ).1.fields (bN s typ).1 [] [] 0 0 name s (by show (bN s typ).1.fields.length<_;omega)
 have tail:(cnd (!(bN s typ).2) (some (zF,false)) (cnd ((bN s typ).1.kind != 1) (cnd ((bN s typ).1.kind != 2) (some (zF,false)) (cnd (decide (i<0)) (some (zF,false)) (bnd (nthI (bN s typ).1.fields i) fun y=>some (y,true)))) (cnd (decide (i<0)) (some (zF,false)) (bnd (nthI (bN s typ).1.fields i) fun y=>some (y,true))))) =
   some (bif (bN s typ).1.kind==1||(bN s typ).1.kind==2 then (match (bN s typ).1.fields.find? (fun f=>f.name==name) with | some f=>(f,true) | none=>(zF,false)) else (zF,false)):=by
  have e1:((bN s typ).1.kind != 1) = !((bN s typ).1.kind==1):=rfl
  have e2:((bN s typ).1.kind != 2) = !((bN s typ).1.kind==2):=rfl
  cases h3:(bN s typ).2
  ·rw [aVa h3];rfl
  ·rw [e1,e2]
   cases hff:(bN s typ).1.fields.find? (fun f=>f.name==name) with
   | none=>rw [hff] at h2;simp only at h2;rw [h2];cases (bN s typ).1.kind==1<;>cases (bN s typ).1.kind==2<;>rfl
   | some f=>rw [hff] at h2;obtain ⟨h4,h5⟩:=h2;rw [h4,h5];cases (bN s typ).1.kind==1<;>cases (bN s typ).1.kind==2<;>rfl
 simp only [aBz,aIf s typ hs,aKf s typ hs,bQ,h1,aB1]
 rw [tail]
 cases name==tnS<;>cases aGv s typ [1,2,3]<;>rfl
theorem aRM (s:GSchema) (typ name:Str) (h:SOk s):aLh s typ name=some (aB1 s typ name):=by
 apply aOK
 have hs:=h.sm
 have hf:=h.fieldsF typ
 have sm:Sm (bN s typ).1.fields:=by show (bN s typ).1.fields.length<_;omega
 have hg:∀ b:Int→Option (Int⊕(Unit⊕(Str×List GParam×Str×Int×Int×List GDir))),(∀ k:Int,b k=cnd (decide (k<(List.length (bN s typ).1.fields:Int))) (bnd (nthI (bN s typ).1.fields k) fun x=>cnd (x.name==name) (bnd (nthI (bN s typ).1.fields k) fun y=>some (.inr (.inr (y.name,y.params,y.t.name,y.t.lists,y.t.musts,y.dirs)))) (some (.inl (IntKind.wrap .i64 (k+1))))) (some (.inr (.inl ())))) →
   bG b 0=some (match (bN s typ).1.fields.find? (fun f=>f.name==name) with | some y => .inr (y.name,y.params,y.t.name,y.t.lists,y.t.musts,y.dirs) | none => .inl ()):=by
  intro b hb
  rw [aAc (b:=b) (bN s typ).1.fields (fun y=>if (y.name==name)=true then some (.inr (y.name,y.params,y.t.name,y.t.lists,y.t.musts,y.dirs)) else none) (.inl ()) sm (by rw [hb];simp) (by
   intro k x hm h1 h2 h3
   rw [hb]
   simp only [h1,fT,h2,bQ,h3]
   cases x.name==name<;>rfl)]
  rw [aEd]
  cases (bN s typ).1.fields.find? (fun f=>f.name==name)<;>rfl
 have e1:((bN s typ).1.kind != 1) = !((bN s typ).1.kind==1):=rfl
 have e2:((bN s typ).1.kind != 2) = !((bN s typ).1.kind==2):=rfl
 simp only [aBA,aIg s typ hs,aBC s typ hs,bQ,aB1,e1,e2]
 simp only [hg (eG name (bN s typ)) (fun k=>rfl),hg (eG name (bN s typ)) (fun k=>rfl),hg (eG name (bN s typ)) (fun k=>rfl),hg (eG name (bN s typ)) (fun k=>rfl),bQ]
 cases hn:name==tnS
 ·cases (bN s typ).1.fields.find? (fun f=>f.name==name)<;>cases (bN s typ).1.kind==1<;>cases (bN s typ).1.kind==2<;>rfl
 ·have hn':name=tnS:=beq_iff_eq.1 hn
  subst hn'
  cases aGv s typ [1,2,3]<;>cases (bN s typ).1.fields.find? (fun f=>f.name==tnS)<;>cases (bN s typ).1.kind==1<;>cases (bN s typ).1.kind==2<;>rfl
theorem aAS (m:List GMember) (hm:m.length<1073741824) (h:∀ x∈m,aBs x.v=some x.v):uL m=some m:=by
 apply aJa
 unfold sN
 rw [aHp (b:=iF m) m (fun k a=>(a,(k:Int))) hm (by intro a;simp [iF]) (by
  intro k x a hx h1 h2 h3 h4
  simp only [iF,h1,fT,h2,bQ,h3,h4,h x hx]
  cases x;rfl) (s:=([],0)) rfl]
 rfl
theorem aOS:∀ (n:Nat),n<1073741824→∀ v:GValue,szV v≤n→aBs v=some v:=by
 intro n
 induction n with
 | zero=>intro _ v h;have:=aKd v;omega
 | succ n ih =>
  intro hn v h
  have hv:=aKd v
  have hl:=aL9 v.l
  have hm:=aMa v.m
  apply aOu
  unfold aBx
  rw [aHp (b:=lR v) v.l (fun k a=>(a,(k:Int))) (by omega) (by intro a;simp [lR]) (by
   intro k x a hx h1 h2 h3 h4
   simp only [lR,h1,fT,h2,bQ,h3,h4,ih (by omega) x (by have:=aL7 hx;omega)]) (s:=([],0)) rfl]
  simp only [bQ,aAS v.m (by omega) fun x hx=>ih (by omega) x.v (by have:=aL8 hx;have:=aSY x;omega)]
  cases v;rfl
theorem aIi (v:GValue) (h:szV v<1073741824):aBs v=some v:=aOS _ h v (Nat.le_refl _)
theorem aKg {m:List GMember} (h:bkSl bF m<1073741824) {x:GMember} (hx:x∈m):szV x.v<1073741824:=by
 have h1:=dW (f:=bF) hx
 have h2:=bAi x
 have h3:=aSY x
 omega
theorem aKh (l:List GDir) (h:bkSl kN l<1073741824):aLe l=some l:=by
 apply aQZ
 unfold aD1
 have hl:=cZ aEe l
 rw [aHp (b:=nU l) l (fun k a=>(a,(k:Int))) (by omega) (by intro a;simp [nU]) (by
  intro k x a hx h1 h2 h3 h4
  have hb:=dW (f:=kN) hx
  rw [qD] at hb
  have hm:=cZ aAQ x.args
  simp only [nU,h1,fT,h2,bQ,h3,h4,aAS x.args (by omega) fun y hy=>aIi y.v (aKg (by omega) hy)]) (s:=([],0)) rfl]
 rfl
mutual
def aDc:GSel→List Str
 | ⟨k,_,n,_,_,_,l⟩=>(bif k==1 then [n] else [])++eX l
def eX:List GSel→List Str
 | []=>[]
 | x::l=>aDc x++eX l
end
theorem aVb (x:GSel):aDc x=(bif x.kind==1 then [x.name] else [])++eX x.sels:=by cases x;simp only [aDc]
mutual
theorem aKi:∀ x:GSel,(aDc x).length≤eU x
 | ⟨k,a,n,ar,di,o,l⟩=>by
  have h:=aEf l
  simp only [aDc,eU,List.length_append]
  cases k==1<;>simp only [cond_true,cond_false,List.length_singleton,List.length_nil,bk1]<;>omega
theorem aEf:∀ l:List GSel,(eX l).length≤bJ l
 | []=>by simp [eX]
 | x::l=>by have:=aKi x;have:=aEf l;simp only [eX,bJ,List.length_append];omega
end
theorem qP {x:GSel} {l:List GSel} (h:x∈l):eU x≤bJ l:=by rw [cK];exact fE eU h
theorem vD (x:GSel):bJ x.sels+1≤eU x:=by rw [fV,cK];simp only [bkSl];omega
theorem aXk (x:GSel):1≤eU x:=by rw [fV];omega
theorem iH (l:List GSel):l.length≤bJ l:=by rw [cK];exact gP eU aXk l
theorem aAT:∀ (ns l:List Str),(ns.foldl addD l).length≤l.length+ns.length
 | [],l=>by simp
 | n::ns,l=>by have:=aAT ns (addD l n);have:=aSZ l n;rw [List.foldl_cons,List.length_cons];omega
theorem aDd:∀ (ns l:List Str),l.Nodup→(ns.foldl addD l).Nodup
 | [],l,h=>h
 | n::ns,l,h=>aDd ns _ (aKe h)
theorem aS1 (l:List Str) (n x:Str):x∈addD l n↔x∈l∨x=n:=by
 constructor
 ·exact aYN
 ·unfold addD
  cases hc:l.contains n
  ·intro h;simpa using h
  ·rintro (h | h)
   ·exact h
   ·subst h;simpa using hc
theorem kA:∀ (ns l:List Str) (x:Str),x∈ns.foldl addD l↔x∈l∨x∈ns
 | [],l,x=>by simp
 | n::ns,l,x=>by rw [List.foldl_cons,kA ns,aS1,List.mem_cons];exact or_assoc
theorem aRN (l:List Str) (n:Str):∃ t,addD l n=l++t:=by
 unfold addD;cases l.contains n
 ·exact ⟨[n],rfl⟩
 ·exact ⟨[],by simp⟩
theorem aFZ:∀ (ns l:List Str),∃ t,ns.foldl addD l=l++t
 | [],l=>⟨[],by simp⟩
 | n::ns,l=>by
  obtain ⟨t,ht⟩:=aRN l n
  obtain ⟨u,hu⟩:=aFZ ns (addD l n)
  exact ⟨t++u,by rw [List.foldl_cons,hu,ht,List.append_assoc]⟩
abbrev bCw:GFrag:=⟨[],[],[],[]⟩
def xK (d:GDoc) (n:Str):GFrag×Bool:=match d.frags.find? (fun f=>f.name==n) with | some f=>(f,true) | none=>(bCw,false)
theorem aIj {d:GDoc} {n:Str} (h:(xK d n).2=true):(xK d n).1∈d.frags∧(xK d n).1.name=n:=by
 revert h
 unfold xK
 cases hf:d.frags.find? (fun f=>f.name==n) with
 | none=>intro h;simp at h
 | some f=>intro _;exact ⟨List.mem_of_find?_eq_some hf,by simpa using List.find?_some hf⟩
theorem aYO {d:GDoc} {f:GFrag} (h:f∈d.frags):(xK d f.name).2=true:=by
 unfold xK
 cases hf:d.frags.find? (fun g=>g.name==f.name) with
 | none=>have:=List.find?_eq_none.1 hf f h;simp at this
 | some g=>rfl
def aDe (d:GDoc) (S:Str→Prop):Prop:=∀ n,S n→(xK d n).2=true→∀ m∈eX (xK d n).1.sels,S m
def allN (d:GDoc) (sels:List GSel):List Str:=eX sels++d.frags.flatMap fun f=>eX f.sels
theorem kE:∀ l:List GFrag,(l.flatMap fun f=>eX f.sels).length≤sumL dT l
 | []=>by simp [sumL]
 | f::l=>by
  have h1:=kE l
  have h2:=aEf f.sels
  have h3:bJ f.sels≤dT f:=by rw [dY,cK];simp only [bkSl];omega
  simp only [List.flatMap_cons,List.length_append,sumL];omega
theorem xL (d:GDoc):sumL dT d.frags+1≤kO d:=by rw [vV];simp only [bkSl];omega
theorem vE (f:GFrag):1≤dT f:=by rw [dY];omega
theorem aIk (d:GDoc):d.frags.length+1≤kO d:=by
 have:=xL d;have:=gP dT vE d.frags;omega
open Go Go.Ev Go.Ev.PV
abbrev E0':El:=⟨true,[(.sl 3 1048576 false),.str,.str]⟩
abbrev E1':El:=⟨true,[(.int .i64),(.int .i64),.str,(.sl 6 1048576 false),(.sl 7 1048576 false)]⟩
abbrev E2':El:=⟨false,[.bool]⟩
abbrev E3':El:=⟨true,[(.sl 10 1048576 false),(.sl 13 1048576 false)]⟩
abbrev E4':El:=⟨true,[.str,.str,(.int .i64),(.int .i64),.bool,(.int .i64),(.int .i64),.str,(.sl 6 1048576 false),(.sl 7 1048576 false)]⟩
abbrev E5':El:=⟨true,[(.int .i64),.str,(.sl 0 1048576 false),(.sl 4 1048576 false),(.sl 0 1048576 false),(.sl 5 1048576 false)]⟩
abbrev E6':El:=⟨true,[.str,(.sl 5 1048576 false),.str,(.int .i64),(.int .i64),(.sl 8 1048576 false)]⟩
abbrev E7':El:=⟨false,[(.int .i64)]⟩
abbrev E8':El:=⟨false,[.sl 0 16777216 false]⟩
abbrev E9':El:=⟨true,[(.int .i64),.str,.str,(.sl 7 1048576 false),(.sl 8 1048576 false),.str,(.sl 12 1048576 false)]⟩
abbrev E10':El:=⟨true,[.str,(.int .i64),(.int .i64)]⟩
abbrev E11':El:=⟨true,[(.int .i64),.str,(.sl 11 1048576 false),(.sl 8 1048576 false),(.sl 12 1048576 false)]⟩
abbrev E12':El:=⟨false,[.str]⟩
abbrev E13':El:=⟨true,[.str,.str,(.sl 8 1048576 false),(.sl 12 1048576 false)]⟩
abbrev E16':El:=⟨false,[.sl 5 16777216 false]⟩
def sa:Nat→List HV→List HV
 | 0,l=>l
 | n+1,l => .same::sa n l
def lh (i:Nat) (hv:List HV) (cnt top:Nat) (ws:List (Option Nat)):Nat×LH:=(i,{hv:=hv,cnt:=cnt,top:=top,ex:=ws.map fun w=>(w,hv)})
def sv1 (ins outs:List El):Summ:={ins:=ins,outs:=outs}
def sv2 (ins outs:List El):Summ:={ins:=ins,outs:=outs,cap:=2097152}
def tτ:Tb:=[⟨false,[.str]⟩,⟨false,[(.int .i64)]⟩,⟨true,[(.sl 3 1048576 false),.str,.str]⟩,⟨true,[(.int .i64),.str,(.sl 0 1048576 false),(.sl 4 1048576 false),(.sl 0 1048576 false),(.sl 5 1048576 false)]⟩,⟨true,[.str,(.sl 5 1048576 false),.str,(.int .i64),(.int .i64),(.sl 8 1048576 false)]⟩,⟨true,[.str,.str,(.int .i64),(.int .i64),.bool,(.int .i64),(.int .i64),.str,(.sl 6 1048576 false),(.sl 7 1048576 false)]⟩,⟨true,[(.int .i64),(.int .i64),.str,(.sl 6 1048576 false),(.sl 7 1048576 false)]⟩,⟨true,[.str,(.int .i64),(.int .i64),.str,(.sl 6 1048576 false),(.sl 7 1048576 false)]⟩,⟨true,[.str,(.sl 7 1048576 false)]⟩,⟨true,[(.sl 10 1048576 false),(.sl 13 1048576 false)]⟩,⟨true,[(.int .i64),.str,(.sl 11 1048576 false),(.sl 8 1048576 false),(.sl 12 1048576 false)]⟩,⟨true,[.str,.str,(.int .i64),(.int .i64),.bool,(.int .i64),(.int .i64),.str,(.sl 6 1048576 false),(.sl 7 1048576 false)]⟩,⟨true,[(.int .i64),.str,.str,(.sl 7 1048576 false),(.sl 8 1048576 false),.str,(.sl 12 1048576 false)]⟩,⟨true,[.str,.str,(.sl 8 1048576 false),(.sl 12 1048576 false)]⟩,⟨false,[(.sl 8 1048576 false)]⟩,⟨true,[.str,(.int .i64),(.int .i64)]⟩,⟨true,[.str,(.int .i64),.str,.str,(.sl 7 1048576 false),(.sl 8 1048576 false),.str,(.sl 12 1048576 false)]⟩,⟨true,[.str,.str,(.int .i64),(.int .i64),.bool]⟩]
def cf (s:STb) (r:List (FuncId×Summ×Nat)) (me:Nat) (ag:Bool) (l:List (Nat×LH)):Cfg:={τ:=tτ,sums:=s,recs:=r,me:=me,meAg:=ag,loops:=l}
def cg (s:STb) (r:List (FuncId×Summ×Nat)) (me:Nat) (ag:Bool) (l:List (Nat×LH)) (np:Nat):Cfg:={τ:=tτ,sums:=s,recs:=r,me:=me,meAg:=ag,loops:=l,cap:=2097152,np:=np}
abbrev Ds (f:FuncId) (sm:Summ):Prop:=aK9 Tryz.prog MT XT tτ f sm
theorem aW (s:Str):dA s=s.length+1:=rfl
theorem lfSl {α:Type} {τ:Tb} {n ub:Nat} {enc:α→PV} {l:List α} (h:∀ x∈l,ElOk τ (elOf τ n) (enc x)) (hl:l.length≤ub):LfOk τ (.sl n ub false) (.slice (l.map enc) [] false):=by
 refine .sl (fun e he => ?_) (by simpa using hl)
 obtain ⟨x,hx,rfl⟩:=List.mem_map.1 he
 exact h x hx
theorem okVM:∀ n:Nat,n≤1048576→(∀ x:GValue,cD x≤n→ElOk tτ (elOf tτ 6) (aN x))∧(∀ x:GMember,bF x≤n→ElOk tτ (elOf tτ 7) (aD x)):=by
 intro n
 induction n with
 | zero=>intro _;exact ⟨fun x h=>by rw [cE] at h;omega,fun x h=>by rw [cO] at h;omega⟩
 | succ n ih =>
  intro hn
  obtain ⟨ihV,ihM⟩:=ih (by omega)
  have ihValue:=ihV
  have ihMember:=ihM
  refine ⟨fun x hb => ?_,fun x hb => ?_⟩
  ·simp only [cE,bk1,aW] at hb
   rw [eO]
   change ElOk tτ ⟨true,[(.int .i64),(.int .i64),.str,(.sl 6 1048576 false),(.sl 7 1048576 false)]⟩ _
   exact .ag (.cons (.int _ _) (.cons (.int _ _) (.cons (.str (by unfold topL;omega)) (.cons (lfSl (fun y hy=>ihValue y (by have:=dW (f:=cD) hy;omega)) (by have:=cZ (f:=cD) (fun d=>by rw [cE];omega) x.l;omega)) (.cons (lfSl (fun y hy=>ihMember y (by have:=dW (f:=bF) hy;omega)) (by have:=cZ (f:=bF) (fun d=>by rw [cO];omega) x.m;omega)) (.nil))))))
  
  ·simp only [cO,cE,bk1,aW] at hb
   rw [jA]
   change ElOk tτ ⟨true,[.str,(.int .i64),(.int .i64),.str,(.sl 6 1048576 false),(.sl 7 1048576 false)]⟩ _
   exact .ag (.cons (.str (by unfold topL;omega)) (.cons (.int _ _) (.cons (.int _ _) (.cons (.str (by unfold topL;omega)) (.cons (lfSl (fun y hy=>ihValue y (by have:=dW (f:=cD) hy;omega)) (by have:=cZ (f:=cD) (fun d=>by rw [cE];omega) x.v.l;omega)) (.cons (lfSl (fun y hy=>ihMember y (by have:=dW (f:=bF) hy;omega)) (by have:=cZ (f:=bF) (fun d=>by rw [cO];omega) x.v.m;omega)) (.nil)))))))
theorem aXl (x:GValue) (h:cD x≤1048576):ElOk tτ (elOf tτ 6) (aN x):=(okVM _ (Nat.le_refl _)).1 x h
theorem aGN (x:GMember) (h:bF x≤1048576):ElOk tτ (elOf tτ 7) (aD x):=(okVM _ (Nat.le_refl _)).2 x h
theorem aXm (x:GParam) (hb:iL x≤1048576):ElOk tτ (elOf tτ 5) (aQ x):=by
 simp only [nO,jY,cE,bk1,aW] at hb
 rw [jB]
 change ElOk tτ ⟨true,[.str,.str,(.int .i64),(.int .i64),.bool,(.int .i64),(.int .i64),.str,(.sl 6 1048576 false),(.sl 7 1048576 false)]⟩ _
 exact .ag (.cons (.str (by unfold topL;omega)) (.cons (.str (by unfold topL;omega)) (.cons (.int _ _) (.cons (.int _ _) (.cons (.bool _) (.cons (.int _ _) (.cons (.int _ _) (.cons (.str (by unfold topL;omega)) (.cons (lfSl (fun y hy=>aXl y (by have:=dW (f:=cD) hy;omega)) (by have:=cZ (f:=cD) (fun d=>by rw [cE];omega) x.default.l;omega)) (.cons (lfSl (fun y hy=>aGN y (by have:=dW (f:=bF) hy;omega)) (by have:=cZ (f:=bF) (fun d=>by rw [cO];omega) x.default.m;omega)) (.nil)))))))))))
theorem aYP (x:GDir) (hb:kN x≤1048576):ElOk tτ (elOf tτ 8) (aH x):=by
 simp only [qD,bk1,aW] at hb
 rw [oU]
 change ElOk tτ ⟨true,[.str,(.sl 7 1048576 false)]⟩ _
 exact .ag (.cons (.str (by unfold topL;omega)) (.cons (lfSl (fun y hy=>aGN y (by have:=dW (f:=bF) hy;omega)) (by have:=cZ (f:=bF) (fun d=>by rw [cO];omega) x.args;omega)) (.nil)))
theorem aVc (x:GFieldDef) (hb:gB x≤1048576):ElOk tτ (elOf tτ 4) (aK x):=by
 simp only [jM,jY,bk1,aW] at hb
 rw [eB]
 change ElOk tτ ⟨true,[.str,(.sl 5 1048576 false),.str,(.int .i64),(.int .i64),(.sl 8 1048576 false)]⟩ _
 exact .ag (.cons (.str (by unfold topL;omega)) (.cons (lfSl (fun y hy=>aXm y (by have:=dW (f:=iL) hy;omega)) (by have:=cZ (f:=iL) (fun d=>by rw [nO];omega) x.params;omega)) (.cons (.str (by unfold topL;omega)) (.cons (.int _ _) (.cons (.int _ _) (.cons (lfSl (fun y hy=>aYP y (by have:=dW (f:=kN) hy;omega)) (by have:=cZ (f:=kN) (fun d=>by rw [qD];omega) x.dirs;omega)) (.nil)))))))
theorem bCx (x:GDef) (hb:aHF x≤1048576):ElOk tτ (elOf tτ 3) (aI x):=by
 simp only [mN,bk1,aW] at hb
 rw [oV]
 change ElOk tτ ⟨true,[(.int .i64),.str,(.sl 0 1048576 false),(.sl 4 1048576 false),(.sl 0 1048576 false),(.sl 5 1048576 false)]⟩ _
 exact .ag (.cons (.int _ _) (.cons (.str (by unfold topL;omega)) (.cons (lfSl (fun y hy => .one (.str (by have:=dW (f:=dA) hy;rw [aW] at this;unfold topL;omega))) (by have:=cZ (f:=dA) (fun d=>by rw [aW];omega) x.faces;omega)) (.cons (lfSl (fun y hy=>aVc y (by have:=dW (f:=gB) hy;omega)) (by have:=cZ (f:=gB) (fun d=>by rw [jM];omega) x.fields;omega)) (.cons (lfSl (fun y hy => .one (.str (by have:=dW (f:=dA) hy;rw [aW] at this;unfold topL;omega))) (by have:=cZ (f:=dA) (fun d=>by rw [aW];omega) x.parts;omega)) (.cons (lfSl (fun y hy=>aXm y (by have:=dW (f:=iL) hy;omega)) (by have:=cZ (f:=iL) (fun d=>by rw [nO];omega) x.params;omega)) (.nil)))))))
theorem aMb (x:GSchema) (hb:oH x≤1048576):ElOk tτ (elOf tτ 2) (dX x):=by
 simp only [nP,bk1,aW] at hb
 rw [jC]
 change ElOk tτ ⟨true,[(.sl 3 1048576 false),.str,.str]⟩ _
 exact .ag (.cons (lfSl (fun y hy=>bCx y (by have:=dW (f:=aHF) hy;omega)) (by have:=cZ (f:=aHF) (fun d=>by rw [mN];omega) x.defs;omega)) (.cons (.str (by unfold topL;omega)) (.cons (.str (by unfold topL;omega)) (.nil))))
theorem aYQ (x:GVarDef) (hb:qE x≤1048576):ElOk tτ (elOf tτ 11) (aY x):=by
 simp only [rB,jY,cE,bk1,aW] at hb
 rw [eC]
 change ElOk tτ ⟨true,[.str,.str,(.int .i64),(.int .i64),.bool,(.int .i64),(.int .i64),.str,(.sl 6 1048576 false),(.sl 7 1048576 false)]⟩ _
 exact .ag (.cons (.str (by unfold topL;omega)) (.cons (.str (by unfold topL;omega)) (.cons (.int _ _) (.cons (.int _ _) (.cons (.bool _) (.cons (.int _ _) (.cons (.int _ _) (.cons (.str (by unfold topL;omega)) (.cons (lfSl (fun y hy=>aXl y (by have:=dW (f:=cD) hy;omega)) (by have:=cZ (f:=cD) (fun d=>by rw [cE];omega) x.default.l;omega)) (.cons (lfSl (fun y hy=>aGN y (by have:=dW (f:=bF) hy;omega)) (by have:=cZ (f:=bF) (fun d=>by rw [cO];omega) x.default.m;omega)) (.nil)))))))))))
theorem bB5:∀ n:Nat,n≤1048576→∀ x:GSel,eU x≤n→ElOk tτ (elOf tτ 12) (aG x):=by
 intro n
 induction n with
 | zero=>intro _ x h;rw [fV] at h;omega
 | succ n ih =>
  intro hn x hb
  have ihSel:=ih (by omega)
  simp only [fV,bk1,aW] at hb
  rw [oW]
  change ElOk tτ ⟨true,[(.int .i64),.str,.str,(.sl 7 1048576 false),(.sl 8 1048576 false),.str,(.sl 12 1048576 false)]⟩ _
  exact .ag (.cons (.int _ _) (.cons (.str (by unfold topL;omega)) (.cons (.str (by unfold topL;omega)) (.cons (lfSl (fun y hy=>aGN y (by have:=dW (f:=bF) hy;omega)) (by have:=cZ (f:=bF) (fun d=>by rw [cO];omega) x.args;omega)) (.cons (lfSl (fun y hy=>aYP y (by have:=dW (f:=kN) hy;omega)) (by have:=cZ (f:=kN) (fun d=>by rw [qD];omega) x.dirs;omega)) (.cons (.str (by unfold topL;omega)) (.cons (lfSl (fun y hy=>ihSel y (by have:=dW (f:=eU) hy;omega)) (by have:=cZ (f:=eU) (fun d=>by rw [fV];omega) x.sels;omega)) (.nil))))))))
theorem bB6 (x:GSel) (h:eU x≤1048576):ElOk tτ (elOf tτ 12) (aG x):=bB5 _ (Nat.le_refl _) x h
theorem okOp (x:GOp) (hb:bkOp x≤1048576):ElOk tτ (elOf tτ 10) (aU x):=by
 simp only [mO,bk1,aW] at hb
 rw [gQ]
 change ElOk tτ ⟨true,[(.int .i64),.str,(.sl 11 1048576 false),(.sl 8 1048576 false),(.sl 12 1048576 false)]⟩ _
 exact .ag (.cons (.int _ _) (.cons (.str (by unfold topL;omega)) (.cons (lfSl (fun y hy=>aYQ y (by have:=dW (f:=qE) hy;omega)) (by have:=cZ (f:=qE) (fun d=>by rw [rB];omega) x.vars;omega)) (.cons (lfSl (fun y hy=>aYP y (by have:=dW (f:=kN) hy;omega)) (by have:=cZ (f:=kN) (fun d=>by rw [qD];omega) x.dirs;omega)) (.cons (lfSl (fun y hy=>bB6 y (by have:=dW (f:=eU) hy;omega)) (by have:=cZ (f:=eU) (fun d=>by rw [fV];omega) x.sels;omega)) (.nil))))))
theorem bB7 (x:GFrag) (hb:dT x≤1048576):ElOk tτ (elOf tτ 13) (aF x):=by
 simp only [dY,bk1,aW] at hb
 rw [dF]
 change ElOk tτ ⟨true,[.str,.str,(.sl 8 1048576 false),(.sl 12 1048576 false)]⟩ _
 exact .ag (.cons (.str (by unfold topL;omega)) (.cons (.str (by unfold topL;omega)) (.cons (lfSl (fun y hy=>aYP y (by have:=dW (f:=kN) hy;omega)) (by have:=cZ (f:=kN) (fun d=>by rw [qD];omega) x.dirs;omega)) (.cons (lfSl (fun y hy=>bB6 y (by have:=dW (f:=eU) hy;omega)) (by have:=cZ (f:=eU) (fun d=>by rw [fV];omega) x.sels;omega)) (.nil)))))
theorem bB8 (x:GDoc) (hb:kO x≤1048576):ElOk tτ (elOf tτ 9) (jX x):=by
 simp only [vV,bk1,aW] at hb
 rw [mL]
 change ElOk tτ ⟨true,[(.sl 10 1048576 false),(.sl 13 1048576 false)]⟩ _
 exact .ag (.cons (lfSl (fun y hy=>okOp y (by have:=dW (f:=bkOp) hy;omega)) (by have:=cZ (f:=bkOp) (fun d=>by rw [mO];omega) x.ops;omega)) (.cons (lfSl (fun y hy=>bB7 y (by have:=dW (f:=dT) hy;omega)) (by have:=cZ (f:=dT) (fun d=>by rw [dY];omega) x.frags;omega)) (.nil)))
theorem aM {τ:Tb} {l:Lf} {ls:List Lf} {vs:List PV} (h:CsOk τ (l::ls) vs):∃ v r,vs=v::r∧LfOk τ l v∧CsOk τ ls r:=by
 cases h with | cons h hs=>exact ⟨_,_,rfl,h,hs⟩
theorem vF {τ:Tb} {vs:List PV} (h:CsOk τ [] vs):vs=[]:=by cases h;rfl
theorem iA {τ:Tb} {v:PV} (h:LfOk τ .str v):∃ s,v = .str s∧s.length≤topL:=by cases h with | str h=>exact ⟨_,rfl,h⟩
theorem lT {τ:Tb} {k:IntKind} {v:PV} (h:LfOk τ (.int k) v):∃ n,v = .int k n:=by cases h with | int k n=>exact ⟨_,rfl⟩
theorem aMc {τ:Tb} {v:PV} (h:LfOk τ .bool v):∃ b,v = .bool b:=by cases h with | bool b=>exact ⟨_,rfl⟩
theorem nD {τ:Tb} {n ub:Nat} {o:Bool} {v:PV} (h:LfOk τ (.sl n ub o) v):∃ es,v = .slice es [] o∧(∀ e,e∈es→ElOk τ (elOf τ n) e)∧es.length≤ub:=by cases h with | sl h hl=>exact ⟨_,rfl,h,hl⟩
theorem cC {α:Type} {f:α→PV}:∀ {es:List PV},(∀ e,e∈es→∃ x,e=f x)→∃ l,es=List.map f l
 | [],_=>⟨[],rfl⟩
 | e::es,h=>by
  obtain ⟨x,rfl⟩:=h e (by simp)
  obtain ⟨l,rfl⟩:=cC (f:=f) (es:=es) (fun e he=>h e (by simp [he]))
  exact ⟨x::l,rfl⟩
theorem aXn {e:PV} (h:ElOk tτ ⟨false,[.str]⟩ e):∃ s,e=PV.str s:=by
 cases h with | one h=>obtain ⟨s,rfl,_⟩:=iA h;exact ⟨s,rfl⟩
theorem bA4 {e:PV} (h:ElOk tτ (elOf tτ 15) e):∃ x,e=iZ x:=by
 change ElOk tτ ⟨true,[.str,(.int .i64),(.int .i64)]⟩ e at h
 cases h with
 | ag hs =>
  obtain ⟨_,_,rfl,h0,hs1⟩:=aM hs
  obtain ⟨v0,rfl,_⟩:=iA h0
  obtain ⟨_,_,rfl,h1,hs2⟩:=aM hs1
  obtain ⟨v1,rfl⟩:=lT h1
  obtain ⟨_,_,rfl,h2,hs3⟩:=aM hs2
  obtain ⟨v2,rfl⟩:=lT h2
  cases vF hs3
  exact ⟨⟨v0,v1,v2⟩,by rw [iC]⟩
theorem bB9:∀ n:Nat,(∀ e:PV,bI e≤n→ElOk tτ (elOf tτ 6) e→∃ x,e=aN x)∧(∀ e:PV,bI e≤n→ElOk tτ (elOf tτ 7) e→∃ x,e=aD x):=by
 intro n
 induction n with
 | zero =>
  refine ⟨fun e hp => ?_,fun e hp => ?_⟩<;>(exfalso;cases e<;>simp only [bI] at hp<;>omega)
 | succ n ih =>
  obtain ⟨ihValue,ihMember⟩:=ih
  refine ⟨fun e hp h => ?_,fun e hp h => ?_⟩
  ·change ElOk tτ ⟨true,[(.int .i64),(.int .i64),.str,(.sl 6 1048576 false),(.sl 7 1048576 false)]⟩ e at h
   cases h with
   | ag hs =>
    obtain ⟨_,_,rfl,h0,hs1⟩:=aM hs
    obtain ⟨v0,rfl⟩:=lT h0
    obtain ⟨_,_,rfl,h1,hs2⟩:=aM hs1
    obtain ⟨v1,rfl⟩:=lT h1
    obtain ⟨_,_,rfl,h2,hs3⟩:=aM hs2
    obtain ⟨v2,rfl,_⟩:=iA h2
    obtain ⟨_,_,rfl,h3,hs4⟩:=aM hs3
    obtain ⟨es3,rfl,he3,_⟩:=nD h3
    obtain ⟨_,_,rfl,h4,hs5⟩:=aM hs4
    obtain ⟨es4,rfl,he4,_⟩:=nD h4
    cases vF hs5
    obtain ⟨v3,rfl⟩:=cC (f:=aN) (fun e he=>ihValue e (by have:=lF he;simp only [bI,dB] at hp;omega) (he3 e he))
    obtain ⟨v4,rfl⟩:=cC (f:=aD) (fun e he=>ihMember e (by have:=lF he;simp only [bI,dB] at hp;omega) (he4 e he))
    exact ⟨⟨v0,v1,v2,v3,v4⟩,by rw [eO]⟩
  ·change ElOk tτ ⟨true,[.str,(.int .i64),(.int .i64),.str,(.sl 6 1048576 false),(.sl 7 1048576 false)]⟩ e at h
   cases h with
   | ag hs =>
    obtain ⟨_,_,rfl,h0,hs1⟩:=aM hs
    obtain ⟨v0,rfl,_⟩:=iA h0
    obtain ⟨_,_,rfl,h1,hs2⟩:=aM hs1
    obtain ⟨v1,rfl⟩:=lT h1
    obtain ⟨_,_,rfl,h2,hs3⟩:=aM hs2
    obtain ⟨v2,rfl⟩:=lT h2
    obtain ⟨_,_,rfl,h3,hs4⟩:=aM hs3
    obtain ⟨v3,rfl,_⟩:=iA h3
    obtain ⟨_,_,rfl,h4,hs5⟩:=aM hs4
    obtain ⟨es4,rfl,he4,_⟩:=nD h4
    obtain ⟨_,_,rfl,h5,hs6⟩:=aM hs5
    obtain ⟨es5,rfl,he5,_⟩:=nD h5
    cases vF hs6
    obtain ⟨v4,rfl⟩:=cC (f:=aN) (fun e he=>ihValue e (by have:=lF he;simp only [bI,dB] at hp;omega) (he4 e he))
    obtain ⟨v5,rfl⟩:=cC (f:=aD) (fun e he=>ihMember e (by have:=lF he;simp only [bI,dB] at hp;omega) (he5 e he))
    exact ⟨⟨v0,⟨v1,v2,v3,v4,v5⟩⟩,by rw [jA]⟩
theorem aGO {e:PV} (h:ElOk tτ (elOf tτ 6) e):∃ x,e=aN x:=(bB9 (bI e)).1 e (Nat.le_refl _) h
theorem aEg {e:PV} (h:ElOk tτ (elOf tτ 7) e):∃ x,e=aD x:=(bB9 (bI e)).2 e (Nat.le_refl _) h
theorem aS2 {e:PV} (h:ElOk tτ (elOf tτ 5) e):∃ x,e=aQ x:=by
 change ElOk tτ ⟨true,[.str,.str,(.int .i64),(.int .i64),.bool,(.int .i64),(.int .i64),.str,(.sl 6 1048576 false),(.sl 7 1048576 false)]⟩ e at h
 cases h with
 | ag hs =>
  obtain ⟨_,_,rfl,h0,hs1⟩:=aM hs
  obtain ⟨v0,rfl,_⟩:=iA h0
  obtain ⟨_,_,rfl,h1,hs2⟩:=aM hs1
  obtain ⟨v1,rfl,_⟩:=iA h1
  obtain ⟨_,_,rfl,h2,hs3⟩:=aM hs2
  obtain ⟨v2,rfl⟩:=lT h2
  obtain ⟨_,_,rfl,h3,hs4⟩:=aM hs3
  obtain ⟨v3,rfl⟩:=lT h3
  obtain ⟨_,_,rfl,h4,hs5⟩:=aM hs4
  obtain ⟨v4,rfl⟩:=aMc h4
  obtain ⟨_,_,rfl,h5,hs6⟩:=aM hs5
  obtain ⟨v5,rfl⟩:=lT h5
  obtain ⟨_,_,rfl,h6,hs7⟩:=aM hs6
  obtain ⟨v6,rfl⟩:=lT h6
  obtain ⟨_,_,rfl,h7,hs8⟩:=aM hs7
  obtain ⟨v7,rfl,_⟩:=iA h7
  obtain ⟨_,_,rfl,h8,hs9⟩:=aM hs8
  obtain ⟨es8,rfl,he8,_⟩:=nD h8
  obtain ⟨_,_,rfl,h9,hs10⟩:=aM hs9
  obtain ⟨es9,rfl,he9,_⟩:=nD h9
  cases vF hs10
  obtain ⟨v8,rfl⟩:=cC (f:=aN) (fun e he=>aGO (he8 e he))
  obtain ⟨v9,rfl⟩:=cC (f:=aD) (fun e he=>aEg (he9 e he))
  exact ⟨⟨v0,⟨v1,v2,v3⟩,v4,⟨v5,v6,v7,v8,v9⟩⟩,by rw [jB]⟩
theorem aS3 {e:PV} (h:ElOk tτ (elOf tτ 8) e):∃ x,e=aH x:=by
 change ElOk tτ ⟨true,[.str,(.sl 7 1048576 false)]⟩ e at h
 cases h with
 | ag hs =>
  obtain ⟨_,_,rfl,h0,hs1⟩:=aM hs
  obtain ⟨v0,rfl,_⟩:=iA h0
  obtain ⟨_,_,rfl,h1,hs2⟩:=aM hs1
  obtain ⟨es1,rfl,he1,_⟩:=nD h1
  cases vF hs2
  obtain ⟨v1,rfl⟩:=cC (f:=aD) (fun e he=>aEg (he1 e he))
  exact ⟨⟨v0,v1⟩,by rw [oU]⟩
theorem aRO {e:PV} (h:ElOk tτ (elOf tτ 4) e):∃ x,e=aK x:=by
 change ElOk tτ ⟨true,[.str,(.sl 5 1048576 false),.str,(.int .i64),(.int .i64),(.sl 8 1048576 false)]⟩ e at h
 cases h with
 | ag hs =>
  obtain ⟨_,_,rfl,h0,hs1⟩:=aM hs
  obtain ⟨v0,rfl,_⟩:=iA h0
  obtain ⟨_,_,rfl,h1,hs2⟩:=aM hs1
  obtain ⟨es1,rfl,he1,_⟩:=nD h1
  obtain ⟨_,_,rfl,h2,hs3⟩:=aM hs2
  obtain ⟨v2,rfl,_⟩:=iA h2
  obtain ⟨_,_,rfl,h3,hs4⟩:=aM hs3
  obtain ⟨v3,rfl⟩:=lT h3
  obtain ⟨_,_,rfl,h4,hs5⟩:=aM hs4
  obtain ⟨v4,rfl⟩:=lT h4
  obtain ⟨_,_,rfl,h5,hs6⟩:=aM hs5
  obtain ⟨es5,rfl,he5,_⟩:=nD h5
  cases vF hs6
  obtain ⟨v1,rfl⟩:=cC (f:=aQ) (fun e he=>aS2 (he1 e he))
  obtain ⟨v5,rfl⟩:=cC (f:=aH) (fun e he=>aS3 (he5 e he))
  exact ⟨⟨v0,v1,⟨v2,v3,v4⟩,v5⟩,by rw [eB]⟩
theorem bCa {e:PV} (h:ElOk tτ (elOf tτ 3) e):∃ x,e=aI x:=by
 change ElOk tτ ⟨true,[(.int .i64),.str,(.sl 0 1048576 false),(.sl 4 1048576 false),(.sl 0 1048576 false),(.sl 5 1048576 false)]⟩ e at h
 cases h with
 | ag hs =>
  obtain ⟨_,_,rfl,h0,hs1⟩:=aM hs
  obtain ⟨v0,rfl⟩:=lT h0
  obtain ⟨_,_,rfl,h1,hs2⟩:=aM hs1
  obtain ⟨v1,rfl,_⟩:=iA h1
  obtain ⟨_,_,rfl,h2,hs3⟩:=aM hs2
  obtain ⟨es2,rfl,he2,_⟩:=nD h2
  obtain ⟨_,_,rfl,h3,hs4⟩:=aM hs3
  obtain ⟨es3,rfl,he3,_⟩:=nD h3
  obtain ⟨_,_,rfl,h4,hs5⟩:=aM hs4
  obtain ⟨es4,rfl,he4,_⟩:=nD h4
  obtain ⟨_,_,rfl,h5,hs6⟩:=aM hs5
  obtain ⟨es5,rfl,he5,_⟩:=nD h5
  cases vF hs6
  obtain ⟨v2,rfl⟩:=cC (f:=PV.str) (fun e he=>aXn (he2 e he))
  obtain ⟨v3,rfl⟩:=cC (f:=aK) (fun e he=>aRO (he3 e he))
  obtain ⟨v4,rfl⟩:=cC (f:=PV.str) (fun e he=>aXn (he4 e he))
  obtain ⟨v5,rfl⟩:=cC (f:=aQ) (fun e he=>aS2 (he5 e he))
  exact ⟨⟨v0,v1,v2,v3,v4,v5⟩,by rw [oV]⟩
theorem aIl {e:PV} (h:ElOk tτ (elOf tτ 2) e):∃ x,e=dX x:=by
 change ElOk tτ ⟨true,[(.sl 3 1048576 false),.str,.str]⟩ e at h
 cases h with
 | ag hs =>
  obtain ⟨_,_,rfl,h0,hs1⟩:=aM hs
  obtain ⟨es0,rfl,he0,_⟩:=nD h0
  obtain ⟨_,_,rfl,h1,hs2⟩:=aM hs1
  obtain ⟨v1,rfl,_⟩:=iA h1
  obtain ⟨_,_,rfl,h2,hs3⟩:=aM hs2
  obtain ⟨v2,rfl,_⟩:=iA h2
  cases vF hs3
  obtain ⟨v0,rfl⟩:=cC (f:=aI) (fun e he=>bCa (he0 e he))
  exact ⟨⟨v0,v1,v2⟩,by rw [jC]⟩
theorem aXo {e:PV} (h:ElOk tτ (elOf tτ 11) e):∃ x,e=aY x:=by
 change ElOk tτ ⟨true,[.str,.str,(.int .i64),(.int .i64),.bool,(.int .i64),(.int .i64),.str,(.sl 6 1048576 false),(.sl 7 1048576 false)]⟩ e at h
 cases h with
 | ag hs =>
  obtain ⟨_,_,rfl,h0,hs1⟩:=aM hs
  obtain ⟨v0,rfl,_⟩:=iA h0
  obtain ⟨_,_,rfl,h1,hs2⟩:=aM hs1
  obtain ⟨v1,rfl,_⟩:=iA h1
  obtain ⟨_,_,rfl,h2,hs3⟩:=aM hs2
  obtain ⟨v2,rfl⟩:=lT h2
  obtain ⟨_,_,rfl,h3,hs4⟩:=aM hs3
  obtain ⟨v3,rfl⟩:=lT h3
  obtain ⟨_,_,rfl,h4,hs5⟩:=aM hs4
  obtain ⟨v4,rfl⟩:=aMc h4
  obtain ⟨_,_,rfl,h5,hs6⟩:=aM hs5
  obtain ⟨v5,rfl⟩:=lT h5
  obtain ⟨_,_,rfl,h6,hs7⟩:=aM hs6
  obtain ⟨v6,rfl⟩:=lT h6
  obtain ⟨_,_,rfl,h7,hs8⟩:=aM hs7
  obtain ⟨v7,rfl,_⟩:=iA h7
  obtain ⟨_,_,rfl,h8,hs9⟩:=aM hs8
  obtain ⟨es8,rfl,he8,_⟩:=nD h8
  obtain ⟨_,_,rfl,h9,hs10⟩:=aM hs9
  obtain ⟨es9,rfl,he9,_⟩:=nD h9
  cases vF hs10
  obtain ⟨v8,rfl⟩:=cC (f:=aN) (fun e he=>aGO (he8 e he))
  obtain ⟨v9,rfl⟩:=cC (f:=aD) (fun e he=>aEg (he9 e he))
  exact ⟨⟨v0,⟨v1,v2,v3⟩,v4,⟨v5,v6,v7,v8,v9⟩⟩,by rw [eC]⟩
theorem bA5:∀ n:Nat,∀ e:PV,bI e≤n→ElOk tτ (elOf tτ 12) e→∃ x,e=aG x:=by
 intro n
 induction n with
 | zero =>
  intro e hp
  exfalso;cases e<;>simp only [bI] at hp<;>omega
 | succ n ihSel =>
  intro e hp h
  change ElOk tτ ⟨true,[(.int .i64),.str,.str,(.sl 7 1048576 false),(.sl 8 1048576 false),.str,(.sl 12 1048576 false)]⟩ e at h
  cases h with
  | ag hs =>
   obtain ⟨_,_,rfl,h0,hs1⟩:=aM hs
   obtain ⟨v0,rfl⟩:=lT h0
   obtain ⟨_,_,rfl,h1,hs2⟩:=aM hs1
   obtain ⟨v1,rfl,_⟩:=iA h1
   obtain ⟨_,_,rfl,h2,hs3⟩:=aM hs2
   obtain ⟨v2,rfl,_⟩:=iA h2
   obtain ⟨_,_,rfl,h3,hs4⟩:=aM hs3
   obtain ⟨es3,rfl,he3,_⟩:=nD h3
   obtain ⟨_,_,rfl,h4,hs5⟩:=aM hs4
   obtain ⟨es4,rfl,he4,_⟩:=nD h4
   obtain ⟨_,_,rfl,h5,hs6⟩:=aM hs5
   obtain ⟨v5,rfl,_⟩:=iA h5
   obtain ⟨_,_,rfl,h6,hs7⟩:=aM hs6
   obtain ⟨es6,rfl,he6,_⟩:=nD h6
   cases vF hs7
   obtain ⟨v3,rfl⟩:=cC (f:=aD) (fun e he=>aEg (he3 e he))
   obtain ⟨v4,rfl⟩:=cC (f:=aH) (fun e he=>aS3 (he4 e he))
   obtain ⟨v6,rfl⟩:=cC (f:=aG) (fun e he=>ihSel e (by have:=lF he;simp only [bI,dB] at hp;omega) (he6 e he))
   exact ⟨⟨v0,v1,v2,v3,v4,v5,v6⟩,by rw [oW]⟩
theorem aXp {e:PV} (h:ElOk tτ (elOf tτ 12) e):∃ x,e=aG x:=bA5 (bI e) e (Nat.le_refl _) h
theorem bCy {e:PV} (h:ElOk tτ (elOf tτ 10) e):∃ x,e=aU x:=by
 change ElOk tτ ⟨true,[(.int .i64),.str,(.sl 11 1048576 false),(.sl 8 1048576 false),(.sl 12 1048576 false)]⟩ e at h
 cases h with
 | ag hs =>
  obtain ⟨_,_,rfl,h0,hs1⟩:=aM hs
  obtain ⟨v0,rfl⟩:=lT h0
  obtain ⟨_,_,rfl,h1,hs2⟩:=aM hs1
  obtain ⟨v1,rfl,_⟩:=iA h1
  obtain ⟨_,_,rfl,h2,hs3⟩:=aM hs2
  obtain ⟨es2,rfl,he2,_⟩:=nD h2
  obtain ⟨_,_,rfl,h3,hs4⟩:=aM hs3
  obtain ⟨es3,rfl,he3,_⟩:=nD h3
  obtain ⟨_,_,rfl,h4,hs5⟩:=aM hs4
  obtain ⟨es4,rfl,he4,_⟩:=nD h4
  cases vF hs5
  obtain ⟨v2,rfl⟩:=cC (f:=aY) (fun e he=>aXo (he2 e he))
  obtain ⟨v3,rfl⟩:=cC (f:=aH) (fun e he=>aS3 (he3 e he))
  obtain ⟨v4,rfl⟩:=cC (f:=aG) (fun e he=>aXp (he4 e he))
  exact ⟨⟨v0,v1,v2,v3,v4⟩,by rw [gQ]⟩
theorem bA6 {e:PV} (h:ElOk tτ (elOf tτ 13) e):∃ x,e=aF x:=by
 change ElOk tτ ⟨true,[.str,.str,(.sl 8 1048576 false),(.sl 12 1048576 false)]⟩ e at h
 cases h with
 | ag hs =>
  obtain ⟨_,_,rfl,h0,hs1⟩:=aM hs
  obtain ⟨v0,rfl,_⟩:=iA h0
  obtain ⟨_,_,rfl,h1,hs2⟩:=aM hs1
  obtain ⟨v1,rfl,_⟩:=iA h1
  obtain ⟨_,_,rfl,h2,hs3⟩:=aM hs2
  obtain ⟨es2,rfl,he2,_⟩:=nD h2
  obtain ⟨_,_,rfl,h3,hs4⟩:=aM hs3
  obtain ⟨es3,rfl,he3,_⟩:=nD h3
  cases vF hs4
  obtain ⟨v2,rfl⟩:=cC (f:=aH) (fun e he=>aS3 (he2 e he))
  obtain ⟨v3,rfl⟩:=cC (f:=aG) (fun e he=>aXp (he3 e he))
  exact ⟨⟨v0,v1,v2,v3⟩,by rw [dF]⟩
theorem bAk {e:PV} (h:ElOk tτ (elOf tτ 9) e):∃ x,e=jX x:=by
 change ElOk tτ ⟨true,[(.sl 10 1048576 false),(.sl 13 1048576 false)]⟩ e at h
 cases h with
 | ag hs =>
  obtain ⟨_,_,rfl,h0,hs1⟩:=aM hs
  obtain ⟨es0,rfl,he0,_⟩:=nD h0
  obtain ⟨_,_,rfl,h1,hs2⟩:=aM hs1
  obtain ⟨es1,rfl,he1,_⟩:=nD h1
  cases vF hs2
  obtain ⟨v0,rfl⟩:=cC (f:=aU) (fun e he=>bCy (he0 e he))
  obtain ⟨v1,rfl⟩:=cC (f:=aF) (fun e he=>bA6 (he1 e he))
  exact ⟨⟨v0,v1⟩,by rw [mL]⟩
end Go.Proofs.YtphmfillajagdaaGreat
open Go Go.Ev Go.Ev.PV
set_option maxRecDepth 100000
namespace Go.Proofs.YtphmfillajagdaaGreat
def aS4:Summ:=sv1 [E12'] [⟨false,[.sl 1 1073741824 false]⟩,E2']
def aKj:Summ:=sv1 [E12'] [E7',E7']
def aS5:Summ:=sv2 [E0',E10',E1',E2'] [E2']
def aS6:Summ:=sv2 [E0'] [E2']
def aXq:Summ:=sv2 [E1',⟨false,[.sl 0 16777216 true]⟩] [⟨false,[.sl 0 16777216 true]⟩]
def aEh:Summ:=sv2 [E0',E3'] [⟨false,[.sl 16 4194304 false]⟩]
def aMd:Summ:=sv2 [E3',⟨false,[.sl 12 16777216 false]⟩] [E8']
open Go Go.Ev
theorem bAl {α β:Type} (p:α→Bool) (g:α→β):∀ l:List α,(l.any p=true∧∃ x,l.findSome? (fun x=>bif p x then some (g x) else none)=some (g x))∨(l.any p=false∧l.findSome? (fun x=>bif p x then some (g x) else none)=none)
 | [] => .inr ⟨rfl,rfl⟩
 | x::l=>by
  rw [List.findSome?_cons,List.any_cons]
  cases hp:p x
  ·simpa using bAl p g l
  ·exact .inl ⟨by simp,x,rfl⟩
def hasM (name:Str) (l:List GMember):Bool:=l.any fun x=>x.name==name
theorem aXr (name : Str) (l : List GMember) (hl : Sm l) : ∃ v, aSV name l = some (v, hasM name l) := by
 have h := aAc (b := qO name l) l (fun x => bif x.name == name then some (.inr (x.v.kind, x.v.n, x.v.s, x.v.l, x.v.m)) else none) (.inl ()) hl (by simp only [qO, aDJ, pK])
  (fun k x hx h1 h2 h3 => by
   simp only [qO, h1, h2, h3, bQ, fT]
   cases x.name == name <;> rfl)
 rcases bAl (fun x : GMember => x.name == name) (fun x => (.inr (x.v.kind, x.v.n, x.v.s, x.v.l, x.v.m) : Unit ⊕ (Int × Int × Str × (List GValue) × (List GMember)))) l with ⟨ha, x, hx⟩ | ⟨ha, hx⟩
 ·refine ⟨x.v, aKb (r := (x.v, hasM name l)) ?_⟩
  simp only [aEa, h, hx, Option.getD_some, bQ, aP, hasM, ha]
  obtain ⟨nm, ⟨_, _, _, _, _⟩⟩ := x; rfl
 ·refine ⟨GValue.mk 0 0 [] [] [], aKb (r := (GValue.mk 0 0 [] [] [], hasM name l)) ?_⟩
  simp only [aEa, h, hx, Option.getD_none, bQ, aO, hasM, ha]
mutual
def varN:GValue→List Str
 | ⟨k,_,s,l,m⟩=>bif k==8 then [s] else bif k==6 then aGw l else bif k==7 then aGx m else []
def aGw:List GValue→List Str
 | []=>[]
 | x::l=>varN x++aGw l
def aRP:GMember→List Str
 | ⟨_,v⟩=>varN v
def aGx:List GMember→List Str
 | []=>[]
 | x::l=>aRP x++aGx l
end
theorem bA7 (v:GValue):varN v=bif v.kind==8 then [v.s] else bif v.kind==6 then aGw v.l else bif v.kind==7 then aGx v.m else []:=by cases v;simp only [varN]
theorem aYR (x:GMember):aRP x=varN x.v:=by cases x;simp only [aRP]
mutual
theorem aIm:∀ v:GValue,(varN v).length≤szV v
 | ⟨k,n,s,l,m⟩=>by
  have h1:=aS7 l
  have h2:=aS8 m
  simp only [varN,szV]
  cases k==8<;>cases k==6<;>cases k==7<;>simp only [cond_true,cond_false,List.length_nil,List.length_singleton]<;>omega
theorem aS7:∀ l:List GValue,(aGw l).length≤szVs l
 | []=>by simp [aGw]
 | x::l=>by have:=aIm x;have:=aS7 l;simp only [aGw,szVs,List.length_append];omega
theorem aYS:∀ x:GMember,(aRP x).length≤szM x
 | ⟨n,v⟩=>by have:=aIm v;simp only [aRP,szM];omega
theorem aS8:∀ l:List GMember,(aGx l).length≤szMs l
 | []=>by simp [aGx]
 | x::l=>by have:=aYS x;have:=aS8 l;simp only [aGx,szMs,List.length_append];omega
end
theorem aOT {l:List Str} {x:Str} (h:x∈l):addD l x=l:=by unfold addD;rw [List.contains_iff_mem.2 h];rfl
theorem aYT {l:List Str} {x:Str} (h:x∉l):addD l x=l++[x]:=by
 have:l.contains x=false:=by rw [Bool.eq_false_iff];intro hc;exact h (List.contains_iff_mem.1 hc)
 unfold addD;rw [this];rfl
theorem aOU:∀ (L a out:List Str),(L.foldl addD a).foldl addD out=L.foldl addD (a.foldl addD out)
 | [],a,out=>rfl
 | x::L,a,out=>by
  rw [List.foldl_cons,aOU L (addD a x) out,List.foldl_cons]
  congr 1
  by_cases h:x∈a
  ·rw [aOT h,aOT ((kA _ _ _).2 (.inr h))]
  ·rw [aYT h,List.foldl_append];rfl
theorem bCG (L out:List Str):(L.foldl addD []).foldl addD out=L.foldl addD out:=aOU L [] out
theorem aRQ : ∀ (n : Nat) (v : GValue) (l : List Str), szV v ≤ n → l.length + szV v < 1073741824 → aLd v l = some ((varN v).foldl addD l) := by
 intro n
 induction n with
 | zero => intro v l h; have := aKd v; omega
 | succ n ih =>
  intro v l h hl
  have hv := aKd v
  have h1 := aL9 v.l
  have h2 := aMa v.m
  have stop : ∀ (F : Bool), (v.kind == 6) = F → True := fun _ _ => trivial
  apply aQN
  unfold aDY
  rw [bA7]
  have stay5 : ∀ a : List Str, (v.kind == 6) = false → bG (cU v) (a, 0) = some a := by
   intro a h6
   apply cM
   simp only [cU, h6, pK, aBa]
  have stay6 : ∀ a : List Str, (v.kind == 7) = false → bG (cW v) (a, 0) = some a := by
   intro a h7
   apply cM
   simp only [cW, h7, pK, aBa]
  cases h8 : v.kind == 8
  ·cases h6 : v.kind == 6
   ·cases h7 : v.kind == 7
    ·simp only [pK, cond_false, stay5 l h6, stay6 l h7, bQ]; rfl
    ·have key := fF (b := cW v) v.m (fun k (a : List Str) => (a, (k : Int))) (fun r a => (aGx r).foldl addD a) (fun k a => a.length + szMs (v.m.drop k) < 1073741824) (by show v.m.length < _; omega)
      (by intro a _; simp [cW, aGx])
      (by
       intro k x r a hm hk hd e1 e2 e3 hI
       rw [hd] at hI
       simp only [szMs] at hI
       have hdr : v.m.drop (k + 1) = r := by rw [← List.tail_drop, hd]; rfl
       have hx := aL8 hm
       have hx2 := aSY x
       have hb := aIm x.v
       have hf := aAT (varN x.v) a
       refine .inr ⟨(varN x.v).foldl addD a, ?_, ?_, ?_⟩
       ·simp only [cW, h7, e1, fT, e2, bQ, e3, ih x.v a (by omega) (by omega)]
       ·rw [hdr]; omega
       ·simp only [aGx, aYR, List.foldl_append]) (s := (l, 0)) (a := l) rfl (by simp; omega)
     simp only [pK, fT, cond_false, cond_true, stay5 l h6, key, bQ]
   ·have key := fF (b := cU v) v.l (fun k (a : List Str) => (a, (k : Int))) (fun r a => (aGw r).foldl addD a) (fun k a => a.length + szVs (v.l.drop k) < 1073741824) (by show v.l.length < _; omega)
     (by intro a _; simp [cU, aGw])
     (by
      intro k x r a hm hk hd e1 e2 e3 hI
      rw [hd] at hI
      simp only [szVs] at hI
      have hdr : v.l.drop (k + 1) = r := by rw [← List.tail_drop, hd]; rfl
      have hx := aL7 hm
      have hb := aIm x
      have hf := aAT (varN x) a
      refine .inr ⟨(varN x).foldl addD a, ?_, ?_, ?_⟩
      ·simp only [cU, h6, e1, fT, e2, bQ, e3, ih x a (by omega) (by omega)]
      ·rw [hdr]; omega
      ·simp only [aGw, List.foldl_append]) (s := (l, 0)) (a := l) rfl (by simp; omega)
    have h7 : (v.kind == 7) = false := by
     have : v.kind = 6 := by simpa using h6
     rw [this]; rfl
    simp only [pK, fT, cond_false, cond_true, key, stay6 _ h7, bQ]
  ·have ht : tapp l [v.s] = some (l ++ [v.s]) := tJ (by simp [tK]; omega)
   have hk : v.kind = 8 := by simpa using h8
   have h6 : (v.kind == 6) = false := by rw [hk]; rfl
   have h7 : (v.kind == 7) = false := by rw [hk]; rfl
   have s1 : ∀ a : List Str, bG (cU v) (a, 0) = some a := by
    intro a; apply cM; simp only [cU, h6, pK, aBa]
   have s2 : ∀ a : List Str, bG (cW v) (a, 0) = some a := by
    intro a; apply cM; simp only [cW, h7, pK, aBa]
   have s3 : ∀ a : List Str, bG (cU v) (a, 0) = some a := by
    intro a; apply cM; simp only [cU, h6, pK, aBa]
   have s4 : ∀ a : List Str, bG (cW v) (a, 0) = some a := by
    intro a; apply cM; simp only [cW, h7, pK, aBa]
   simp only [fT, cond_true, rO l v.s (by show l.length < _; omega), bQ, ht, s1, s2, s3, s4, List.foldl_cons, List.foldl_nil, addD]
   cases l.contains v.s <;> rfl
theorem aKk (d : GDoc) (n : Str) (hl : Sm d.frags) : aQs d n = some (xK d n) := by
 apply aQ9
 have key := aAc (b := nV d n) d.frags (fun f => if f.name == n then some (Sum.inr (f.name, f.on_, f.dirs, f.sels)) else none) (.inl ()) hl
  (by simp [nV])
  (by
   intro k x hm e1 e2 e3
   simp only [nV, e1, fT, e2, bQ, e3]
   cases x.name == n <;> rfl)
 have hf := aEd d.frags (fun f => f.name == n) (fun f => (Sum.inr (f.name, f.on_, f.dirs, f.sels) : Unit ⊕ (Str × Str × (List GDir) × (List GSel))))
 rw [hf] at key
 simp only [aD3, key, bQ, xK]
 cases d.frags.find? (fun f => f.name == n) <;> rfl
theorem aRR : ∀ (n : Nat) (sels : List GSel) (l : List Str), bJ sels ≤ n → l.length + bJ sels < 1073741824 → jN sels l = some ((eX sels).foldl addD l) := by
 intro n
 induction n with
 | zero =>
  intro sels l h hl
  have := iH sels
  have hs : sels = [] := List.length_eq_zero_iff.1 (by omega)
  subst hs
  apply aB0
  unfold pE
  rw [cM (r := l) (by simp [fR])]
  rfl
 | succ n ih =>
  intro sels l h hl
  apply aB0
  unfold pE
  have hlen := iH sels
  have key := fF (b := fR sels) sels (fun k (a : List Str) => (a, (k : Int))) (fun r a => (eX r).foldl addD a) (fun k a => a.length + bJ (sels.drop k) < 1073741824) (by show sels.length < _; omega)
   (by intro a _; simp [fR, eX])
   (by
    intro k x r a hm hk hd h1 h2 h3 hI
    rw [hd] at hI
    simp only [bJ] at hI
    have hdr : sels.drop (k + 1) = r := by rw [← List.tail_drop, hd]; rfl
    have hx := qP hm
    have hx2 := vD x
    have hrec : ∀ a' : List Str, a'.length ≤ a.length + 1 → jN x.sels a' = some ((eX x.sels).foldl addD a') := fun a' ha' => ih x.sels a' (by omega) (by omega)
    have hb := aKi x
    refine .inr ⟨(aDc x).foldl addD a, ?_, ?_, ?_⟩
    ·rw [aVb]
     simp only [fR, h1, fT, h2, bQ, h3, rO a x.name (by show a.length < _; omega), hrec a (by omega)]
     cases x.kind == 1
     ·rfl
     ·have ht : tapp a [x.name] = some (a ++ [x.name]) := tJ (by simp [tK]; omega)
      simp only [fT, cond_true, List.cons_append, List.nil_append, List.foldl_cons, addD, ht, bQ, hrec (a ++ [x.name]) (by simp)]
      cases a.contains x.name <;> rfl
    ·rw [hdr]
     have := aAT (aDc x) a
     omega
    ·simp only [eX, List.foldl_append]) (s := (l, 0)) (a := l) rfl (by simpa using hl)
  rw [key]; rfl
theorem aEi (sels:List GSel) (l:List Str) (h:l.length+bJ sels<1073741824):jN sels l=some ((eX sels).foldl addD l):=aRR _ sels l (Nat.le_refl _) h
theorem aMe (sels:List GSel) (h:bJ sels<1073741824):aEV sels=some ((eX sels).foldl addD []) :=
 aJe (by simp only [sP,aEi sels [] (by simpa using h),bQ])
theorem aOV (d : GDoc) (sels : List GSel) (hd : kO d + bJ sels < 500000000) :
  ∃ l, bG (gG d) ((eX sels).foldl addD [], 0) = some l ∧ l.length < 1073741824 ∧ (∀ n ∈ eX sels, n ∈ l) ∧ aDe d (· ∈ l) ∧ ∀ S : Str → Prop, (∀ n ∈ eX sels, S n) → aDe d S → ∀ n ∈ l, S n := by
 have hU : (allN d sels).length ≤ kO d + bJ sels := by
  have h1 := aEf sels
  have h2 := kE d.frags
  have h3 := xL d
  simp only [allN, List.length_append]; omega
 have hf := aIk d
 have hsm : Sm d.frags := by show d.frags.length < _; omega
 have hsub : ∀ (l : List Str), l.Nodup → (∀ x ∈ l, x ∈ allN d sels) → l.length ≤ kO d + bJ sels := fun l h1 h2 => Nat.le_trans (aDK l _ h1 h2) hU
 refine aWk (b := gG d)
  (I := fun s => ∃ i : Nat, s.2 = (i : Int) ∧ i ≤ s.1.length ∧ s.1.Nodup ∧ (∀ x ∈ s.1, x ∈ allN d sels) ∧ (∀ n ∈ eX sels, n ∈ s.1) ∧
   (∀ (j : Nat) (n : Str), j < i → s.1[j]? = some n → (xK d n).2 = true → ∀ m ∈ eX (xK d n).1.sels, m ∈ s.1) ∧ (∀ S : Str → Prop, (∀ n ∈ eX sels, S n) → aDe d S → ∀ n ∈ s.1, S n))
  (m := fun s => kO d + bJ sels + 1 - s.2.toNat)
  (Q := fun l => l.length < 1073741824 ∧ (∀ n ∈ eX sels, n ∈ l) ∧ aDe d (· ∈ l) ∧ ∀ S : Str → Prop, (∀ n ∈ eX sels, S n) → aDe d S → ∀ n ∈ l, S n)
  (by
   rintro ⟨l, i'⟩ ⟨i, hi, hle, hnd, hall, hin, hcl, hmin⟩
   simp only at hi hle hnd hall hin hcl hmin
   subst hi
   have hlen := hsub l hnd hall
   by_cases hil : l.length ≤ i
   ·left
    refine ⟨l, ?_, by omega, hin, ?_, hmin⟩
    ·have e1 : decide ((i : Int) < (List.length l : Int)) = false := by simp; omega
     simp only [gG, e1, pK]
    ·intro n hn hfr m hm
     obtain ⟨j, hj⟩ := List.mem_iff_getElem?.1 hn
     have hjl := (List.getElem?_eq_some_iff.1 hj).1
     exact hcl j n (by omega) hj hfr m hm
   ·right
    have e1 : decide ((i : Int) < (List.length l : Int)) = true := by simp; omega
    have hx := List.getElem?_eq_getElem (show i < l.length by omega)
    have e3 : IntKind.wrap .i64 ((i : Int) + 1) = ((i + 1 : Nat) : Int) := wadd (by omega)
    cases hfr : (xK d l[i]).2
    ·refine ⟨(l, ((i + 1 : Nat) : Int)), ?_, ⟨i + 1, rfl, by simp only; omega, hnd, hall, hin, ?_, hmin⟩, ?_⟩
     ·simp only [gG, e1, fT, sE, hx, bQ, aKk d _ hsm, hfr, pK, e3]
     ·intro j n hj hjn hfn
      by_cases hji : j = i
      ·subst hji
       rw [hx] at hjn; cases hjn
       rw [hfr] at hfn; simp at hfn
      ·exact hcl j n (by omega) hjn hfn
     ·simp only [Int.toNat_natCast]; omega
    ·obtain ⟨hfm, _⟩ := aIj hfr
     have hfb := fE dT hfm
     have hfs : bJ (xK d l[i]).1.sels ≤ dT (xK d l[i]).1 := by rw [dY, cK]; simp only [bkSl]; omega
     have hdf := xL d
     have hsp := aEi (xK d l[i]).1.sels l (by omega)
     obtain ⟨t, ht⟩ := aFZ (eX (xK d l[i]).1.sels) l
     refine ⟨((eX (xK d l[i]).1.sels).foldl addD l, ((i + 1 : Nat) : Int)), ?_, ⟨i + 1, rfl, by simp only; rw [ht]; simp only [List.length_append]; omega, aDd _ _ hnd, ?_, ?_, ?_, ?_⟩, ?_⟩
     ·simp only [gG, e1, fT, sE, hx, bQ, aKk d _ hsm, hfr, hsp, e3]
     ·intro x hxm
      rcases (kA _ _ _).1 hxm with h | h
      ·exact hall x h
      ·exact List.mem_append_right _ (List.mem_flatMap.2 ⟨_, hfm, h⟩)
     ·intro n hn; exact (kA _ _ _).2 (.inl (hin n hn))
     ·intro j n hj hjn hfn m hm
      simp only at hjn ⊢
      rw [ht] at hjn
      rw [kA]
      by_cases hji : j = i
      ·subst hji
       rw [List.getElem?_append_left (by omega), hx] at hjn; cases hjn
       exact .inr hm
      ·rw [List.getElem?_append_left (by omega)] at hjn
       exact .inl (hcl j n (by omega) hjn hfn m hm)
     ·intro S h1 h2 n hn
      rcases (kA _ _ _).1 hn with h | h
      ·exact hmin S h1 h2 n h
      ·exact h2 l[i] (hmin S h1 h2 _ (List.getElem_mem _)) hfr n h
     ·simp only [Int.toNat_natCast]; omega)
  ((eX sels).foldl addD [], 0)
  ⟨0, rfl, Nat.zero_le _, aDd _ _ List.nodup_nil, (fun x hx => by
   rcases (kA _ _ _).1 hx with h | h
   ·simp at h
   ·exact List.mem_append_left _ h), (fun n hn => (kA _ _ _).2 (.inr hn)), (fun j n hj => by omega), (fun S h1 _ n hn => by
   rcases (kA _ _ _).1 hn with h | h
   ·simp at h
   ·exact h1 n h)⟩
theorem aRS (d : GDoc) (sels : List GSel) (hd : kO d + bJ sels < 500000000) :
  ∃ (r l : List Str), aSS d sels = some r ∧ r.Nodup ∧ r.length < 1073741824 ∧ (∀ n, n ∈ r ↔ n ∈ l ∧ (xK d n).2 = true) ∧ (∀ n ∈ eX sels, n ∈ l) ∧ aDe d (· ∈ l) ∧ ∀ S : Str → Prop, (∀ n ∈ eX sels, S n) → aDe d S → ∀ n ∈ l, S n := by
 obtain ⟨l, h1, h2, h3, h4, h5⟩ := aOV d sels hd
 have hf := aIk d
 have key := aDI (b := lK d l) d.frags (fun k (a : List Str) => (a, (k : Int))) (fun a f => bif l.contains f.name then addD a f.name else a) id (fun k a => a.length ≤ k) (by show d.frags.length < _; omega)
  (by intro a _; simp [lK])
  (by
   intro k x a hm hk e1 e2 e3 hI
   have ht : tapp a [x.name] = some (a ++ [x.name]) := tJ (by simp [tK]; omega)
   simp only [lK, e1, fT, e2, bQ, e3, rO l x.name (by show l.length < _; omega), rO a x.name (by show a.length < _; omega), ht]
   cases l.contains x.name
   ·exact ⟨rfl, by simp only [cond_false]; omega⟩
   ·simp only [fT, cond_true, addD]
    cases a.contains x.name
    ·exact ⟨rfl, by simp; omega⟩
    ·exact ⟨rfl, by simp; omega⟩) (s := ([], 0)) (a := []) rfl (by simp)
 have fold : ∀ (fs : List GFrag) (a : List Str), (a.Nodup → (fs.foldl (fun a f => bif l.contains f.name then addD a f.name else a) a).Nodup) ∧ (fs.foldl (fun a f => bif l.contains f.name then addD a f.name else a) a).length ≤ a.length + fs.length ∧
   ∀ n, n ∈ fs.foldl (fun a f => bif l.contains f.name then addD a f.name else a) a ↔ n ∈ a ∨ ∃ f ∈ fs, n ∈ l ∧ f.name = n := by
  intro fs
  induction fs with
  | nil => intro a; simp
  | cons f fs ih =>
   intro a
   rw [List.foldl_cons]
   obtain ⟨i1, i2, i3⟩ := ih (bif l.contains f.name then addD a f.name else a)
   refine ⟨fun hn => i1 ?_, ?_, fun n => ?_⟩
   ·cases l.contains f.name
    ·exact hn
    ·exact aKe hn
   ·have := aSZ a f.name
    cases hc : l.contains f.name <;> rw [hc] at i2 <;> simp only [cond_true, cond_false, List.length_cons] at i2 ⊢ <;> omega
   ·rw [i3]
    cases hc : l.contains f.name
    ·have hn : f.name ∉ l := by simpa using hc
     simp only [cond_false, List.mem_cons, exists_eq_or_imp]
     constructor
     ·rintro (h | h)
      ·exact .inl h
      ·exact .inr (.inr h)
     ·rintro (h | ⟨h, e⟩ | h)
      ·exact .inl h
      ·exact absurd (e ▸ h) hn
      ·exact .inr h
    ·have hn : f.name ∈ l := by simpa using hc
     simp only [cond_true, aS1, List.mem_cons, exists_eq_or_imp]
     constructor
     ·rintro ((h | h) | h)
      ·exact .inl h
      ·exact .inr (.inl ⟨h ▸ hn, h.symm⟩)
      ·exact .inr (.inr h)
     ·rintro (h | ⟨h, e⟩ | h)
      ·exact .inl (.inl h)
      ·exact .inl (.inr e.symm)
      ·exact .inr h
 obtain ⟨f1, f2, f3⟩ := fold d.frags []
 refine ⟨_, l, aNO (by simp only [aBu, aMe sels (by omega), h1, bQ, key]; rfl), f1 List.nodup_nil, ?_, ?_, h3, h4, h5⟩
 ·simp only [List.length_nil] at f2; omega
 ·intro n
  rw [f3]
  constructor
  ·rintro (h | ⟨f, hf, hn, e⟩)
   ·simp at h
   ·exact ⟨hn, e ▸ aYO hf⟩
  ·rintro ⟨hn, hfr⟩
   obtain ⟨hm, hname⟩ := aIj hfr
   exact .inr ⟨_, hm, hn, hname⟩
theorem aAU (f:GFrag):bJ f.sels≤dT f:=by rw [dY,cK];simp only [bkSl];omega
open Go Go.Ev Go.Ev.PV
def Nr (p b:Nat):Prop:=p≤b∧b≤2*p
theorem psl {α:Type} {enc:α→PV} {bk:α→Nat}:∀ {l:List α},(∀ x∈l,Nr (bI (enc x)) (bk x))→dB (l.map enc)≤sumL bk l∧sumL bk l≤2*dB (l.map enc)
 | [],_=>by simp [dB,sumL]
 | x::l,h=>by
  have h1:=h x (by simp)
  have h2:=psl (l:=l) (fun y hy=>h y (by simp [hy]))
  unfold Nr at h1
  simp only [List.map_cons,dB,sumL]
  omega
theorem bCz (s:Str):Nr (bI (PV.str s)) (dA s):=by unfold Nr;rw [aW];simp only [bI];omega
theorem aXs (l:List Str):dB (l.map PV.str)≤sumL dA l∧sumL dA l≤2*dB (l.map PV.str):=psl fun x _=>bCz x
theorem aS9 (x:GType):Nr (bI (iZ x)) (aAi x):=by
 unfold Nr;rw [iC,jY];simp only [bI,dB,bk1,aW];omega
theorem psVM:∀ n:Nat,(∀ x:GValue,cD x≤n→Nr (bI (aN x)) (cD x))∧(∀ x:GMember,bF x≤n→Nr (bI (aD x)) (bF x)):=by
 intro n
 induction n with
 | zero=>exact ⟨fun x h=>by rw [cE] at h;omega,fun x h=>by rw [cO] at h;omega⟩
 | succ n ih =>
  obtain ⟨ihV,ihM⟩:=ih
  refine ⟨fun x hb => ?_,fun x hb => ?_⟩
  ·rw [cE] at hb
   simp only [bkSl,bk1,aW] at hb
   have h1:=psl (l:=x.l) (enc:=aN) (bk:=cD) (fun y hy=>ihV y (by have:=fE cD hy;omega))
   have h2:=psl (l:=x.m) (enc:=aD) (bk:=bF) (fun y hy=>ihM y (by have:=fE bF hy;omega))
   unfold Nr
   rw [eO,cE]
   simp only [bI,dB,bkSl,bk1,aW]
   omega
  ·rw [cO] at hb
   have h1:=ihV x.v (by omega)
   unfold Nr at h1 ⊢
   rw [eO] at h1
   rw [jA,cO]
   simp only [bI,dB,aW] at h1 ⊢
   omega
theorem aMf (x:GValue):Nr (bI (aN x)) (cD x):=(psVM _).1 x (Nat.le_refl _)
theorem aTa (x:GMember):Nr (bI (aD x)) (bF x):=(psVM _).2 x (Nat.le_refl _)
theorem aYU (x:GDir):Nr (bI (aH x)) (kN x):=by
 have h1:=psl (l:=x.args) (fun y _=>aTa y)
 unfold Nr;rw [oU,qD];simp only [bI,dB,bkSl,bk1,aW];omega
theorem aXt (x:GParam):Nr (bI (aQ x)) (iL x):=by
 have h1:=aS9 x.t
 have h2:=aMf x.default
 unfold Nr at h1 h2 ⊢
 rw [iC] at h1;rw [eO] at h2
 rw [jB,nO,jY];simp only [bI,dB,bk1,aW] at h1 h2 ⊢;omega
theorem aVd (x:GFieldDef):Nr (bI (aK x)) (gB x):=by
 have h1:=aS9 x.t
 have h2:=psl (l:=x.params) (fun y _=>aXt y)
 have h3:=psl (l:=x.dirs) (fun y _=>aYU y)
 unfold Nr at h1 ⊢
 rw [iC] at h1
 rw [eB,jM];simp only [bI,dB,bkSl,bk1,aW] at h1 ⊢;omega
theorem bCA (x:GDef):Nr (bI (aI x)) (aHF x):=by
 have h1:=psl (l:=x.fields) (fun y _=>aVd y)
 have h2:=psl (l:=x.params) (fun y _=>aXt y)
 have h3:=aXs x.faces
 have h4:=aXs x.parts
 unfold Nr;rw [oV,mN];simp only [bI,dB,bkSl,bk1,aW];omega
theorem aEj (x:GSchema):Nr (bI (dX x)) (oH x):=by
 have h1:=psl (l:=x.defs) (fun y _=>bCA y)
 unfold Nr;rw [jC,nP];simp only [bI,dB,bkSl,bk1,aW];omega
theorem aYV (x:GVarDef):Nr (bI (aY x)) (qE x):=by
 have h1:=aS9 x.t
 have h2:=aMf x.default
 unfold Nr at h1 h2 ⊢
 rw [iC] at h1;rw [eO] at h2
 rw [eC,rB,jY];simp only [bI,dB,bk1,aW] at h1 h2 ⊢;omega
theorem bCb:∀ n:Nat,∀ x:GSel,eU x≤n→Nr (bI (aG x)) (eU x):=by
 intro n
 induction n with
 | zero=>intro x h;rw [fV] at h;omega
 | succ n ih =>
  intro x hb
  rw [fV] at hb
  simp only [bkSl,bk1,aW] at hb
  have h1:=psl (l:=x.sels) (enc:=aG) (bk:=eU) (fun y hy=>ih y (by have:=fE eU hy;omega))
  have h2:=psl (l:=x.args) (fun y _=>aTa y)
  have h3:=psl (l:=x.dirs) (fun y _=>aYU y)
  unfold Nr
  rw [oW,fV]
  simp only [bI,dB,bkSl,bk1,aW]
  omega
theorem bA8 (x:GSel):Nr (bI (aG x)) (eU x):=bCb _ x (Nat.le_refl _)
theorem psOp (x:GOp):Nr (bI (aU x)) (bkOp x):=by
 have h1:=psl (l:=x.vars) (fun y _=>aYV y)
 have h2:=psl (l:=x.dirs) (fun y _=>aYU y)
 have h3:=psl (l:=x.sels) (fun y _=>bA8 y)
 unfold Nr;rw [gQ,mO];simp only [bI,dB,bkSl,bk1,aW];omega
theorem bCc (x:GFrag):Nr (bI (aF x)) (dT x):=by
 have h2:=psl (l:=x.dirs) (fun y _=>aYU y)
 have h3:=psl (l:=x.sels) (fun y _=>bA8 y)
 unfold Nr;rw [dF,dY];simp only [bI,dB,bkSl,bk1,aW];omega
theorem bA9 (x:GDoc):Nr (bI (jX x)) (kO x):=by
 have h2:=psl (l:=x.ops) (fun y _=>psOp y)
 have h3:=psl (l:=x.frags) (fun y _=>bCc y)
 unfold Nr;rw [mL,vV];simp only [bI,dB,bkSl,bk1,aW];omega
theorem oB {τ:Tb} {e:El} {es:List El} {vs:List PV} (h:ElsOk τ (e::es) vs):∃ v r,vs=v::r∧ElOk τ e v∧ElsOk τ es r:=by
 cases h with | cons h hs=>exact ⟨_,_,rfl,h,hs⟩
theorem aIn {τ:Tb} {vs:List PV} (h:ElsOk τ [] vs):vs=[]:=by cases h;rfl
theorem bBa {v:PV} (h:ElOk tτ ⟨false,[.bool]⟩ v):∃ b,v = .bool b:=by cases h with | one h=>exact aMc h
theorem bAm {v:PV} (h:ElOk tτ ⟨false,[.str]⟩ v):∃ s,v = .str s∧s.length≤topL:=by cases h with | one h=>exact iA h
theorem bCd {n ub:Nat} {o:Bool} {v:PV} (h:ElOk tτ ⟨false,[.sl n ub o]⟩ v):∃ es,v = .slice es [] o∧(∀ e,e∈es→ElOk tτ (elOf tτ n) e)∧es.length≤ub:=by cases h with | one h=>exact nD h
theorem tV {sm:Summ} {args:List PV} (h:aQe sm args) (hc:sm.cap=2097152) {v:PV} (hv:v∈args):bI v≤2097152:=by
 rcases h with h | h
 ·omega
 ·have:=h v hv;omega
def TN (t:GType):Prop:=t.name.length<4611686018427387904
theorem bBb (t:GType) (h:TN t):Tt (fun b=>b=true→0≤t.lists∧t.lists≤4) (oX t):=by
 have:Tt (fun b=>b=true→0≤t.lists∧t.lists≤4) (jZ t):=by
  unfold jZ
  refine Tt.eq (aU7 _ h) (Tt.cnd (fun _ => ?_) fun _=>Tt.ret (by simp))
  refine Tt.cnd (fun h1 => ?_) fun _=>Tt.ret (by simp)
  refine Tt.cnd (fun h2 => ?_) fun _=>Tt.ret (by simp)
  refine Tt.cnd (fun h3 => ?_) fun _=>Tt.ret (by simp)
  simp only [decide_eq_true_eq,ge_iff_le] at h1 h2
  have e:IntKind.wrap .u64 t.lists=t.lists:=by rw [wu];omega
  have hs:∃ y,tshl .i64 2 t.lists=some y:=by
   unfold tshl;rw [if_neg (by omega)];exact ⟨_,rfl⟩
  obtain ⟨y,hy⟩:=hs
  rw [e]
  exact Tt.eq hy (Tt.ret fun _=>⟨h1,h2⟩)
 obtain ⟨b,hb,hp⟩:=this
 exact ⟨b,aGp hb,hp⟩
theorem bCB (t:GType) (h:TN t):Te (bA3 t):=by
 have:Te (aL1 t):=Tt.bnd (bBb t h) fun b _=>Tt.cnd (fun _=>Tt.ret trivial) fun _=>Tt.ret trivial
 obtain ⟨b,hb,hp⟩:=this
 exact ⟨b,aXf hb,hp⟩
theorem bBc (t:GType) (h:TN t):Tt (fun r=>TN r.1∧(r.2=true→r.1.lists.toNat<t.lists.toNat)) (aQt t):=by
 have:Tt (fun r:GType×Bool=>TN r.1∧(r.2=true→r.1.lists.toNat<t.lists.toNat)) (aD4 t):=by
  refine Tt.bnd (bBb t h) fun b hb=>Tt.cnd (fun _=>Tt.ret ⟨by unfold TN;simp,by simp⟩) fun h1 => ?_
  have h1:b=true:=by cases b<;>simp_all
  have h2:=hb h1
  refine Tt.cnd (fun _=>Tt.ret ⟨by unfold TN;simp,by simp⟩) fun h3=>Tt.ret ⟨h,fun _ => ?_⟩
  have h3:t.lists≠0:=by simpa using h3
  show (IntKind.wrap .i64 (t.lists-1)).toNat<_
  rw [wi (by omega)];omega
 obtain ⟨b,hb,hp⟩:=this
 exact ⟨b,aRb hb,hp⟩
theorem aYW (l:List GParam) (n:Str) (hl:Sm l):Tt (fun r=>r.2=true→r.1∈l) (aLf l n):=by
 have:Tt (fun r:GParam×Bool=>r.2=true→r.1∈l) (uY l n):=by
  unfold uY
  refine Tt.bnd (Q:=fun o=>Ev.elim o (fun _=>True) fun q=>GParam.mk q.1 (GType.mk q.2.1 q.2.2.1 q.2.2.2.1) q.2.2.2.2.1 (GValue.mk q.2.2.2.2.2.1 q.2.2.2.2.2.2.1 q.2.2.2.2.2.2.2.1 q.2.2.2.2.2.2.2.2.1 q.2.2.2.2.2.2.2.2.2)∈l) (Tt.idx l.length hl fun k h0 h1 => ?_) fun o ho=>Tt.elim (fun a e=>Tt.ret (by simp)) fun a e=>Tt.ret fun _=>by subst e;exact ho
  unfold sW
  refine Tt.cnd (fun hc=>Tt.nth ⟨h0,vP hc⟩ fun x hx e => ?_) fun _=>Tt.ret (Ix.r trivial)
  refine Tt.cnd (fun _=>Tt.nth ⟨h0,vP hc⟩ fun y hy e'=>Tt.ret (Ix.r ?_)) fun _=>Tt.ret (Ix.l hc)
  obtain ⟨nm,⟨_,_,_⟩,has,⟨_,_,_,_,_⟩⟩:=y;exact hy
 obtain ⟨b,hb,hp⟩:=this
 exact ⟨b,aOC hb,hp⟩
theorem bCe (n:Str) (m:List GMember) (hm:Sm m):Te (aSV n m):=by
 obtain ⟨v,hv⟩:=aXr n m hm
 exact ⟨_,hv,trivial⟩
theorem SOk.params {s:GSchema} (h:SOk s) {d:GDef} (hd:d∈s.defs):bkSl iL d.params<1073741824:=by
 have:=h.def_bk hd;rw [mN] at this;omega
theorem aVe {α:Type} {bk:α→Nat} {l:List α} (hp:∀ x,1≤bk x) (h:bkSl bk l<1073741824):Sm l:=by
 have:=gP bk hp l;unfold bkSl at h;show l.length<_;omega
theorem aTb {l:List GParam} (h:bkSl iL l<1073741824) {p:GParam} (hp:p∈l):TN p.t:=by
 have:=fE iL hp;unfold bkSl at h
 rw [nO,jY] at this
 unfold TN;rw [aW,aW] at this;omega
theorem aTc (s:GSchema) (l:List GParam) (m:List GMember) (hl:bkSl iL l<1073741824) (hm:Sm m) (hr:∀ x∈m,∀ t,TN t→Te (sH s t x.v true)):Te (aBo s l m):=by
 have hsl:=aVe aIh hl
 have:Te (uX s l m):=by
  unfold uX
  refine Tt.bnd (Q:=fun _=>True) (Tt.idx m.length hm fun i h0 h1 => ?_) fun o _=>Tt.elim (fun _ _=>Tt.bnd (Q:=fun _=>True) (Tt.idx l.length hsl fun i h0 h1 => ?_) fun o _=>Tt.elim (fun _ _=>Tt.ret trivial) fun _ _=>Tt.ret trivial) fun _ _=>Tt.ret trivial
  ·unfold sR
   refine Tt.cnd (fun hc=>Tt.nth ⟨h0,vP hc⟩ fun x hx e => ?_) fun _=>Tt.ret (Ix.r trivial)
   refine Tt.bnd (aYW l x.name hsl) fun p hp=>Tt.cnd (fun _=>Tt.ret (Ix.r trivial)) fun hp2 => ?_
   refine Tt.nth ⟨h0,vP hc⟩ fun y hy e=>Tt.bnd (hr y hy _ (aTb hl (hp (by simpa using hp2)))) fun b _ => ?_
   refine Tt.cnd (fun _=>Tt.ret (Ix.r trivial)) fun _=>Tt.bnd (Q:=fun _=>True) (Tt.idx i.toNat (by have:=hm;unfold Sm at this;omega) fun k k0 k1 => ?_) fun o _=>Tt.elim (fun _ _=>Tt.ret (Ix.l hc)) fun _ _=>Tt.ret (Ix.r trivial)
   unfold sQ
   have hi:=vP hc
   refine Tt.cnd (fun hk => ?_) fun _=>Tt.ret (Ix.r trivial)
   have hk':=vP hk
   refine Tt.nth ⟨k0,by omega⟩ fun x _ _=>Tt.nth ⟨h0,hi⟩ fun y _ _=>Tt.cnd (fun _=>Tt.ret (Ix.r trivial)) fun _=>Tt.ret (Ix.l (by simpa using (by omega:k<(i.toNat:Int))))
  ·unfold sS
   refine Tt.cnd (fun hc => ?_) fun _=>Tt.ret (Ix.r trivial)
   have hi:=vP hc
   refine Tt.nth ⟨h0,hi⟩ fun x _ _=>Tt.bnd (bCe _ m hm) fun g _=>Tt.cnd (fun _=>Tt.nth ⟨h0,hi⟩ fun y hy _=>Tt.bnd (bCB _ (aTb hl hy)) fun b _ => ?_) fun _=>Tt.ret (Ix.l hc)
   exact Tt.cnd (fun _=>Tt.nth ⟨h0,hi⟩ fun y hy _=>Tt.cnd (fun _=>Tt.ret (Ix.r trivial)) fun _=>Tt.ret (Ix.l hc)) fun _=>Tt.ret (Ix.l hc)
 obtain ⟨b,hb,hp⟩:=this
 exact ⟨b,aOe hb,hp⟩
theorem aYX (s:GSchema) (h:SOk s):∀ (n:Nat) (v:GValue),cD v≤n→n<1073741824→∀ (k:Nat) (t:GType) (al:Bool),TN t→t.lists.toNat≤k→Te (sH s t v al):=by
 intro n
 induction n with
 | zero=>intro v hv;rw [cE] at hv;omega
 | succ n ihn =>
  intro v hv hn k
  have hvl:∀ x∈v.l,cD x≤n:=fun x hx=>by have:=fE cD hx;rw [cE] at hv;simp only [bkSl] at hv;omega
  have hvm:∀ x∈v.m,cD x.v≤n:=fun x hx=>by have:=fE bF hx;rw [cO] at this;rw [cE] at hv;simp only [bkSl] at hv;omega
  have hpos:∀ x:GValue,1≤cD x:=fun x=>by rw [cE];omega
  have hsl:Sm v.l:=aVe hpos (by rw [cE] at hv;omega)
  have hsm:Sm v.m:=aVe aAQ (by rw [cE] at hv;omega)
  have hin:∀ x:GDef,x∈s.defs→Te (aBo s x.params v.m):=fun x hx=>aTc s x.params v.m (h.params hx) hsm fun y hy t ht=>ihn y.v (hvm y hy) (by omega) _ t true ht (Nat.le_refl _)
  have hfind:∀ (n:Str),Tt (fun r=>Te (aBo s r.1.params v.m)∧Sm r.1.parts) (vZ s n):=fun n=>by
   refine ⟨_,aBC s n h.sm,?_,by have:=h.partsF n;show (bN s n).1.parts.length<_;omega⟩
   rcases aAR s n with hx | ⟨_,_,_,e⟩
   ·exact hin _ hx
   ·rw [e];exact aTc s [] v.m (by simp [bkSl,sumL]) hsm fun y hy t ht=>ihn y.v (hvm y hy) (by omega) _ t true ht (Nat.le_refl _)
  have leaf:∀ (n:Str),Te (cnd (n==([73,110,116]:Str)) (cnd (v.kind==2) (cnd (decide (v.n≥(-2147483648))) (some (decide (v.n≤2147483647))) (some false)) (some false)) (cnd (n==([83,116,114,105,110,103]:Str)) (some (v.kind==4)) (cnd (n==([66,111,111,108,101,97,110]:Str)) (some (v.kind==1)) (cnd (n==([73,68]:Str)) (cnd (v.kind==4) (some true) (some (v.kind==2))) (bnd (vZ s n) fun y21=>cnd (y21.1.kind==4) (cnd (v.kind==5) (bnd (aBY y21.1.parts v.s) fun y23=>some y23) (some false)) (cnd (y21.1.kind==5) (cnd (v.kind==7) (bnd (aBo s y21.1.params v.m) fun y25=>some y25) (some false)) (some false))))))):=fun n=>by
   refine Tt.cnd (fun _=>Tt.cnd (fun _=>Tt.cnd (fun _=>Tt.ret trivial) fun _=>Tt.ret trivial) fun _=>Tt.ret trivial) fun _=>Tt.cnd (fun _=>Tt.ret trivial) fun _=>Tt.cnd (fun _=>Tt.ret trivial) fun _=>Tt.cnd (fun _=>Tt.cnd (fun _=>Tt.ret trivial) fun _=>Tt.ret trivial) fun _=>Tt.bnd (hfind n) fun r hr => ?_
   exact Tt.cnd (fun _=>Tt.cnd (fun _=>Tt.eq (rO _ _ hr.2) (Tt.ret trivial)) fun _=>Tt.ret trivial) fun _=>Tt.cnd (fun _=>Tt.cnd (fun _=>Tt.bnd hr.1 fun _ _=>Tt.ret trivial) fun _=>Tt.ret trivial) fun _=>Tt.ret trivial
  have list1:∀ y4:GType×Bool,TN y4.1→Te (bG (pC s v y4) 0):=fun y4 ht=>by
   refine Tt.idx v.l.length hsl fun i h0 h1 => ?_
   unfold pC
   refine Tt.cnd (fun hc=>Tt.nth ⟨h0,vP hc⟩ fun x hx _=>Tt.bnd (ihn x (hvl x hx) (by omega) _ y4.1 false ht (Nat.le_refl _)) fun b _=>Tt.cnd (fun _=>Tt.ret (Ix.r trivial)) fun _=>Tt.ret (Ix.l hc)) fun _=>Tt.ret (Ix.r trivial)
  have main:∀ (t:GType) (al:Bool),TN t→(∀ t':GType,TN t'→t'.lists.toNat<t.lists.toNat→Te (sH s t' v true))→Te (sH s t v al):=fun t al ht hrec=>by
   have:Te (uO s t v al):=by
    unfold uO
    refine Tt.bnd (bBb t ht) fun b _=>Tt.cnd (fun _=>Tt.ret trivial) fun _=>Tt.cnd (fun _=>Tt.ret trivial) fun _=>Tt.cnd (fun _=>Tt.ret trivial) fun _=>Tt.bnd (bBc t ht) fun y4 hy => ?_
    refine Tt.jn (fun k=>∀ t,Te (k t)) (fun _ => ?_) fun k hk => ?_
    ·exact Tt.cnd (fun _=>Tt.bnd (list1 _ hy.1) fun o _=>Tt.elim (fun _ _=>Tt.ret trivial) fun _ _=>Tt.ret trivial) fun _=>leaf _
    ·exact Tt.cnd (fun hl=>Tt.cnd (fun _=>Tt.cnd (fun _=>Tt.bnd (hrec _ hy.1 (hy.2 hl)) fun _ _=>Tt.ret trivial) fun _=>Tt.ret trivial) fun _=>hk _) fun _=>hk _
   obtain ⟨b,hb,hp⟩:=this
   exact ⟨b,aNR hb,hp⟩
  induction k with
  | zero=>exact fun t al ht hk=>main t al ht fun t' _ h'=>by omega
  | succ k ihk=>exact fun t al ht hk=>main t al ht fun t' ht' h'=>ihk t' true ht' (by omega)
theorem aYY:Ds 192 aS5:=by
 intro args hA hc
 obtain ⟨v0,r0,rfl,h0,hA⟩:=oB hA
 obtain ⟨v1,r1,rfl,h1,hA⟩:=oB hA
 obtain ⟨v2,r2,rfl,h2,hA⟩:=oB hA
 obtain ⟨v3,r3,rfl,h3,hA⟩:=oB hA
 cases aIn hA
 obtain ⟨s,rfl⟩:=aIl h0
 obtain ⟨t,rfl⟩:=bA4 h1
 obtain ⟨v,rfl⟩:=aGO h2
 obtain ⟨b,rfl⟩:=bBa h3
 have ps:=tV hc rfl (v:=dX s) (by simp)
 have pt:=tV hc rfl (v:=iZ t) (by simp)
 have pv:=tV hc rfl (v:=aN v) (by simp)
 have qs:=aEj s;have qt:=aS9 t;have qv:=aMf v
 unfold Nr at qs qt qv
 obtain ⟨r,hr,_⟩:=aYX s ⟨by omega⟩ _ v (Nat.le_refl _) (by omega) _ t b (by rw [jY,aW] at qt;unfold TN;omega) (Nat.le_refl _)
 exact ⟨.bool r,by simp only [tys];exact bM (enc:=fun r=>(PV.bool r,[])) hr,.one (.bool r)⟩
theorem bBd {s:Str} {i n:Int} (h:decide (n>IntKind.wrap .i64 ((List.length s:Int)-i))=false) (hs:s.length≤1073741824) (h0:0≤i) (h1:i<s.length) {F:Int→UInt8→Int} {p q:UInt8→Bool} {b:Int×Int→Option ((Int×Int)⊕(Int⊕Unit))}
  (hb:∀ c k,b (c,k)=cnd (decide (k<n)) (bnd (nthI s (IntKind.wrap .i64 (i+k))) fun y=>cnd (p y) (some (.inr (.inr ()))) (cnd (q y) (some (.inr (.inr ()))) (some (.inl (F c y,IntKind.wrap .i64 (k+1)))))) (some (.inr (.inl c)))) (c:Int):Te (bG b (c,1)):=by
 rw [wi (by omega)] at h
 have hn:n≤s.length-i:=by simpa using h
 refine Tt.loop (fun st:Int×Int=>1≤st.2) (fun st:Int×Int=>(n-st.2).toNat) (fun st hst => ?_) (by simp)
 obtain ⟨c,k⟩:=st
 simp only at hst
 rw [hb]
 refine Tt.cnd (fun hc => ?_) fun _=>Tt.ret (Nx.r trivial)
 have hk:=vP hc
 rw [wi (n:=i+k) (by omega)]
 refine Tt.nth (by omega) fun y _ _=>Tt.cnd (fun _=>Tt.ret (Nx.r trivial)) fun _=>Tt.cnd (fun _=>Tt.ret (Nx.r trivial)) fun _=>Tt.ret (Nx.l ?_ ?_)
 ·show 1≤IntKind.wrap .i64 (k+1);rw [wi (by omega)];omega
 ·show (n-IntKind.wrap .i64 (k+1)).toNat<(n-k).toNat;rw [wi (by omega)];omega
theorem bBe (s:Str) (hs:s.length≤1073741824) (i:Int):Tt (fun r=>0≤r.2∧r.2≤4) (aQu s i):=by
 have:Tt (fun r:Int×Int=>0≤r.2∧r.2≤4) (aAG s i):=by
  unfold aAG
  refine Tt.cnd (fun _=>Tt.ret (by decide)) fun h1=>Tt.cnd (fun _=>Tt.ret (by decide)) fun h2 => ?_
  have h1:0≤i:=by simpa using h1
  have h2:i<s.length:=by simpa using h2
  refine Tt.nth ⟨h1,h2⟩ fun y _ _=>Tt.cnd (fun _=>Tt.ret (show 0≤(1:Int)∧(1:Int)≤4 by decide)) fun _ => ?_
  refine Tt.jn (fun k=>∀ c n low t t' t'',0≤n→n≤4→Tt (fun r:Int×Int=>0≤r.2∧r.2≤4) (k c n low t t' t'')) (fun c n low _ _ _ n0 n4 => ?_) fun k hk => ?_
  ·refine Tt.cnd (fun _=>Tt.ret (by decide)) fun hc=>Tt.bnd (bBd hc hs h1 h2 (fun _ _=>rfl) _) fun o _=>Tt.elim (fun _ _ => ?_) fun _ _=>Tt.ret (by decide)
   repeat' first
    | exact Tt.ret ⟨n0,n4⟩
    | exact Tt.ret (by decide)
    | (refine Tt.cnd (fun _ => ?_) (fun _ => ?_))
  ·repeat' first
    | exact Tt.ret (by decide)
    | exact hk _ _ _ _ _ _ (by decide) (by decide)
    | (refine Tt.cnd (fun _ => ?_) (fun _ => ?_))
 obtain ⟨b,hb,hp⟩:=this
 exact ⟨b,aRk hb,hp⟩
theorem aYZ (s:Str) (hs:s.length≤1073741824):Tt (fun r=>r.1.length≤1073741824) (aST s):=by
 have:Tt (fun r:List Int×Bool=>r.1.length≤1073741824) (uR s):=by
  unfold uR
  refine Tt.bnd (Q:=fun o=>Ev.elim o (fun l=>l.length≤1073741824) fun _=>True) (Tt.loop (fun st:List Int×Int=>0≤st.2∧st.1.length≤st.2∧st.2≤s.length+4∧st.1.length≤s.length) (fun st:List Int×Int=>((s.length:Int)+4-st.2).toNat) (fun st hst => ?_) (by simp;omega)) fun o ho=>Tt.elim (fun a e=>Tt.ret (by subst e;exact ho)) fun _ _=>Tt.ret (by simp)
  obtain ⟨out,i⟩:=st
  obtain ⟨a1,a2,a3,a4⟩:=hst
  simp only at a1 a2 a3 a4
  unfold sL
  refine Tt.cnd (fun hc => ?_) fun _=>Tt.ret (Nx.r (show out.length≤1073741824 by omega))
  have hi:=vP hc
  refine Tt.bnd (bBe s hs i) fun y hy=>Tt.cnd (fun _=>Tt.ret (Nx.r trivial)) fun h0 => ?_
  have h0:y.2≠0:=by simpa using h0
  refine Tt.app (by simp;omega) (Tt.ret ?_)
  rw [wi (n:=i+y.2) (by omega)]
  refine Nx.l (by simp;omega) ?_
  show ((s.length:Int)+4-(i+y.2)).toNat<((s.length:Int)+4-i).toNat
  omega
 obtain ⟨b,hb,hp⟩:=this
 exact ⟨b,aNV hb,hp⟩
theorem bBf {l:List Int}:∀ e,e∈l.map (PV.int .i64)→ElOk tτ (elOf tτ 1) e:=by
 intro e he
 obtain ⟨x,_,rfl⟩:=List.mem_map.1 he
 exact .one (.int _ _)
theorem aOW (s:Str) (hs:s.length≤1073741824) (i:Int) (h:0≤i∧i≤s.length):Tt (fun n=>0≤n∧i+n≤s.length) (aAm s i):=by
 have:Tt (fun n=>0≤n∧i+n≤s.length) (aD6 s i):=by
  unfold aD6
  refine Tt.bnd (Q:=fun n=>0≤n∧i+n≤s.length) (Tt.loop (fun n:Int=>0≤n∧i+n≤s.length) (fun n:Int=>((s.length:Int)-n).toNat) (fun n hn => ?_) (by omega)) fun n hn=>Tt.ret hn
  unfold aBv
  dsimp only
  rw [wi (n:=i+n) (by omega)]
  refine Tt.cnd (fun hc => ?_) fun _=>Tt.ret (Nx.r hn)
  have hi:=vP hc
  refine Tt.nth (by omega) fun y _ _=>Tt.eq (aIe _) (Tt.cnd (fun _=>Tt.ret ?_) fun _=>Tt.ret (Nx.r hn))
  rw [wi (n:=n+1) (by omega)]
  exact Nx.l (by omega) (by omega)
 obtain ⟨b,hb,hp⟩:=this
 exact ⟨b,aUT hb,hp⟩
theorem aVf (s:Str) (hs:s.length≤1073741824):Te (aJ9 s):=by
 have kloop:∀ (k:Int) (z:Option (Int×Int)),0≤k→k≤s.length→Te z→Te (bnd (aAm s k) fun y39=>cnd (decide (y39>0)) (bnd (aAm s k) fun y41=>some ((IntKind.wrap .i64 (k+y41)),(4:Int))) z):=fun k z h0 h1 hz =>
  Tt.bnd (aOW s hs k ⟨h0,h1⟩) fun _ _=>Tt.cnd (fun _=>Tt.bnd (aOW s hs k ⟨h0,h1⟩) fun _ _=>Tt.ret trivial) fun _=>hz
 have:Te (pD s):=by
  unfold pD
  refine Tt.jn (fun k=>∀ i t t',0≤i→i≤(s.length:Int)→Te (k i t t')) (fun i t t' h0 h1 => ?_) fun k1 hk1 => ?_
  ·refine Tt.bnd (aOW s hs i ⟨h0,h1⟩) fun y8 h8=>Tt.cnd (fun _=>Tt.ret trivial) fun hne => ?_
   have hne:y8≠0:=by simpa using hne
   refine Tt.jn (fun k=>∀ n t,0≤n→i+n≤(s.length:Int)→Te (k n t)) (fun n t n0 n1 => ?_) fun k10 hk10=>Tt.nth (by omega) fun y _ _=>Tt.cnd (fun _=>hk10 _ _ (by omega) (by omega)) fun _=>hk10 _ _ h8.1 h8.2
   refine Tt.jn (fun k=>∀ j kd t t' t'' t3,0≤j→j≤(s.length:Int)→Te (k j kd t t' t'' t3)) (fun j kd _ _ _ _ j0 j1 => ?_) fun k15 hk15 => ?_
   ·refine Tt.cnd (fun hc => ?_) fun _=>Tt.ret trivial
    have hj:=vP hc
    have e1:IntKind.wrap .i64 (j+1)=j+1:=wi (by omega)
    have e2:IntKind.wrap .i64 (j+1+1)=j+1+1:=wi (by omega)
    simp only [e1,e2]
    refine Tt.nth (by omega) fun y _ _=>Tt.cnd (fun _ => ?_) fun _=>Tt.nth (by omega) fun y _ _=>Tt.cnd (fun _ => ?_) fun _=>Tt.ret trivial
    all_goals
     refine Tt.jn (fun k=>∀ q t t',0≤q→q≤(s.length:Int)→Te (k q t t')) (fun q _ _ q0 q1=>kloop q _ q0 q1 (Tt.ret trivial)) fun k30 hk=>Tt.cnd (fun hc => ?_) fun _=>hk _ _ _ (by omega) (by omega)
     have hq:=vP hc
     exact Tt.nth (by omega) fun y _ _=>Tt.cnd (fun _=>hk _ _ _ (by omega) (by omega)) fun _=>Tt.nth (by omega) fun y _ _=>Tt.cnd (fun _=>hk _ _ _ (by omega) (by omega)) fun _=>hk _ _ _ (by omega) (by omega)
   ·have e1:IntKind.wrap .i64 (i+n)=i+n:=wi (by omega)
    have e2:IntKind.wrap .i64 (i+n+1)=i+n+1:=wi (by omega)
    simp only [e1,e2]
    refine Tt.cnd (fun hc => ?_) fun _=>hk15 _ _ _ _ _ _ (by omega) n1
    have hq:=vP hc
    refine Tt.nth (by omega) fun y _ _=>Tt.cnd (fun _ => ?_) fun _=>hk15 _ _ _ _ _ _ (by omega) n1
    refine Tt.bnd (aOW s hs _ ⟨by omega,by omega⟩) fun y19 _=>Tt.cnd (fun _=>Tt.bnd (aOW s hs _ ⟨by omega,by omega⟩) fun y21 h21 => ?_) fun _=>hk15 _ _ _ _ _ _ (by omega) n1
    rw [wi (n:=i+n+1+y21) (by omega)]
    exact hk15 _ _ _ _ _ _ (by omega) (by omega)
  ·refine Tt.cnd (fun hc => ?_) fun _=>hk1 _ _ _ (by omega) (by omega)
   have:=vP hc
   exact Tt.nth (by omega) fun y _ _=>Tt.cnd (fun _=>hk1 _ _ _ (by omega) (by omega)) fun _=>hk1 _ _ _ (by omega) (by omega)
 obtain ⟨b,hb,hp⟩:=this
 exact ⟨b,aIW hb,hp⟩
theorem aY0:Ds 239 aS4:=by
 intro args hA hc
 obtain ⟨v0,r0,rfl,h0,hA⟩:=oB hA
 cases aIn hA
 obtain ⟨s,rfl,hs⟩:=bAm h0
 obtain ⟨r,hr,hl⟩:=aYZ s hs
 refine ⟨_,bM (enc:=fun r=>(rD r,[])) hr,_,rfl,.cons (.one (.sl bBf (by simpa using hl))) (.cons (.one (.bool _)) .nil)⟩
theorem aVg:Ds 238 aKj:=by
 intro args hA hc
 obtain ⟨v0,r0,rfl,h0,hA⟩:=oB hA
 cases aIn hA
 obtain ⟨s,rfl,hs⟩:=bAm h0
 obtain ⟨r,hr,hl⟩:=aVf s hs
 exact ⟨_,bM (enc:=fun r=>(gR r,[])) hr,_,rfl,.cons (.one (.int _ _)) (.cons (.one (.int _ _)) .nil)⟩
mutual
theorem aMg:∀ v:GValue,∀ x∈varN v,x.length<cD v
 | ⟨k,n,s,l,m⟩=>by
  have h1:=aOX l
  have h2:=aOY m
  rw [vU] at h1;rw [sG] at h2
  intro x hx
  rw [cE]
  simp only [varN] at hx
  simp only [bkSl,aW]
  revert hx
  cases k==8<;>cases k==6<;>cases k==7<;>simp only [cond_true,cond_false,List.mem_singleton,List.not_mem_nil]<;>intro hx
  all_goals first
   | exact hx.elim
   | (subst hx;omega)
   | (have:=h1 x hx;omega)
   | (have:=h2 x hx;omega)
theorem aOX:∀ l:List GValue,∀ x∈aGw l,x.length<qC l
 | [],x,hx=>by simp [aGw] at hx
 | y::l,x,hx=>by
  simp only [aGw,List.mem_append] at hx
  simp only [qC]
  rcases hx with h | h
  ·have:=aMg y x h;omega
  ·have:=aOX l x h;omega
theorem aXu:∀ y:GMember,∀ x∈aRP y,x.length<bF y
 | ⟨n,v⟩=>by intro x hx;have:=aMg v x (by simpa only [aRP] using hx);rw [cO];show x.length<dA n+(cD v+0)+1;omega
theorem aOY:∀ l:List GMember,∀ x∈aGx l,x.length<mM l
 | [],x,hx=>by simp [aGx] at hx
 | y::l,x,hx=>by
  simp only [aGx,List.mem_append] at hx
  simp only [mM]
  rcases hx with h | h
  ·have:=aXu y x h;omega
  ·have:=aOY l x h;omega
end
theorem aXv {l:List Str} (h:∀ x∈l,x.length≤topL):∀ e,e∈l.map PV.str→ElOk tτ (elOf tτ 0) e:=by
 intro e he
 obtain ⟨x,hx,rfl⟩:=List.mem_map.1 he
 exact .one (.str (h x hx))
theorem aOZ (l:List Str):l.length≤sumL dA l:=gP dA (fun s=>by rw [aW];omega) l
theorem bBg:Ds 236 aXq:=by
 intro args hA hc
 obtain ⟨v0,r0,rfl,h0,hA⟩:=oB hA
 obtain ⟨v1,r1,rfl,h1,hA⟩:=oB hA
 cases aIn hA
 obtain ⟨v,rfl⟩:=aGO h0
 obtain ⟨es,rfl,he,hn⟩:=bCd h1
 obtain ⟨l,rfl⟩:=cC (f:=PV.str) (fun e h=>aXn (he e h))
 have pv:=tV hc rfl (v:=aN v) (by simp)
 have pl:=tV hc rfl (v := .slice (l.map PV.str) [] true) (by simp)
 have qv:=aMf v
 have ql:=aXs l
 unfold Nr at qv
 simp only [bI] at pl
 have hll:=aOZ l
 have hz:=aXg v
 have hr:=aRQ (szV v) v l (Nat.le_refl _) (by omega)
 have hlen:=aAT (varN v) l
 have hzv:=aIm v
 refine ⟨_,by simp only [tys];exact bM (enc:=fun r=>(kG r,[])) hr,.one (.sl (aXv fun x hx => ?_) (by simp only [List.length_map];omega))⟩
 show x.length≤1073741824
 rcases (kA _ _ _).1 hx with hx | hx
 ·have:=fE dA hx;rw [aW] at this;omega
 ·have:=aMg v x hx;omega
theorem aTd:Ds 114 aMd:=by
 intro args hA hc
 obtain ⟨v0,r0,rfl,h0,hA⟩:=oB hA
 obtain ⟨v1,r1,rfl,h1,hA⟩:=oB hA
 cases aIn hA
 obtain ⟨d,rfl⟩:=bAk h0
 obtain ⟨es,rfl,he,hn⟩:=bCd h1
 obtain ⟨l,rfl⟩:=cC (f:=aG) (fun e h=>aXp (he e h))
 have pd:=tV hc rfl (v:=jX d) (by simp)
 have pl:=tV hc rfl (v := .slice (l.map aG) [] false) (by simp)
 have qd:=bA9 d
 have ql:=psl (l:=l) (fun x _=>bA8 x)
 unfold Nr at qd
 simp only [bI] at pl
 obtain ⟨r,l',hr,hnd,_,hiff,_⟩:=aRS d l (by rw [cK];omega)
 have hin:∀ n∈r,∃ f∈d.frags,f.name=n:=fun n hx=>⟨_,aIj ((hiff n).1 hx).2⟩
 have hlen:r.length≤d.frags.length:=by
  have:=aDK r (d.frags.map (·.name)) hnd (fun n hx=>by obtain ⟨f,hf,e⟩:=hin n hx;exact List.mem_map.2 ⟨f,hf,e⟩)
  simpa using this
 have hfl:=aIk d
 refine ⟨_,by simp only [tys];exact bM (enc:=fun r=>(uK r,[])) hr,.one (.sl (aXv fun x hx => ?_) (by simp only [List.length_map];omega))⟩
 obtain ⟨f,hf,rfl⟩:=hin x hx
 have h1:=fE dT hf
 have h2:=xL d
 rw [dY,aW] at h1
 show f.name.length≤1073741824
 omega
def isIn (s:GSchema) (x:Str):Prop:=x∈s.defs.map (·.name)
theorem aY1 {s:GSchema} {n:Str} (h:aGv s n [5,5,5]=true):isIn s n:=by
 unfold aGv bN at h
 cases hs:tU n
 ·rw [hs] at h
  simp only [cond_false] at h
  cases hf:s.defs.find? (fun d=>d.name==n) with
  | none=>rw [hf] at h;simp at h
  | some d=>exact List.mem_map.2 ⟨d,List.mem_of_find?_eq_some hf,by simpa using List.find?_some hf⟩
 ·rw [hs] at h;simp at h
theorem aTe (s:GSchema) (h:SOk s) (n:Str):Tt (fun l=>l.length<1073741824∧∀ x∈l,isIn s x) (aGI s n):=by
 have hp:(bN s n).1.params.length<1073741824:=by
  rcases aAR s n with hx | ⟨_,_,_,e⟩
  ·have:=h.def_bk hx;rw [mN] at this;have:=gP iL aIh (bN s n).1.params;unfold bkSl at *;omega
  ·rw [e];simp
 have:Tt (fun l=>l.length<1073741824∧∀ x∈l,isIn s x) (uW s n):=by
  unfold uW
  refine Tt.eq (aBC s n h.sm) (Tt.bnd (Q:=fun l:List Str=>l.length<1073741824∧∀ x∈l,isIn s x) (Tt.loop (fun st:List Str×Int=>0≤st.2∧st.2≤(bN s n).1.params.length∧st.1.length≤st.2∧∀ x∈st.1,isIn s x) (fun st:List Str×Int=>((bN s n).1.params.length-st.2:Int).toNat) (fun st hst => ?_) (by simp)) fun l hl=>Tt.ret hl)
  obtain ⟨out,i⟩:=st
  obtain ⟨a1,a2,a3,a4⟩:=hst
  simp only at a1 a2 a3 a4
  have stop:Tt (Nx (fun st:List Str×Int=>0≤st.2∧st.2≤(bN s n).1.params.length∧st.1.length≤st.2∧∀ x∈st.1,isIn s x) (fun st:List Str×Int=>((bN s n).1.params.length-st.2:Int).toNat) (out,i) (fun l:List Str=>l.length<1073741824∧∀ x∈l,isIn s x)) (some (.inr out)):=Tt.ret (Nx.r ⟨by omega,a4⟩)
  unfold sO
  refine Tt.cnd (fun hc => ?_) fun _=>stop
  have hi:=vP hc
  have e:IntKind.wrap .i64 (i+1)=i+1:=wi (by omega)
  rw [e]
  have next:∀ o:List Str,o.length≤out.length+1→(∀ x∈o,isIn s x)→Tt (Nx (fun st:List Str×Int=>0≤st.2∧st.2≤(bN s n).1.params.length∧st.1.length≤st.2∧∀ x∈st.1,isIn s x) (fun st:List Str×Int=>((bN s n).1.params.length-st.2:Int).toNat) (out,i) (fun l:List Str=>l.length<1073741824∧∀ x∈l,isIn s x)) (some (.inl (o,i+1))):=fun o ho hs=>Tt.ret (Nx.l ⟨by simp only;omega,by simp only;omega,by simp only;omega,hs⟩ (by simp only;omega))
  refine Tt.cnd (fun _=>Tt.nth ⟨a1,hi⟩ fun p hp _=>Tt.cnd (fun _=>Tt.cnd (fun _=>Tt.eq (aS0 s _ 5 5 5 h.sm) (Tt.cnd (fun hk=>Tt.app (by simp;omega) (next _ (by simp) fun x hx => ?_)) fun _=>next _ (by omega) a4)) fun _=>next _ (by omega) a4) fun _=>next _ (by omega) a4) fun _=>stop
  rcases List.mem_append.1 hx with hx | hx
  ·exact a4 x hx
  ·rw [List.mem_singleton.1 hx];exact aY1 hk
 obtain ⟨b,hb,hp⟩:=this
 exact ⟨b,aN7 hb,hp⟩
def More (s:GSchema) (y l:List Str):Prop:=∃ a,l=y++a∧a.Nodup∧∀ x∈a,isIn s x
theorem More.len {s:GSchema} {y l:List Str} (h:More s y l):l.length≤y.length+s.defs.length:=by
 obtain ⟨a,rfl,h1,h2⟩:=h
 have:=aDK a (s.defs.map fun d:GDef=>d.name) h1 h2
 simp only [List.length_append,List.length_map] at this ⊢
 omega
theorem aY2 (s:GSchema) (h:SOk s):Te (aSR s):=by
 have hd:=h.defs
 have inner:∀ (y l m:List Str),More s y l→y.length<2147483648→m.length<1073741824→(∀ x∈m,isIn s x)→Tt (More s y) (bG (pA m) (l,0)):=fun y l m hl hy hm hmi=>by
  refine Tt.loop (fun st:List Str×Int=>0≤st.2∧st.2≤m.length∧More s y st.1) (fun st:List Str×Int=>((m.length:Int)-st.2).toNat) (fun st hst => ?_) ⟨by simp,by simp,hl⟩
  obtain ⟨o,j⟩:=st
  obtain ⟨a1,a2,a3⟩:=hst
  simp only at a1 a2 a3
  have hlo:=a3.len
  unfold pA
  refine Tt.cnd (fun hc => ?_) fun _=>Tt.ret (Nx.r a3)
  have hj:=vP hc
  have e:IntKind.wrap .i64 (j+1)=j+1:=wi (by omega)
  rw [e]
  refine Tt.nth ⟨a1,hj⟩ fun x hx ex=>Tt.eq (rO o x (by show o.length<_;omega)) (Tt.cnd (fun hn=>Tt.nth ⟨a1,hj⟩ fun x' hx' ex'=>Tt.app (by simp;omega) (Tt.ret (Nx.l ⟨by simp only;omega,by simp only;omega,?_⟩ (by simp only;omega)))) fun _=>Tt.ret (Nx.l ⟨by simp only;omega,by simp only;omega,a3⟩ (by simp only;omega)))
  rw [ex] at ex';cases ex'
  obtain ⟨a,rfl,b1,b2⟩:=a3
  refine ⟨a++[x],by simp,?_,fun z hz => ?_⟩
  ·have hn:x∉a:=fun hxa=>by
    have:(y++a).contains x=true:=List.contains_iff_mem.2 (List.mem_append_right y hxa)
    rw [this] at hn;simp at hn
   rw [List.nodup_append]
   exact ⟨b1,by simp,fun u hu w hw=>by rw [List.mem_singleton.1 hw];intro e;subst e;exact hn hu⟩
  ·rcases List.mem_append.1 hz with hz | hz
   ·exact b2 z hz
   ·rw [List.mem_singleton.1 hz];exact hmi x hx
 have mid:∀ (y:List Str),y.length<1073741824→Tt (fun l:List Str=>l.length<2147483648) (bG (pB s) (y,0)):=fun y hy=>by
  refine Tt.loop (fun st:List Str×Int=>0≤st.2∧st.2≤st.1.length∧More s y st.1) (fun st:List Str×Int=>((y.length:Int)+s.defs.length-st.2).toNat) (fun st hst => ?_) ⟨by simp,by simp,[],by simp⟩
  obtain ⟨o,k⟩:=st
  obtain ⟨a1,a2,a3⟩:=hst
  simp only at a1 a2 a3
  have hlo:=a3.len
  unfold pB
  refine Tt.cnd (fun hc => ?_) fun _=>Tt.ret (Nx.r (by omega))
  have hk:=vP hc
  have e:IntKind.wrap .i64 (k+1)=k+1:=wi (by omega)
  refine Tt.nth ⟨a1,hk⟩ fun x hx _=>Tt.bnd (aTe s h x) fun m hm=>Tt.bnd (Q:=fun l':List Str=>More s y l'∧o.length≤l'.length) ?_ fun l' hl'=>Tt.ret ?_
  ·obtain ⟨l',h1,h2⟩:=inner y o m a3 (by omega) hm.1 hm.2
   refine ⟨l',h1,h2,?_⟩
   obtain ⟨l'',h1',h2'⟩:=inner o o m ⟨[],by simp⟩ (by omega) hm.1 hm.2
   rw [h1] at h1';cases h1'
   obtain ⟨a,rfl,_⟩:=h2'
   simp
  ·rw [e]
   have:=hl'.1.len
   exact Nx.l ⟨by simp only;omega,by simp only;omega,hl'.1⟩ (by simp only;omega)
 have:Te (uN s):=by
  unfold uN
  refine Tt.bnd (Q:=fun _=>True) (Tt.idx s.defs.length (by omega) fun i h0 h1 => ?_) fun o _=>Tt.elim (fun _ _=>Tt.ret trivial) fun _ _=>Tt.ret trivial
  unfold sK
  refine Tt.cnd (fun hc => ?_) fun _=>Tt.ret (Ix.r trivial)
  have hi:=vP hc
  exact Tt.nth ⟨h0,hi⟩ fun x _ _=>Tt.bnd (aTe s h _) fun y hy=>Tt.bnd (mid y hy.1) fun l hl=>Tt.nth ⟨h0,hi⟩ fun x _ _=>Tt.eq (rO l _ (by show l.length<_;omega)) (Tt.cnd (fun _=>Tt.ret (Ix.r trivial)) fun _=>Tt.ret (Ix.l hc))
 obtain ⟨b,hb,hp⟩:=this
 exact ⟨b,aNI hb,hp⟩
theorem aY3:Ds 96 aS6:=by
 intro args hA hc
 obtain ⟨v0,r0,rfl,h0,hA⟩:=oB hA
 cases aIn hA
 obtain ⟨s,rfl⟩:=aIl h0
 have ps:=tV hc rfl (v:=dX s) (by simp)
 have qs:=aEj s
 unfold Nr at qs
 obtain ⟨r,hr,_⟩:=aY2 s ⟨by omega⟩
 exact ⟨.bool r,by simp only [tys];exact bM (enc:=fun r=>(PV.bool r,[])) hr,.one (.bool r)⟩
def pT (s:GSchema) (typ:Str) (x:GSel):Str:=bif x.kind==0 then (aB1 s typ x.name).1.t.name else bif x.kind==2 then (bif x.on_==([]:Str) then typ else x.on_) else []
def xM (s:GSchema) (o:GOp):Str:=bif o.kind==1 then s.mutation else s.query
theorem aO0 (s:GSchema) (typ:Str) (x:GSel) (h:SOk s):aHJ s typ x=some (pT s typ x):=by
 apply aLU
 simp only [xE,aRM s _ _ h,bQ,pT]
 cases x.kind==0<;>cases x.kind==2<;>cases x.on_==([]:Str)<;>rfl
theorem aVh (s:GSchema) (o:GOp):aQr s o=some (xM s o):=by
 apply aQ1
 simp only [aD2,xM]
 cases o.kind==1<;>rfl
mutual
def aJC (s:GSchema) (typ:Str):GSel→List GSeineref13Spot
 | ⟨k,a,n,ar,ds,on,sels⟩=>⟨typ,⟨k,a,n,ar,ds,on,sels⟩⟩::fL s (pT s typ ⟨k,a,n,ar,ds,on,sels⟩) sels
def fL (s:GSchema) (typ:Str):List GSel→List GSeineref13Spot
 | []=>[]
 | x::l=>aJC s typ x++fL s typ l
end
theorem aTf (s:GSchema) (typ:Str) (x:GSel):aJC s typ x=⟨typ,x⟩::fL s (pT s typ x) x.sels:=by cases x;simp only [aJC]
mutual
theorem aTg (s:GSchema):∀ (x:GSel) (typ:Str),(aJC s typ x).length≤eU x
 | ⟨k,a,n,ar,ds,on,sels⟩,typ=>by
  have:=aBD s sels (pT s typ ⟨k,a,n,ar,ds,on,sels⟩)
  rw [cK] at this
  rw [fV]
  simp only [aJC,List.length_cons,bkSl]
  omega
theorem aBD (s:GSchema):∀ (l:List GSel) (typ:Str),(fL s typ l).length≤bJ l
 | [],_=>by simp [fL]
 | x::l,typ=>by have:=aTg s x typ;have:=aBD s l typ;simp only [fL,bJ,List.length_append];omega
end
theorem aO1 (s : GSchema) (h : SOk s) : ∀ (n : Nat) (sels : List GSel) (typ : Str) (l : List GSeineref13Spot), bJ sels ≤ n → l.length + bJ sels < 1073741824 → aDV s typ sels l = some (l ++ fL s typ sels) := by
 intro n
 induction n with
 | zero =>
  intro sels typ l hb hl
  have := iH sels
  have hs : sels = [] := List.length_eq_zero_iff.1 (by omega)
  subst hs
  apply aFR
  unfold uV
  rw [cM (r := l) (by simp [jH])]
  simp [fL]
 | succ n ih =>
  intro sels typ l hb hl
  apply aFR
  unfold uV
  have hlen := iH sels
  have key := fF (b := jH s typ sels) sels (fun k (a : List GSeineref13Spot) => (a, (k : Int))) (fun r a => a ++ fL s typ r) (fun k a => a.length + bJ (sels.drop k) < 1073741824) (by show sels.length < _; omega)
   (by intro a _; simp [jH, fL])
   (by
    intro k x r a hm hk hd h1 h2 h3 hI
    rw [hd] at hI
    simp only [bJ] at hI
    have hdr : sels.drop (k + 1) = r := by rw [← List.tail_drop, hd]; rfl
    have hx := qP hm
    have hx2 := vD x
    have hb1 := aTg s x typ
    have ht : tapp a [GSeineref13Spot.mk typ x] = some (a ++ [⟨typ, x⟩]) := tJ (by simp [tK]; omega)
    refine .inr ⟨a ++ aJC s typ x, ?_, ?_, ?_⟩
    ·simp only [jH, h1, fT, h2, bQ, h3, ht, aO0 s typ x h, ih x.sels (pT s typ x) (a ++ [⟨typ, x⟩]) (by omega) (by simp; omega)]
     rw [aTf]; simp
    ·rw [hdr]; simp only [List.length_append]; omega
    ·simp only [fL, List.append_assoc]) (s := (l, 0)) (a := l) rfl (by simpa using hl)
  rw [key]; rfl
def sX (s:GSchema) (d:GDoc):List GSeineref13Spot:=(d.ops.flatMap fun o=>fL s (xM s o) o.sels)++d.frags.flatMap fun f=>fL s f.on_ f.sels
theorem aMh (s:GSchema):∀ l:List GOp,(l.flatMap fun o=>fL s (xM s o) o.sels).length≤sumL bkOp l
 | []=>by simp
 | o::l=>by
  have h1:=aMh s l
  have h2:=aBD s o.sels (xM s o)
  have h3:=mO o
  rw [cK] at h2
  simp only [bkSl] at h3
  simp only [List.flatMap_cons,List.length_append,sumL];omega
theorem aKl (s:GSchema):∀ l:List GFrag,(l.flatMap fun f=>fL s f.on_ f.sels).length≤sumL dT l
 | []=>by simp
 | f::l=>by
  have h1:=aKl s l
  have h2:=aBD s f.sels f.on_
  have h3:=aAU f
  simp only [List.flatMap_cons,List.length_append,sumL];omega
theorem pF (d:GDoc):kO d=sumL bkOp d.ops+sumL dT d.frags+3:=by rw [vV];simp only [bkSl];omega
theorem aVi (s:GSchema) (d:GDoc):(sX s d).length≤kO d:=by
 have h1:=aMh s d.ops
 have h2:=aKl s d.frags
 rw [pF];simp only [sX,List.length_append];omega
theorem aGP (o:GOp):1≤bkOp o:=by rw [mO];omega
theorem aKm (o:GOp):bJ o.sels+1≤bkOp o:=by rw [mO,cK];simp only [bkSl];omega
theorem aRT (s : GSchema) (d : GDoc) (h : SOk s) (hd : kO d < 500000000) : aSQ s d = some (sX s d) := by
 apply aNC
 unfold aBt
 rw [pF] at hd
 have hol := gP bkOp aGP d.ops
 have hfl := gP dT vE d.frags
 have k1 := aDI (b := lG s d) d.ops (fun k (a : List GSeineref13Spot) => (a, (k : Int))) (fun a o => a ++ fL s (xM s o) o.sels) (fun a => a) (fun k a => a.length + sumL bkOp (d.ops.drop k) ≤ sumL bkOp d.ops) (by show d.ops.length < _; omega)
  (by intro a _; simp [lG])
  (by
   intro k x a hm hk h1 h2 h3 hI
   have hb := aKm x
   have hs := aBD s x.sels (xM s x)
   have hdr : d.ops.drop k = x :: d.ops.drop (k + 1) := by
    rw [List.drop_eq_getElem_cons hk]
    rw [sE, List.getElem?_eq_getElem hk] at h2
    cases h2; rfl
   rw [hdr] at hI
   simp only [sumL] at hI
   refine ⟨?_, ?_⟩
   ·simp only [lG, h1, fT, h2, bQ, h3, aVh, aO1 s h _ x.sels (xM s x) a (Nat.le_refl _) (by omega)]
   ·simp only [List.length_append]; omega) (s := ([], 0)) (a := []) rfl (by simp)
 rw [k1]
 simp only [bQ]
 have hops : ∀ (l : List GOp) (a : List GSeineref13Spot), l.foldl (fun a o => a ++ fL s (xM s o) o.sels) a = a ++ l.flatMap fun o => fL s (xM s o) o.sels := fun l => by
  induction l with
  | nil => intro a; simp
  | cons o l ih => intro a; simp only [List.foldl_cons, ih, List.flatMap_cons, List.append_assoc]
 have hfr : ∀ (l : List GFrag) (a : List GSeineref13Spot), l.foldl (fun a f => a ++ fL s f.on_ f.sels) a = a ++ l.flatMap fun f => fL s f.on_ f.sels := fun l => by
  induction l with
  | nil => intro a; simp
  | cons o l ih => intro a; simp only [List.foldl_cons, ih, List.flatMap_cons, List.append_assoc]
 rw [hops]
 have hlo := aMh s d.ops
 have k2 := aDI (b := lH s d) d.frags (fun k (a : List GSeineref13Spot) => (a, (k : Int))) (fun a f => a ++ fL s f.on_ f.sels) (fun a => a) (fun k a => a.length + sumL dT (d.frags.drop k) ≤ sumL bkOp d.ops + sumL dT d.frags) (by show d.frags.length < _; omega)
  (by intro a _; simp [lH])
  (by
   intro k x a hm hk h1 h2 h3 hI
   have hb := aAU x
   have hs := aBD s x.sels x.on_
   have hdr : d.frags.drop k = x :: d.frags.drop (k + 1) := by
    rw [List.drop_eq_getElem_cons hk]
    rw [sE, List.getElem?_eq_getElem hk] at h2
    cases h2; rfl
   rw [hdr] at hI
   simp only [sumL] at hI
   refine ⟨?_, ?_⟩
   ·simp only [lH, h1, fT, h2, bQ, h3, aO1 s h _ x.sels x.on_ a (Nat.le_refl _) (by omega)]
   ·simp only [List.length_append]; omega) (s := ([] ++ d.ops.flatMap fun o => fL s (xM s o) o.sels, 0)) (a := [] ++ d.ops.flatMap fun o => fL s (xM s o) o.sels) rfl (by simp only [List.nil_append, List.drop_zero]; omega)
 rw [k2, hfr]
 simp only [bQ, List.nil_append, sX]
theorem aVj (s:GSchema) (typ name:Str):(aB1 s typ name).1=tnF∨(aB1 s typ name).1=zF∨∃ d∈s.defs,(aB1 s typ name).1∈d.fields:=by
 unfold aB1
 cases name==tnS&&aGv s typ [1,2,3]
 ·cases (bN s typ).1.kind==1||(bN s typ).1.kind==2
  ·exact .inr (.inl rfl)
  ·simp only [cond_true,cond_false]
   cases hf:(bN s typ).1.fields.find? (fun f=>f.name==name) with
   | none=>exact .inr (.inl rfl)
   | some f =>
    have hm:=List.mem_of_find?_eq_some hf
    rcases aAR s typ with hx | ⟨_,e,_⟩
    ·exact .inr (.inr ⟨_,hx,hm⟩)
    ·rw [e] at hm;simp at hm
 ·exact .inl rfl
theorem SOk.field_bk {s:GSchema} (h:SOk s) {d:GDef} (hd:d∈s.defs) {f:GFieldDef} (hf:f∈d.fields):gB f<1073741824:=by
 have h1:=h.def_bk hd
 have h2:=fE gB hf
 rw [mN] at h1;simp only [bkSl] at h1;omega
theorem aRU {s:GSchema} (h:SOk s) (typ name:Str):(aB1 s typ name).1.t.name.length≤topL:=by
 unfold topL
 rcases aVj s typ name with e | e | ⟨d,hd,hf⟩
 ·rw [e];simp [tnF]
 ·rw [e];simp [zF]
 ·have:=h.field_bk hd hf;rw [jM,jY,aW,aW] at this;omega
theorem aO2 {τ:Tb} {n ub:Nat} {o o':Bool} {α:Type} {f:α→PV} {l:List α} (h:LfOk τ (.sl n ub o) (.slice (l.map f) [] o')):∀ y∈l,ElOk τ (elOf τ n) (f y):=by
 obtain ⟨es,e,he,_⟩:=nD h
 cases e
 exact fun y hy=>he _ (List.mem_map.2 ⟨y,hy,rfl⟩)
theorem aXw {τ:Tb} {s:Str} (h:LfOk τ .str (.str s)):s.length≤topL:=by obtain ⟨_,e,hl⟩:=iA h;cases e;exact hl
def OkS (x:GSel):Prop:=ElOk tτ (elOf tτ 12) (aG x)
theorem OkS.cells {x:GSel} (h:OkS x):CsOk tτ [(.int .i64),.str,.str,(.sl 7 1048576 false),(.sl 8 1048576 false),.str,(.sl 12 1048576 false)] [.int .i64 x.kind,.str x.alias,.str x.name,.slice (List.map aD x.args) [] false,.slice (List.map aH x.dirs) [] false,.str x.on_,.slice (List.map aG x.sels) [] false]:=by
 unfold OkS at h
 rw [oW] at h
 change ElOk tτ ⟨true,_⟩ _ at h
 cases h with | ag hs=>exact hs
theorem OkS.parts {x:GSel} (h:OkS x):x.on_.length≤topL∧∀ y∈x.sels,OkS y:=by
 obtain ⟨_,_,e,_,h⟩:=aM h.cells;cases e
 obtain ⟨_,_,e,_,h⟩:=aM h;cases e
 obtain ⟨_,_,e,_,h⟩:=aM h;cases e
 obtain ⟨_,_,e,_,h⟩:=aM h;cases e
 obtain ⟨_,_,e,_,h⟩:=aM h;cases e
 obtain ⟨_,_,e,h1,h⟩:=aM h;cases e
 obtain ⟨_,_,e,h2,h⟩:=aM h;cases e
 exact ⟨aXw h1,aO2 h2⟩
theorem aRV {s:GSchema} (h:SOk s) {typ:Str} {x:GSel} (ht:typ.length≤topL) (hx:OkS x):(pT s typ x).length≤topL:=by
 have h1:=aRU h typ x.name
 have h2:=hx.parts.1
 unfold pT
 cases x.kind==0<;>cases x.kind==2<;>cases x.on_==([]:Str)<;>first | exact h1 | exact h2 | exact ht | simp
theorem bBh {typ:Str} {x:GSel} (ht:typ.length≤topL) (hx:OkS x):ElOk tτ (elOf tτ 16) (aL ⟨typ,x⟩):=by
 rw [cY]
 exact .ag (.cons (.str ht) hx.cells)
mutual
theorem aY4 {s:GSchema} (h:SOk s):∀ (x:GSel) (typ:Str),typ.length≤topL→OkS x→∀ p∈aJC s typ x,ElOk tτ (elOf tτ 16) (aL p)
 | ⟨k,a,n,ar,ds,on,sels⟩,typ,ht,hx,p,hp=>by
  simp only [aJC,List.mem_cons] at hp
  rcases hp with rfl | hp
  ·exact bBh ht hx
  ·exact aGQ h sels _ (aRV h ht hx) hx.parts.2 p hp
theorem aGQ {s:GSchema} (h:SOk s):∀ (l:List GSel) (typ:Str),typ.length≤topL→(∀ x∈l,OkS x)→∀ p∈fL s typ l,ElOk tτ (elOf tτ 16) (aL p)
 | [],_,_,_,p,hp=>by simp [fL] at hp
 | x::l,typ,ht,hx,p,hp=>by
  simp only [fL,List.mem_append] at hp
  rcases hp with hp | hp
  ·exact aY4 h x typ ht (hx x (by simp)) p hp
  ·exact aGQ h l typ ht (fun y hy=>hx y (by simp [hy])) p hp
end
theorem aVk {o:GOp} (h:ElOk tτ (elOf tτ 10) (aU o)):∀ x∈o.sels,OkS x:=by
 rw [gQ] at h
 change ElOk tτ ⟨true,[(.int .i64),.str,(.sl 11 1048576 false),(.sl 8 1048576 false),(.sl 12 1048576 false)]⟩ _ at h
 cases h with
 | ag h =>
  obtain ⟨_,_,e,_,h⟩:=aM h;cases e
  obtain ⟨_,_,e,_,h⟩:=aM h;cases e
  obtain ⟨_,_,e,_,h⟩:=aM h;cases e
  obtain ⟨_,_,e,_,h⟩:=aM h;cases e
  obtain ⟨_,_,e,h2,h⟩:=aM h;cases e
  exact aO2 h2
theorem aF0 {o:GFrag} (h:ElOk tτ (elOf tτ 13) (aF o)):o.on_.length≤topL∧∀ x∈o.sels,OkS x:=by
 rw [dF] at h
 change ElOk tτ ⟨true,[.str,.str,(.sl 8 1048576 false),(.sl 12 1048576 false)]⟩ _ at h
 cases h with
 | ag h =>
  obtain ⟨_,_,e,_,h⟩:=aM h;cases e
  obtain ⟨_,_,e,h1,h⟩:=aM h;cases e
  obtain ⟨_,_,e,_,h⟩:=aM h;cases e
  obtain ⟨_,_,e,h2,h⟩:=aM h;cases e
  exact ⟨aXw h1,aO2 h2⟩
theorem aO3 {d:GDoc} (h:ElOk tτ (elOf tτ 9) (jX d)):(∀ o∈d.ops,ElOk tτ (elOf tτ 10) (aU o))∧∀ f∈d.frags,ElOk tτ (elOf tτ 13) (aF f):=by
 rw [mL] at h
 change ElOk tτ ⟨true,[(.sl 10 1048576 false),(.sl 13 1048576 false)]⟩ _ at h
 cases h with
 | ag h =>
  obtain ⟨_,_,e,h1,h⟩:=aM h;cases e
  obtain ⟨_,_,e,h2,h⟩:=aM h;cases e
  exact ⟨aO2 h1,aO2 h2⟩
theorem aGR:Ds 58 aEh:=by
 intro args hA hc
 obtain ⟨v0,r0,rfl,h0,hA⟩:=oB hA
 obtain ⟨v1,r1,rfl,h1,hA⟩:=oB hA
 cases aIn hA
 obtain ⟨s,rfl⟩:=aIl h0
 obtain ⟨d,rfl⟩:=bAk h1
 have ps:=tV hc rfl (v:=dX s) (by simp)
 have pd:=tV hc rfl (v:=jX d) (by simp)
 have qs:=aEj s
 have qd:=bA9 d
 unfold Nr at qs qd
 have hs:SOk s:=⟨by omega⟩
 have hr:=aRT s d hs (by omega)
 have hl:(sX s d).length≤4194304:=by
  have h1:=aVi s d
  omega
 obtain ⟨k1,k2⟩:=aO3 h1
 refine ⟨_,by simp only [tys];exact bM (enc:=fun r=>(uJ r,[])) hr,.one (.sl (fun e he => ?_) (by simpa using hl))⟩
 obtain ⟨p,hp,rfl⟩:=List.mem_map.1 he
 rcases List.mem_append.1 hp with hp | hp
 ·obtain ⟨o,ho,hp⟩:=List.mem_flatMap.1 hp
  refine aGQ hs _ _ ?_ (aVk (k1 o ho)) p hp
  have:=nP s
  rw [aW,aW] at this
  have h3:=hs.bk
  unfold xM topL
  cases o.kind==1<;>simp only [cond_true,cond_false]<;>omega
 ·obtain ⟨f,hf,hp⟩:=List.mem_flatMap.1 hp
  exact aGQ hs _ _ (aF0 (k2 f hf)).1 (aF0 (k2 f hf)).2 p hp
end Go.Proofs.YtphmfillajagdaaGreat
open Go Go.Ev Go.Ev.PV
set_option maxRecDepth 100000
namespace Go.Proofs.YtphmfillajagdaaGreat
def aTh:Summ:=sv1 [⟨false,[(.int .u8)]⟩] [E2']
theorem aY5:Ds 169 aTh:=aJ (C:=cf [] [] 0 false []) Tryz.func169 rfl rfl sn' (by kernel_rfl)
def aTi:Summ:=sv1 [⟨false,[(.int .u8)]⟩] [E2']
theorem aY6:Ds 170 aTi:=aJ (C:=cf [] [] 0 false []) Tryz.func170 rfl rfl sn' (by kernel_rfl)
def oC:Summ:=sv1 [E12'] [E2']
theorem pU:Ds 98 oC:=aJ (C:=cf [(169,aTh),(170,aTi)] [] 0 false [lh 4 [.same,.same,.lf (.int .i64)] 2 1073741824 [some 0,none]]) Tryz.func98 rfl rfl (sc' aY5 (sc' aY6 sn')) (by kernel_rfl)
def gH:Summ:=sv1 [E10'] [E2']
theorem jJ:Ds 101 gH:=aJ (C:=cf [(98,oC)] [] 0 false []) Tryz.func101 rfl rfl (sc' pU sn') (by kernel_rfl)
def aBE:Summ:=sv1 [E1'] [E7']
def aY7:Cfg:=cf [] [(213,aBE,0)] 0 true [lh 4 (.same :: .lf (.int .i64) :: .lf (.int .i64)::sa 5 []) 2 1048576 [some 0],lh 10 (.same :: .lf (.int .i64) :: .lf (.int .i64)::sa 5 []) 2 1048576 [some 2]]
theorem aY8:∀ x,x∈([(213,aBE,0)]:List (FuncId×Summ×Nat))→Ds x.1 x.2.1 :=
 vR (fun x=>aY7) (all_cons ⟨rfl,rfl,rfl,sn',rfl,_,Tryz.func213,by kernel_rfl⟩ (aCm))
theorem aTj:Ds 213 aBE:=aY8 (213,aBE,0) (by simp)
def aXx:Summ:=sv1 [E12'] [E2']
theorem bBi:Ds 223 aXx:=aJ (C:=cf [(239,aS4)] [] 0 false []) Tryz.func223 rfl rfl (sc' aY0 sn') (by kernel_rfl)
def aO4:Summ:=sv1 [E12'] [E7']
theorem aXy:Ds 221 aO4:=aJ (C:=cf [(238,aKj)] [] 0 false []) Tryz.func221 rfl rfl (sc' aVg sn') (by kernel_rfl)
def aTk:Summ:=sv1 [E12'] [E7',E2']
theorem aY9:Ds 222 aTk:=aJ (C:=cf [] [] 0 false [lh 5 (sa 3 (.lf (.int .i64) :: .same::[.lf (.int .i64)])) 3 1073741824 [some 0,none]]) Tryz.func222 rfl rfl sn' (by kernel_rfl)
def lU:Summ:=sv1 [E1'] [E2']
def aO5:Cfg:=cf [(221,aO4),(222,aTk),(223,aXx),(98,oC)] [(191,lU,0)] 0 true [lh 25 (sa 2 (.lf (.int .i64)::sa 5 [])) 2 1048576 [some 1,none],lh 32 (sa 2 (.lf (.int .i64)::sa 5 [])) 2 1048576 [some 3,none]]
theorem aO6:∀ x,x∈([(191,lU,0)]:List (FuncId×Summ×Nat))→Ds x.1 x.2.1 :=
 vR (fun x=>aO5) (all_cons ⟨rfl,rfl,rfl,(sc' aXy (sc' aY9 (sc' bBi (sc' pU sn')))),rfl,_,Tryz.func191,by kernel_rfl⟩ (aCm))
theorem aF1:Ds 191 lU:=aO6 (191,lU,0) (by simp)
def aF2:Summ:=sv1 [E8',E12'] [E2']
theorem aIo:Ds 29 aF2:=aJ (C:=cf [] [] 0 false [(2,{hv:=[.same,.same,.same,.lf (.int .i64)],cnt:=3,top:=16777216,ex:=[(some 0,[.same,.same,.same,.lf (.int .i64)]),(none,[.same,.same,.lf .bool,.lf (.int .i64)])]})]) Tryz.func29 rfl rfl sn' (by kernel_rfl)
def bCf:Summ:=sv1 [E10'] [E2']
theorem bCC:Ds 195 bCf:=aJ (C:=cf [(101,gH)] [] 0 false []) Tryz.func195 rfl rfl (sc' jJ sn') (by kernel_rfl)
def aFu:Summ:=sv1 [E1',E1'] [E2']
def aFv:Summ:=sv1 [⟨false,[.sl 7 16777216 false]⟩,⟨false,[.sl 7 16777216 false]⟩] [E2']
def bBj:Cfg:=cf [] [(174,aFu,0),(215,aFv,0)] 0 true [lh 4 (sa 3 (.lf (.int .i64)::sa 10 [])) 3 16777216 [some 0,none]]
def aVl:Cfg:=cf [] [(174,aFu,0),(215,aFv,0)] 0 false [lh 4 [.same,.same,.same,.lf (.int .i64)] 3 16777216 [some 0,none]]
theorem bBk:∀ x,x∈([(174,aFu,0),(215,aFv,0)]:List (FuncId×Summ×Nat))→Ds x.1 x.2.1 :=
 vR (fun x=>if x.1=174 then bBj else aVl) (all_cons ⟨rfl,rfl,rfl,sn',rfl,_,Tryz.func174,by kernel_rfl⟩ (all_cons ⟨rfl,rfl,rfl,sn',rfl,_,Tryz.func215,by kernel_rfl⟩ (aCm)))
theorem bBl:Ds 174 aFu:=bBk (174,aFu,0) (by simp)
def aEk:Summ:=sv1 [E1'] [E2']
def aZa:Cfg:=cf [(98,oC)] [(235,aEk,0)] 0 true [lh 2 (sa 2 (.lf (.int .i64)::sa 5 [])) 2 1048576 [some 0,none],lh 7 (sa 2 (.lf (.int .i64)::sa 5 [])) 2 1048576 [some 2,none]]
theorem aZb:∀ x,x∈([(235,aEk,0)]:List (FuncId×Summ×Nat))→Ds x.1 x.2.1 :=
 vR (fun x=>aZa) (all_cons ⟨rfl,rfl,rfl,(sc' pU sn'),rfl,_,Tryz.func235,by kernel_rfl⟩ (aCm))
theorem aZc:Ds 235 aEk:=aZb (235,aEk,0) (by simp)
def aTl:Summ:=sv1 [E1'] [E2']
theorem aZd:Ds 212 aTl:=aJ (C:=cf [(191,lU),(213,aBE),(235,aEk)] [] 0 false []) Tryz.func212 rfl rfl (sc' aF1 (sc' aTj (sc' aZc sn'))) (by kernel_rfl)
def aKn:Summ:=sv1 [E10',E10'] [E2']
theorem aVm:Ds 197 aKn:=aJ (C:=cf [(101,gH)] [] 0 false []) Tryz.func197 rfl rfl (sc' jJ sn') (by kernel_rfl)
def aXz:Summ:=sv2 [E1'] [E8']
theorem bBm:Ds 214 aXz:=aJ (C:=cg [(236,aXq)] [] 0 false [] 1) Tryz.func214 rfl rfl (sc' bBg sn') (by kernel_rfl)
def aIp:Summ:=sv1 [E12'] [E4',E2']
theorem aRW:Ds 121 aIp:=aJ (C:=cf [] [] 0 false []) Tryz.func121 rfl rfl sn' (by kernel_rfl)
def aRX:Summ:=sv1 [E3',E12'] [E13',E2']
theorem aXA:Ds 113 aRX:=aJ (C:=cf [] [] 0 false [(2,{hv:=(sa 4 (.lf (.int .i64)::sa 6 [])),cnt:=4,top:=1048576,ex:=[(some 0,(sa 4 (.lf (.int .i64)::sa 6 []))),(none,(sa 3 (.lf .bool :: .lf (.int .i64) :: .lf .str :: .lf .str :: .lf (.sl 8 1048576 false) :: .lf (.sl 12 1048576 false)::sa 2 [])))]})]) Tryz.func113 rfl rfl sn' (by kernel_rfl)
def aTm:Summ:=sv1 [E16',E12'] [E4',E2']
theorem aZe:Ds 193 aTm:=aJ (C:=cf [] [] 0 false [(2,{hv:=(sa 4 (.lf (.int .i64)::sa 10 [])),cnt:=4,top:=16777216,ex:=[(some 0,(sa 4 (.lf (.int .i64)::sa 10 []))),(none,[.same,.same,.same,.lf .bool,.lf (.int .i64),.lf .str,.lf .str,.lf (.int .i64),.lf (.int .i64),.lf .bool,.lf (.int .i64),.lf (.int .i64),.lf .str,.lf (.sl 6 1048576 false),.lf (.sl 7 1048576 false)])]})]) Tryz.func193 rfl rfl sn' (by kernel_rfl)
def aIq:Summ:=sv1 [E12'] [E2']
theorem aO7:Ds 156 aIq:=aJ (C:=cf [] [] 0 false []) Tryz.func156 rfl rfl sn' (by kernel_rfl)
def aDf:Summ:=sv1 [E0',E12'] [E5',E2']
theorem aFw:Ds 164 aDf:=aJ (C:=cf [(156,aIq)] [] 0 false [(4,{hv:=(sa 4 (.lf (.int .i64)::sa 9 [])),cnt:=4,top:=1048576,ex:=[(some 0,(sa 4 (.lf (.int .i64)::sa 9 []))),(none,(sa 3 (.lf .bool :: .lf (.int .i64) :: .lf (.int .i64) :: .lf .str :: .lf (.sl 0 1048576 false) :: .lf (.sl 4 1048576 false) :: .lf (.sl 0 1048576 false) :: .lf (.sl 5 1048576 false)::sa 3 [])))]})]) Tryz.func164 rfl rfl (sc' aO7 sn') (by kernel_rfl)
def aXB:Summ:=sv1 [E0',E12',E7',E7',E7'] [E2']
theorem aZf:Ds 159 aXB:=aJ (C:=cf [(164,aDf)] [] 0 false []) Tryz.func159 rfl rfl (sc' aFw sn') (by kernel_rfl)
def aMi:Summ:=sv1 [E0',E12'] [E2']
theorem aRY:Ds 118 aMi:=aJ (C:=cf [(159,aXB)] [] 0 false []) Tryz.func118 rfl rfl (sc' aZf sn') (by kernel_rfl)
def pG:Summ:=sv1 [E0',E12'] [E2']
theorem sY:Ds 112 pG:=aJ (C:=cf [(159,aXB)] [] 0 false []) Tryz.func112 rfl rfl (sc' aZf sn') (by kernel_rfl)
def aMj:Summ:=sv1 [E0',E12',E12'] [E6',E2']
theorem aTn:Ds 117 aMj:=aJ (C:=cf [(112,pG),(164,aDf)] [] 0 false [(7,{hv:=(sa 4 (.lf (.int .i64)::sa 15 [])),cnt:=4,top:=1048576,ex:=[(some 0,(sa 4 (.lf (.int .i64)::sa 15 []))),(none,(sa 2 (.lf .bool :: .same :: .lf (.int .i64)::sa 6 (.lf .str :: .lf (.sl 5 1048576 false) :: .lf .str :: .lf (.int .i64) :: .lf (.int .i64) :: .lf (.sl 8 1048576 false)::sa 3 []))))]})]) Tryz.func117 rfl rfl (sc' sY (sc' aFw sn')) (by kernel_rfl)
def aIr:Summ:=sv1 [⟨false,[.sl 8 16777216 false]⟩] [E8']
theorem aRZ:Ds 122 aIr:=aJ (C:=cf [] [] 0 false [lh 3 [.same,.acc 0 0 1,.lf (.int .i64)] 2 16777216 [some 0]]) Tryz.func122 rfl rfl sn' (by kernel_rfl)
def aIs:Summ:=sv2 [E0',E3'] [⟨false,[.sl 14 16777216 false]⟩]
theorem aR0:Ds 120 aIs:=aJ (C:=cg [(58,aEh)] [] 0 false [lh 3 (sa 2 (.acc 14 0 1 :: .lf (.int .i64)::sa 5 [])) 3 4194304 [some 0],lh 7 (sa 2 (.acc 14 4194304 1 :: .lf (.int .i64)::sa 5 [])) 3 4194304 [some 2],lh 12 (.acc 14 8388608 1 :: .same :: .lf (.int .i64)::sa 5 []) 2 4194304 [some 4]] 2) Tryz.func120 rfl rfl (sc' aGR sn') (by kernel_rfl)
def aMk:Summ:=sv1 [E8'] [E2']
theorem aTo:Ds 50 aMk:=aJ (C:=cf [] [] 0 false [(5,{hv:=[.same,.same,.same,.lf (.int .i64)],cnt:=3,top:=16777216,ex:=[(some 2,[.same,.same,.same,.lf (.int .i64)]),(none,[.same,.lf .bool,.same,.lf (.int .i64)])]}),(2,{hv:=[.same,.same,.lf (.int .i64)],cnt:=2,top:=16777216,ex:=[(some 0,[.same,.same,.lf (.int .i64)]),(none,[.same,.lf .bool,.lf (.int .i64)])]})]) Tryz.func50 rfl rfl sn' (by kernel_rfl)
def aKo:Summ:=sv2 [E0',E3',E7'] [E2']
theorem aVn:Ds 60 aKo:=aJ (C:=cg [(120,aIs),(121,aIp),(122,aIr),(50,aMk)] [] 0 false [lh 6 (sa 5 (.lf (.int .i64)::sa 5 [])) 5 16777216 [some 2,none],lh 3 (sa 4 (.lf (.int .i64)::sa 5 [])) 4 16777216 [some 0,none]] 3) Tryz.func60 rfl rfl (sc' aR0 (sc' aRW (sc' aRZ (sc' aTo sn')))) (by kernel_rfl)
def aEl:Summ:=sv1 [E0',E12'] [E2']
theorem aIt:Ds 90 aEl:=aJ (C:=cf [(159,aXB)] [] 0 false []) Tryz.func90 rfl rfl (sc' aZf sn') (by kernel_rfl)
def aDg:Summ:=sv1 [E0',E12'] [E8']
theorem aIu:Ds 185 aDg:=aJ (C:=cf [(164,aDf),(29,aF2),(90,aEl)] [] 0 false [lh 8 (sa 2 (.acc 0 0 1 :: .lf (.int .i64)::sa 9 [])) 3 1048576 [some 1],lh 15 (sa 2 (.acc 0 0 1 :: .lf (.int .i64)::sa 9 [])) 3 1048576 [some 3]]) Tryz.func185 rfl rfl (sc' aFw (sc' aIo (sc' aIt sn'))) (by kernel_rfl)
def aTp:Summ:=sv1 [E0',E12',E12'] [E2']
theorem aZg:Ds 119 aTp:=aJ (C:=cf [(185,aDg),(29,aF2)] [] 0 false [(3,{hv:=(sa 3 (.lf (.int .i64)::sa 3 [])),cnt:=3,top:=16777216,ex:=[(some 0,(sa 3 (.lf (.int .i64)::sa 3 []))),(none,(.lf .bool::sa 2 (.lf (.int .i64)::sa 3 [])))]})]) Tryz.func119 rfl rfl (sc' aIu (sc' aIo sn')) (by kernel_rfl)
def aF3:Summ:=sv1 [E0',E3',⟨true,[.str,(.int .i64),.str,.str,(.sl 7 1048576 false),(.sl 8 1048576 false),.str,(.sl 12 1048576 false)]⟩,E7'] [E2']
theorem aO8:Ds 59 aF3:=aJ (C:=cf [(117,aMj),(118,aMi),(112,pG),(119,aTp),(113,aRX)] [] 0 false []) Tryz.func59 rfl rfl (sc' aTn (sc' aRY (sc' sY (sc' aZg (sc' aXA sn'))))) (by kernel_rfl)
def aTq:Summ:=sv1 [E0',E3'] [E2']
theorem aZh:Ds 52 aTq:=aJ (C:=cf [] [] 0 false [lh 2 (sa 3 (.lf (.int .i64)::sa 5 [])) 3 1048576 [some 0,none]]) Tryz.func52 rfl rfl sn' (by kernel_rfl)
def xN:Summ:=sv2 [E1',E7',E2'] [E2']
theorem aEm:Ds 173 xN:=aJ (C:=cg [(212,aTl),(213,aBE),(214,aXz)] [] 0 false [] 3) Tryz.func173 rfl rfl (sc' aZd (sc' aTj (sc' bBm sn'))) (by kernel_rfl)
def rP:Summ:=sv2 [⟨false,[.sl 7 16777216 false]⟩,E7',E2'] [E2']
theorem aAV:Ds 171 rP:=aJ (C:=cg [(98,oC),(173,xN)] [] 0 false [lh 2 (sa 4 ([.lf (.int .i64)])) 4 16777216 [some 0,none]] 3) Tryz.func171 rfl rfl (sc' pU (sc' aEm sn')) (by kernel_rfl)
def sZ:Summ:=sv2 [⟨false,[.sl 8 16777216 false]⟩,E7',E2'] [E2']
theorem aAW:Ds 99 sZ:=aJ (C:=cg [(98,oC),(171,rP)] [] 0 false [lh 2 (sa 4 ([.lf (.int .i64)])) 4 16777216 [some 0,none]] 3) Tryz.func99 rfl rfl (sc' pU (sc' aAV sn')) (by kernel_rfl)
def lV:Summ:=sv2 [⟨false,[.sl 12 16777216 false]⟩,E7'] [E2']
def aDh:Summ:=sv2 [E9',E7'] [E2']
def aO9:Cfg:=cg [] [(100,lV,0),(172,aDh,0)] 0 false [lh 4 [.same,.same,.same,.lf (.int .i64)] 3 16777216 [some 0,none]] 2
def aR1:Cfg:=cg [(99,sZ),(98,oC),(171,rP)] [(100,lV,0),(172,aDh,0)] 0 true [] 2
theorem aPa:∀ x,x∈([(100,lV,0),(172,aDh,0)]:List (FuncId×Summ×Nat))→Ds x.1 x.2.1 :=
 vR (fun x=>if x.1=100 then aO9 else aR1) (all_cons ⟨rfl,rfl,rfl,sn',rfl,_,Tryz.func100,by kernel_rfl⟩ (all_cons ⟨rfl,rfl,rfl,(sc' aAW (sc' pU (sc' aAV sn'))),rfl,_,Tryz.func172,by kernel_rfl⟩ (aCm)))
theorem aPb:Ds 100 lV:=aPa (100,lV,0) (by simp)
def rQ:Summ:=sv2 [E2',E1'] [E2']
theorem aAX:Ds 102 rQ:=aJ (C:=cg [(173,xN),(174,aFu)] [] 0 false [] 2) Tryz.func102 rfl rfl (sc' aEm (sc' bBl sn')) (by kernel_rfl)
def aTr:Summ:=sv2 [E3'] [E2']
theorem aZi:Ds 33 aTr:=aJ (C:=cg [(98,oC),(99,sZ),(100,lV),(101,gH),(102,rQ)] [] 0 false [lh 8 (sa 4 (.lf (.int .i64)::sa 7 [])) 4 1048576 [some 2,none],lh 2 (sa 2 (.lf (.int .i64)::sa 2 [])) 2 1048576 [some 0,none],lh 13 (sa 2 (.lf (.int .i64)::sa 2 [])) 2 1048576 [some 4,none]] 1) Tryz.func33 rfl rfl (sc' pU (sc' aAW (sc' aPb (sc' jJ (sc' aAX sn'))))) (by kernel_rfl)
def aEn:Summ:=sv1 [E8'] [E2']
theorem aMl:Ds 232 aEn:=aJ (C:=cf [(98,oC)] [] 0 false [lh 2 [.same,.same,.lf (.int .i64)] 2 16777216 [some 0,none]]) Tryz.func232 rfl rfl (sc' pU sn') (by kernel_rfl)
def tW:Summ:=sv2 [E16'] [E2']
theorem aB2:Ds 234 tW:=aJ (C:=cg [(98,oC),(101,gH),(102,rQ)] [] 0 false [lh 2 [.same,.same,.lf (.int .i64)] 2 16777216 [some 0,none]] 1) Tryz.func234 rfl rfl (sc' pU (sc' jJ (sc' aAX sn'))) (by kernel_rfl)
def aB3:Summ:=sv2 [⟨false,[.sl 4 16777216 false]⟩] [E2']
theorem aJD:Ds 233 aB3:=aJ (C:=cg [(98,oC),(234,tW),(101,gH),(99,sZ)] [] 0 false [lh 2 [.same,.same,.lf (.int .i64)] 2 16777216 [some 0,none]] 1) Tryz.func233 rfl rfl (sc' pU (sc' aB2 (sc' jJ (sc' aAW sn')))) (by kernel_rfl)
def aIv:Summ:=sv2 [E5'] [E2']
theorem aR2:Ds 209 aIv:=aJ (C:=cg [(98,oC),(232,aEn),(233,aB3),(234,tW),(29,aF2)] [] 0 false [] 1) Tryz.func209 rfl rfl (sc' pU (sc' aMl (sc' aJD (sc' aB2 (sc' aIo sn'))))) (by kernel_rfl)
def aB4:Summ:=sv2 [E0'] [E2']
theorem aJE:Ds 157 aB4:=aJ (C:=cg [(209,aIv),(98,oC)] [] 0 false [lh 2 (sa 2 (.lf (.int .i64)::sa 3 [])) 2 1048576 [some 0,none]] 1) Tryz.func157 rfl rfl (sc' aR2 (sc' pU sn')) (by kernel_rfl)
def aTs:Summ:=sv1 [E0',E12'] [E2']
theorem aZj:Ds 129 aTs:=aJ (C:=cf [(159,aXB)] [] 0 false []) Tryz.func129 rfl rfl (sc' aZf sn') (by kernel_rfl)
def bAn:Summ:=sv1 [E0',E10',E10'] [E2']
theorem bCg:Ds 211 bAn:=aJ (C:=cf [(101,gH),(197,aKn),(164,aDf),(185,aDg),(29,aF2)] [] 0 false []) Tryz.func211 rfl rfl (sc' jJ (sc' aVm (sc' aFw (sc' aIu (sc' aIo sn'))))) (by kernel_rfl)
def aTt:Summ:=sv1 [E0',E6',E6'] [E2']
theorem aZk:Ds 165 aTt:=aJ (C:=cf [(211,bAn),(193,aTm),(195,bCf)] [] 0 false [lh 4 (sa 3 (.lf (.int .i64)::sa 15 [])) 3 1048576 [some 0,none],lh 10 (sa 3 (.lf (.int .i64)::sa 15 [])) 3 1048576 [some 2,none]]) Tryz.func165 rfl rfl (sc' bCg (sc' aZe (sc' bCC sn'))) (by kernel_rfl)
def aIw:Summ:=sv1 [E0'] [E8']
theorem aR3:Ds 155 aIw:=aJ (C:=cf [] [] 0 false [lh 3 (.same :: .acc 0 0 1 :: .lf (.int .i64)::sa 3 []) 2 1048576 [some 0]]) Tryz.func155 rfl rfl sn' (by kernel_rfl)
def aKp:Summ:=sv1 [E0',E16'] [E2']
theorem aVo:Ds 163 aKp:=aJ (C:=cf [(129,aTs)] [] 0 false [lh 2 (sa 3 (.lf (.int .i64)::sa 3 [])) 3 16777216 [some 0,none]]) Tryz.func163 rfl rfl (sc' aZj sn') (by kernel_rfl)
def aEo:Summ:=sv1 [⟨false,[.sl 4 16777216 false]⟩] [E8']
theorem aMm:Ds 160 aEo:=aJ (C:=cf [] [] 0 false [lh 3 [.same,.acc 0 0 1,.lf (.int .i64)] 2 16777216 [some 0]]) Tryz.func160 rfl rfl sn' (by kernel_rfl)
def aTu:Summ:=sv1 [E12'] [E2']
theorem aZl:Ds 210 aTu:=aJ (C:=cf [] [] 0 false []) Tryz.func210 rfl rfl sn' (by kernel_rfl)
def aAY:Summ:=sv1 [E0',E16'] [E2']
theorem aIy:Ds 168 aAY:=aJ (C:=cf [(118,aMi)] [] 0 false [lh 2 (sa 3 (.lf (.int .i64)::sa 3 [])) 3 16777216 [some 0,none]]) Tryz.func168 rfl rfl (sc' aRY sn') (by kernel_rfl)
def aMn:Summ:=sv1 [E8'] [E2']
theorem aTv:Ds 162 aMn:=aJ (C:=cf [] [] 0 false [(5,{hv:=[.same,.same,.same,.lf (.int .i64)],cnt:=3,top:=16777216,ex:=[(some 2,[.same,.same,.same,.lf (.int .i64)]),(none,[.same,.lf .bool,.same,.lf (.int .i64)])]}),(2,{hv:=[.same,.same,.lf (.int .i64)],cnt:=2,top:=16777216,ex:=[(some 0,[.same,.same,.lf (.int .i64)]),(none,[.same,.lf .bool,.lf (.int .i64)])]})]) Tryz.func162 rfl rfl sn' (by kernel_rfl)
def aXC:Summ:=sv1 [E8'] [E2']
theorem bAo:Ds 158 aXC:=aJ (C:=cf [(210,aTu),(162,aMn)] [] 0 false [lh 2 [.same,.same,.lf (.int .i64)] 2 16777216 [some 0,none]]) Tryz.func158 rfl rfl (sc' aZl (sc' aTv sn')) (by kernel_rfl)
def aEp:Summ:=sv1 [E16'] [E8']
theorem aMo:Ds 161 aEp:=aJ (C:=cf [] [] 0 false [lh 3 [.same,.acc 0 0 1,.lf (.int .i64)] 2 16777216 [some 0]]) Tryz.func161 rfl rfl sn' (by kernel_rfl)
def aTw:Summ:=sv2 [E0'] [E2']
theorem aZm:Ds 89 aTw:=aJ (C:=cg [(155,aIw),(156,aIq),(157,aB4),(158,aXC)] [] 0 false [lh 3 (sa 3 (.lf (.int .i64)::sa 3 [])) 3 16777216 [some 0,none]] 1) Tryz.func89 rfl rfl (sc' aR3 (sc' aO7 (sc' aJE (sc' bAo sn')))) (by kernel_rfl)
def aTx:Summ:=sv1 [E0'] [E2']
theorem aZn:Ds 91 aTx:=aJ (C:=cf [(160,aEo),(158,aXC),(161,aEp),(162,aMn)] [] 0 false [lh 8 (sa 4 (.lf (.int .i64)::sa 9 [])) 4 1048576 [some 2,none],lh 2 (sa 2 (.lf (.int .i64)::sa 3 [])) 2 1048576 [some 0,none]]) Tryz.func91 rfl rfl (sc' aMm (sc' bAo (sc' aMo (sc' aTv sn')))) (by kernel_rfl)
def aTy:Summ:=sv1 [E0'] [E2']
theorem aZo:Ds 92 aTy:=aJ (C:=cf [(163,aKp),(118,aMi),(112,pG)] [] 0 false [lh 8 (sa 4 (.lf (.int .i64)::sa 9 [])) 4 1048576 [some 2,none],lh 2 (sa 2 (.lf (.int .i64)::sa 3 [])) 2 1048576 [some 0,none]]) Tryz.func92 rfl rfl (sc' aVo (sc' aRY (sc' sY sn'))) (by kernel_rfl)
def aTz:Summ:=sv1 [E0'] [E2']
theorem aZp:Ds 93 aTz:=aJ (C:=cf [(164,aDf),(29,aF2)] [] 0 false [lh 12 (sa 6 (.lf (.int .i64)::sa 15 [])) 6 1048576 [some 4,none],lh 6 (sa 4 (.lf (.int .i64)::sa 9 [])) 4 1048576 [some 2,none],lh 2 (sa 2 (.lf (.int .i64)::sa 3 [])) 2 1048576 [some 0,none]]) Tryz.func93 rfl rfl (sc' aFw (sc' aIo sn')) (by kernel_rfl)
def aTA:Summ:=sv1 [E0'] [E2']
theorem aZq:Ds 94 aTA:=aJ (C:=cf [(164,aDf),(117,aMj),(165,aTt)] [] 0 false [lh 10 (sa 6 (.lf (.int .i64)::sa 15 [])) 6 1048576 [some 4,none],lh 6 (sa 4 (.lf (.int .i64)::sa 9 [])) 4 1048576 [some 2,none],lh 2 (sa 2 (.lf (.int .i64)::sa 3 [])) 2 1048576 [some 0,none]]) Tryz.func94 rfl rfl (sc' aFw (sc' aTn (sc' aZk sn'))) (by kernel_rfl)
def aTB:Summ:=sv1 [E0'] [E2']
theorem aZr:Ds 95 aTB:=aJ (C:=cf [(90,aEl)] [] 0 false [lh 5 (sa 3 (.lf (.int .i64)::sa 3 [])) 3 1048576 [some 2,none],lh 2 (sa 2 (.lf (.int .i64)::sa 3 [])) 2 1048576 [some 0,none]]) Tryz.func95 rfl rfl (sc' aIt sn') (by kernel_rfl)
def aTC:Summ:=sv2 [E0',E10',E1'] [E2']
theorem aZs:Ds 130 aTC:=aJ (C:=cg [(101,gH),(191,lU),(192,aS5)] [] 0 false [] 3) Tryz.func130 rfl rfl (sc' jJ (sc' aF1 (sc' aYY sn'))) (by kernel_rfl)
def aIz:Summ:=sv2 [E0',E16'] [E2']
theorem aR4:Ds 167 aIz:=aJ (C:=cg [(130,aTC)] [] 0 false [lh 2 (sa 3 (.lf (.int .i64)::sa 3 [])) 3 16777216 [some 0,none]] 2) Tryz.func167 rfl rfl (sc' aZs sn') (by kernel_rfl)
def aTD:Summ:=sv2 [E0'] [E2']
theorem aZt:Ds 97 aTD:=aJ (C:=cg [(167,aIz),(168,aAY)] [] 0 false [lh 7 (sa 3 (.lf (.int .i64)::sa 3 [])) 3 1048576 [some 2,none],lh 2 (sa 2 (.lf (.int .i64)::sa 3 [])) 2 1048576 [some 0,none]] 1) Tryz.func97 rfl rfl (sc' aR4 (sc' aIy sn')) (by kernel_rfl)
def aXD:Summ:=sv2 [E0',E7'] [E2']
theorem bBn:Ds 32 aXD:=aJ (C:=cg [(89,aTw),(90,aEl),(91,aTx),(92,aTy),(93,aTz),(94,aTA),(95,aTB),(96,aS6),(97,aTD)] [] 0 false [] 2) Tryz.func32 rfl rfl (sc' aZm (sc' aIt (sc' aZn (sc' aZo (sc' aZp (sc' aZq (sc' aZr (sc' aY3 (sc' aZt sn'))))))))) (by kernel_rfl)
def aZu:Summ:=sv2 [E0'] [E7']
theorem aZv:Ds 10 aZu:=aJ (C:=cg [(32,aXD)] [] 0 false [(2,{hv:=(sa 2 (.lf (.int .i64)::sa 3 [])),cnt:=2,top:=1048576,ex:=[(some 0,(sa 2 (.lf (.int .i64)::sa 3 []))),(none,(.same :: .lf (.int .i64) :: .lf (.int .i64)::sa 3 []))]})] 1) Tryz.func10 rfl rfl (sc' bBn sn') (by kernel_rfl)
def aTE:Summ:=sv1 [E3'] [E8']
theorem aZw:Ds 51 aTE:=aJ (C:=cf [] [] 0 false [lh 3 [.same,.acc 0 0 1,.lf (.int .i64),.same,.same] 2 1048576 [some 0]]) Tryz.func51 rfl rfl sn' (by kernel_rfl)
def aF4:Summ:=sv1 [E3'] [E8']
theorem aPc:Ds 53 aF4:=aJ (C:=cf [] [] 0 false [lh 3 [.same,.acc 0 0 1,.lf (.int .i64),.same,.same] 2 1048576 [some 0]]) Tryz.func53 rfl rfl sn' (by kernel_rfl)
def aTF:Summ:=sv2 [E0',E3'] [E2']
theorem aZx:Ds 54 aTF:=aJ (C:=cg [(112,pG),(58,aEh)] [] 0 false [lh 2 (sa 3 (.lf (.int .i64)::sa 5 [])) 3 16777216 [some 0,none],lh 8 (sa 3 (.lf (.int .i64)::sa 5 [])) 3 16777216 [some 2,none]] 2) Tryz.func54 rfl rfl (sc' sY (sc' aGR sn')) (by kernel_rfl)
def aTG:Summ:=sv2 [E0',E3'] [E2']
theorem aZy:Ds 55 aTG:=aJ (C:=cg [(58,aEh),(113,aRX)] [] 0 false [lh 3 (sa 3 (.lf (.int .i64)::sa 5 [])) 3 16777216 [some 0,none]] 2) Tryz.func55 rfl rfl (sc' aGR (sc' aXA sn')) (by kernel_rfl)
def aTH:Summ:=sv2 [E3'] [E2']
theorem aZz:Ds 56 aTH:=aJ (C:=cg [(114,aMd),(29,aF2)] [] 0 false [(2,{hv:=(sa 2 (.lf (.int .i64)::sa 2 [])),cnt:=2,top:=1048576,ex:=[(some 0,(sa 2 (.lf (.int .i64)::sa 2 []))),(none,[.same,.lf .bool,.lf (.int .i64),.same,.same])]})] 1) Tryz.func56 rfl rfl (sc' aTd (sc' aIo sn')) (by kernel_rfl)
def aTI:Summ:=sv2 [E3'] [E2']
theorem aZA:Ds 57 aTI:=aJ (C:=cg [(114,aMd),(29,aF2)] [] 0 false [lh 6 (sa 2 (.lf .bool :: .lf (.int .i64)::sa 2 [])) 3 1048576 [some 2],(2,{hv:=[.same,.any,.lf (.int .i64),.same,.same],cnt:=2,top:=1048576,ex:=[(some 0,[.same,.any,.lf (.int .i64),.same,.same]),(none,(sa 2 (.lf (.int .i64)::sa 2 [])))]})] 1) Tryz.func57 rfl rfl (sc' aTd (sc' aIo sn')) (by kernel_rfl)
def aXE:Summ:=sv2 [E0',E3',⟨false,[.rng .i64 0 14]⟩] [E2']
theorem bBo:Ds 20 aXE:=aJ (C:=cg [(51,aTE),(50,aMk),(52,aTq),(53,aF4),(54,aTF),(55,aTG),(56,aTH),(57,aTI),(58,aEh),(59,aF3),(60,aKo)] [] 0 false [lh 23 (sa 5 (.lf (.int .i64)::sa 5 [])) 5 16777216 [some 1,none]] 3) Tryz.func20 rfl rfl (sc' aZw (sc' aTo (sc' aZh (sc' aPc (sc' aZx (sc' aZy (sc' aZz (sc' aZA (sc' aGR (sc' aO8 (sc' aVn sn'))))))))))) (by kernel_rfl)
def bBp:Summ:=sv2 [E0',E3',⟨false,[.rng .i64 0 15]⟩] [E2']
theorem bBq:Ds 11 bBp:=aJ (C:=cg [(33,aTr),(20,aXE)] [] 0 false [lh 4 (sa 4 (.lf (.int .i64)::sa 5 [])) 4 1048576 [some 0,none]] 3) Tryz.func11 rfl rfl (sc' aZi (sc' bBo sn')) (by kernel_rfl)
def xO:Summ:=sv1 [E1'] [E7']
def bBr:Cfg:=cf [] [(88,xO,0)] 0 true [lh 3 (.same :: .lf (.int .i64) :: .lf (.int .i64)::sa 5 []) 2 1048576 [some 0],lh 7 (.same :: .lf (.int .i64) :: .lf (.int .i64)::sa 5 []) 2 1048576 [some 2]]
theorem bBs:∀ x,x∈([(88,xO,0)]:List (FuncId×Summ×Nat))→Ds x.1 x.2.1 :=
 vR (fun x=>bBr) (all_cons ⟨rfl,rfl,rfl,sn',rfl,_,Tryz.func88,by kernel_rfl⟩ (aCm))
theorem aIA:Ds 88 xO:=bBs (88,xO,0) (by simp)
def aAZ:Summ:=sv1 [⟨false,[.sl 8 16777216 false]⟩] [E7']
theorem aF5:Ds 86 aAZ:=aJ (C:=cf [(88,xO)] [] 0 false [lh 3 [.same,.lf (.int .i64),.lf (.int .i64)] 2 16777216 [some 0]]) Tryz.func86 rfl rfl (sc' aIA sn') (by kernel_rfl)
def pH:Summ:=sv1 [⟨false,[.sl 12 16777216 false]⟩] [E7']
def aPd:Cfg:=cf [(88,xO),(86,aAZ)] [(87,pH,0)] 0 false [lh 3 [.same,.lf (.int .i64),.lf (.int .i64)] 2 16777216 [some 0]]
theorem aPe:∀ x,x∈([(87,pH,0)]:List (FuncId×Summ×Nat))→Ds x.1 x.2.1 :=
 vR (fun x=>aPd) (all_cons ⟨rfl,rfl,rfl,(sc' aIA (sc' aF5 sn')),rfl,_,Tryz.func87,by kernel_rfl⟩ (aCm))
theorem aPf:Ds 87 pH:=aPe (87,pH,0) (by simp)
def aZB:Summ:=sv1 [E3'] [E2']
theorem aZC:Ds 31 aZB:=aJ (C:=cf [(86,aAZ),(87,pH),(88,xO)] [] 0 false [lh 7 [.same,.lf (.int .i64),.same,.lf (.int .i64),.same,.same] 3 1048576 [some 2],lh 3 [.same,.lf (.int .i64),.lf (.int .i64),.same,.same] 2 1048576 [some 0],lh 11 [.same,.lf (.int .i64),.lf (.int .i64),.same,.same] 2 1048576 [some 4]]) Tryz.func31 rfl rfl (sc' aF5 (sc' aPf (sc' aIA sn'))) (by kernel_rfl)
def aEq:Summ:=sv1 [E8'] [E7']
theorem aMp:Ds 83 aEq:=aJ (C:=cf [] [] 0 false [lh 3 [.same,.lf (.int .i64),.lf (.int .i64)] 2 16777216 [some 0]]) Tryz.func83 rfl rfl sn' (by kernel_rfl)
def aB5:Summ:=sv1 [E16'] [E7']
theorem aJF:Ds 84 aB5:=aJ (C:=cf [(88,xO)] [] 0 false [lh 3 [.same,.lf (.int .i64),.lf (.int .i64)] 2 16777216 [some 0]]) Tryz.func84 rfl rfl (sc' aIA sn') (by kernel_rfl)
def aF6:Summ:=sv1 [⟨false,[.sl 8 16777216 false]⟩] [E7']
theorem aPg:Ds 85 aF6:=aJ (C:=cf [(88,xO)] [] 0 false [lh 3 [.same,.lf (.int .i64),.lf (.int .i64)] 2 16777216 [some 0]]) Tryz.func85 rfl rfl (sc' aIA sn') (by kernel_rfl)
def aZD:Summ:=sv1 [E0'] [E2']
theorem aZE:Ds 30 aZD:=aJ (C:=cf [(83,aEq),(84,aB5),(85,aF6)] [] 0 false [lh 8 (.same :: .lf (.int .i64)::sa 2 (.lf (.int .i64)::sa 9 [])) 4 1048576 [some 2],lh 3 (.same :: .lf (.int .i64) :: .lf (.int .i64)::sa 3 []) 2 1048576 [some 0]]) Tryz.func30 rfl rfl (sc' aMp (sc' aJF (sc' aPg sn'))) (by kernel_rfl)
end Go.Proofs.YtphmfillajagdaaGreat
