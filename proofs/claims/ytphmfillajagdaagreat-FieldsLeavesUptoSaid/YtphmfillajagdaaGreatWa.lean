import Derived.Test.YtphmfillajagdaaGreatGc
import Derived.Test.YtphmfillajagdaaGreatEd
import Derived.Test.YtphmfillajagdaaGreatEt
import Derived.Test.YtphmfillajagdaaGreatGa
import Derived.KernelRfl
set_option linter.unusedVariables false
set_option linter.unusedSimpArgs false
set_option linter.unusedSimpArgs false
open Go Go.Ev
namespace Go.Proofs.YtphmfillajagdaaGreat
def aJj (c:Int):Bool:=(decide (97≤c)&&decide (c≤122))||((decide (65≤c)&&decide (c≤90))||c==95)
def aYs (c:Int):Bool:=decide (48≤c)&&decide (c≤57)
theorem aHz (c:Int):aF7 c=some (aJj c):=by
 apply aNP
 simp only [aAV,aJj,aVD,ge_iff_le]
 cases decide (97≤c)<;>cases decide (c≤122)<;>cases decide (65≤c)<;>cases decide (c≤90)<;>simp
theorem aHA (c:Int):aF6 c=some (aYs c):=by
 apply aNN
 simp only [aAU,aYs,aVD,ge_iff_le]
 cases decide (48≤c)<;>simp
def aSl (c:UInt8):Bool:=aJj c.toNat||aYs c.toNat
def aWF:Str→Bool
 | []=>false
 | c::s=>aJj c.toNat&&s.all aSl
theorem aUB (s : Str) (h : s.length < 4611686018427387904) : aPx s = some (aWF s) := by
 apply aQO
 have key := aI8 (b := nV s) s (fun k (_ : Unit) => (k : Int)) (fun r _ => if r.all (fun c => aSl c) then Sum.inl () else Sum.inr ()) (fun k _ => 1 ≤ k)
  (by
   intro a _
   simp [nV])
  (by
   intro k x r a hk hx hd hI
   have e1 : (decide ((k : Int) < (List.length s : Int))) = true := by simp; omega
   have e3 : IntKind.wrap .i64 ((k : Int) + 1) = ((k + 1 : Nat) : Int) := wadd (by omega)
   simp only [nV, e1, fZ, vD, hx, bP, aHz, aHA, qX, e3]
   cases h1 : aJj x.toNat <;> cases h2 : aYs x.toNat <;> simp [aSl, h1, h2])
 unfold aDv
 cases s with
 | nil => rfl
 | cons c s =>
  have : nthI (c :: s) 0 = some c := rfl
  have e0 : ((c :: s) == ([] : Str)) = false := rfl
  simp only [e0, qX, this, bP, aHz]
  cases h1 : aJj c.toNat with
  | false => simp [aWF, h1]
  | true =>
   have := key 1 () (by simp) (by omega)
   rw [show ((1 : Nat) : Int) = 1 from rfl] at this
   simp only [Bool.not_true, qX, this, List.drop_succ_cons, List.drop_zero, bP, aWF, h1, Bool.true_and]
   cases h2 : s.all aSl <;> simp
open Go Go.Ev
mutual
def szV:GValue→Nat
 | ⟨_,_,s,l,m⟩=>1+s.length+szVs l+szMs m
def szVs:List GValue→Nat
 | []=>0
 | x::l=>szV x+szVs l
def szM:GMember→Nat
 | ⟨n,v⟩=>n.length+szV v
def szMs:List GMember→Nat
 | []=>0
 | x::l=>szM x+szMs l
end
theorem aJk (v:GValue):szV v=1+v.s.length+szVs v.l+szMs v.m:=by cases v;simp only [szV]
theorem aSm (x:GMember):szM x=x.name.length+szV x.v:=by cases x;simp only [szM]
theorem aK7 {x:GValue}:∀ {l:List GValue},x∈l→szV x≤szVs l
 | a::l,h=>by
  simp only [szVs]
  rcases List.mem_cons.1 h with rfl | h
  ·omega
  ·have:=aK7 h;omega
theorem aK8 {x:GMember}:∀ {l:List GMember},x∈l→szM x≤szMs l
 | a::l,h=>by
  simp only [szMs]
  rcases List.mem_cons.1 h with rfl | h
  ·omega
  ·have:=aK8 h;omega
theorem aK9:∀ (l:List GValue),l.length≤szVs l
 | []=>by simp [szVs]
 | a::l=>by have:=aK9 l;have:=aJk a;simp only [szVs,List.length_cons];omega
theorem aLa:∀ (l:List GMember),l.length≤szMs l
 | []=>by simp [szMs]
 | a::l=>by have:=aLa l;have:=aSm a;have:=aJk a.v;simp only [szMs,List.length_cons];omega
mutual
theorem aWG:∀ v:GValue,szV v≤cB v
 | ⟨_,_,s,l,m⟩=>by
  have h1:=aWH l
  have h2:=aWI m
  simp only [szV,cB,bk1,dC];omega
theorem aWH:∀ l:List GValue,szVs l≤pX l
 | []=>by simp [szVs]
 | x::l=>by have:=aWG x;have:=aWH l;simp only [szVs,pX];omega
theorem aZY:∀ x:GMember,szM x≤aW x
 | ⟨n,v⟩=>by have:=aWG v;simp only [szM,aW,dC];omega
theorem aWI:∀ l:List GMember,szMs l≤mO l
 | []=>by simp [szMs]
 | x::l=>by have:=aZY x;have:=aWI l;simp only [szMs,mO];omega
end
theorem wQ (l : List Str) (v : Str) (hl : Sm l) : ∃ i, dB l v = some i ∧ decide (i ≥ 0) = l.contains v := by
 have key := iC (b := bI l v) l (fun k (_ : Nat) => (k : Int)) (fun r k => match r.findIdx? (fun y => v == y) with | some j => Sum.inr ((k + j : Nat) : Int) | none => Sum.inl ()) (fun k a => a = k) hl
  (by intro a _; simp [bI])
  (by
   intro k x r a hm hk hd h1 h2 h3 hI
   subst hI
   simp only [bI, h1, fZ, h2, bP, h3, List.findIdx?_cons]
   cases hv : v == x
   ·refine .inr ⟨a + 1, rfl, rfl, ?_⟩
    simp only [Bool.false_eq_true, if_false]
    cases r.findIdx? (fun y => v == y) with
    | none => rfl
    | some j => simp only [Option.map_some]; congr 2; omega
   ·left; simp) (s := 0) (a := 0) rfl rfl
 have hrun : ∀ i, bY l v = some i → dB l v = some i := fun i h => oX h
 unfold bY at hrun
 rw [key] at hrun
 simp only [bP, Nat.zero_add] at hrun
 have hc : l.contains v = (l.findIdx? (fun y => v == y)).isSome := by
  rw [List.findIdx?_isSome, List.contains_eq_any_beq]
 cases hf : l.findIdx? (fun y => v == y) with
 | none => rw [hf] at hrun hc; exact ⟨-1, hrun _ rfl, by rw [hc]; rfl⟩
 | some j => rw [hf] at hrun hc; exact ⟨(j : Int), hrun _ rfl, by rw [hc]; simp⟩
theorem tK (l:List Str) (v:Str) (hl:Sm l):dQ l v=some (l.contains v):=by
 obtain ⟨i,h1,h2⟩:=wQ l v hl
 apply mT
 simp only [cK,h1,bP,h2]
theorem aCx (l : List Int) (v : Int) (hl : Sm l) : ∃ i, fU l v = some i ∧ decide (i ≥ 0) = l.contains v := by
 have key := iC (b := cE l v) l (fun k (_ : Nat) => (k : Int)) (fun r k => match r.findIdx? (fun y => v == y) with | some j => Sum.inr ((k + j : Nat) : Int) | none => Sum.inl ()) (fun k a => a = k) hl
  (by intro a _; simp [cE])
  (by
   intro k x r a hm hk hd h1 h2 h3 hI
   subst hI
   simp only [cE, h1, fZ, h2, bP, h3, List.findIdx?_cons]
   cases hv : v == x
   ·refine .inr ⟨a + 1, rfl, rfl, ?_⟩
    simp only [Bool.false_eq_true, if_false]
    cases r.findIdx? (fun y => v == y) with
    | none => rfl
    | some j => simp only [Option.map_some]; congr 2; omega
   ·left; simp) (s := 0) (a := 0) rfl rfl
 have hrun : ∀ i, dD l v = some i → fU l v = some i := fun i h => uS h
 unfold dD at hrun
 rw [key] at hrun
 simp only [bP, Nat.zero_add] at hrun
 have hc : l.contains v = (l.findIdx? (fun y => v == y)).isSome := by
  rw [List.findIdx?_isSome, List.contains_eq_any_beq]
 cases hf : l.findIdx? (fun y => v == y) with
 | none => rw [hf] at hrun hc; exact ⟨-1, hrun _ rfl, by rw [hc]; rfl⟩
 | some j => rw [hf] at hrun hc; exact ⟨(j : Int), hrun _ rfl, by rw [hc]; simp⟩
theorem wR (l:List Int) (v:Int) (hl:Sm l):gX l v=some (l.contains v):=by
 obtain ⟨i,h1,h2⟩:=aCx l v hl
 apply rK
 simp only [dJ,h1,bP,h2]
theorem rL (l:List Str) (v:Str) (hl:Sm l):aBj l v=some (l.contains v):=by
 apply aUf
 unfold aF8
 rw [sC (b:=qK l v) l (fun r=>bif r.contains v then .inr () else .inl ()) hl (by simp [qK]) (by
  intro k x r hm h1 h2 h3
  simp only [qK,h1,fZ,h2,bP,h3,List.contains_cons]
  rw [BEq.comm (a:=x) (b:=v)]
  cases v==x
  ·right;simp
  ·left;simp)]
 cases l.contains v<;>rfl
theorem aDA {α:Type} (l:List α) (p:α→Bool) {β:Type} (g:α→β):l.findSome? (fun x=>if p x then some (g x) else none)=(l.find? p).map g:=by
 induction l with
 | nil=>rfl
 | cons a l ih =>
  rw [List.findSome?_cons,List.find?_cons]
  cases p a with
  | true=>rfl
  | false=>exact ih
def addD (l:List Str) (n:Str):List Str:=bif l.contains n then l else l++[n]
theorem aSn (l:List Str) (n:Str):(addD l n).length≤l.length+1:=by
 unfold addD;cases l.contains n<;>simp
theorem aJl {l:List Str} {n:Str} (h:l.Nodup):(addD l n).Nodup:=by
 unfold addD
 cases hc:l.contains n
 ·simp only [cond_false]
  have hm:n∉l:=by simpa using hc
  exact List.nodup_append.2 ⟨h,by simp,fun a ha b hb=>by simp at hb;subst hb;exact fun e=>hm (e ▸ ha)⟩
 ·exact h
theorem aYt {l:List Str} {n x:Str} (h:x∈addD l n):x∈l∨x=n:=by
 unfold addD at h
 cases hc:l.contains n
 ·rw [hc] at h;simpa using h
 ·rw [hc] at h;exact .inl h
abbrev zDef:GDef:=⟨0,[],[],[],[],[]⟩
def pM (n:Str):Bool:=n==[73,110,116]||(n==[83,116,114,105,110,103]||(n==[66,111,111,108,101,97,110]||n==[73,68]))
theorem aNS (n:Str):aG9 n=some (pM n):=by
 apply aK6
 simp only [wB,pM]
 cases n==[73,110,116]<;>cases n==[83,116,114,105,110,103]<;>cases n==[66,111,111,108,101,97,110]<;>rfl
theorem aNT (n:Str):aG7 n=some (pM n):=by
 apply aK1
 simp only [wA,pM]
 cases n==[73,110,116]<;>cases n==[83,116,114,105,110,103]<;>cases n==[66,111,111,108,101,97,110]<;>rfl
def bM (s:GSchema) (n:Str):GDef×Bool:=bif pM n then (⟨0,n,[],[],[],[]⟩,true) else match s.defs.find? (fun d=>d.name==n) with | some d=>(d,true) | none=>(zDef,false)
theorem aJm (s:GSchema) (n:Str) (hl:Sm s.defs):aG8 s n=some (bM s n):=by
 apply aQ4
 unfold aDy bM
 rw [yB (b:=nW s n) s.defs (fun d=>if (d.name==n)=true then some (.inr (d.kind,d.name,d.faces,d.fields,d.parts,d.params)) else none) (.inl ()) hl (by simp [nW]) (by
  intro k x hm h1 h2 h3
  simp only [nW,h1,fZ,h2,bP,h3]
  cases x.name==n<;>rfl)]
 rw [aDA,aNS]
 cases pM n
 ·simp only [bP,qX,cond_false]
  cases s.defs.find? (fun d=>d.name==n)<;>rfl
 ·rfl
theorem aAW (s:GSchema) (n:Str) (hl:Sm s.defs):vL s n=some (bM s n):=by
 apply aQF
 unfold aDt bM
 rw [yB (b:=nU s n) s.defs (fun d=>if (d.name==n)=true then some (.inr (d.kind,d.name,d.faces,d.fields,d.parts,d.params)) else none) (.inl ()) hl (by simp [nU]) (by
  intro k x hm h1 h2 h3
  simp only [nU,h1,fZ,h2,bP,h3]
  cases x.name==n<;>rfl)]
 rw [aDA,aNT]
 cases pM n
 ·simp only [bP,qX,cond_false]
  cases s.defs.find? (fun d=>d.name==n)<;>rfl
 ·rfl
def iE (s:GSchema) (n:Str) (ks:List Int):Bool:=(bM s n).2&&ks.contains (bM s n).1.kind
theorem aJn (s:GSchema) (n:Str) (ks:List Int) (hl:Sm s.defs) (hk:Sm ks):aKy s n ks=some (iE s n ks):=by
 apply aQ6
 simp only [aDz,aJm s n hl,bP,wR ks _ hk,iE]
 cases (bM s n).2<;>rfl
theorem aLb (s:GSchema) (n:Str) (a b c:Int) (hl:Sm s.defs):aWs s n a b c=some (iE s n [a,b,c]):=by
 apply aWA
 simp only [aKZ,aAW s n hl,bP,iE]
 have:[a,b,c].contains (bM s n).1.kind=((bM s n).1.kind==a||((bM s n).1.kind==b||(bM s n).1.kind==c)):=by
  simp only [List.contains_cons,List.contains_nil,Bool.or_false]
 rw [this]
 cases (bM s n).2<;>cases (bM s n).1.kind==a<;>cases (bM s n).1.kind==b<;>rfl
theorem aWJ (s:GSchema) (n:Str) (a b:Int):iE s n [a,b,b]=iE s n [a,b]:=by
 simp only [iE,List.contains_cons,List.contains_nil,Bool.or_false,Bool.or_self]
theorem aUC (s:GSchema) (n:Str) (hl:Sm s.defs):aPy s n=some (iE s n [0,4]) :=
 aQS (by simp [aDw,aJn s n [0,4] hl (by decide)])
theorem aAb (s:GSchema) (n:Str) (hl:Sm s.defs):lL s n=some (iE s n [1,2,3]) :=
 aFO (by simp [oF,aJn s n [1,2,3] hl (by decide)])
theorem aJo (s:GSchema) (n:Str) (hl:Sm s.defs):aKv s n=some (iE s n [0,4]) :=
 aQt (by simp [aDq,aLb s n _ _ _ hl,aWJ])
theorem rM (s:GSchema) (n:Str) (hl:Sm s.defs):lJ s n=some (iE s n [1,2,3]) :=
 aFJ (by simp [oE,aLb s n _ _ _ hl])
structure SOk (s:GSchema):Prop where
 bk:dW s<1073741824
theorem aWK (d:GDef):1≤aD8 d:=by rw [jK];omega
theorem aII (d:GFieldDef):1≤eI d:=by rw [fG];omega
theorem aHB (d:GParam):1≤fQ d:=by rw [lI];omega
theorem aWL (d:GDir):1≤jJ d:=by rw [pY];omega
theorem sU (d:GMember):1≤aW d:=by rw [cO];omega
theorem SOk.defs {s:GSchema} (h:SOk s):s.defs.length<1073741824:=by
 have h1:=h.bk;rw [gU] at h1
 have h2:=cQ aWK s.defs
 omega
theorem SOk.def_bk {s:GSchema} (h:SOk s) {d:GDef} (hd:d∈s.defs):aD8 d<1073741824:=by
 have h1:=h.bk;rw [gU] at h1
 have h2:=dM (f:=aD8) hd
 omega
theorem SOk.faces {s:GSchema} (h:SOk s) (d:GDef) (hd:d∈s.defs):d.faces.length<1073741824:=by
 have h1:=h.def_bk hd;rw [jK] at h1
 have h2:=cQ aMd d.faces
 omega
theorem SOk.parts {s:GSchema} (h:SOk s) (d:GDef) (hd:d∈s.defs):d.parts.length<1073741824:=by
 have h1:=h.def_bk hd;rw [jK] at h1
 have h2:=cQ aMd d.parts
 omega
theorem SOk.fields {s:GSchema} (h:SOk s) (d:GDef) (hd:d∈s.defs):d.fields.length<1073741824:=by
 have h1:=h.def_bk hd;rw [jK] at h1
 have h2:=cQ aII d.fields
 omega
theorem SOk.sm {s:GSchema} (h:SOk s):Sm s.defs:=by have:=h.defs;show s.defs.length<_;omega
theorem aAc (s:GSchema) (n:Str):(bM s n).1∈s.defs∨((bM s n).1.faces=[]∧(bM s n).1.fields=[]∧(bM s n).1.parts=[]∧(bM s n).1.params=[]):=by
 unfold bM
 cases pM n
 ·simp only [cond_false]
  cases h:s.defs.find? (fun d=>d.name==n) with
  | none=>exact .inr ⟨rfl,rfl,rfl,rfl⟩
  | some d=>exact .inl (List.mem_of_find?_eq_some h)
 ·exact .inr ⟨rfl,rfl,rfl,rfl⟩
theorem SOk.partsF {s:GSchema} (h:SOk s) (n:Str):(bM s n).1.parts.length<1073741824:=by
 rcases aAc s n with hm | ⟨_,_,hp,_⟩
 ·exact h.parts _ hm
 ·rw [hp];decide
theorem SOk.fieldsF {s:GSchema} (h:SOk s) (n:Str):(bM s n).1.fields.length<1073741824:=by
 rcases aAc s n with hm | ⟨_,hp,_,_⟩
 ·exact h.fields _ hm
 ·rw [hp];decide
abbrev zF:GFieldDef:=⟨[],[],⟨[],0,0⟩,[]⟩
abbrev tnS:Str:=[95,95,116,121,112,101,110,97,109,101]
abbrev tnF:GFieldDef:=⟨tnS,[],⟨[83,116,114,105,110,103],0,1⟩,[]⟩
theorem aNU (l : List GFieldDef) (d : GDef) (a b : Str) (p q : Int) (name : Str) (s : GSchema) (hl : Sm l) :
  ∃ i, kQ l d a b p q name s = some i ∧ (match l.find? (fun f => f.name == name) with | some f => decide (i < 0) = false ∧ nthI l i = some f | none => decide (i < 0) = true) := by
 have hc : ∀ f, aEd f d a b p q name s = some (f.name == name) := fun f => aID rfl
 have key := iC (b := gD l d a b p q name s) l (fun k (_ : Nat) => (k : Int)) (fun r k => match r.findIdx? (fun f => f.name == name) with | some j => Sum.inr ((k + j : Nat) : Int) | none => Sum.inl ()) (fun k a => a = k) hl
  (by intro a _; simp [gD])
  (by
   intro k x r a' hm hk hd h1 h2 h3 hI
   subst hI
   simp only [gD, h1, fZ, h2, bP, h3, hc, List.findIdx?_cons]
   cases hv : x.name == name
   ·refine .inr ⟨a' + 1, rfl, rfl, ?_⟩
    simp only [Bool.false_eq_true, if_false]
    cases r.findIdx? (fun f => f.name == name) with
    | none => rfl
    | some j => simp only [Option.map_some]; congr 2; omega
   ·left; simp) (s := 0) (a := 0) rfl rfl
 have hrun : ∀ i, mU l d a b p q name s = some i → kQ l d a b p q name s = some i := fun i h => aHu h
 unfold mU at hrun
 rw [key] at hrun
 simp only [bP, Nat.zero_add] at hrun
 cases hf : l.findIdx? (fun f => f.name == name) with
 | none =>
  rw [hf] at hrun
  refine ⟨-1, hrun _ rfl, ?_⟩
  rw [List.findIdx?_eq_none_iff] at hf
  have : l.find? (fun f => f.name == name) = none := List.find?_eq_none.2 fun x hx => by simp [hf x hx]
  rw [this]; rfl
 | some j =>
  rw [hf] at hrun
  refine ⟨(j : Int), hrun _ rfl, ?_⟩
  obtain ⟨hj, hp, hq⟩ := List.findIdx?_eq_some_iff_getElem.1 hf
  have : l.find? (fun f => f.name == name) = some l[j] := by
   rw [List.find?_eq_some_iff_getElem]
   exact ⟨hp, j, hj, rfl, fun k hk => by simpa using hq k hk⟩
  rw [this]
  exact ⟨by simp, by rw [vD, List.getElem?_eq_getElem hj]⟩
def jC (s:GSchema) (typ name:Str):GFieldDef×Bool :=
 bif name==tnS&&iE s typ [1,2,3] then (tnF,true) else bif (bM s typ).1.kind==1||(bM s typ).1.kind==2 then (match (bM s typ).1.fields.find? (fun f=>f.name==name) with | some f=>(f,true) | none=>(zF,false)) else (zF,false)
theorem aUD {s:GSchema} {n:Str} (h:(bM s n).2=false):(bM s n).1=zDef:=by
 revert h
 unfold bM
 cases pM n
 ·simp only [cond_false]
  cases hf:s.defs.find? (fun d=>d.name==n) with
  | none=>intro _;rfl
  | some d=>intro h;simp at h
 ·intro h;simp at h
theorem aHC (s:GSchema) (typ name:Str) (h:SOk s):aF5 s typ name=some (jC s typ name):=by
 apply aNy
 have hs:=h.sm
 have hf:=h.fieldsF typ
 obtain ⟨i,h1,h2⟩:=aNU (bM s typ).1.fields (bM s typ).1 [] [] 0 0 name s (by show (bM s typ).1.fields.length<_;omega)
 have tail:(cnd (!(bM s typ).2) (some (zF,false)) (cnd ((bM s typ).1.kind != 1) (cnd ((bM s typ).1.kind != 2) (some (zF,false)) (cnd (decide (i<0)) (some (zF,false)) (bnd (nthI (bM s typ).1.fields i) fun y=>some (y,true)))) (cnd (decide (i<0)) (some (zF,false)) (bnd (nthI (bM s typ).1.fields i) fun y=>some (y,true))))) =
   some (bif (bM s typ).1.kind==1||(bM s typ).1.kind==2 then (match (bM s typ).1.fields.find? (fun f=>f.name==name) with | some f=>(f,true) | none=>(zF,false)) else (zF,false)):=by
  have e1:((bM s typ).1.kind != 1) = !((bM s typ).1.kind==1):=rfl
  have e2:((bM s typ).1.kind != 2) = !((bM s typ).1.kind==2):=rfl
  cases h3:(bM s typ).2
  ·rw [aUD h3];rfl
  ·rw [e1,e2]
   cases hff:(bM s typ).1.fields.find? (fun f=>f.name==name) with
   | none=>rw [hff] at h2;simp only at h2;rw [h2];cases (bM s typ).1.kind==1<;>cases (bM s typ).1.kind==2<;>rfl
   | some f=>rw [hff] at h2;obtain ⟨h4,h5⟩:=h2;rw [h4,h5];cases (bM s typ).1.kind==1<;>cases (bM s typ).1.kind==2<;>rfl
 simp only [aAS,aAb s typ hs,aJm s typ hs,bP,h1,jC]
 rw [tail]
 cases name==tnS<;>cases iE s typ [1,2,3]<;>rfl
theorem aCy (s:GSchema) (typ name:Str) (h:SOk s):aF3 s typ name=some (jC s typ name):=by
 apply aNk
 have hs:=h.sm
 have hf:=h.fieldsF typ
 have sm:Sm (bM s typ).1.fields:=by show (bM s typ).1.fields.length<_;omega
 have hg:∀ b:Int→Option (Int⊕(Unit⊕(Str×List GParam×Str×Int×Int×List GDir))),(∀ k:Int,b k=cnd (decide (k<(List.length (bM s typ).1.fields:Int))) (bnd (nthI (bM s typ).1.fields k) fun x=>cnd (x.name==name) (bnd (nthI (bM s typ).1.fields k) fun y=>some (.inr (.inr (y.name,y.params,y.t.name,y.t.lists,y.t.musts,y.dirs)))) (some (.inl (IntKind.wrap .i64 (k+1))))) (some (.inr (.inl ())))) →
   bJ b 0=some (match (bM s typ).1.fields.find? (fun f=>f.name==name) with | some y => .inr (y.name,y.params,y.t.name,y.t.lists,y.t.musts,y.dirs) | none => .inl ()):=by
  intro b hb
  rw [yB (b:=b) (bM s typ).1.fields (fun y=>if (y.name==name)=true then some (.inr (y.name,y.params,y.t.name,y.t.lists,y.t.musts,y.dirs)) else none) (.inl ()) sm (by rw [hb];simp) (by
   intro k x hm h1 h2 h3
   rw [hb]
   simp only [h1,fZ,h2,bP,h3]
   cases x.name==name<;>rfl)]
  rw [aDA]
  cases (bM s typ).1.fields.find? (fun f=>f.name==name)<;>rfl
 have e1:((bM s typ).1.kind != 1) = !((bM s typ).1.kind==1):=rfl
 have e2:((bM s typ).1.kind != 2) = !((bM s typ).1.kind==2):=rfl
 simp only [aAQ,rM s typ hs,aAW s typ hs,bP,jC,e1,e2]
 simp only [hg (eF name (bM s typ)) (fun k=>rfl),hg (eF name (bM s typ)) (fun k=>rfl),hg (eF name (bM s typ)) (fun k=>rfl),hg (eF name (bM s typ)) (fun k=>rfl),bP]
 cases hn:name==tnS
 ·cases (bM s typ).1.fields.find? (fun f=>f.name==name)<;>cases (bM s typ).1.kind==1<;>cases (bM s typ).1.kind==2<;>rfl
 ·have hn':name=tnS:=beq_iff_eq.1 hn
  subst hn'
  cases iE s typ [1,2,3]<;>cases (bM s typ).1.fields.find? (fun f=>f.name==tnS)<;>cases (bM s typ).1.kind==1<;>cases (bM s typ).1.kind==2<;>rfl
theorem sV (m:List GMember) (hm:m.length<1073741824) (h:∀ x∈m,aAK x.v=some x.v):qJ m=some m:=by
 apply aIq
 unfold sN
 rw [aGN (b:=iK m) m (fun k a=>(a,(k:Int))) hm (by intro a;simp [iK]) (by
  intro k x a hx h1 h2 h3 h4
  simp only [iK,h1,fZ,h2,bP,h3,h4,h x hx]
  cases x;rfl) (s:=([],0)) rfl]
 rfl
theorem aNV:∀ (n:Nat),n<1073741824→∀ v:GValue,szV v≤n→aAK v=some v:=by
 intro n
 induction n with
 | zero=>intro _ v h;have:=aJk v;omega
 | succ n ih =>
  intro hn v h
  have hv:=aJk v
  have hl:=aK9 v.l
  have hm:=aLa v.m
  apply aNC
  unfold aAT
  rw [aGN (b:=lU v) v.l (fun k a=>(a,(k:Int))) (by omega) (by intro a;simp [lU]) (by
   intro k x a hx h1 h2 h3 h4
   simp only [lU,h1,fZ,h2,bP,h3,h4,ih (by omega) x (by have:=aK7 hx;omega)]) (s:=([],0)) rfl]
  simp only [bP,sV v.m (by omega) fun x hx=>ih (by omega) x.v (by have:=aK8 hx;have:=aSm x;omega)]
  cases v;rfl
theorem aCz (v:GValue) (h:szV v<1073741824):aAK v=some v:=aNV _ h v (Nat.le_refl _)
theorem aEP {m:List GMember} (h:bkSl aW m<1073741824) {x:GMember} (hx:x∈m):szV x.v<1073741824:=by
 have h1:=dM (f:=aW) hx
 have h2:=aZY x
 have h3:=aSm x
 omega
theorem aJp (l:List GDir) (h:bkSl jJ l<1073741824):aKu l=some l:=by
 apply aQl
 unfold aDo
 have hl:=cQ aWL l
 rw [aGN (b:=nR l) l (fun k a=>(a,(k:Int))) (by omega) (by intro a;simp [nR]) (by
  intro k x a hx h1 h2 h3 h4
  have hb:=dM (f:=jJ) hx
  rw [pY] at hb
  have hm:=cQ sU x.args
  simp only [nR,h1,fZ,h2,bP,h3,h4,sV x.args (by omega) fun y hy=>aCz y.v (aEP (by omega) hy)]) (s:=([],0)) rfl]
 rfl
mutual
def wE:GSel→List Str
 | ⟨k,_,n,_,_,_,l⟩=>(bif k==1 then [n] else [])++cZ l
def cZ:List GSel→List Str
 | []=>[]
 | x::l=>wE x++cZ l
end
theorem aJq (x:GSel):wE x=(bif x.kind==1 then [x.name] else [])++cZ x.sels:=by cases x;simp only [wE]
mutual
theorem aEQ:∀ x:GSel,(wE x).length≤gG x
 | ⟨k,a,n,ar,di,o,l⟩=>by
  have h:=aAd l
  simp only [wE,gG,List.length_append]
  cases k==1<;>simp only [cond_true,cond_false,List.length_singleton,List.length_nil,bk1]<;>omega
theorem aAd:∀ l:List GSel,(cZ l).length≤bR l
 | []=>by simp [cZ]
 | x::l=>by have:=aEQ x;have:=aAd l;simp only [cZ,bR,List.length_append];omega
end
theorem nX {x:GSel} {l:List GSel} (h:x∈l):gG x≤bR l:=by rw [eP];exact gS gG h
theorem nY (x:GSel):bR x.sels+1≤gG x:=by rw [gV,eP];simp only [bkSl];omega
theorem aWM (x:GSel):1≤gG x:=by rw [gV];omega
theorem fA (l:List GSel):l.length≤bR l:=by rw [eP];exact mI gG aWM l
theorem rN:∀ (ns l:List Str),(ns.foldl addD l).length≤l.length+ns.length
 | [],l=>by simp
 | n::ns,l=>by have:=rN ns (addD l n);have:=aSn l n;rw [List.foldl_cons,List.length_cons];omega
theorem aCA:∀ (ns l:List Str),l.Nodup→(ns.foldl addD l).Nodup
 | [],l,h=>h
 | n::ns,l,h=>aCA ns _ (aJl h)
theorem aSo (l:List Str) (n x:Str):x∈addD l n↔x∈l∨x=n:=by
 constructor
 ·exact aYt
 ·unfold addD
  cases hc:l.contains n
  ·intro h;simpa using h
  ·rintro (h | h)
   ·exact h
   ·subst h;simpa using hc
theorem jZ:∀ (ns l:List Str) (x:Str),x∈ns.foldl addD l↔x∈l∨x∈ns
 | [],l,x=>by simp
 | n::ns,l,x=>by rw [List.foldl_cons,jZ ns,aSo,List.mem_cons];exact or_assoc
theorem aQ7 (l:List Str) (n:Str):∃ t,addD l n=l++t:=by
 unfold addD;cases l.contains n
 ·exact ⟨[n],rfl⟩
 ·exact ⟨[],by simp⟩
theorem aFn:∀ (ns l:List Str),∃ t,ns.foldl addD l=l++t
 | [],l=>⟨[],by simp⟩
 | n::ns,l=>by
  obtain ⟨t,ht⟩:=aQ7 l n
  obtain ⟨u,hu⟩:=aFn ns (addD l n)
  exact ⟨t++u,by rw [List.foldl_cons,hu,ht,List.append_assoc]⟩
theorem aER : ∀ (n : Nat), ∀ (sels : List GSel) (l : List Str), bR sels ≤ n → l.length + bR sels < 1073741824 → fH l sels = some ((cZ sels).foldl addD l) := by
 intro n
 induction n with
 | zero =>
  intro sels l h hl
  have := fA sels
  have hs : sels = [] := List.length_eq_zero_iff.1 (by omega)
  subst hs
  apply uK
  unfold iZ
  rw [cC (r := l) (by simp [dH])]
  rfl
 | succ n ih =>
  intro sels l h hl
  apply uK
  unfold iZ
  have hlen := fA sels
  have key := iC (b := dH sels) sels (fun k (a : List Str) => (a, (k : Int))) (fun r a => (cZ r).foldl addD a) (fun k a => a.length + bR (sels.drop k) < 1073741824) (by show sels.length < _; omega)
   (by intro a _; simp [dH, cZ])
   (by
    intro k x r a hm hk hd h1 h2 h3 hI
    rw [hd] at hI
    simp only [bR] at hI
    have hdr : sels.drop (k + 1) = r := by rw [← List.tail_drop, hd]; rfl
    have hx := nX hm
    have hx2 := nY x
    have hrec : ∀ a' : List Str, a'.length ≤ a.length + 1 → fH a' x.sels = some ((cZ x.sels).foldl addD a') := fun a' ha' => ih x.sels a' (by omega) (by omega)
    have hb := aEQ x
    refine .inr ⟨(wE x).foldl addD a, ?_, ?_, ?_⟩
    ·rw [aJq]
     simp only [dH, h1, fZ, h2, bP, h3, tK a x.name (by show a.length < _; omega), hrec a (by omega)]
     cases x.kind == 1
     ·rfl
     ·have ht : tapp a [x.name] = some (a ++ [x.name]) := yA (by simp [aBE]; omega)
      simp only [fZ, cond_true, List.cons_append, List.nil_append, List.foldl_cons, addD, ht, bP, hrec (a ++ [x.name]) (by simp)]
      cases a.contains x.name <;> rfl
    ·rw [hdr]
     have := rN (wE x) a
     omega
    ·simp only [cZ, List.foldl_append]) (s := (l, 0)) (a := l) rfl (by simpa using hl)
  rw [key]; rfl
theorem aFP (sels:List GSel) (l:List Str) (h:l.length+bR sels<1073741824):fH l sels=some ((cZ sels).foldl addD l):=aER _ sels l (Nat.le_refl _) h
abbrev bCi:GFrag:=⟨[],[],[],[]⟩
def wF (d:GDoc) (n:Str):GFrag×Bool:=match d.frags.find? (fun f=>f.name==n) with | some f=>(f,true) | none=>(bCi,false)
theorem aHD {d:GDoc} {n:Str} (h:(wF d n).2=true):(wF d n).1∈d.frags∧(wF d n).1.name=n:=by
 revert h
 unfold wF
 cases hf:d.frags.find? (fun f=>f.name==n) with
 | none=>intro h;simp at h
 | some f=>intro _;exact ⟨List.mem_of_find?_eq_some hf,by simpa using List.find?_some hf⟩
theorem aYu {d:GDoc} {f:GFrag} (h:f∈d.frags):(wF d f.name).2=true:=by
 unfold wF
 cases hf:d.frags.find? (fun g=>g.name==f.name) with
 | none=>have:=List.find?_eq_none.1 hf f h;simp at this
 | some g=>rfl
def aCB (d:GDoc) (S:Str→Prop):Prop:=∀ n,S n→(wF d n).2=true→∀ m∈cZ (wF d n).1.sels,S m
def allN (d:GDoc) (sels:List GSel):List Str:=cZ sels++d.frags.flatMap fun f=>cZ f.sels
theorem kF:∀ l:List GFrag,(l.flatMap fun f=>cZ f.sels).length≤sumL gB l
 | []=>by simp [sumL]
 | f::l=>by
  have h1:=kF l
  have h2:=aAd f.sels
  have h3:bR f.sels≤gB f:=by rw [iV,eP];simp only [bkSl];omega
  simp only [List.flatMap_cons,List.length_append,sumL];omega
theorem wG (d:GDoc):sumL gB d.frags+1≤jL d:=by rw [vK];simp only [bkSl];omega
theorem aES (f:GFrag):1≤gB f:=by rw [iV];omega
theorem aHE (d:GDoc):d.frags.length+1≤jL d:=by
 have:=wG d;have:=mI gB aES d.frags;omega
open Go Go.Ev Go.Ev.PV
abbrev E0':El:=⟨true,[(.sl 3 1048576 false),.str,.str]⟩
abbrev E1':El:=⟨true,[(.int .i64),(.int .i64),.str,(.sl 6 1048576 false),(.sl 7 1048576 false)]⟩
abbrev E2':El:=⟨false,[.bool]⟩
abbrev E3':El:=⟨true,[(.sl 10 1048576 false),(.sl 13 1048576 false)]⟩
abbrev E4':El:=⟨true,[.str,.str,(.int .i64),(.int .i64),.bool,(.int .i64),(.int .i64),.str,(.sl 6 1048576 false),(.sl 7 1048576 false)]⟩
abbrev E5':El:=⟨true,[(.int .i64),.str,(.sl 0 1048576 false),(.sl 4 1048576 false),(.sl 0 1048576 false),(.sl 5 1048576 false)]⟩
abbrev E6':El:=⟨true,[.str,(.sl 5 1048576 false),.str,(.int .i64),(.int .i64),(.sl 8 1048576 false)]⟩
abbrev E7':El:=⟨false,[(.int .i64)]⟩
abbrev E8':El:=⟨false,[.sl 0 16777216 false]⟩
abbrev E9':El:=⟨true,[(.int .i64),.str,.str,(.sl 7 1048576 false),(.sl 8 1048576 false),.str,(.sl 12 1048576 false)]⟩
abbrev E10':El:=⟨true,[.str,(.int .i64),(.int .i64)]⟩
abbrev E11':El:=⟨true,[(.int .i64),.str,(.sl 11 1048576 false),(.sl 8 1048576 false),(.sl 12 1048576 false)]⟩
abbrev E12':El:=⟨false,[.str]⟩
abbrev E13':El:=⟨true,[.str,.str,(.sl 8 1048576 false),(.sl 12 1048576 false)]⟩
abbrev E16':El:=⟨false,[.sl 5 16777216 false]⟩
def sa:Nat→List HV→List HV
 | 0,l=>l
 | n+1,l => .same::sa n l
def lh (i:Nat) (hv:List HV) (cnt top:Nat) (ws:List (Option Nat)):Nat×LH:=(i,{hv:=hv,cnt:=cnt,top:=top,ex:=ws.map fun w=>(w,hv)})
def sv1 (ins outs:List El):Summ:={ins:=ins,outs:=outs}
def sv2 (ins outs:List El):Summ:={ins:=ins,outs:=outs,cap:=2097152}
def tτ:Tb:=[⟨false,[.str]⟩,⟨false,[(.int .i64)]⟩,⟨true,[(.sl 3 1048576 false),.str,.str]⟩,⟨true,[(.int .i64),.str,(.sl 0 1048576 false),(.sl 4 1048576 false),(.sl 0 1048576 false),(.sl 5 1048576 false)]⟩,⟨true,[.str,(.sl 5 1048576 false),.str,(.int .i64),(.int .i64),(.sl 8 1048576 false)]⟩,⟨true,[.str,.str,(.int .i64),(.int .i64),.bool,(.int .i64),(.int .i64),.str,(.sl 6 1048576 false),(.sl 7 1048576 false)]⟩,⟨true,[(.int .i64),(.int .i64),.str,(.sl 6 1048576 false),(.sl 7 1048576 false)]⟩,⟨true,[.str,(.int .i64),(.int .i64),.str,(.sl 6 1048576 false),(.sl 7 1048576 false)]⟩,⟨true,[.str,(.sl 7 1048576 false)]⟩,⟨true,[(.sl 10 1048576 false),(.sl 13 1048576 false)]⟩,⟨true,[(.int .i64),.str,(.sl 11 1048576 false),(.sl 8 1048576 false),(.sl 12 1048576 false)]⟩,⟨true,[.str,.str,(.int .i64),(.int .i64),.bool,(.int .i64),(.int .i64),.str,(.sl 6 1048576 false),(.sl 7 1048576 false)]⟩,⟨true,[(.int .i64),.str,.str,(.sl 7 1048576 false),(.sl 8 1048576 false),.str,(.sl 12 1048576 false)]⟩,⟨true,[.str,.str,(.sl 8 1048576 false),(.sl 12 1048576 false)]⟩,⟨false,[(.sl 8 1048576 false)]⟩,⟨true,[.str,(.int .i64),(.int .i64)]⟩,⟨true,[.str,(.int .i64),.str,.str,(.sl 7 1048576 false),(.sl 8 1048576 false),.str,(.sl 12 1048576 false)]⟩,⟨true,[.str,.str,(.int .i64),(.int .i64),.bool]⟩]
def cf (s:STb) (r:List (FuncId×Summ×Nat)) (me:Nat) (ag:Bool) (l:List (Nat×LH)):Cfg:={τ:=tτ,sums:=s,recs:=r,me:=me,meAg:=ag,loops:=l}
def cg (s:STb) (r:List (FuncId×Summ×Nat)) (me:Nat) (ag:Bool) (l:List (Nat×LH)) (np:Nat):Cfg:={τ:=tτ,sums:=s,recs:=r,me:=me,meAg:=ag,loops:=l,cap:=2097152,np:=np}
abbrev Ds (f:FuncId) (sm:Summ):Prop:=aKl Tryz.prog MT XT tτ f sm
theorem aX (s:Str):dC s=s.length+1:=rfl
theorem lfSl {α:Type} {τ:Tb} {n ub:Nat} {enc:α→PV} {l:List α} (h:∀ x∈l,ElOk τ (elOf τ n) (enc x)) (hl:l.length≤ub):LfOk τ (.sl n ub false) (.slice (l.map enc) [] false):=by
 refine .sl (fun e he => ?_) (by simpa using hl)
 obtain ⟨x,hx,rfl⟩:=List.mem_map.1 he
 exact h x hx
theorem okVM:∀ n:Nat,n≤1048576→(∀ x:GValue,cB x≤n→ElOk tτ (elOf tτ 6) (aN x))∧(∀ x:GMember,aW x≤n→ElOk tτ (elOf tτ 7) (aD x)):=by
 intro n
 induction n with
 | zero=>intro _;exact ⟨fun x h=>by rw [cD] at h;omega,fun x h=>by rw [cO] at h;omega⟩
 | succ n ih =>
  intro hn
  obtain ⟨ihV,ihM⟩:=ih (by omega)
  have ihValue:=ihV
  have ihMember:=ihM
  refine ⟨fun x hb => ?_,fun x hb => ?_⟩
  ·simp only [cD,bk1,aX] at hb
   rw [eO]
   change ElOk tτ ⟨true,[(.int .i64),(.int .i64),.str,(.sl 6 1048576 false),(.sl 7 1048576 false)]⟩ _
   exact .ag (.cons (.int _ _) (.cons (.int _ _) (.cons (.str (by unfold topL;omega)) (.cons (lfSl (fun y hy=>ihValue y (by have:=dM (f:=cB) hy;omega)) (by have:=cQ (f:=cB) (fun d=>by rw [cD];omega) x.l;omega)) (.cons (lfSl (fun y hy=>ihMember y (by have:=dM (f:=aW) hy;omega)) (by have:=cQ (f:=aW) (fun d=>by rw [cO];omega) x.m;omega)) (.nil))))))
  
  ·simp only [cO,cD,bk1,aX] at hb
   rw [iT]
   change ElOk tτ ⟨true,[.str,(.int .i64),(.int .i64),.str,(.sl 6 1048576 false),(.sl 7 1048576 false)]⟩ _
   exact .ag (.cons (.str (by unfold topL;omega)) (.cons (.int _ _) (.cons (.int _ _) (.cons (.str (by unfold topL;omega)) (.cons (lfSl (fun y hy=>ihValue y (by have:=dM (f:=cB) hy;omega)) (by have:=cQ (f:=cB) (fun d=>by rw [cD];omega) x.v.l;omega)) (.cons (lfSl (fun y hy=>ihMember y (by have:=dM (f:=aW) hy;omega)) (by have:=cQ (f:=aW) (fun d=>by rw [cO];omega) x.v.m;omega)) (.nil)))))))
theorem aWN (x:GValue) (h:cB x≤1048576):ElOk tτ (elOf tτ 6) (aN x):=(okVM _ (Nat.le_refl _)).1 x h
theorem aF9 (x:GMember) (h:aW x≤1048576):ElOk tτ (elOf tτ 7) (aD x):=(okVM _ (Nat.le_refl _)).2 x h
theorem aQ8 (x:GParam) (hb:fQ x≤1048576):ElOk tτ (elOf tτ 5) (aQ x):=by
 simp only [lI,jW,cD,bk1,aX] at hb
 rw [iU]
 change ElOk tτ ⟨true,[.str,.str,(.int .i64),(.int .i64),.bool,(.int .i64),(.int .i64),.str,(.sl 6 1048576 false),(.sl 7 1048576 false)]⟩ _
 exact .ag (.cons (.str (by unfold topL;omega)) (.cons (.str (by unfold topL;omega)) (.cons (.int _ _) (.cons (.int _ _) (.cons (.bool _) (.cons (.int _ _) (.cons (.int _ _) (.cons (.str (by unfold topL;omega)) (.cons (lfSl (fun y hy=>aWN y (by have:=dM (f:=cB) hy;omega)) (by have:=cQ (f:=cB) (fun d=>by rw [cD];omega) x.default.l;omega)) (.cons (lfSl (fun y hy=>aF9 y (by have:=dM (f:=aW) hy;omega)) (by have:=cQ (f:=aW) (fun d=>by rw [cO];omega) x.default.m;omega)) (.nil)))))))))))
theorem aYv (x:GDir) (hb:jJ x≤1048576):ElOk tτ (elOf tτ 8) (aU x):=by
 simp only [pY,bk1,aX] at hb
 rw [oK]
 change ElOk tτ ⟨true,[.str,(.sl 7 1048576 false)]⟩ _
 exact .ag (.cons (.str (by unfold topL;omega)) (.cons (lfSl (fun y hy=>aF9 y (by have:=dM (f:=aW) hy;omega)) (by have:=cQ (f:=aW) (fun d=>by rw [cO];omega) x.args;omega)) (.nil)))
theorem aUE (x:GFieldDef) (hb:eI x≤1048576):ElOk tτ (elOf tτ 4) (aG x):=by
 simp only [fG,jW,bk1,aX] at hb
 rw [dY]
 change ElOk tτ ⟨true,[.str,(.sl 5 1048576 false),.str,(.int .i64),(.int .i64),(.sl 8 1048576 false)]⟩ _
 exact .ag (.cons (.str (by unfold topL;omega)) (.cons (lfSl (fun y hy=>aQ8 y (by have:=dM (f:=fQ) hy;omega)) (by have:=cQ (f:=fQ) (fun d=>by rw [lI];omega) x.params;omega)) (.cons (.str (by unfold topL;omega)) (.cons (.int _ _) (.cons (.int _ _) (.cons (lfSl (fun y hy=>aYv y (by have:=dM (f:=jJ) hy;omega)) (by have:=cQ (f:=jJ) (fun d=>by rw [pY];omega) x.dirs;omega)) (.nil)))))))
theorem bCj (x:GDef) (hb:aD8 x≤1048576):ElOk tτ (elOf tτ 3) (aK x):=by
 simp only [jK,bk1,aX] at hb
 rw [oL]
 change ElOk tτ ⟨true,[(.int .i64),.str,(.sl 0 1048576 false),(.sl 4 1048576 false),(.sl 0 1048576 false),(.sl 5 1048576 false)]⟩ _
 exact .ag (.cons (.int _ _) (.cons (.str (by unfold topL;omega)) (.cons (lfSl (fun y hy => .one (.str (by have:=dM (f:=dC) hy;rw [aX] at this;unfold topL;omega))) (by have:=cQ (f:=dC) (fun d=>by rw [aX];omega) x.faces;omega)) (.cons (lfSl (fun y hy=>aUE y (by have:=dM (f:=eI) hy;omega)) (by have:=cQ (f:=eI) (fun d=>by rw [fG];omega) x.fields;omega)) (.cons (lfSl (fun y hy => .one (.str (by have:=dM (f:=dC) hy;rw [aX] at this;unfold topL;omega))) (by have:=cQ (f:=dC) (fun d=>by rw [aX];omega) x.parts;omega)) (.cons (lfSl (fun y hy=>aQ8 y (by have:=dM (f:=fQ) hy;omega)) (by have:=cQ (f:=fQ) (fun d=>by rw [lI];omega) x.params;omega)) (.nil)))))))
theorem aDB (x:GSchema) (hb:dW x≤1048576):ElOk tτ (elOf tτ 2) (cL x):=by
 simp only [gU,bk1,aX] at hb
 rw [gH]
 change ElOk tτ ⟨true,[(.sl 3 1048576 false),.str,.str]⟩ _
 exact .ag (.cons (lfSl (fun y hy=>bCj y (by have:=dM (f:=aD8) hy;omega)) (by have:=cQ (f:=aD8) (fun d=>by rw [jK];omega) x.defs;omega)) (.cons (.str (by unfold topL;omega)) (.cons (.str (by unfold topL;omega)) (.nil))))
theorem aYw (x:GVarDef) (hb:pZ x≤1048576):ElOk tτ (elOf tτ 11) (aY x):=by
 simp only [rC,jW,cD,bk1,aX] at hb
 rw [dZ]
 change ElOk tτ ⟨true,[.str,.str,(.int .i64),(.int .i64),.bool,(.int .i64),(.int .i64),.str,(.sl 6 1048576 false),(.sl 7 1048576 false)]⟩ _
 exact .ag (.cons (.str (by unfold topL;omega)) (.cons (.str (by unfold topL;omega)) (.cons (.int _ _) (.cons (.int _ _) (.cons (.bool _) (.cons (.int _ _) (.cons (.int _ _) (.cons (.str (by unfold topL;omega)) (.cons (lfSl (fun y hy=>aWN y (by have:=dM (f:=cB) hy;omega)) (by have:=cQ (f:=cB) (fun d=>by rw [cD];omega) x.default.l;omega)) (.cons (lfSl (fun y hy=>aF9 y (by have:=dM (f:=aW) hy;omega)) (by have:=cQ (f:=aW) (fun d=>by rw [cO];omega) x.default.m;omega)) (.nil)))))))))))
theorem bBR:∀ n:Nat,n≤1048576→∀ x:GSel,gG x≤n→ElOk tτ (elOf tτ 12) (aF x):=by
 intro n
 induction n with
 | zero=>intro _ x h;rw [gV] at h;omega
 | succ n ih =>
  intro hn x hb
  have ihSel:=ih (by omega)
  simp only [gV,bk1,aX] at hb
  rw [fF]
  change ElOk tτ ⟨true,[(.int .i64),.str,.str,(.sl 7 1048576 false),(.sl 8 1048576 false),.str,(.sl 12 1048576 false)]⟩ _
  exact .ag (.cons (.int _ _) (.cons (.str (by unfold topL;omega)) (.cons (.str (by unfold topL;omega)) (.cons (lfSl (fun y hy=>aF9 y (by have:=dM (f:=aW) hy;omega)) (by have:=cQ (f:=aW) (fun d=>by rw [cO];omega) x.args;omega)) (.cons (lfSl (fun y hy=>aYv y (by have:=dM (f:=jJ) hy;omega)) (by have:=cQ (f:=jJ) (fun d=>by rw [pY];omega) x.dirs;omega)) (.cons (.str (by unfold topL;omega)) (.cons (lfSl (fun y hy=>ihSel y (by have:=dM (f:=gG) hy;omega)) (by have:=cQ (f:=gG) (fun d=>by rw [gV];omega) x.sels;omega)) (.nil))))))))
theorem bBS (x:GSel) (h:gG x≤1048576):ElOk tτ (elOf tτ 12) (aF x):=bBR _ (Nat.le_refl _) x h
theorem okOp (x:GOp) (hb:bkOp x≤1048576):ElOk tτ (elOf tτ 10) (bL x):=by
 simp only [nL,bk1,aX] at hb
 rw [gT]
 change ElOk tτ ⟨true,[(.int .i64),.str,(.sl 11 1048576 false),(.sl 8 1048576 false),(.sl 12 1048576 false)]⟩ _
 exact .ag (.cons (.int _ _) (.cons (.str (by unfold topL;omega)) (.cons (lfSl (fun y hy=>aYw y (by have:=dM (f:=pZ) hy;omega)) (by have:=cQ (f:=pZ) (fun d=>by rw [rC];omega) x.vars;omega)) (.cons (lfSl (fun y hy=>aYv y (by have:=dM (f:=jJ) hy;omega)) (by have:=cQ (f:=jJ) (fun d=>by rw [pY];omega) x.dirs;omega)) (.cons (lfSl (fun y hy=>bBS y (by have:=dM (f:=gG) hy;omega)) (by have:=cQ (f:=gG) (fun d=>by rw [gV];omega) x.sels;omega)) (.nil))))))
theorem bBT (x:GFrag) (hb:gB x≤1048576):ElOk tτ (elOf tτ 13) (aJ x):=by
 simp only [iV,bk1,aX] at hb
 rw [dF]
 change ElOk tτ ⟨true,[.str,.str,(.sl 8 1048576 false),(.sl 12 1048576 false)]⟩ _
 exact .ag (.cons (.str (by unfold topL;omega)) (.cons (.str (by unfold topL;omega)) (.cons (lfSl (fun y hy=>aYv y (by have:=dM (f:=jJ) hy;omega)) (by have:=cQ (f:=jJ) (fun d=>by rw [pY];omega) x.dirs;omega)) (.cons (lfSl (fun y hy=>bBS y (by have:=dM (f:=gG) hy;omega)) (by have:=cQ (f:=gG) (fun d=>by rw [gV];omega) x.sels;omega)) (.nil)))))
theorem bAK (x:GDoc) (hb:jL x≤1048576):ElOk tτ (elOf tτ 9) (lH x):=by
 simp only [vK,bk1,aX] at hb
 rw [mN]
 change ElOk tτ ⟨true,[(.sl 10 1048576 false),(.sl 13 1048576 false)]⟩ _
 exact .ag (.cons (lfSl (fun y hy=>okOp y (by have:=dM (f:=bkOp) hy;omega)) (by have:=cQ (f:=bkOp) (fun d=>by rw [nL];omega) x.ops;omega)) (.cons (lfSl (fun y hy=>bBT y (by have:=dM (f:=gB) hy;omega)) (by have:=cQ (f:=gB) (fun d=>by rw [iV];omega) x.frags;omega)) (.nil)))
theorem aL {τ:Tb} {l:Lf} {ls:List Lf} {vs:List PV} (h:CsOk τ (l::ls) vs):∃ v r,vs=v::r∧LfOk τ l v∧CsOk τ ls r:=by
 cases h with | cons h hs=>exact ⟨_,_,rfl,h,hs⟩
theorem uT {τ:Tb} {vs:List PV} (h:CsOk τ [] vs):vs=[]:=by cases h;rfl
theorem iF {τ:Tb} {v:PV} (h:LfOk τ .str v):∃ s,v = .str s∧s.length≤topL:=by cases h with | str h=>exact ⟨_,rfl,h⟩
theorem lW {τ:Tb} {k:IntKind} {v:PV} (h:LfOk τ (.int k) v):∃ n,v = .int k n:=by cases h with | int k n=>exact ⟨_,rfl⟩
theorem aLc {τ:Tb} {v:PV} (h:LfOk τ .bool v):∃ b,v = .bool b:=by cases h with | bool b=>exact ⟨_,rfl⟩
theorem nB {τ:Tb} {n ub:Nat} {o:Bool} {v:PV} (h:LfOk τ (.sl n ub o) v):∃ es,v = .slice es [] o∧(∀ e,e∈es→ElOk τ (elOf τ n) e)∧es.length≤ub:=by cases h with | sl h hl=>exact ⟨_,rfl,h,hl⟩
theorem bZ {α:Type} {f:α→PV}:∀ {es:List PV},(∀ e,e∈es→∃ x,e=f x)→∃ l,es=List.map f l
 | [],_=>⟨[],rfl⟩
 | e::es,h=>by
  obtain ⟨x,rfl⟩:=h e (by simp)
  obtain ⟨l,rfl⟩:=bZ (f:=f) (es:=es) (fun e he=>h e (by simp [he]))
  exact ⟨x::l,rfl⟩
theorem aWO {e:PV} (h:ElOk tτ ⟨false,[.str]⟩ e):∃ s,e=PV.str s:=by
 cases h with | one h=>obtain ⟨s,rfl,_⟩:=iF h;exact ⟨s,rfl⟩
theorem bAL {e:PV} (h:ElOk tτ (elOf tτ 15) e):∃ x,e=iS x:=by
 change ElOk tτ ⟨true,[.str,(.int .i64),(.int .i64)]⟩ e at h
 cases h with
 | ag hs =>
  obtain ⟨_,_,rfl,h0,hs1⟩:=aL hs
  obtain ⟨v0,rfl,_⟩:=iF h0
  obtain ⟨_,_,rfl,h1,hs2⟩:=aL hs1
  obtain ⟨v1,rfl⟩:=lW h1
  obtain ⟨_,_,rfl,h2,hs3⟩:=aL hs2
  obtain ⟨v2,rfl⟩:=lW h2
  cases uT hs3
  exact ⟨⟨v0,v1,v2⟩,by rw [iH]⟩
theorem bBU:∀ n:Nat,(∀ e:PV,bK e≤n→ElOk tτ (elOf tτ 6) e→∃ x,e=aN x)∧(∀ e:PV,bK e≤n→ElOk tτ (elOf tτ 7) e→∃ x,e=aD x):=by
 intro n
 induction n with
 | zero =>
  refine ⟨fun e hp => ?_,fun e hp => ?_⟩<;>(exfalso;cases e<;>simp only [bK] at hp<;>omega)
 | succ n ih =>
  obtain ⟨ihValue,ihMember⟩:=ih
  refine ⟨fun e hp h => ?_,fun e hp h => ?_⟩
  ·change ElOk tτ ⟨true,[(.int .i64),(.int .i64),.str,(.sl 6 1048576 false),(.sl 7 1048576 false)]⟩ e at h
   cases h with
   | ag hs =>
    obtain ⟨_,_,rfl,h0,hs1⟩:=aL hs
    obtain ⟨v0,rfl⟩:=lW h0
    obtain ⟨_,_,rfl,h1,hs2⟩:=aL hs1
    obtain ⟨v1,rfl⟩:=lW h1
    obtain ⟨_,_,rfl,h2,hs3⟩:=aL hs2
    obtain ⟨v2,rfl,_⟩:=iF h2
    obtain ⟨_,_,rfl,h3,hs4⟩:=aL hs3
    obtain ⟨es3,rfl,he3,_⟩:=nB h3
    obtain ⟨_,_,rfl,h4,hs5⟩:=aL hs4
    obtain ⟨es4,rfl,he4,_⟩:=nB h4
    cases uT hs5
    obtain ⟨v3,rfl⟩:=bZ (f:=aN) (fun e he=>ihValue e (by have:=lG he;simp only [bK,dI] at hp;omega) (he3 e he))
    obtain ⟨v4,rfl⟩:=bZ (f:=aD) (fun e he=>ihMember e (by have:=lG he;simp only [bK,dI] at hp;omega) (he4 e he))
    exact ⟨⟨v0,v1,v2,v3,v4⟩,by rw [eO]⟩
  ·change ElOk tτ ⟨true,[.str,(.int .i64),(.int .i64),.str,(.sl 6 1048576 false),(.sl 7 1048576 false)]⟩ e at h
   cases h with
   | ag hs =>
    obtain ⟨_,_,rfl,h0,hs1⟩:=aL hs
    obtain ⟨v0,rfl,_⟩:=iF h0
    obtain ⟨_,_,rfl,h1,hs2⟩:=aL hs1
    obtain ⟨v1,rfl⟩:=lW h1
    obtain ⟨_,_,rfl,h2,hs3⟩:=aL hs2
    obtain ⟨v2,rfl⟩:=lW h2
    obtain ⟨_,_,rfl,h3,hs4⟩:=aL hs3
    obtain ⟨v3,rfl,_⟩:=iF h3
    obtain ⟨_,_,rfl,h4,hs5⟩:=aL hs4
    obtain ⟨es4,rfl,he4,_⟩:=nB h4
    obtain ⟨_,_,rfl,h5,hs6⟩:=aL hs5
    obtain ⟨es5,rfl,he5,_⟩:=nB h5
    cases uT hs6
    obtain ⟨v4,rfl⟩:=bZ (f:=aN) (fun e he=>ihValue e (by have:=lG he;simp only [bK,dI] at hp;omega) (he4 e he))
    obtain ⟨v5,rfl⟩:=bZ (f:=aD) (fun e he=>ihMember e (by have:=lG he;simp only [bK,dI] at hp;omega) (he5 e he))
    exact ⟨⟨v0,⟨v1,v2,v3,v4,v5⟩⟩,by rw [iT]⟩
theorem aGa {e:PV} (h:ElOk tτ (elOf tτ 6) e):∃ x,e=aN x:=(bBU (bK e)).1 e (Nat.le_refl _) h
theorem aDC {e:PV} (h:ElOk tτ (elOf tτ 7) e):∃ x,e=aD x:=(bBU (bK e)).2 e (Nat.le_refl _) h
theorem aSp {e:PV} (h:ElOk tτ (elOf tτ 5) e):∃ x,e=aQ x:=by
 change ElOk tτ ⟨true,[.str,.str,(.int .i64),(.int .i64),.bool,(.int .i64),(.int .i64),.str,(.sl 6 1048576 false),(.sl 7 1048576 false)]⟩ e at h
 cases h with
 | ag hs =>
  obtain ⟨_,_,rfl,h0,hs1⟩:=aL hs
  obtain ⟨v0,rfl,_⟩:=iF h0
  obtain ⟨_,_,rfl,h1,hs2⟩:=aL hs1
  obtain ⟨v1,rfl,_⟩:=iF h1
  obtain ⟨_,_,rfl,h2,hs3⟩:=aL hs2
  obtain ⟨v2,rfl⟩:=lW h2
  obtain ⟨_,_,rfl,h3,hs4⟩:=aL hs3
  obtain ⟨v3,rfl⟩:=lW h3
  obtain ⟨_,_,rfl,h4,hs5⟩:=aL hs4
  obtain ⟨v4,rfl⟩:=aLc h4
  obtain ⟨_,_,rfl,h5,hs6⟩:=aL hs5
  obtain ⟨v5,rfl⟩:=lW h5
  obtain ⟨_,_,rfl,h6,hs7⟩:=aL hs6
  obtain ⟨v6,rfl⟩:=lW h6
  obtain ⟨_,_,rfl,h7,hs8⟩:=aL hs7
  obtain ⟨v7,rfl,_⟩:=iF h7
  obtain ⟨_,_,rfl,h8,hs9⟩:=aL hs8
  obtain ⟨es8,rfl,he8,_⟩:=nB h8
  obtain ⟨_,_,rfl,h9,hs10⟩:=aL hs9
  obtain ⟨es9,rfl,he9,_⟩:=nB h9
  cases uT hs10
  obtain ⟨v8,rfl⟩:=bZ (f:=aN) (fun e he=>aGa (he8 e he))
  obtain ⟨v9,rfl⟩:=bZ (f:=aD) (fun e he=>aDC (he9 e he))
  exact ⟨⟨v0,⟨v1,v2,v3⟩,v4,⟨v5,v6,v7,v8,v9⟩⟩,by rw [iU]⟩
theorem aSq {e:PV} (h:ElOk tτ (elOf tτ 8) e):∃ x,e=aU x:=by
 change ElOk tτ ⟨true,[.str,(.sl 7 1048576 false)]⟩ e at h
 cases h with
 | ag hs =>
  obtain ⟨_,_,rfl,h0,hs1⟩:=aL hs
  obtain ⟨v0,rfl,_⟩:=iF h0
  obtain ⟨_,_,rfl,h1,hs2⟩:=aL hs1
  obtain ⟨es1,rfl,he1,_⟩:=nB h1
  cases uT hs2
  obtain ⟨v1,rfl⟩:=bZ (f:=aD) (fun e he=>aDC (he1 e he))
  exact ⟨⟨v0,v1⟩,by rw [oK]⟩
theorem aQ9 {e:PV} (h:ElOk tτ (elOf tτ 4) e):∃ x,e=aG x:=by
 change ElOk tτ ⟨true,[.str,(.sl 5 1048576 false),.str,(.int .i64),(.int .i64),(.sl 8 1048576 false)]⟩ e at h
 cases h with
 | ag hs =>
  obtain ⟨_,_,rfl,h0,hs1⟩:=aL hs
  obtain ⟨v0,rfl,_⟩:=iF h0
  obtain ⟨_,_,rfl,h1,hs2⟩:=aL hs1
  obtain ⟨es1,rfl,he1,_⟩:=nB h1
  obtain ⟨_,_,rfl,h2,hs3⟩:=aL hs2
  obtain ⟨v2,rfl,_⟩:=iF h2
  obtain ⟨_,_,rfl,h3,hs4⟩:=aL hs3
  obtain ⟨v3,rfl⟩:=lW h3
  obtain ⟨_,_,rfl,h4,hs5⟩:=aL hs4
  obtain ⟨v4,rfl⟩:=lW h4
  obtain ⟨_,_,rfl,h5,hs6⟩:=aL hs5
  obtain ⟨es5,rfl,he5,_⟩:=nB h5
  cases uT hs6
  obtain ⟨v1,rfl⟩:=bZ (f:=aQ) (fun e he=>aSp (he1 e he))
  obtain ⟨v5,rfl⟩:=bZ (f:=aU) (fun e he=>aSq (he5 e he))
  exact ⟨⟨v0,v1,⟨v2,v3,v4⟩,v5⟩,by rw [dY]⟩
theorem bBV {e:PV} (h:ElOk tτ (elOf tτ 3) e):∃ x,e=aK x:=by
 change ElOk tτ ⟨true,[(.int .i64),.str,(.sl 0 1048576 false),(.sl 4 1048576 false),(.sl 0 1048576 false),(.sl 5 1048576 false)]⟩ e at h
 cases h with
 | ag hs =>
  obtain ⟨_,_,rfl,h0,hs1⟩:=aL hs
  obtain ⟨v0,rfl⟩:=lW h0
  obtain ⟨_,_,rfl,h1,hs2⟩:=aL hs1
  obtain ⟨v1,rfl,_⟩:=iF h1
  obtain ⟨_,_,rfl,h2,hs3⟩:=aL hs2
  obtain ⟨es2,rfl,he2,_⟩:=nB h2
  obtain ⟨_,_,rfl,h3,hs4⟩:=aL hs3
  obtain ⟨es3,rfl,he3,_⟩:=nB h3
  obtain ⟨_,_,rfl,h4,hs5⟩:=aL hs4
  obtain ⟨es4,rfl,he4,_⟩:=nB h4
  obtain ⟨_,_,rfl,h5,hs6⟩:=aL hs5
  obtain ⟨es5,rfl,he5,_⟩:=nB h5
  cases uT hs6
  obtain ⟨v2,rfl⟩:=bZ (f:=PV.str) (fun e he=>aWO (he2 e he))
  obtain ⟨v3,rfl⟩:=bZ (f:=aG) (fun e he=>aQ9 (he3 e he))
  obtain ⟨v4,rfl⟩:=bZ (f:=PV.str) (fun e he=>aWO (he4 e he))
  obtain ⟨v5,rfl⟩:=bZ (f:=aQ) (fun e he=>aSp (he5 e he))
  exact ⟨⟨v0,v1,v2,v3,v4,v5⟩,by rw [oL]⟩
theorem aHF {e:PV} (h:ElOk tτ (elOf tτ 2) e):∃ x,e=cL x:=by
 change ElOk tτ ⟨true,[(.sl 3 1048576 false),.str,.str]⟩ e at h
 cases h with
 | ag hs =>
  obtain ⟨_,_,rfl,h0,hs1⟩:=aL hs
  obtain ⟨es0,rfl,he0,_⟩:=nB h0
  obtain ⟨_,_,rfl,h1,hs2⟩:=aL hs1
  obtain ⟨v1,rfl,_⟩:=iF h1
  obtain ⟨_,_,rfl,h2,hs3⟩:=aL hs2
  obtain ⟨v2,rfl,_⟩:=iF h2
  cases uT hs3
  obtain ⟨v0,rfl⟩:=bZ (f:=aK) (fun e he=>bBV (he0 e he))
  exact ⟨⟨v0,v1,v2⟩,by rw [gH]⟩
theorem aWP {e:PV} (h:ElOk tτ (elOf tτ 11) e):∃ x,e=aY x:=by
 change ElOk tτ ⟨true,[.str,.str,(.int .i64),(.int .i64),.bool,(.int .i64),(.int .i64),.str,(.sl 6 1048576 false),(.sl 7 1048576 false)]⟩ e at h
 cases h with
 | ag hs =>
  obtain ⟨_,_,rfl,h0,hs1⟩:=aL hs
  obtain ⟨v0,rfl,_⟩:=iF h0
  obtain ⟨_,_,rfl,h1,hs2⟩:=aL hs1
  obtain ⟨v1,rfl,_⟩:=iF h1
  obtain ⟨_,_,rfl,h2,hs3⟩:=aL hs2
  obtain ⟨v2,rfl⟩:=lW h2
  obtain ⟨_,_,rfl,h3,hs4⟩:=aL hs3
  obtain ⟨v3,rfl⟩:=lW h3
  obtain ⟨_,_,rfl,h4,hs5⟩:=aL hs4
  obtain ⟨v4,rfl⟩:=aLc h4
  obtain ⟨_,_,rfl,h5,hs6⟩:=aL hs5
  obtain ⟨v5,rfl⟩:=lW h5
  obtain ⟨_,_,rfl,h6,hs7⟩:=aL hs6
  obtain ⟨v6,rfl⟩:=lW h6
  obtain ⟨_,_,rfl,h7,hs8⟩:=aL hs7
  obtain ⟨v7,rfl,_⟩:=iF h7
  obtain ⟨_,_,rfl,h8,hs9⟩:=aL hs8
  obtain ⟨es8,rfl,he8,_⟩:=nB h8
  obtain ⟨_,_,rfl,h9,hs10⟩:=aL hs9
  obtain ⟨es9,rfl,he9,_⟩:=nB h9
  cases uT hs10
  obtain ⟨v8,rfl⟩:=bZ (f:=aN) (fun e he=>aGa (he8 e he))
  obtain ⟨v9,rfl⟩:=bZ (f:=aD) (fun e he=>aDC (he9 e he))
  exact ⟨⟨v0,⟨v1,v2,v3⟩,v4,⟨v5,v6,v7,v8,v9⟩⟩,by rw [dZ]⟩
theorem bAM:∀ n:Nat,∀ e:PV,bK e≤n→ElOk tτ (elOf tτ 12) e→∃ x,e=aF x:=by
 intro n
 induction n with
 | zero =>
  intro e hp
  exfalso;cases e<;>simp only [bK] at hp<;>omega
 | succ n ihSel =>
  intro e hp h
  change ElOk tτ ⟨true,[(.int .i64),.str,.str,(.sl 7 1048576 false),(.sl 8 1048576 false),.str,(.sl 12 1048576 false)]⟩ e at h
  cases h with
  | ag hs =>
   obtain ⟨_,_,rfl,h0,hs1⟩:=aL hs
   obtain ⟨v0,rfl⟩:=lW h0
   obtain ⟨_,_,rfl,h1,hs2⟩:=aL hs1
   obtain ⟨v1,rfl,_⟩:=iF h1
   obtain ⟨_,_,rfl,h2,hs3⟩:=aL hs2
   obtain ⟨v2,rfl,_⟩:=iF h2
   obtain ⟨_,_,rfl,h3,hs4⟩:=aL hs3
   obtain ⟨es3,rfl,he3,_⟩:=nB h3
   obtain ⟨_,_,rfl,h4,hs5⟩:=aL hs4
   obtain ⟨es4,rfl,he4,_⟩:=nB h4
   obtain ⟨_,_,rfl,h5,hs6⟩:=aL hs5
   obtain ⟨v5,rfl,_⟩:=iF h5
   obtain ⟨_,_,rfl,h6,hs7⟩:=aL hs6
   obtain ⟨es6,rfl,he6,_⟩:=nB h6
   cases uT hs7
   obtain ⟨v3,rfl⟩:=bZ (f:=aD) (fun e he=>aDC (he3 e he))
   obtain ⟨v4,rfl⟩:=bZ (f:=aU) (fun e he=>aSq (he4 e he))
   obtain ⟨v6,rfl⟩:=bZ (f:=aF) (fun e he=>ihSel e (by have:=lG he;simp only [bK,dI] at hp;omega) (he6 e he))
   exact ⟨⟨v0,v1,v2,v3,v4,v5,v6⟩,by rw [fF]⟩
theorem aWQ {e:PV} (h:ElOk tτ (elOf tτ 12) e):∃ x,e=aF x:=bAM (bK e) e (Nat.le_refl _) h
theorem bCk {e:PV} (h:ElOk tτ (elOf tτ 10) e):∃ x,e=bL x:=by
 change ElOk tτ ⟨true,[(.int .i64),.str,(.sl 11 1048576 false),(.sl 8 1048576 false),(.sl 12 1048576 false)]⟩ e at h
 cases h with
 | ag hs =>
  obtain ⟨_,_,rfl,h0,hs1⟩:=aL hs
  obtain ⟨v0,rfl⟩:=lW h0
  obtain ⟨_,_,rfl,h1,hs2⟩:=aL hs1
  obtain ⟨v1,rfl,_⟩:=iF h1
  obtain ⟨_,_,rfl,h2,hs3⟩:=aL hs2
  obtain ⟨es2,rfl,he2,_⟩:=nB h2
  obtain ⟨_,_,rfl,h3,hs4⟩:=aL hs3
  obtain ⟨es3,rfl,he3,_⟩:=nB h3
  obtain ⟨_,_,rfl,h4,hs5⟩:=aL hs4
  obtain ⟨es4,rfl,he4,_⟩:=nB h4
  cases uT hs5
  obtain ⟨v2,rfl⟩:=bZ (f:=aY) (fun e he=>aWP (he2 e he))
  obtain ⟨v3,rfl⟩:=bZ (f:=aU) (fun e he=>aSq (he3 e he))
  obtain ⟨v4,rfl⟩:=bZ (f:=aF) (fun e he=>aWQ (he4 e he))
  exact ⟨⟨v0,v1,v2,v3,v4⟩,by rw [gT]⟩
theorem bAN {e:PV} (h:ElOk tτ (elOf tτ 13) e):∃ x,e=aJ x:=by
 change ElOk tτ ⟨true,[.str,.str,(.sl 8 1048576 false),(.sl 12 1048576 false)]⟩ e at h
 cases h with
 | ag hs =>
  obtain ⟨_,_,rfl,h0,hs1⟩:=aL hs
  obtain ⟨v0,rfl,_⟩:=iF h0
  obtain ⟨_,_,rfl,h1,hs2⟩:=aL hs1
  obtain ⟨v1,rfl,_⟩:=iF h1
  obtain ⟨_,_,rfl,h2,hs3⟩:=aL hs2
  obtain ⟨es2,rfl,he2,_⟩:=nB h2
  obtain ⟨_,_,rfl,h3,hs4⟩:=aL hs3
  obtain ⟨es3,rfl,he3,_⟩:=nB h3
  cases uT hs4
  obtain ⟨v2,rfl⟩:=bZ (f:=aU) (fun e he=>aSq (he2 e he))
  obtain ⟨v3,rfl⟩:=bZ (f:=aF) (fun e he=>aWQ (he3 e he))
  exact ⟨⟨v0,v1,v2,v3⟩,by rw [dF]⟩
theorem aZZ {e:PV} (h:ElOk tτ (elOf tτ 9) e):∃ x,e=lH x:=by
 change ElOk tτ ⟨true,[(.sl 10 1048576 false),(.sl 13 1048576 false)]⟩ e at h
 cases h with
 | ag hs =>
  obtain ⟨_,_,rfl,h0,hs1⟩:=aL hs
  obtain ⟨es0,rfl,he0,_⟩:=nB h0
  obtain ⟨_,_,rfl,h1,hs2⟩:=aL hs1
  obtain ⟨es1,rfl,he1,_⟩:=nB h1
  cases uT hs2
  obtain ⟨v0,rfl⟩:=bZ (f:=bL) (fun e he=>bCk (he0 e he))
  obtain ⟨v1,rfl⟩:=bZ (f:=aJ) (fun e he=>bAN (he1 e he))
  exact ⟨⟨v0,v1⟩,by rw [mN]⟩
end Go.Proofs.YtphmfillajagdaaGreat
open Go Go.Ev Go.Ev.PV
set_option maxRecDepth 100000
namespace Go.Proofs.YtphmfillajagdaaGreat
def aSr:Summ:=sv1 [E12'] [⟨false,[.sl 1 1073741824 false]⟩,E2']
def aJr:Summ:=sv1 [E12'] [E7',E7']
def aSs:Summ:=sv2 [E0',E10',E1',E2'] [E2']
def aSt:Summ:=sv2 [E0'] [E2']
def aWR:Summ:=sv2 [E1',⟨false,[.sl 0 16777216 true]⟩] [⟨false,[.sl 0 16777216 true]⟩]
def aDD:Summ:=sv2 [E0',E3'] [⟨false,[.sl 16 4194304 false]⟩]
def aLd:Summ:=sv2 [E3',⟨false,[.sl 12 16777216 false]⟩] [E8']
open Go Go.Ev
theorem aZ0 {α β:Type} (p:α→Bool) (g:α→β):∀ l:List α,(l.any p=true∧∃ x,l.findSome? (fun x=>bif p x then some (g x) else none)=some (g x))∨(l.any p=false∧l.findSome? (fun x=>bif p x then some (g x) else none)=none)
 | [] => .inr ⟨rfl,rfl⟩
 | x::l=>by
  rw [List.findSome?_cons,List.any_cons]
  cases hp:p x
  ·simpa using aZ0 p g l
  ·exact .inl ⟨by simp,x,rfl⟩
def hasM (name:Str) (l:List GMember):Bool:=l.any fun x=>x.name==name
theorem aWS (name : Str) (l : List GMember) (hl : Sm l) : ∃ v, aSk name l = some (v, hasM name l) := by
 have h := yB (b := qM name l) l (fun x => bif x.name == name then some (.inr (x.v.kind, x.v.n, x.v.s, x.v.l, x.v.m)) else none) (.inl ()) hl (by simp only [qM, aGM, qX])
  (fun k x hx h1 h2 h3 => by
   simp only [qM, h1, h2, h3, bP, fZ]
   cases x.name == name <;> rfl)
 rcases aZ0 (fun x : GMember => x.name == name) (fun x => (.inr (x.v.kind, x.v.n, x.v.s, x.v.l, x.v.m) : Unit ⊕ (Int × Int × Str × (List GValue) × (List GMember)))) l with ⟨ha, x, hx⟩ | ⟨ha, hx⟩
 ·refine ⟨x.v, aJi (r := (x.v, hasM name l)) ?_⟩
  simp only [aDx, h, hx, Option.getD_some, bP, aP, hasM, ha]
  obtain ⟨nm, ⟨_, _, _, _, _⟩⟩ := x; rfl
 ·refine ⟨GValue.mk 0 0 [] [] [], aJi (r := (GValue.mk 0 0 [] [] [], hasM name l)) ?_⟩
  simp only [aDx, h, hx, Option.getD_none, bP, aO, hasM, ha]
mutual
def varN:GValue→List Str
 | ⟨k,_,s,l,m⟩=>bif k==8 then [s] else bif k==6 then aFQ l else bif k==7 then aFR m else []
def aFQ:List GValue→List Str
 | []=>[]
 | x::l=>varN x++aFQ l
def aRa:GMember→List Str
 | ⟨_,v⟩=>varN v
def aFR:List GMember→List Str
 | []=>[]
 | x::l=>aRa x++aFR l
end
theorem bAO (v:GValue):varN v=bif v.kind==8 then [v.s] else bif v.kind==6 then aFQ v.l else bif v.kind==7 then aFR v.m else []:=by cases v;simp only [varN]
theorem aYx (x:GMember):aRa x=varN x.v:=by cases x;simp only [aRa]
mutual
theorem aHG:∀ v:GValue,(varN v).length≤szV v
 | ⟨k,n,s,l,m⟩=>by
  have h1:=aSu l
  have h2:=aSv m
  simp only [varN,szV]
  cases k==8<;>cases k==6<;>cases k==7<;>simp only [cond_true,cond_false,List.length_nil,List.length_singleton]<;>omega
theorem aSu:∀ l:List GValue,(aFQ l).length≤szVs l
 | []=>by simp [aFQ]
 | x::l=>by have:=aHG x;have:=aSu l;simp only [aFQ,szVs,List.length_append];omega
theorem aYy:∀ x:GMember,(aRa x).length≤szM x
 | ⟨n,v⟩=>by have:=aHG v;simp only [aRa,szM];omega
theorem aSv:∀ l:List GMember,(aFR l).length≤szMs l
 | []=>by simp [aFR]
 | x::l=>by have:=aYy x;have:=aSv l;simp only [aFR,szMs,List.length_append];omega
end
theorem aNW {l:List Str} {x:Str} (h:x∈l):addD l x=l:=by unfold addD;rw [List.contains_iff_mem.2 h];rfl
theorem aYz {l:List Str} {x:Str} (h:x∉l):addD l x=l++[x]:=by
 have:l.contains x=false:=by rw [Bool.eq_false_iff];intro hc;exact h (List.contains_iff_mem.1 hc)
 unfold addD;rw [this];rfl
theorem aNX:∀ (L a out:List Str),(L.foldl addD a).foldl addD out=L.foldl addD (a.foldl addD out)
 | [],a,out=>rfl
 | x::L,a,out=>by
  rw [List.foldl_cons,aNX L (addD a x) out,List.foldl_cons]
  congr 1
  by_cases h:x∈a
  ·rw [aNW h,aNW ((jZ _ _ _).2 (.inr h))]
  ·rw [aYz h,List.foldl_append];rfl
theorem bCu (L out:List Str):(L.foldl addD []).foldl addD out=L.foldl addD out:=aNX L [] out
theorem aRb : ∀ (n : Nat) (v : GValue) (l : List Str), szV v ≤ n → l.length + szV v < 1073741824 → aKs v l = some ((varN v).foldl addD l) := by
 intro n
 induction n with
 | zero => intro v l h; have := aJk v; omega
 | succ n ih =>
  intro v l h hl
  have hv := aJk v
  have h1 := aK9 v.l
  have h2 := aLa v.m
  have stop : ∀ (F : Bool), (v.kind == 6) = F → True := fun _ _ => trivial
  apply aP4
  unfold aDk
  rw [bAO]
  have stay5 : ∀ a : List Str, (v.kind == 6) = false → bJ (cU v) (a, 0) = some a := by
   intro a h6
   apply cC
   simp only [cU, h6, qX, aAv]
  have stay6 : ∀ a : List Str, (v.kind == 7) = false → bJ (cW v) (a, 0) = some a := by
   intro a h7
   apply cC
   simp only [cW, h7, qX, aAv]
  cases h8 : v.kind == 8
  ·cases h6 : v.kind == 6
   ·cases h7 : v.kind == 7
    ·simp only [qX, cond_false, stay5 l h6, stay6 l h7, bP]; rfl
    ·have key := iC (b := cW v) v.m (fun k (a : List Str) => (a, (k : Int))) (fun r a => (aFR r).foldl addD a) (fun k a => a.length + szMs (v.m.drop k) < 1073741824) (by show v.m.length < _; omega)
      (by intro a _; simp [cW, aFR])
      (by
       intro k x r a hm hk hd e1 e2 e3 hI
       rw [hd] at hI
       simp only [szMs] at hI
       have hdr : v.m.drop (k + 1) = r := by rw [← List.tail_drop, hd]; rfl
       have hx := aK8 hm
       have hx2 := aSm x
       have hb := aHG x.v
       have hf := rN (varN x.v) a
       refine .inr ⟨(varN x.v).foldl addD a, ?_, ?_, ?_⟩
       ·simp only [cW, h7, e1, fZ, e2, bP, e3, ih x.v a (by omega) (by omega)]
       ·rw [hdr]; omega
       ·simp only [aFR, aYx, List.foldl_append]) (s := (l, 0)) (a := l) rfl (by simp; omega)
     simp only [qX, fZ, cond_false, cond_true, stay5 l h6, key, bP]
   ·have key := iC (b := cU v) v.l (fun k (a : List Str) => (a, (k : Int))) (fun r a => (aFQ r).foldl addD a) (fun k a => a.length + szVs (v.l.drop k) < 1073741824) (by show v.l.length < _; omega)
     (by intro a _; simp [cU, aFQ])
     (by
      intro k x r a hm hk hd e1 e2 e3 hI
      rw [hd] at hI
      simp only [szVs] at hI
      have hdr : v.l.drop (k + 1) = r := by rw [← List.tail_drop, hd]; rfl
      have hx := aK7 hm
      have hb := aHG x
      have hf := rN (varN x) a
      refine .inr ⟨(varN x).foldl addD a, ?_, ?_, ?_⟩
      ·simp only [cU, h6, e1, fZ, e2, bP, e3, ih x a (by omega) (by omega)]
      ·rw [hdr]; omega
      ·simp only [aFQ, List.foldl_append]) (s := (l, 0)) (a := l) rfl (by simp; omega)
    have h7 : (v.kind == 7) = false := by
     have : v.kind = 6 := by simpa using h6
     rw [this]; rfl
    simp only [qX, fZ, cond_false, cond_true, key, stay6 _ h7, bP]
  ·have ht : tapp l [v.s] = some (l ++ [v.s]) := yA (by simp [aBE]; omega)
   have hk : v.kind = 8 := by simpa using h8
   have h6 : (v.kind == 6) = false := by rw [hk]; rfl
   have h7 : (v.kind == 7) = false := by rw [hk]; rfl
   have s1 : ∀ a : List Str, bJ (cU v) (a, 0) = some a := by
    intro a; apply cC; simp only [cU, h6, qX, aAv]
   have s2 : ∀ a : List Str, bJ (cW v) (a, 0) = some a := by
    intro a; apply cC; simp only [cW, h7, qX, aAv]
   have s3 : ∀ a : List Str, bJ (cU v) (a, 0) = some a := by
    intro a; apply cC; simp only [cU, h6, qX, aAv]
   have s4 : ∀ a : List Str, bJ (cW v) (a, 0) = some a := by
    intro a; apply cC; simp only [cW, h7, qX, aAv]
   simp only [fZ, cond_true, rL l v.s (by show l.length < _; omega), bP, ht, s1, s2, s3, s4, List.foldl_cons, List.foldl_nil, addD]
   cases l.contains v.s <;> rfl
theorem aJs (d : GDoc) (n : Str) (hl : Sm d.frags) : aKw d n = some (wF d n) := by
 apply aQx
 have key := yB (b := nT d n) d.frags (fun f => if f.name == n then some (Sum.inr (f.name, f.on_, f.dirs, f.sels)) else none) (.inl ()) hl
  (by simp [nT])
  (by
   intro k x hm e1 e2 e3
   simp only [nT, e1, fZ, e2, bP, e3]
   cases x.name == n <;> rfl)
 have hf := aDA d.frags (fun f => f.name == n) (fun f => (Sum.inr (f.name, f.on_, f.dirs, f.sels) : Unit ⊕ (Str × Str × (List GDir) × (List GSel))))
 rw [hf] at key
 simp only [aDr, key, bP, wF]
 cases d.frags.find? (fun f => f.name == n) <;> rfl
theorem aRc : ∀ (n : Nat) (sels : List GSel) (l : List Str), bR sels ≤ n → l.length + bR sels < 1073741824 → jM sels l = some ((cZ sels).foldl addD l) := by
 intro n
 induction n with
 | zero =>
  intro sels l h hl
  have := fA sels
  have hs : sels = [] := List.length_eq_zero_iff.1 (by omega)
  subst hs
  apply aBk
  unfold oT
  rw [cC (r := l) (by simp [fR])]
  rfl
 | succ n ih =>
  intro sels l h hl
  apply aBk
  unfold oT
  have hlen := fA sels
  have key := iC (b := fR sels) sels (fun k (a : List Str) => (a, (k : Int))) (fun r a => (cZ r).foldl addD a) (fun k a => a.length + bR (sels.drop k) < 1073741824) (by show sels.length < _; omega)
   (by intro a _; simp [fR, cZ])
   (by
    intro k x r a hm hk hd h1 h2 h3 hI
    rw [hd] at hI
    simp only [bR] at hI
    have hdr : sels.drop (k + 1) = r := by rw [← List.tail_drop, hd]; rfl
    have hx := nX hm
    have hx2 := nY x
    have hrec : ∀ a' : List Str, a'.length ≤ a.length + 1 → jM x.sels a' = some ((cZ x.sels).foldl addD a') := fun a' ha' => ih x.sels a' (by omega) (by omega)
    have hb := aEQ x
    refine .inr ⟨(wE x).foldl addD a, ?_, ?_, ?_⟩
    ·rw [aJq]
     simp only [fR, h1, fZ, h2, bP, h3, rL a x.name (by show a.length < _; omega), hrec a (by omega)]
     cases x.kind == 1
     ·rfl
     ·have ht : tapp a [x.name] = some (a ++ [x.name]) := yA (by simp [aBE]; omega)
      simp only [fZ, cond_true, List.cons_append, List.nil_append, List.foldl_cons, addD, ht, bP, hrec (a ++ [x.name]) (by simp)]
      cases a.contains x.name <;> rfl
    ·rw [hdr]
     have := rN (wE x) a
     omega
    ·simp only [cZ, List.foldl_append]) (s := (l, 0)) (a := l) rfl (by simpa using hl)
  rw [key]; rfl
theorem aDE (sels:List GSel) (l:List Str) (h:l.length+bR sels<1073741824):jM sels l=some ((cZ sels).foldl addD l):=aRc _ sels l (Nat.le_refl _) h
theorem aLe (sels:List GSel) (h:bR sels<1073741824):aEa sels=some ((cZ sels).foldl addD []) :=
 aIu (by simp only [sP,aDE sels [] (by simpa using h),bP])
theorem aNY (d : GDoc) (sels : List GSel) (hd : jL d + bR sels < 500000000) :
  ∃ l, bJ (gK d) ((cZ sels).foldl addD [], 0) = some l ∧ l.length < 1073741824 ∧ (∀ n ∈ cZ sels, n ∈ l) ∧ aCB d (· ∈ l) ∧ ∀ S : Str → Prop, (∀ n ∈ cZ sels, S n) → aCB d S → ∀ n ∈ l, S n := by
 have hU : (allN d sels).length ≤ jL d + bR sels := by
  have h1 := aAd sels
  have h2 := kF d.frags
  have h3 := wG d
  simp only [allN, List.length_append]; omega
 have hf := aHE d
 have hsm : Sm d.frags := by show d.frags.length < _; omega
 have hsub : ∀ (l : List Str), l.Nodup → (∀ x ∈ l, x ∈ allN d sels) → l.length ≤ jL d + bR sels := fun l h1 h2 => Nat.le_trans (aC4 l _ h1 h2) hU
 refine aVE (b := gK d)
  (I := fun s => ∃ i : Nat, s.2 = (i : Int) ∧ i ≤ s.1.length ∧ s.1.Nodup ∧ (∀ x ∈ s.1, x ∈ allN d sels) ∧ (∀ n ∈ cZ sels, n ∈ s.1) ∧
   (∀ (j : Nat) (n : Str), j < i → s.1[j]? = some n → (wF d n).2 = true → ∀ m ∈ cZ (wF d n).1.sels, m ∈ s.1) ∧ (∀ S : Str → Prop, (∀ n ∈ cZ sels, S n) → aCB d S → ∀ n ∈ s.1, S n))
  (m := fun s => jL d + bR sels + 1 - s.2.toNat)
  (Q := fun l => l.length < 1073741824 ∧ (∀ n ∈ cZ sels, n ∈ l) ∧ aCB d (· ∈ l) ∧ ∀ S : Str → Prop, (∀ n ∈ cZ sels, S n) → aCB d S → ∀ n ∈ l, S n)
  (by
   rintro ⟨l, i'⟩ ⟨i, hi, hle, hnd, hall, hin, hcl, hmin⟩
   simp only at hi hle hnd hall hin hcl hmin
   subst hi
   have hlen := hsub l hnd hall
   by_cases hil : l.length ≤ i
   ·left
    refine ⟨l, ?_, by omega, hin, ?_, hmin⟩
    ·have e1 : decide ((i : Int) < (List.length l : Int)) = false := by simp; omega
     simp only [gK, e1, qX]
    ·intro n hn hfr m hm
     obtain ⟨j, hj⟩ := List.mem_iff_getElem?.1 hn
     have hjl := (List.getElem?_eq_some_iff.1 hj).1
     exact hcl j n (by omega) hj hfr m hm
   ·right
    have e1 : decide ((i : Int) < (List.length l : Int)) = true := by simp; omega
    have hx := List.getElem?_eq_getElem (show i < l.length by omega)
    have e3 : IntKind.wrap .i64 ((i : Int) + 1) = ((i + 1 : Nat) : Int) := wadd (by omega)
    cases hfr : (wF d l[i]).2
    ·refine ⟨(l, ((i + 1 : Nat) : Int)), ?_, ⟨i + 1, rfl, by simp only; omega, hnd, hall, hin, ?_, hmin⟩, ?_⟩
     ·simp only [gK, e1, fZ, vD, hx, bP, aJs d _ hsm, hfr, qX, e3]
     ·intro j n hj hjn hfn
      by_cases hji : j = i
      ·subst hji
       rw [hx] at hjn; cases hjn
       rw [hfr] at hfn; simp at hfn
      ·exact hcl j n (by omega) hjn hfn
     ·simp only [Int.toNat_natCast]; omega
    ·obtain ⟨hfm, _⟩ := aHD hfr
     have hfb := gS gB hfm
     have hfs : bR (wF d l[i]).1.sels ≤ gB (wF d l[i]).1 := by rw [iV, eP]; simp only [bkSl]; omega
     have hdf := wG d
     have hsp := aDE (wF d l[i]).1.sels l (by omega)
     obtain ⟨t, ht⟩ := aFn (cZ (wF d l[i]).1.sels) l
     refine ⟨((cZ (wF d l[i]).1.sels).foldl addD l, ((i + 1 : Nat) : Int)), ?_, ⟨i + 1, rfl, by simp only; rw [ht]; simp only [List.length_append]; omega, aCA _ _ hnd, ?_, ?_, ?_, ?_⟩, ?_⟩
     ·simp only [gK, e1, fZ, vD, hx, bP, aJs d _ hsm, hfr, hsp, e3]
     ·intro x hxm
      rcases (jZ _ _ _).1 hxm with h | h
      ·exact hall x h
      ·exact List.mem_append_right _ (List.mem_flatMap.2 ⟨_, hfm, h⟩)
     ·intro n hn; exact (jZ _ _ _).2 (.inl (hin n hn))
     ·intro j n hj hjn hfn m hm
      simp only at hjn ⊢
      rw [ht] at hjn
      rw [jZ]
      by_cases hji : j = i
      ·subst hji
       rw [List.getElem?_append_left (by omega), hx] at hjn; cases hjn
       exact .inr hm
      ·rw [List.getElem?_append_left (by omega)] at hjn
       exact .inl (hcl j n (by omega) hjn hfn m hm)
     ·intro S h1 h2 n hn
      rcases (jZ _ _ _).1 hn with h | h
      ·exact hmin S h1 h2 n h
      ·exact h2 l[i] (hmin S h1 h2 _ (List.getElem_mem _)) hfr n h
     ·simp only [Int.toNat_natCast]; omega)
  ((cZ sels).foldl addD [], 0)
  ⟨0, rfl, Nat.zero_le _, aCA _ _ List.nodup_nil, (fun x hx => by
   rcases (jZ _ _ _).1 hx with h | h
   ·simp at h
   ·exact List.mem_append_left _ h), (fun n hn => (jZ _ _ _).2 (.inr hn)), (fun j n hj => by omega), (fun S h1 _ n hn => by
   rcases (jZ _ _ _).1 hn with h | h
   ·simp at h
   ·exact h1 n h)⟩
theorem aRd (d : GDoc) (sels : List GSel) (hd : jL d + bR sels < 500000000) :
  ∃ (r l : List Str), aSe d sels = some r ∧ r.Nodup ∧ r.length < 1073741824 ∧ (∀ n, n ∈ r ↔ n ∈ l ∧ (wF d n).2 = true) ∧ (∀ n ∈ cZ sels, n ∈ l) ∧ aCB d (· ∈ l) ∧ ∀ S : Str → Prop, (∀ n ∈ cZ sels, S n) → aCB d S → ∀ n ∈ l, S n := by
 obtain ⟨l, h1, h2, h3, h4, h5⟩ := aNY d sels hd
 have hf := aHE d
 have key := aC3 (b := lR d l) d.frags (fun k (a : List Str) => (a, (k : Int))) (fun a f => bif l.contains f.name then addD a f.name else a) id (fun k a => a.length ≤ k) (by show d.frags.length < _; omega)
  (by intro a _; simp [lR])
  (by
   intro k x a hm hk e1 e2 e3 hI
   have ht : tapp a [x.name] = some (a ++ [x.name]) := yA (by simp [aBE]; omega)
   simp only [lR, e1, fZ, e2, bP, e3, rL l x.name (by show l.length < _; omega), rL a x.name (by show a.length < _; omega), ht]
   cases l.contains x.name
   ·exact ⟨rfl, by simp only [cond_false]; omega⟩
   ·simp only [fZ, cond_true, addD]
    cases a.contains x.name
    ·exact ⟨rfl, by simp; omega⟩
    ·exact ⟨rfl, by simp; omega⟩) (s := ([], 0)) (a := []) rfl (by simp)
 have fold : ∀ (fs : List GFrag) (a : List Str), (a.Nodup → (fs.foldl (fun a f => bif l.contains f.name then addD a f.name else a) a).Nodup) ∧ (fs.foldl (fun a f => bif l.contains f.name then addD a f.name else a) a).length ≤ a.length + fs.length ∧
   ∀ n, n ∈ fs.foldl (fun a f => bif l.contains f.name then addD a f.name else a) a ↔ n ∈ a ∨ ∃ f ∈ fs, n ∈ l ∧ f.name = n := by
  intro fs
  induction fs with
  | nil => intro a; simp
  | cons f fs ih =>
   intro a
   rw [List.foldl_cons]
   obtain ⟨i1, i2, i3⟩ := ih (bif l.contains f.name then addD a f.name else a)
   refine ⟨fun hn => i1 ?_, ?_, fun n => ?_⟩
   ·cases l.contains f.name
    ·exact hn
    ·exact aJl hn
   ·have := aSn a f.name
    cases hc : l.contains f.name <;> rw [hc] at i2 <;> simp only [cond_true, cond_false, List.length_cons] at i2 ⊢ <;> omega
   ·rw [i3]
    cases hc : l.contains f.name
    ·have hn : f.name ∉ l := by simpa using hc
     simp only [cond_false, List.mem_cons, exists_eq_or_imp]
     constructor
     ·rintro (h | h)
      ·exact .inl h
      ·exact .inr (.inr h)
     ·rintro (h | ⟨h, e⟩ | h)
      ·exact .inl h
      ·exact absurd (e ▸ h) hn
      ·exact .inr h
    ·have hn : f.name ∈ l := by simpa using hc
     simp only [cond_true, aSo, List.mem_cons, exists_eq_or_imp]
     constructor
     ·rintro ((h | h) | h)
      ·exact .inl h
      ·exact .inr (.inl ⟨h ▸ hn, h.symm⟩)
      ·exact .inr (.inr h)
     ·rintro (h | ⟨h, e⟩ | h)
      ·exact .inl (.inl h)
      ·exact .inl (.inr e.symm)
      ·exact .inr h
 obtain ⟨f1, f2, f3⟩ := fold d.frags []
 refine ⟨_, l, aM3 (by simp only [aAO, aLe sels (by omega), h1, bP, key]; rfl), f1 List.nodup_nil, ?_, ?_, h3, h4, h5⟩
 ·simp only [List.length_nil] at f2; omega
 ·intro n
  rw [f3]
  constructor
  ·rintro (h | ⟨f, hf, hn, e⟩)
   ·simp at h
   ·exact ⟨hn, e ▸ aYu hf⟩
  ·rintro ⟨hn, hfr⟩
   obtain ⟨hm, hname⟩ := aHD hfr
   exact .inr ⟨_, hm, hn, hname⟩
theorem aAe (f:GFrag):bR f.sels≤gB f:=by rw [iV,eP];simp only [bkSl];omega
open Go Go.Ev Go.Ev.PV
def Nr (p b:Nat):Prop:=p≤b∧b≤2*p
theorem psl {α:Type} {enc:α→PV} {bk:α→Nat}:∀ {l:List α},(∀ x∈l,Nr (bK (enc x)) (bk x))→dI (l.map enc)≤sumL bk l∧sumL bk l≤2*dI (l.map enc)
 | [],_=>by simp [dI,sumL]
 | x::l,h=>by
  have h1:=h x (by simp)
  have h2:=psl (l:=l) (fun y hy=>h y (by simp [hy]))
  unfold Nr at h1
  simp only [List.map_cons,dI,sumL]
  omega
theorem bCl (s:Str):Nr (bK (PV.str s)) (dC s):=by unfold Nr;rw [aX];simp only [bK];omega
theorem aWT (l:List Str):dI (l.map PV.str)≤sumL dC l∧sumL dC l≤2*dI (l.map PV.str):=psl fun x _=>bCl x
theorem aSw (x:GType):Nr (bK (iS x)) (yH x):=by
 unfold Nr;rw [iH,jW];simp only [bK,dI,bk1,aX];omega
theorem psVM:∀ n:Nat,(∀ x:GValue,cB x≤n→Nr (bK (aN x)) (cB x))∧(∀ x:GMember,aW x≤n→Nr (bK (aD x)) (aW x)):=by
 intro n
 induction n with
 | zero=>exact ⟨fun x h=>by rw [cD] at h;omega,fun x h=>by rw [cO] at h;omega⟩
 | succ n ih =>
  obtain ⟨ihV,ihM⟩:=ih
  refine ⟨fun x hb => ?_,fun x hb => ?_⟩
  ·rw [cD] at hb
   simp only [bkSl,bk1,aX] at hb
   have h1:=psl (l:=x.l) (enc:=aN) (bk:=cB) (fun y hy=>ihV y (by have:=gS cB hy;omega))
   have h2:=psl (l:=x.m) (enc:=aD) (bk:=aW) (fun y hy=>ihM y (by have:=gS aW hy;omega))
   unfold Nr
   rw [eO,cD]
   simp only [bK,dI,bkSl,bk1,aX]
   omega
  ·rw [cO] at hb
   have h1:=ihV x.v (by omega)
   unfold Nr at h1 ⊢
   rw [eO] at h1
   rw [iT,cO]
   simp only [bK,dI,aX] at h1 ⊢
   omega
theorem aLf (x:GValue):Nr (bK (aN x)) (cB x):=(psVM _).1 x (Nat.le_refl _)
theorem aSx (x:GMember):Nr (bK (aD x)) (aW x):=(psVM _).2 x (Nat.le_refl _)
theorem aYA (x:GDir):Nr (bK (aU x)) (jJ x):=by
 have h1:=psl (l:=x.args) (fun y _=>aSx y)
 unfold Nr;rw [oK,pY];simp only [bK,dI,bkSl,bk1,aX];omega
theorem aWU (x:GParam):Nr (bK (aQ x)) (fQ x):=by
 have h1:=aSw x.t
 have h2:=aLf x.default
 unfold Nr at h1 h2 ⊢
 rw [iH] at h1;rw [eO] at h2
 rw [iU,lI,jW];simp only [bK,dI,bk1,aX] at h1 h2 ⊢;omega
theorem aUF (x:GFieldDef):Nr (bK (aG x)) (eI x):=by
 have h1:=aSw x.t
 have h2:=psl (l:=x.params) (fun y _=>aWU y)
 have h3:=psl (l:=x.dirs) (fun y _=>aYA y)
 unfold Nr at h1 ⊢
 rw [iH] at h1
 rw [dY,fG];simp only [bK,dI,bkSl,bk1,aX] at h1 ⊢;omega
theorem bCm (x:GDef):Nr (bK (aK x)) (aD8 x):=by
 have h1:=psl (l:=x.fields) (fun y _=>aUF y)
 have h2:=psl (l:=x.params) (fun y _=>aWU y)
 have h3:=aWT x.faces
 have h4:=aWT x.parts
 unfold Nr;rw [oL,jK];simp only [bK,dI,bkSl,bk1,aX];omega
theorem aAX (x:GSchema):Nr (bK (cL x)) (dW x):=by
 have h1:=psl (l:=x.defs) (fun y _=>bCm y)
 unfold Nr;rw [gH,gU];simp only [bK,dI,bkSl,bk1,aX];omega
theorem aYB (x:GVarDef):Nr (bK (aY x)) (pZ x):=by
 have h1:=aSw x.t
 have h2:=aLf x.default
 unfold Nr at h1 h2 ⊢
 rw [iH] at h1;rw [eO] at h2
 rw [dZ,rC,jW];simp only [bK,dI,bk1,aX] at h1 h2 ⊢;omega
theorem bBW:∀ n:Nat,∀ x:GSel,gG x≤n→Nr (bK (aF x)) (gG x):=by
 intro n
 induction n with
 | zero=>intro x h;rw [gV] at h;omega
 | succ n ih =>
  intro x hb
  rw [gV] at hb
  simp only [bkSl,bk1,aX] at hb
  have h1:=psl (l:=x.sels) (enc:=aF) (bk:=gG) (fun y hy=>ih y (by have:=gS gG hy;omega))
  have h2:=psl (l:=x.args) (fun y _=>aSx y)
  have h3:=psl (l:=x.dirs) (fun y _=>aYA y)
  unfold Nr
  rw [fF,gV]
  simp only [bK,dI,bkSl,bk1,aX]
  omega
theorem bAP (x:GSel):Nr (bK (aF x)) (gG x):=bBW _ x (Nat.le_refl _)
theorem psOp (x:GOp):Nr (bK (bL x)) (bkOp x):=by
 have h1:=psl (l:=x.vars) (fun y _=>aYB y)
 have h2:=psl (l:=x.dirs) (fun y _=>aYA y)
 have h3:=psl (l:=x.sels) (fun y _=>bAP y)
 unfold Nr;rw [gT,nL];simp only [bK,dI,bkSl,bk1,aX];omega
theorem bBX (x:GFrag):Nr (bK (aJ x)) (gB x):=by
 have h2:=psl (l:=x.dirs) (fun y _=>aYA y)
 have h3:=psl (l:=x.sels) (fun y _=>bAP y)
 unfold Nr;rw [dF,iV];simp only [bK,dI,bkSl,bk1,aX];omega
theorem aYC (x:GDoc):Nr (bK (lH x)) (jL x):=by
 have h2:=psl (l:=x.ops) (fun y _=>psOp y)
 have h3:=psl (l:=x.frags) (fun y _=>bBX y)
 unfold Nr;rw [mN,vK];simp only [bK,dI,bkSl,bk1,aX];omega
theorem nZ {τ:Tb} {e:El} {es:List El} {vs:List PV} (h:ElsOk τ (e::es) vs):∃ v r,vs=v::r∧ElOk τ e v∧ElsOk τ es r:=by
 cases h with | cons h hs=>exact ⟨_,_,rfl,h,hs⟩
theorem aHH {τ:Tb} {vs:List PV} (h:ElsOk τ [] vs):vs=[]:=by cases h;rfl
theorem bAQ {v:PV} (h:ElOk tτ ⟨false,[.bool]⟩ v):∃ b,v = .bool b:=by cases h with | one h=>exact aLc h
theorem aZ1 {v:PV} (h:ElOk tτ ⟨false,[.str]⟩ v):∃ s,v = .str s∧s.length≤topL:=by cases h with | one h=>exact iF h
theorem bBY {n ub:Nat} {o:Bool} {v:PV} (h:ElOk tτ ⟨false,[.sl n ub o]⟩ v):∃ es,v = .slice es [] o∧(∀ e,e∈es→ElOk tτ (elOf tτ n) e)∧es.length≤ub:=by cases h with | one h=>exact nB h
theorem tL {sm:Summ} {args:List PV} (h:aPd sm args) (hc:sm.cap=2097152) {v:PV} (hv:v∈args):bK v≤2097152:=by
 rcases h with h | h
 ·omega
 ·have:=h v hv;omega
def TN (t:GType):Prop:=t.name.length<4611686018427387904
theorem bAR (t:GType) (h:TN t):Tt (fun b=>b=true→0≤t.lists∧t.lists≤4) (oN t):=by
 have:Tt (fun b=>b=true→0≤t.lists∧t.lists≤4) (jY t):=by
  unfold jY
  refine Tt.eq (aUB _ h) (Tt.cnd (fun _ => ?_) fun _=>Tt.ret (by simp))
  refine Tt.cnd (fun h1 => ?_) fun _=>Tt.ret (by simp)
  refine Tt.cnd (fun h2 => ?_) fun _=>Tt.ret (by simp)
  refine Tt.cnd (fun h3 => ?_) fun _=>Tt.ret (by simp)
  simp only [decide_eq_true_eq,ge_iff_le] at h1 h2
  have e:IntKind.wrap .u64 t.lists=t.lists:=by rw [wu];omega
  have hs:∃ y,tshl .i64 2 t.lists=some y:=by
   unfold tshl;rw [if_neg (by omega)];exact ⟨_,rfl⟩
  obtain ⟨y,hy⟩:=hs
  rw [e]
  exact Tt.eq hy (Tt.ret fun _=>⟨h1,h2⟩)
 obtain ⟨b,hb,hp⟩:=this
 exact ⟨b,aFM hb,hp⟩
theorem bCn (t:GType) (h:TN t):Te (bAJ t):=by
 have:Te (aK3 t):=Tt.bnd (bAR t h) fun b _=>Tt.cnd (fun _=>Tt.ret trivial) fun _=>Tt.ret trivial
 obtain ⟨b,hb,hp⟩:=this
 exact ⟨b,aWE hb,hp⟩
theorem bAS (t:GType) (h:TN t):Tt (fun r=>TN r.1∧(r.2=true→r.1.lists.toNat<t.lists.toNat)) (aPv t):=by
 have:Tt (fun r:GType×Bool=>TN r.1∧(r.2=true→r.1.lists.toNat<t.lists.toNat)) (aDs t):=by
  refine Tt.bnd (bAR t h) fun b hb=>Tt.cnd (fun _=>Tt.ret ⟨by unfold TN;simp,by simp⟩) fun h1 => ?_
  have h1:b=true:=by cases b<;>simp_all
  have h2:=hb h1
  refine Tt.cnd (fun _=>Tt.ret ⟨by unfold TN;simp,by simp⟩) fun h3=>Tt.ret ⟨h,fun _ => ?_⟩
  have h3:t.lists≠0:=by simpa using h3
  show (IntKind.wrap .i64 (t.lists-1)).toNat<_
  rw [wi (by omega)];omega
 obtain ⟨b,hb,hp⟩:=this
 exact ⟨b,aQB hb,hp⟩
theorem aYD (l:List GParam) (n:Str) (hl:Sm l):Tt (fun r=>r.2=true→r.1∈l) (aKx l n):=by
 have:Tt (fun r:GParam×Bool=>r.2=true→r.1∈l) (uO l n):=by
  unfold uO
  refine Tt.bnd (Q:=fun o=>Ev.elim o (fun _=>True) fun q=>GParam.mk q.1 (GType.mk q.2.1 q.2.2.1 q.2.2.2.1) q.2.2.2.2.1 (GValue.mk q.2.2.2.2.2.1 q.2.2.2.2.2.2.1 q.2.2.2.2.2.2.2.1 q.2.2.2.2.2.2.2.2.1 q.2.2.2.2.2.2.2.2.2)∈l) (Tt.idx l.length hl fun k h0 h1 => ?_) fun o ho=>Tt.elim (fun a e=>Tt.ret (by simp)) fun a e=>Tt.ret fun _=>by subst e;exact ho
  unfold sT
  refine Tt.cnd (fun hc=>Tt.nth ⟨h0,vE hc⟩ fun x hx e => ?_) fun _=>Tt.ret (Ix.r trivial)
  refine Tt.cnd (fun _=>Tt.nth ⟨h0,vE hc⟩ fun y hy e'=>Tt.ret (Ix.r ?_)) fun _=>Tt.ret (Ix.l hc)
  obtain ⟨nm,⟨_,_,_⟩,has,⟨_,_,_,_,_⟩⟩:=y;exact hy
 obtain ⟨b,hb,hp⟩:=this
 exact ⟨b,aNK hb,hp⟩
theorem bBZ (n:Str) (m:List GMember) (hm:Sm m):Te (aSk n m):=by
 obtain ⟨v,hv⟩:=aWS n m hm
 exact ⟨_,hv,trivial⟩
theorem SOk.params {s:GSchema} (h:SOk s) {d:GDef} (hd:d∈s.defs):bkSl fQ d.params<1073741824:=by
 have:=h.def_bk hd;rw [jK] at this;omega
theorem bAT {α:Type} {bk:α→Nat} {l:List α} (hp:∀ x,1≤bk x) (h:bkSl bk l<1073741824):Sm l:=by
 have:=mI bk hp l;unfold bkSl at h;show l.length<_;omega
theorem aSy {l:List GParam} (h:bkSl fQ l<1073741824) {p:GParam} (hp:p∈l):TN p.t:=by
 have:=gS fQ hp;unfold bkSl at h
 rw [lI,jW] at this
 unfold TN;rw [aX,aX] at this;omega
theorem aSz (s:GSchema) (l:List GParam) (m:List GMember) (hl:bkSl fQ l<1073741824) (hm:Sm m) (hr:∀ x∈m,∀ t,TN t→Te (sI s t x.v true)):Te (aAI s l m):=by
 have hsl:=bAT aHB hl
 have:Te (uN s l m):=by
  unfold uN
  refine Tt.bnd (Q:=fun _=>True) (Tt.idx m.length hm fun i h0 h1 => ?_) fun o _=>Tt.elim (fun _ _=>Tt.bnd (Q:=fun _=>True) (Tt.idx l.length hsl fun i h0 h1 => ?_) fun o _=>Tt.elim (fun _ _=>Tt.ret trivial) fun _ _=>Tt.ret trivial) fun _ _=>Tt.ret trivial
  ·unfold sR
   refine Tt.cnd (fun hc=>Tt.nth ⟨h0,vE hc⟩ fun x hx e => ?_) fun _=>Tt.ret (Ix.r trivial)
   refine Tt.bnd (aYD l x.name hsl) fun p hp=>Tt.cnd (fun _=>Tt.ret (Ix.r trivial)) fun hp2 => ?_
   refine Tt.nth ⟨h0,vE hc⟩ fun y hy e=>Tt.bnd (hr y hy _ (aSy hl (hp (by simpa using hp2)))) fun b _ => ?_
   refine Tt.cnd (fun _=>Tt.ret (Ix.r trivial)) fun _=>Tt.bnd (Q:=fun _=>True) (Tt.idx i.toNat (by have:=hm;unfold Sm at this;omega) fun k k0 k1 => ?_) fun o _=>Tt.elim (fun _ _=>Tt.ret (Ix.l hc)) fun _ _=>Tt.ret (Ix.r trivial)
   unfold sQ
   have hi:=vE hc
   refine Tt.cnd (fun hk => ?_) fun _=>Tt.ret (Ix.r trivial)
   have hk':=vE hk
   refine Tt.nth ⟨k0,by omega⟩ fun x _ _=>Tt.nth ⟨h0,hi⟩ fun y _ _=>Tt.cnd (fun _=>Tt.ret (Ix.r trivial)) fun _=>Tt.ret (Ix.l (by simpa using (by omega:k<(i.toNat:Int))))
  ·unfold sS
   refine Tt.cnd (fun hc => ?_) fun _=>Tt.ret (Ix.r trivial)
   have hi:=vE hc
   refine Tt.nth ⟨h0,hi⟩ fun x _ _=>Tt.bnd (bBZ _ m hm) fun g _=>Tt.cnd (fun _=>Tt.nth ⟨h0,hi⟩ fun y hy _=>Tt.bnd (bCn _ (aSy hl hy)) fun b _ => ?_) fun _=>Tt.ret (Ix.l hc)
   exact Tt.cnd (fun _=>Tt.nth ⟨h0,hi⟩ fun y hy _=>Tt.cnd (fun _=>Tt.ret (Ix.r trivial)) fun _=>Tt.ret (Ix.l hc)) fun _=>Tt.ret (Ix.l hc)
 obtain ⟨b,hb,hp⟩:=this
 exact ⟨b,aNv hb,hp⟩
theorem aYE (s:GSchema) (h:SOk s):∀ (n:Nat) (v:GValue),cB v≤n→n<1073741824→∀ (k:Nat) (t:GType) (al:Bool),TN t→t.lists.toNat≤k→Te (sI s t v al):=by
 intro n
 induction n with
 | zero=>intro v hv;rw [cD] at hv;omega
 | succ n ihn =>
  intro v hv hn k
  have hvl:∀ x∈v.l,cB x≤n:=fun x hx=>by have:=gS cB hx;rw [cD] at hv;simp only [bkSl] at hv;omega
  have hvm:∀ x∈v.m,cB x.v≤n:=fun x hx=>by have:=gS aW hx;rw [cO] at this;rw [cD] at hv;simp only [bkSl] at hv;omega
  have hpos:∀ x:GValue,1≤cB x:=fun x=>by rw [cD];omega
  have hsl:Sm v.l:=bAT hpos (by rw [cD] at hv;omega)
  have hsm:Sm v.m:=bAT sU (by rw [cD] at hv;omega)
  have hin:∀ x:GDef,x∈s.defs→Te (aAI s x.params v.m):=fun x hx=>aSz s x.params v.m (h.params hx) hsm fun y hy t ht=>ihn y.v (hvm y hy) (by omega) _ t true ht (Nat.le_refl _)
  have hfind:∀ (n:Str),Tt (fun r=>Te (aAI s r.1.params v.m)∧Sm r.1.parts) (vL s n):=fun n=>by
   refine ⟨_,aAW s n h.sm,?_,by have:=h.partsF n;show (bM s n).1.parts.length<_;omega⟩
   rcases aAc s n with hx | ⟨_,_,_,e⟩
   ·exact hin _ hx
   ·rw [e];exact aSz s [] v.m (by simp [bkSl,sumL]) hsm fun y hy t ht=>ihn y.v (hvm y hy) (by omega) _ t true ht (Nat.le_refl _)
  have leaf:∀ (n:Str),Te (cnd (n==([73,110,116]:Str)) (cnd (v.kind==2) (cnd (decide (v.n≥(-2147483648))) (some (decide (v.n≤2147483647))) (some false)) (some false)) (cnd (n==([83,116,114,105,110,103]:Str)) (some (v.kind==4)) (cnd (n==([66,111,111,108,101,97,110]:Str)) (some (v.kind==1)) (cnd (n==([73,68]:Str)) (cnd (v.kind==4) (some true) (some (v.kind==2))) (bnd (vL s n) fun y21=>cnd (y21.1.kind==4) (cnd (v.kind==5) (bnd (aBj y21.1.parts v.s) fun y23=>some y23) (some false)) (cnd (y21.1.kind==5) (cnd (v.kind==7) (bnd (aAI s y21.1.params v.m) fun y25=>some y25) (some false)) (some false))))))):=fun n=>by
   refine Tt.cnd (fun _=>Tt.cnd (fun _=>Tt.cnd (fun _=>Tt.ret trivial) fun _=>Tt.ret trivial) fun _=>Tt.ret trivial) fun _=>Tt.cnd (fun _=>Tt.ret trivial) fun _=>Tt.cnd (fun _=>Tt.ret trivial) fun _=>Tt.cnd (fun _=>Tt.cnd (fun _=>Tt.ret trivial) fun _=>Tt.ret trivial) fun _=>Tt.bnd (hfind n) fun r hr => ?_
   exact Tt.cnd (fun _=>Tt.cnd (fun _=>Tt.eq (rL _ _ hr.2) (Tt.ret trivial)) fun _=>Tt.ret trivial) fun _=>Tt.cnd (fun _=>Tt.cnd (fun _=>Tt.bnd hr.1 fun _ _=>Tt.ret trivial) fun _=>Tt.ret trivial) fun _=>Tt.ret trivial
  have list1:∀ y4:GType×Bool,TN y4.1→Te (bJ (oR s v y4) 0):=fun y4 ht=>by
   refine Tt.idx v.l.length hsl fun i h0 h1 => ?_
   unfold oR
   refine Tt.cnd (fun hc=>Tt.nth ⟨h0,vE hc⟩ fun x hx _=>Tt.bnd (ihn x (hvl x hx) (by omega) _ y4.1 false ht (Nat.le_refl _)) fun b _=>Tt.cnd (fun _=>Tt.ret (Ix.r trivial)) fun _=>Tt.ret (Ix.l hc)) fun _=>Tt.ret (Ix.r trivial)
  have main:∀ (t:GType) (al:Bool),TN t→(∀ t':GType,TN t'→t'.lists.toNat<t.lists.toNat→Te (sI s t' v true))→Te (sI s t v al):=fun t al ht hrec=>by
   have:Te (uF s t v al):=by
    unfold uF
    refine Tt.bnd (bAR t ht) fun b _=>Tt.cnd (fun _=>Tt.ret trivial) fun _=>Tt.cnd (fun _=>Tt.ret trivial) fun _=>Tt.cnd (fun _=>Tt.ret trivial) fun _=>Tt.bnd (bAS t ht) fun y4 hy => ?_
    refine Tt.jn (fun k=>∀ t,Te (k t)) (fun _ => ?_) fun k hk => ?_
    ·exact Tt.cnd (fun _=>Tt.bnd (list1 _ hy.1) fun o _=>Tt.elim (fun _ _=>Tt.ret trivial) fun _ _=>Tt.ret trivial) fun _=>leaf _
    ·exact Tt.cnd (fun hl=>Tt.cnd (fun _=>Tt.cnd (fun _=>Tt.bnd (hrec _ hy.1 (hy.2 hl)) fun _ _=>Tt.ret trivial) fun _=>Tt.ret trivial) fun _=>hk _) fun _=>hk _
   obtain ⟨b,hb,hp⟩:=this
   exact ⟨b,aM6 hb,hp⟩
  induction k with
  | zero=>exact fun t al ht hk=>main t al ht fun t' _ h'=>by omega
  | succ k ihk=>exact fun t al ht hk=>main t al ht fun t' ht' h'=>ihk t' true ht' (by omega)
theorem aYF:Ds 192 aSs:=by
 intro args hA hc
 obtain ⟨v0,r0,rfl,h0,hA⟩:=nZ hA
 obtain ⟨v1,r1,rfl,h1,hA⟩:=nZ hA
 obtain ⟨v2,r2,rfl,h2,hA⟩:=nZ hA
 obtain ⟨v3,r3,rfl,h3,hA⟩:=nZ hA
 cases aHH hA
 obtain ⟨s,rfl⟩:=aHF h0
 obtain ⟨t,rfl⟩:=bAL h1
 obtain ⟨v,rfl⟩:=aGa h2
 obtain ⟨b,rfl⟩:=bAQ h3
 have ps:=tL hc rfl (v:=cL s) (by simp)
 have pt:=tL hc rfl (v:=iS t) (by simp)
 have pv:=tL hc rfl (v:=aN v) (by simp)
 have qs:=aAX s;have qt:=aSw t;have qv:=aLf v
 unfold Nr at qs qt qv
 obtain ⟨r,hr,_⟩:=aYE s ⟨by omega⟩ _ v (Nat.le_refl _) (by omega) _ t b (by rw [jW,aX] at qt;unfold TN;omega) (Nat.le_refl _)
 exact ⟨.bool r,by simp only [tys];exact bU (enc:=fun r=>(PV.bool r,[])) hr,.one (.bool r)⟩
theorem bAU {s:Str} {i n:Int} (h:decide (n>IntKind.wrap .i64 ((List.length s:Int)-i))=false) (hs:s.length≤1073741824) (h0:0≤i) (h1:i<s.length) {F:Int→UInt8→Int} {p q:UInt8→Bool} {b:Int×Int→Option ((Int×Int)⊕(Int⊕Unit))}
  (hb:∀ c k,b (c,k)=cnd (decide (k<n)) (bnd (nthI s (IntKind.wrap .i64 (i+k))) fun y=>cnd (p y) (some (.inr (.inr ()))) (cnd (q y) (some (.inr (.inr ()))) (some (.inl (F c y,IntKind.wrap .i64 (k+1)))))) (some (.inr (.inl c)))) (c:Int):Te (bJ b (c,1)):=by
 rw [wi (by omega)] at h
 have hn:n≤s.length-i:=by simpa using h
 refine Tt.loop (fun st:Int×Int=>1≤st.2) (fun st:Int×Int=>(n-st.2).toNat) (fun st hst => ?_) (by simp)
 obtain ⟨c,k⟩:=st
 simp only at hst
 rw [hb]
 refine Tt.cnd (fun hc => ?_) fun _=>Tt.ret (Nx.r trivial)
 have hk:=vE hc
 rw [wi (n:=i+k) (by omega)]
 refine Tt.nth (by omega) fun y _ _=>Tt.cnd (fun _=>Tt.ret (Nx.r trivial)) fun _=>Tt.cnd (fun _=>Tt.ret (Nx.r trivial)) fun _=>Tt.ret (Nx.l ?_ ?_)
 ·show 1≤IntKind.wrap .i64 (k+1);rw [wi (by omega)];omega
 ·show (n-IntKind.wrap .i64 (k+1)).toNat<(n-k).toNat;rw [wi (by omega)];omega
theorem bAV (s:Str) (hs:s.length≤1073741824) (i:Int):Tt (fun r=>0≤r.2∧r.2≤4) (aPw s i):=by
 have:Tt (fun r:Int×Int=>0≤r.2∧r.2≤4) (zU s i):=by
  unfold zU
  refine Tt.cnd (fun _=>Tt.ret (by decide)) fun h1=>Tt.cnd (fun _=>Tt.ret (by decide)) fun h2 => ?_
  have h1:0≤i:=by simpa using h1
  have h2:i<s.length:=by simpa using h2
  refine Tt.nth ⟨h1,h2⟩ fun y _ _=>Tt.cnd (fun _=>Tt.ret (show 0≤(1:Int)∧(1:Int)≤4 by decide)) fun _ => ?_
  refine Tt.jn (fun k=>∀ c n low t t' t'',0≤n→n≤4→Tt (fun r:Int×Int=>0≤r.2∧r.2≤4) (k c n low t t' t'')) (fun c n low _ _ _ n0 n4 => ?_) fun k hk => ?_
  ·refine Tt.cnd (fun _=>Tt.ret (by decide)) fun hc=>Tt.bnd (bAU hc hs h1 h2 (fun _ _=>rfl) _) fun o _=>Tt.elim (fun _ _ => ?_) fun _ _=>Tt.ret (by decide)
   repeat' first
    | exact Tt.ret ⟨n0,n4⟩
    | exact Tt.ret (by decide)
    | (refine Tt.cnd (fun _ => ?_) (fun _ => ?_))
  ·repeat' first
    | exact Tt.ret (by decide)
    | exact hk _ _ _ _ _ _ (by decide) (by decide)
    | (refine Tt.cnd (fun _ => ?_) (fun _ => ?_))
 obtain ⟨b,hb,hp⟩:=this
 exact ⟨b,aQK hb,hp⟩
theorem aYG (s:Str) (hs:s.length≤1073741824):Tt (fun r=>r.1.length≤1073741824) (aSf s):=by
 have:Tt (fun r:List Int×Bool=>r.1.length≤1073741824) (uI s):=by
  unfold uI
  refine Tt.bnd (Q:=fun o=>Ev.elim o (fun l=>l.length≤1073741824) fun _=>True) (Tt.loop (fun st:List Int×Int=>0≤st.2∧st.1.length≤st.2∧st.2≤s.length+4∧st.1.length≤s.length) (fun st:List Int×Int=>((s.length:Int)+4-st.2).toNat) (fun st hst => ?_) (by simp;omega)) fun o ho=>Tt.elim (fun a e=>Tt.ret (by subst e;exact ho)) fun _ _=>Tt.ret (by simp)
  obtain ⟨out,i⟩:=st
  obtain ⟨a1,a2,a3,a4⟩:=hst
  simp only at a1 a2 a3 a4
  unfold sM
  refine Tt.cnd (fun hc => ?_) fun _=>Tt.ret (Nx.r (show out.length≤1073741824 by omega))
  have hi:=vE hc
  refine Tt.bnd (bAV s hs i) fun y hy=>Tt.cnd (fun _=>Tt.ret (Nx.r trivial)) fun h0 => ?_
  have h0:y.2≠0:=by simpa using h0
  refine Tt.app (by simp;omega) (Tt.ret ?_)
  rw [wi (n:=i+y.2) (by omega)]
  refine Nx.l (by simp;omega) ?_
  show ((s.length:Int)+4-(i+y.2)).toNat<((s.length:Int)+4-i).toNat
  omega
 obtain ⟨b,hb,hp⟩:=this
 exact ⟨b,aNa hb,hp⟩
theorem bAW {l:List Int}:∀ e,e∈l.map (PV.int .i64)→ElOk tτ (elOf tτ 1) e:=by
 intro e he
 obtain ⟨x,_,rfl⟩:=List.mem_map.1 he
 exact .one (.int _ _)
theorem aNZ (s:Str) (hs:s.length≤1073741824) (i:Int) (h:0≤i∧i≤s.length):Tt (fun n=>0≤n∧i+n≤s.length) (yR s i):=by
 have:Tt (fun n=>0≤n∧i+n≤s.length) (aDu s i):=by
  unfold aDu
  refine Tt.bnd (Q:=fun n=>0≤n∧i+n≤s.length) (Tt.loop (fun n:Int=>0≤n∧i+n≤s.length) (fun n:Int=>((s.length:Int)-n).toNat) (fun n hn => ?_) (by omega)) fun n hn=>Tt.ret hn
  unfold aAR
  dsimp only
  rw [wi (n:=i+n) (by omega)]
  refine Tt.cnd (fun hc => ?_) fun _=>Tt.ret (Nx.r hn)
  have hi:=vE hc
  refine Tt.nth (by omega) fun y _ _=>Tt.eq (aHA _) (Tt.cnd (fun _=>Tt.ret ?_) fun _=>Tt.ret (Nx.r hn))
  rw [wi (n:=n+1) (by omega)]
  exact Nx.l (by omega) (by omega)
 obtain ⟨b,hb,hp⟩:=this
 exact ⟨b,aUn hb,hp⟩
theorem aUG (s:Str) (hs:s.length≤1073741824):Te (aJf s):=by
 have kloop:∀ (k:Int) (z:Option (Int×Int)),0≤k→k≤s.length→Te z→Te (bnd (yR s k) fun y39=>cnd (decide (y39>0)) (bnd (yR s k) fun y41=>some ((IntKind.wrap .i64 (k+y41)),(4:Int))) z):=fun k z h0 h1 hz =>
  Tt.bnd (aNZ s hs k ⟨h0,h1⟩) fun _ _=>Tt.cnd (fun _=>Tt.bnd (aNZ s hs k ⟨h0,h1⟩) fun _ _=>Tt.ret trivial) fun _=>hz
 have:Te (oS s):=by
  unfold oS
  refine Tt.jn (fun k=>∀ i t t',0≤i→i≤(s.length:Int)→Te (k i t t')) (fun i t t' h0 h1 => ?_) fun k1 hk1 => ?_
  ·refine Tt.bnd (aNZ s hs i ⟨h0,h1⟩) fun y8 h8=>Tt.cnd (fun _=>Tt.ret trivial) fun hne => ?_
   have hne:y8≠0:=by simpa using hne
   refine Tt.jn (fun k=>∀ n t,0≤n→i+n≤(s.length:Int)→Te (k n t)) (fun n t n0 n1 => ?_) fun k10 hk10=>Tt.nth (by omega) fun y _ _=>Tt.cnd (fun _=>hk10 _ _ (by omega) (by omega)) fun _=>hk10 _ _ h8.1 h8.2
   refine Tt.jn (fun k=>∀ j kd t t' t'' t3,0≤j→j≤(s.length:Int)→Te (k j kd t t' t'' t3)) (fun j kd _ _ _ _ j0 j1 => ?_) fun k15 hk15 => ?_
   ·refine Tt.cnd (fun hc => ?_) fun _=>Tt.ret trivial
    have hj:=vE hc
    have e1:IntKind.wrap .i64 (j+1)=j+1:=wi (by omega)
    have e2:IntKind.wrap .i64 (j+1+1)=j+1+1:=wi (by omega)
    simp only [e1,e2]
    refine Tt.nth (by omega) fun y _ _=>Tt.cnd (fun _ => ?_) fun _=>Tt.nth (by omega) fun y _ _=>Tt.cnd (fun _ => ?_) fun _=>Tt.ret trivial
    all_goals
     refine Tt.jn (fun k=>∀ q t t',0≤q→q≤(s.length:Int)→Te (k q t t')) (fun q _ _ q0 q1=>kloop q _ q0 q1 (Tt.ret trivial)) fun k30 hk=>Tt.cnd (fun hc => ?_) fun _=>hk _ _ _ (by omega) (by omega)
     have hq:=vE hc
     exact Tt.nth (by omega) fun y _ _=>Tt.cnd (fun _=>hk _ _ _ (by omega) (by omega)) fun _=>Tt.nth (by omega) fun y _ _=>Tt.cnd (fun _=>hk _ _ _ (by omega) (by omega)) fun _=>hk _ _ _ (by omega) (by omega)
   ·have e1:IntKind.wrap .i64 (i+n)=i+n:=wi (by omega)
    have e2:IntKind.wrap .i64 (i+n+1)=i+n+1:=wi (by omega)
    simp only [e1,e2]
    refine Tt.cnd (fun hc => ?_) fun _=>hk15 _ _ _ _ _ _ (by omega) n1
    have hq:=vE hc
    refine Tt.nth (by omega) fun y _ _=>Tt.cnd (fun _ => ?_) fun _=>hk15 _ _ _ _ _ _ (by omega) n1
    refine Tt.bnd (aNZ s hs _ ⟨by omega,by omega⟩) fun y19 _=>Tt.cnd (fun _=>Tt.bnd (aNZ s hs _ ⟨by omega,by omega⟩) fun y21 h21 => ?_) fun _=>hk15 _ _ _ _ _ _ (by omega) n1
    rw [wi (n:=i+n+1+y21) (by omega)]
    exact hk15 _ _ _ _ _ _ (by omega) (by omega)
  ·refine Tt.cnd (fun hc => ?_) fun _=>hk1 _ _ _ (by omega) (by omega)
   have:=vE hc
   exact Tt.nth (by omega) fun y _ _=>Tt.cnd (fun _=>hk1 _ _ _ (by omega) (by omega)) fun _=>hk1 _ _ _ (by omega) (by omega)
 obtain ⟨b,hb,hp⟩:=this
 exact ⟨b,aIl hb,hp⟩
theorem aYH:Ds 239 aSr:=by
 intro args hA hc
 obtain ⟨v0,r0,rfl,h0,hA⟩:=nZ hA
 cases aHH hA
 obtain ⟨s,rfl,hs⟩:=aZ1 h0
 obtain ⟨r,hr,hl⟩:=aYG s hs
 refine ⟨_,bU (enc:=fun r=>(rD r,[])) hr,_,rfl,.cons (.one (.sl bAW (by simpa using hl))) (.cons (.one (.bool _)) .nil)⟩
theorem aUH:Ds 238 aJr:=by
 intro args hA hc
 obtain ⟨v0,r0,rfl,h0,hA⟩:=nZ hA
 cases aHH hA
 obtain ⟨s,rfl,hs⟩:=aZ1 h0
 obtain ⟨r,hr,hl⟩:=aUG s hs
 exact ⟨_,bU (enc:=fun r=>(gW r,[])) hr,_,rfl,.cons (.one (.int _ _)) (.cons (.one (.int _ _)) .nil)⟩
mutual
theorem aLg:∀ v:GValue,∀ x∈varN v,x.length<cB v
 | ⟨k,n,s,l,m⟩=>by
  have h1:=aN0 l
  have h2:=aN1 m
  rw [vJ] at h1;rw [sF] at h2
  intro x hx
  rw [cD]
  simp only [varN] at hx
  simp only [bkSl,aX]
  revert hx
  cases k==8<;>cases k==6<;>cases k==7<;>simp only [cond_true,cond_false,List.mem_singleton,List.not_mem_nil]<;>intro hx
  all_goals first
   | exact hx.elim
   | (subst hx;omega)
   | (have:=h1 x hx;omega)
   | (have:=h2 x hx;omega)
theorem aN0:∀ l:List GValue,∀ x∈aFQ l,x.length<pX l
 | [],x,hx=>by simp [aFQ] at hx
 | y::l,x,hx=>by
  simp only [aFQ,List.mem_append] at hx
  simp only [pX]
  rcases hx with h | h
  ·have:=aLg y x h;omega
  ·have:=aN0 l x h;omega
theorem aWV:∀ y:GMember,∀ x∈aRa y,x.length<aW y
 | ⟨n,v⟩=>by intro x hx;have:=aLg v x (by simpa only [aRa] using hx);rw [cO];show x.length<dC n+(cB v+0)+1;omega
theorem aN1:∀ l:List GMember,∀ x∈aFR l,x.length<mO l
 | [],x,hx=>by simp [aFR] at hx
 | y::l,x,hx=>by
  simp only [aFR,List.mem_append] at hx
  simp only [mO]
  rcases hx with h | h
  ·have:=aWV y x h;omega
  ·have:=aN1 l x h;omega
end
theorem aWW {l:List Str} (h:∀ x∈l,x.length≤topL):∀ e,e∈l.map PV.str→ElOk tτ (elOf tτ 0) e:=by
 intro e he
 obtain ⟨x,hx,rfl⟩:=List.mem_map.1 he
 exact .one (.str (h x hx))
theorem aN2 (l:List Str):l.length≤sumL dC l:=mI dC (fun s=>by rw [aX];omega) l
theorem bAX:Ds 236 aWR:=by
 intro args hA hc
 obtain ⟨v0,r0,rfl,h0,hA⟩:=nZ hA
 obtain ⟨v1,r1,rfl,h1,hA⟩:=nZ hA
 cases aHH hA
 obtain ⟨v,rfl⟩:=aGa h0
 obtain ⟨es,rfl,he,hn⟩:=bBY h1
 obtain ⟨l,rfl⟩:=bZ (f:=PV.str) (fun e h=>aWO (he e h))
 have pv:=tL hc rfl (v:=aN v) (by simp)
 have pl:=tL hc rfl (v := .slice (l.map PV.str) [] true) (by simp)
 have qv:=aLf v
 have ql:=aWT l
 unfold Nr at qv
 simp only [bK] at pl
 have hll:=aN2 l
 have hz:=aWG v
 have hr:=aRb (szV v) v l (Nat.le_refl _) (by omega)
 have hlen:=rN (varN v) l
 have hzv:=aHG v
 refine ⟨_,by simp only [tys];exact bU (enc:=fun r=>(iL r,[])) hr,.one (.sl (aWW fun x hx => ?_) (by simp only [List.length_map];omega))⟩
 show x.length≤1073741824
 rcases (jZ _ _ _).1 hx with hx | hx
 ·have:=gS dC hx;rw [aX] at this;omega
 ·have:=aLg v x hx;omega
theorem aSA:Ds 114 aLd:=by
 intro args hA hc
 obtain ⟨v0,r0,rfl,h0,hA⟩:=nZ hA
 obtain ⟨v1,r1,rfl,h1,hA⟩:=nZ hA
 cases aHH hA
 obtain ⟨d,rfl⟩:=aZZ h0
 obtain ⟨es,rfl,he,hn⟩:=bBY h1
 obtain ⟨l,rfl⟩:=bZ (f:=aF) (fun e h=>aWQ (he e h))
 have pd:=tL hc rfl (v:=lH d) (by simp)
 have pl:=tL hc rfl (v := .slice (l.map aF) [] false) (by simp)
 have qd:=aYC d
 have ql:=psl (l:=l) (fun x _=>bAP x)
 unfold Nr at qd
 simp only [bK] at pl
 obtain ⟨r,l',hr,hnd,_,hiff,_⟩:=aRd d l (by rw [eP];omega)
 have hin:∀ n∈r,∃ f∈d.frags,f.name=n:=fun n hx=>⟨_,aHD ((hiff n).1 hx).2⟩
 have hlen:r.length≤d.frags.length:=by
  have:=aC4 r (d.frags.map (·.name)) hnd (fun n hx=>by obtain ⟨f,hf,e⟩:=hin n hx;exact List.mem_map.2 ⟨f,hf,e⟩)
  simpa using this
 have hfl:=aHE d
 refine ⟨_,by simp only [tys];exact bU (enc:=fun r=>(cN r,[])) hr,.one (.sl (aWW fun x hx => ?_) (by simp only [List.length_map];omega))⟩
 obtain ⟨f,hf,rfl⟩:=hin x hx
 have h1:=gS gB hf
 have h2:=wG d
 rw [iV,aX] at h1
 show f.name.length≤1073741824
 omega
def isIn (s:GSchema) (x:Str):Prop:=x∈s.defs.map (·.name)
theorem aYI {s:GSchema} {n:Str} (h:iE s n [5,5,5]=true):isIn s n:=by
 unfold iE bM at h
 cases hs:pM n
 ·rw [hs] at h
  simp only [cond_false] at h
  cases hf:s.defs.find? (fun d=>d.name==n) with
  | none=>rw [hf] at h;simp at h
  | some d=>exact List.mem_map.2 ⟨d,List.mem_of_find?_eq_some hf,by simpa using List.find?_some hf⟩
 ·rw [hs] at h;simp at h
theorem aSB (s:GSchema) (h:SOk s) (n:Str):Tt (fun l=>l.length<1073741824∧∀ x∈l,isIn s x) (aF4 s n):=by
 have hp:(bM s n).1.params.length<1073741824:=by
  rcases aAc s n with hx | ⟨_,_,_,e⟩
  ·have:=h.def_bk hx;rw [jK] at this;have:=mI fQ aHB (bM s n).1.params;unfold bkSl at *;omega
  ·rw [e];simp
 have:Tt (fun l=>l.length<1073741824∧∀ x∈l,isIn s x) (uM s n):=by
  unfold uM
  refine Tt.eq (aAW s n h.sm) (Tt.bnd (Q:=fun l:List Str=>l.length<1073741824∧∀ x∈l,isIn s x) (Tt.loop (fun st:List Str×Int=>0≤st.2∧st.2≤(bM s n).1.params.length∧st.1.length≤st.2∧∀ x∈st.1,isIn s x) (fun st:List Str×Int=>((bM s n).1.params.length-st.2:Int).toNat) (fun st hst => ?_) (by simp)) fun l hl=>Tt.ret hl)
  obtain ⟨out,i⟩:=st
  obtain ⟨a1,a2,a3,a4⟩:=hst
  simp only at a1 a2 a3 a4
  have stop:Tt (Nx (fun st:List Str×Int=>0≤st.2∧st.2≤(bM s n).1.params.length∧st.1.length≤st.2∧∀ x∈st.1,isIn s x) (fun st:List Str×Int=>((bM s n).1.params.length-st.2:Int).toNat) (out,i) (fun l:List Str=>l.length<1073741824∧∀ x∈l,isIn s x)) (some (.inr out)):=Tt.ret (Nx.r ⟨by omega,a4⟩)
  unfold sO
  refine Tt.cnd (fun hc => ?_) fun _=>stop
  have hi:=vE hc
  have e:IntKind.wrap .i64 (i+1)=i+1:=wi (by omega)
  rw [e]
  have next:∀ o:List Str,o.length≤out.length+1→(∀ x∈o,isIn s x)→Tt (Nx (fun st:List Str×Int=>0≤st.2∧st.2≤(bM s n).1.params.length∧st.1.length≤st.2∧∀ x∈st.1,isIn s x) (fun st:List Str×Int=>((bM s n).1.params.length-st.2:Int).toNat) (out,i) (fun l:List Str=>l.length<1073741824∧∀ x∈l,isIn s x)) (some (.inl (o,i+1))):=fun o ho hs=>Tt.ret (Nx.l ⟨by simp only;omega,by simp only;omega,by simp only;omega,hs⟩ (by simp only;omega))
  refine Tt.cnd (fun _=>Tt.nth ⟨a1,hi⟩ fun p hp _=>Tt.cnd (fun _=>Tt.cnd (fun _=>Tt.eq (aLb s _ 5 5 5 h.sm) (Tt.cnd (fun hk=>Tt.app (by simp;omega) (next _ (by simp) fun x hx => ?_)) fun _=>next _ (by omega) a4)) fun _=>next _ (by omega) a4) fun _=>next _ (by omega) a4) fun _=>stop
  rcases List.mem_append.1 hx with hx | hx
  ·exact a4 x hx
  ·rw [List.mem_singleton.1 hx];exact aYI hk
 obtain ⟨b,hb,hp⟩:=this
 exact ⟨b,aNo hb,hp⟩
def More (s:GSchema) (y l:List Str):Prop:=∃ a,l=y++a∧a.Nodup∧∀ x∈a,isIn s x
theorem More.len {s:GSchema} {y l:List Str} (h:More s y l):l.length≤y.length+s.defs.length:=by
 obtain ⟨a,rfl,h1,h2⟩:=h
 have:=aC4 a (s.defs.map fun d:GDef=>d.name) h1 h2
 simp only [List.length_append,List.length_map] at this ⊢
 omega
theorem aYJ (s:GSchema) (h:SOk s):Te (aKr s):=by
 have hd:=h.defs
 have inner:∀ (y l m:List Str),More s y l→y.length<2147483648→m.length<1073741824→(∀ x∈m,isIn s x)→Tt (More s y) (bJ (oP m) (l,0)):=fun y l m hl hy hm hmi=>by
  refine Tt.loop (fun st:List Str×Int=>0≤st.2∧st.2≤m.length∧More s y st.1) (fun st:List Str×Int=>((m.length:Int)-st.2).toNat) (fun st hst => ?_) ⟨by simp,by simp,hl⟩
  obtain ⟨o,j⟩:=st
  obtain ⟨a1,a2,a3⟩:=hst
  simp only at a1 a2 a3
  have hlo:=a3.len
  unfold oP
  refine Tt.cnd (fun hc => ?_) fun _=>Tt.ret (Nx.r a3)
  have hj:=vE hc
  have e:IntKind.wrap .i64 (j+1)=j+1:=wi (by omega)
  rw [e]
  refine Tt.nth ⟨a1,hj⟩ fun x hx ex=>Tt.eq (rL o x (by show o.length<_;omega)) (Tt.cnd (fun hn=>Tt.nth ⟨a1,hj⟩ fun x' hx' ex'=>Tt.app (by simp;omega) (Tt.ret (Nx.l ⟨by simp only;omega,by simp only;omega,?_⟩ (by simp only;omega)))) fun _=>Tt.ret (Nx.l ⟨by simp only;omega,by simp only;omega,a3⟩ (by simp only;omega)))
  rw [ex] at ex';cases ex'
  obtain ⟨a,rfl,b1,b2⟩:=a3
  refine ⟨a++[x],by simp,?_,fun z hz => ?_⟩
  ·have hn:x∉a:=fun hxa=>by
    have:(y++a).contains x=true:=List.contains_iff_mem.2 (List.mem_append_right y hxa)
    rw [this] at hn;simp at hn
   rw [List.nodup_append]
   exact ⟨b1,by simp,fun u hu w hw=>by rw [List.mem_singleton.1 hw];intro e;subst e;exact hn hu⟩
  ·rcases List.mem_append.1 hz with hz | hz
   ·exact b2 z hz
   ·rw [List.mem_singleton.1 hz];exact hmi x hx
 have mid:∀ (y:List Str),y.length<1073741824→Tt (fun l:List Str=>l.length<2147483648) (bJ (oQ s) (y,0)):=fun y hy=>by
  refine Tt.loop (fun st:List Str×Int=>0≤st.2∧st.2≤st.1.length∧More s y st.1) (fun st:List Str×Int=>((y.length:Int)+s.defs.length-st.2).toNat) (fun st hst => ?_) ⟨by simp,by simp,[],by simp⟩
  obtain ⟨o,k⟩:=st
  obtain ⟨a1,a2,a3⟩:=hst
  simp only at a1 a2 a3
  have hlo:=a3.len
  unfold oQ
  refine Tt.cnd (fun hc => ?_) fun _=>Tt.ret (Nx.r (by omega))
  have hk:=vE hc
  have e:IntKind.wrap .i64 (k+1)=k+1:=wi (by omega)
  refine Tt.nth ⟨a1,hk⟩ fun x hx _=>Tt.bnd (aSB s h x) fun m hm=>Tt.bnd (Q:=fun l':List Str=>More s y l'∧o.length≤l'.length) ?_ fun l' hl'=>Tt.ret ?_
  ·obtain ⟨l',h1,h2⟩:=inner y o m a3 (by omega) hm.1 hm.2
   refine ⟨l',h1,h2,?_⟩
   obtain ⟨l'',h1',h2'⟩:=inner o o m ⟨[],by simp⟩ (by omega) hm.1 hm.2
   rw [h1] at h1';cases h1'
   obtain ⟨a,rfl,_⟩:=h2'
   simp
  ·rw [e]
   have:=hl'.1.len
   exact Nx.l ⟨by simp only;omega,by simp only;omega,hl'.1⟩ (by simp only;omega)
 have:Te (uE s):=by
  unfold uE
  refine Tt.bnd (Q:=fun _=>True) (Tt.idx s.defs.length (by omega) fun i h0 h1 => ?_) fun o _=>Tt.elim (fun _ _=>Tt.ret trivial) fun _ _=>Tt.ret trivial
  unfold sL
  refine Tt.cnd (fun hc => ?_) fun _=>Tt.ret (Ix.r trivial)
  have hi:=vE hc
  exact Tt.nth ⟨h0,hi⟩ fun x _ _=>Tt.bnd (aSB s h _) fun y hy=>Tt.bnd (mid y hy.1) fun l hl=>Tt.nth ⟨h0,hi⟩ fun x _ _=>Tt.eq (rL l _ (by show l.length<_;omega)) (Tt.cnd (fun _=>Tt.ret (Ix.r trivial)) fun _=>Tt.ret (Ix.l hc))
 obtain ⟨b,hb,hp⟩:=this
 exact ⟨b,aMX hb,hp⟩
theorem aYK:Ds 96 aSt:=by
 intro args hA hc
 obtain ⟨v0,r0,rfl,h0,hA⟩:=nZ hA
 cases aHH hA
 obtain ⟨s,rfl⟩:=aHF h0
 have ps:=tL hc rfl (v:=cL s) (by simp)
 have qs:=aAX s
 unfold Nr at qs
 obtain ⟨r,hr,_⟩:=aYJ s ⟨by omega⟩
 exact ⟨.bool r,by simp only [tys];exact bU (enc:=fun r=>(PV.bool r,[])) hr,.one (.bool r)⟩
def hK (s:GSchema) (typ:Str) (x:GSel):Str:=bif x.kind==0 then (jC s typ x.name).1.t.name else bif x.kind==2 then (bif x.on_==([]:Str) then typ else x.on_) else []
def oY (s:GSchema) (o:GOp):Str:=bif o.kind==1 then s.mutation else s.query
theorem aN3 (s:GSchema) (typ:Str) (x:GSel) (h:SOk s):aG6 s typ x=some (hK s typ x):=by
 apply aKX
 simp only [vZ,aCy s _ _ h,bP,hK]
 cases x.kind==0<;>cases x.kind==2<;>cases x.on_==([]:Str)<;>rfl
theorem aUI (s:GSchema) (o:GOp):aPu s o=some (oY s o):=by
 apply aQn
 simp only [aDp,oY]
 cases o.kind==1<;>rfl
mutual
def aN4 (s:GSchema) (typ:Str):GSel→List GSeineref13Spot
 | ⟨k,a,n,ar,ds,on,sels⟩=>⟨typ,⟨k,a,n,ar,ds,on,sels⟩⟩::eX s (hK s typ ⟨k,a,n,ar,ds,on,sels⟩) sels
def eX (s:GSchema) (typ:Str):List GSel→List GSeineref13Spot
 | []=>[]
 | x::l=>aN4 s typ x++eX s typ l
end
theorem aGb (s:GSchema) (typ:Str) (x:GSel):aN4 s typ x=⟨typ,x⟩::eX s (hK s typ x) x.sels:=by cases x;simp only [aN4]
mutual
theorem aSC (s:GSchema):∀ (x:GSel) (typ:Str),(aN4 s typ x).length≤gG x
 | ⟨k,a,n,ar,ds,on,sels⟩,typ=>by
  have:=aAY s sels (hK s typ ⟨k,a,n,ar,ds,on,sels⟩)
  rw [eP] at this
  rw [gV]
  simp only [aN4,List.length_cons,bkSl]
  omega
theorem aAY (s:GSchema):∀ (l:List GSel) (typ:Str),(eX s typ l).length≤bR l
 | [],_=>by simp [eX]
 | x::l,typ=>by have:=aSC s x typ;have:=aAY s l typ;simp only [eX,bR,List.length_append];omega
end
theorem aN5 (s : GSchema) (h : SOk s) : ∀ (n : Nat) (sels : List GSel) (typ : Str) (l : List GSeineref13Spot), bR sels ≤ n → l.length + bR sels < 1073741824 → aDg s typ sels l = some (l ++ eX s typ sels) := by
 intro n
 induction n with
 | zero =>
  intro sels typ l hb hl
  have := fA sels
  have hs : sels = [] := List.length_eq_zero_iff.1 (by omega)
  subst hs
  apply aFh
  unfold uL
  rw [cC (r := l) (by simp [jA])]
  simp [eX]
 | succ n ih =>
  intro sels typ l hb hl
  apply aFh
  unfold uL
  have hlen := fA sels
  have key := iC (b := jA s typ sels) sels (fun k (a : List GSeineref13Spot) => (a, (k : Int))) (fun r a => a ++ eX s typ r) (fun k a => a.length + bR (sels.drop k) < 1073741824) (by show sels.length < _; omega)
   (by intro a _; simp [jA, eX])
   (by
    intro k x r a hm hk hd h1 h2 h3 hI
    rw [hd] at hI
    simp only [bR] at hI
    have hdr : sels.drop (k + 1) = r := by rw [← List.tail_drop, hd]; rfl
    have hx := nX hm
    have hx2 := nY x
    have hb1 := aSC s x typ
    have ht : tapp a [GSeineref13Spot.mk typ x] = some (a ++ [⟨typ, x⟩]) := yA (by simp [aBE]; omega)
    refine .inr ⟨a ++ aN4 s typ x, ?_, ?_, ?_⟩
    ·simp only [jA, h1, fZ, h2, bP, h3, ht, aN3 s typ x h, ih x.sels (hK s typ x) (a ++ [⟨typ, x⟩]) (by omega) (by simp; omega)]
     rw [aGb]; simp
    ·rw [hdr]; simp only [List.length_append]; omega
    ·simp only [eX, List.append_assoc]) (s := (l, 0)) (a := l) rfl (by simpa using hl)
  rw [key]; rfl
def gF (s:GSchema) (d:GDoc):List GSeineref13Spot:=(d.ops.flatMap fun o=>eX s (oY s o) o.sels)++d.frags.flatMap fun f=>eX s f.on_ f.sels
theorem aLh (s:GSchema):∀ l:List GOp,(l.flatMap fun o=>eX s (oY s o) o.sels).length≤sumL bkOp l
 | []=>by simp
 | o::l=>by
  have h1:=aLh s l
  have h2:=aAY s o.sels (oY s o)
  have h3:=nL o
  rw [eP] at h2
  simp only [bkSl] at h3
  simp only [List.flatMap_cons,List.length_append,sumL];omega
theorem aJt (s:GSchema):∀ l:List GFrag,(l.flatMap fun f=>eX s f.on_ f.sels).length≤sumL gB l
 | []=>by simp
 | f::l=>by
  have h1:=aJt s l
  have h2:=aAY s f.sels f.on_
  have h3:=aAe f
  simp only [List.flatMap_cons,List.length_append,sumL];omega
theorem aAf (d:GDoc):jL d=sumL bkOp d.ops+sumL gB d.frags+3:=by rw [vK];simp only [bkSl];omega
theorem aJu (s:GSchema) (d:GDoc):(gF s d).length≤jL d:=by
 have h1:=aLh s d.ops
 have h2:=aJt s d.frags
 rw [aAf];simp only [gF,List.length_append];omega
theorem aSD (o:GOp):1≤bkOp o:=by rw [nL];omega
theorem aJv (o:GOp):bR o.sels+1≤bkOp o:=by rw [nL,eP];simp only [bkSl];omega
theorem aHI (s : GSchema) (d : GDoc) (h : SOk s) (hd : jL d < 500000000) : aDd s d = some (gF s d) := by
 apply aMM
 unfold aAM
 rw [aAf] at hd
 have hol := mI bkOp aSD d.ops
 have hfl := mI gB aES d.frags
 have k1 := aC3 (b := lM s d) d.ops (fun k (a : List GSeineref13Spot) => (a, (k : Int))) (fun a o => a ++ eX s (oY s o) o.sels) (fun a => a) (fun k a => a.length + sumL bkOp (d.ops.drop k) ≤ sumL bkOp d.ops) (by show d.ops.length < _; omega)
  (by intro a _; simp [lM])
  (by
   intro k x a hm hk h1 h2 h3 hI
   have hb := aJv x
   have hs := aAY s x.sels (oY s x)
   have hdr : d.ops.drop k = x :: d.ops.drop (k + 1) := by
    rw [List.drop_eq_getElem_cons hk]
    rw [vD, List.getElem?_eq_getElem hk] at h2
    cases h2; rfl
   rw [hdr] at hI
   simp only [sumL] at hI
   refine ⟨?_, ?_⟩
   ·simp only [lM, h1, fZ, h2, bP, h3, aUI, aN5 s h _ x.sels (oY s x) a (Nat.le_refl _) (by omega)]
   ·simp only [List.length_append]; omega) (s := ([], 0)) (a := []) rfl (by simp)
 rw [k1]
 simp only [bP]
 have hops : ∀ (l : List GOp) (a : List GSeineref13Spot), l.foldl (fun a o => a ++ eX s (oY s o) o.sels) a = a ++ l.flatMap fun o => eX s (oY s o) o.sels := fun l => by
  induction l with
  | nil => intro a; simp
  | cons o l ih => intro a; simp only [List.foldl_cons, ih, List.flatMap_cons, List.append_assoc]
 have hfr : ∀ (l : List GFrag) (a : List GSeineref13Spot), l.foldl (fun a f => a ++ eX s f.on_ f.sels) a = a ++ l.flatMap fun f => eX s f.on_ f.sels := fun l => by
  induction l with
  | nil => intro a; simp
  | cons o l ih => intro a; simp only [List.foldl_cons, ih, List.flatMap_cons, List.append_assoc]
 rw [hops]
 have hlo := aLh s d.ops
 have k2 := aC3 (b := lN s d) d.frags (fun k (a : List GSeineref13Spot) => (a, (k : Int))) (fun a f => a ++ eX s f.on_ f.sels) (fun a => a) (fun k a => a.length + sumL gB (d.frags.drop k) ≤ sumL bkOp d.ops + sumL gB d.frags) (by show d.frags.length < _; omega)
  (by intro a _; simp [lN])
  (by
   intro k x a hm hk h1 h2 h3 hI
   have hb := aAe x
   have hs := aAY s x.sels x.on_
   have hdr : d.frags.drop k = x :: d.frags.drop (k + 1) := by
    rw [List.drop_eq_getElem_cons hk]
    rw [vD, List.getElem?_eq_getElem hk] at h2
    cases h2; rfl
   rw [hdr] at hI
   simp only [sumL] at hI
   refine ⟨?_, ?_⟩
   ·simp only [lN, h1, fZ, h2, bP, h3, aN5 s h _ x.sels x.on_ a (Nat.le_refl _) (by omega)]
   ·simp only [List.length_append]; omega) (s := ([] ++ d.ops.flatMap fun o => eX s (oY s o) o.sels, 0)) (a := [] ++ d.ops.flatMap fun o => eX s (oY s o) o.sels) rfl (by simp only [List.nil_append, List.drop_zero]; omega)
 rw [k2, hfr]
 simp only [bP, List.nil_append, gF]
theorem aUJ (s:GSchema) (typ name:Str):(jC s typ name).1=tnF∨(jC s typ name).1=zF∨∃ d∈s.defs,(jC s typ name).1∈d.fields:=by
 unfold jC
 cases name==tnS&&iE s typ [1,2,3]
 ·cases (bM s typ).1.kind==1||(bM s typ).1.kind==2
  ·exact .inr (.inl rfl)
  ·simp only [cond_true,cond_false]
   cases hf:(bM s typ).1.fields.find? (fun f=>f.name==name) with
   | none=>exact .inr (.inl rfl)
   | some f =>
    have hm:=List.mem_of_find?_eq_some hf
    rcases aAc s typ with hx | ⟨_,e,_⟩
    ·exact .inr (.inr ⟨_,hx,hm⟩)
    ·rw [e] at hm;simp at hm
 ·exact .inl rfl
theorem SOk.field_bk {s:GSchema} (h:SOk s) {d:GDef} (hd:d∈s.defs) {f:GFieldDef} (hf:f∈d.fields):eI f<1073741824:=by
 have h1:=h.def_bk hd
 have h2:=gS eI hf
 rw [jK] at h1;simp only [bkSl] at h1;omega
theorem aRe {s:GSchema} (h:SOk s) (typ name:Str):(jC s typ name).1.t.name.length≤topL:=by
 unfold topL
 rcases aUJ s typ name with e | e | ⟨d,hd,hf⟩
 ·rw [e];simp [tnF]
 ·rw [e];simp [zF]
 ·have:=h.field_bk hd hf;rw [fG,jW,aX,aX] at this;omega
theorem aN6 {τ:Tb} {n ub:Nat} {o o':Bool} {α:Type} {f:α→PV} {l:List α} (h:LfOk τ (.sl n ub o) (.slice (l.map f) [] o')):∀ y∈l,ElOk τ (elOf τ n) (f y):=by
 obtain ⟨es,e,he,_⟩:=nB h
 cases e
 exact fun y hy=>he _ (List.mem_map.2 ⟨y,hy,rfl⟩)
theorem aWX {τ:Tb} {s:Str} (h:LfOk τ .str (.str s)):s.length≤topL:=by obtain ⟨_,e,hl⟩:=iF h;cases e;exact hl
def OkS (x:GSel):Prop:=ElOk tτ (elOf tτ 12) (aF x)
theorem OkS.cells {x:GSel} (h:OkS x):CsOk tτ [(.int .i64),.str,.str,(.sl 7 1048576 false),(.sl 8 1048576 false),.str,(.sl 12 1048576 false)] [.int .i64 x.kind,.str x.alias,.str x.name,.slice (List.map aD x.args) [] false,.slice (List.map aU x.dirs) [] false,.str x.on_,.slice (List.map aF x.sels) [] false]:=by
 unfold OkS at h
 rw [fF] at h
 change ElOk tτ ⟨true,_⟩ _ at h
 cases h with | ag hs=>exact hs
theorem OkS.parts {x:GSel} (h:OkS x):x.on_.length≤topL∧∀ y∈x.sels,OkS y:=by
 obtain ⟨_,_,e,_,h⟩:=aL h.cells;cases e
 obtain ⟨_,_,e,_,h⟩:=aL h;cases e
 obtain ⟨_,_,e,_,h⟩:=aL h;cases e
 obtain ⟨_,_,e,_,h⟩:=aL h;cases e
 obtain ⟨_,_,e,_,h⟩:=aL h;cases e
 obtain ⟨_,_,e,h1,h⟩:=aL h;cases e
 obtain ⟨_,_,e,h2,h⟩:=aL h;cases e
 exact ⟨aWX h1,aN6 h2⟩
theorem aRf {s:GSchema} (h:SOk s) {typ:Str} {x:GSel} (ht:typ.length≤topL) (hx:OkS x):(hK s typ x).length≤topL:=by
 have h1:=aRe h typ x.name
 have h2:=hx.parts.1
 unfold hK
 cases x.kind==0<;>cases x.kind==2<;>cases x.on_==([]:Str)<;>first | exact h1 | exact h2 | exact ht | simp
theorem bAY {typ:Str} {x:GSel} (ht:typ.length≤topL) (hx:OkS x):ElOk tτ (elOf tτ 16) (aH ⟨typ,x⟩):=by
 rw [cY]
 exact .ag (.cons (.str ht) hx.cells)
mutual
theorem aYL {s:GSchema} (h:SOk s):∀ (x:GSel) (typ:Str),typ.length≤topL→OkS x→∀ p∈aN4 s typ x,ElOk tτ (elOf tτ 16) (aH p)
 | ⟨k,a,n,ar,ds,on,sels⟩,typ,ht,hx,p,hp=>by
  simp only [aN4,List.mem_cons] at hp
  rcases hp with rfl | hp
  ·exact bAY ht hx
  ·exact aGc h sels _ (aRf h ht hx) hx.parts.2 p hp
theorem aGc {s:GSchema} (h:SOk s):∀ (l:List GSel) (typ:Str),typ.length≤topL→(∀ x∈l,OkS x)→∀ p∈eX s typ l,ElOk tτ (elOf tτ 16) (aH p)
 | [],_,_,_,p,hp=>by simp [eX] at hp
 | x::l,typ,ht,hx,p,hp=>by
  simp only [eX,List.mem_append] at hp
  rcases hp with hp | hp
  ·exact aYL h x typ ht (hx x (by simp)) p hp
  ·exact aGc h l typ ht (fun y hy=>hx y (by simp [hy])) p hp
end
theorem aUK {o:GOp} (h:ElOk tτ (elOf tτ 10) (bL o)):∀ x∈o.sels,OkS x:=by
 rw [gT] at h
 change ElOk tτ ⟨true,[(.int .i64),.str,(.sl 11 1048576 false),(.sl 8 1048576 false),(.sl 12 1048576 false)]⟩ _ at h
 cases h with
 | ag h =>
  obtain ⟨_,_,e,_,h⟩:=aL h;cases e
  obtain ⟨_,_,e,_,h⟩:=aL h;cases e
  obtain ⟨_,_,e,_,h⟩:=aL h;cases e
  obtain ⟨_,_,e,_,h⟩:=aL h;cases e
  obtain ⟨_,_,e,h2,h⟩:=aL h;cases e
  exact aN6 h2
theorem aFo {o:GFrag} (h:ElOk tτ (elOf tτ 13) (aJ o)):o.on_.length≤topL∧∀ x∈o.sels,OkS x:=by
 rw [dF] at h
 change ElOk tτ ⟨true,[.str,.str,(.sl 8 1048576 false),(.sl 12 1048576 false)]⟩ _ at h
 cases h with
 | ag h =>
  obtain ⟨_,_,e,_,h⟩:=aL h;cases e
  obtain ⟨_,_,e,h1,h⟩:=aL h;cases e
  obtain ⟨_,_,e,_,h⟩:=aL h;cases e
  obtain ⟨_,_,e,h2,h⟩:=aL h;cases e
  exact ⟨aWX h1,aN6 h2⟩
theorem aN7 {d:GDoc} (h:ElOk tτ (elOf tτ 9) (lH d)):(∀ o∈d.ops,ElOk tτ (elOf tτ 10) (bL o))∧∀ f∈d.frags,ElOk tτ (elOf tτ 13) (aJ f):=by
 rw [mN] at h
 change ElOk tτ ⟨true,[(.sl 10 1048576 false),(.sl 13 1048576 false)]⟩ _ at h
 cases h with
 | ag h =>
  obtain ⟨_,_,e,h1,h⟩:=aL h;cases e
  obtain ⟨_,_,e,h2,h⟩:=aL h;cases e
  exact ⟨aN6 h1,aN6 h2⟩
theorem aGd:Ds 58 aDD:=by
 intro args hA hc
 obtain ⟨v0,r0,rfl,h0,hA⟩:=nZ hA
 obtain ⟨v1,r1,rfl,h1,hA⟩:=nZ hA
 cases aHH hA
 obtain ⟨s,rfl⟩:=aHF h0
 obtain ⟨d,rfl⟩:=aZZ h1
 have ps:=tL hc rfl (v:=cL s) (by simp)
 have pd:=tL hc rfl (v:=lH d) (by simp)
 have qs:=aAX s
 have qd:=aYC d
 unfold Nr at qs qd
 have hs:SOk s:=⟨by omega⟩
 have hr:=aHI s d hs (by omega)
 have hl:(gF s d).length≤4194304:=by
  have h1:=aJu s d
  omega
 obtain ⟨k1,k2⟩:=aN7 h1
 refine ⟨_,by simp only [tys];exact bU (enc:=fun r=>(uB r,[])) hr,.one (.sl (fun e he => ?_) (by simpa using hl))⟩
 obtain ⟨p,hp,rfl⟩:=List.mem_map.1 he
 rcases List.mem_append.1 hp with hp | hp
 ·obtain ⟨o,ho,hp⟩:=List.mem_flatMap.1 hp
  refine aGc hs _ _ ?_ (aUK (k1 o ho)) p hp
  have:=gU s
  rw [aX,aX] at this
  have h3:=hs.bk
  unfold oY topL
  cases o.kind==1<;>simp only [cond_true,cond_false]<;>omega
 ·obtain ⟨f,hf,hp⟩:=List.mem_flatMap.1 hp
  exact aGc hs _ _ (aFo (k2 f hf)).1 (aFo (k2 f hf)).2 p hp
theorem aFp (s:GSchema) (typ:Str) (x:GSel) (h:SOk s):aDf s typ x=some (hK s typ x):=by
 apply aKI
 simp only [vS,aHC s _ _ h,bP,hK]
 cases x.kind==0<;>cases x.kind==2<;>cases x.on_==([]:Str)<;>rfl
theorem aUL (s:GSchema) (o:GOp):aPs s o=some (oY s o):=by
 apply aQd
 simp only [aDm,oY]
 cases o.kind==1<;>rfl
def rO (s:GSchema) (p:GSeineref13Spot):Bool := !(p.x.kind==0)||(jC s p.typ p.x.name).2
def aRg (s:GSchema) (p:GSeineref13Spot):Bool :=
 !(p.x.kind==0)||(!iE s (hK s p.typ p.x) [0,4] && !iE s (hK s p.typ p.x) [1,2,3])||iE s (hK s p.typ p.x) [1,2,3]==decide ((p.x.sels.length:Int)>0)
def aCC (s:GSchema) (b:Bool) (p:GSeineref13Spot):Bool:=bif b then rO s p else aRg s p
def fnum (b:Bool):Int:=bif b then 9 else 10
theorem aYM (b:Bool) (s:GSchema) (d:GDoc) (typ:Str) (x:GSel) (h:SOk s):aG4 typ x (fnum b) d s=some (aCC s b ⟨typ,x⟩):=by
 have hl:Sm s.defs:=h.sm
 have h1:aKt s typ x=some (rO s ⟨typ,x⟩):=by
  apply aNc
  simp only [aAP,aHC s _ _ h,bP,rO,bne]
  cases x.kind==0<;>rfl
 have h2:aPt s typ x=some (aRg s ⟨typ,x⟩):=by
  apply aQh
  simp only [aDn,aFp s _ _ h,aUC s _ hl,aAb s _ hl,bP,aRg,bne]
  cases x.kind==0<;>cases iE s (hK s typ x) [0,4]<;>cases iE s (hK s typ x) [1,2,3]<;>simp [cnd]
 apply aKB
 cases b<;>simp [vM,fnum,aCC,h1,h2,cnd]
theorem aWY (b : Bool) (s : GSchema) (d : GDoc) (h : SOk s) : ∀ (n : Nat) (sels : List GSel) (typ : Str), bR sels ≤ n → n < 1073741824 → aMv s typ sels (fnum b) d s = some ((eX s typ sels).all (aCC s b)) := by
 intro n
 induction n with
 | zero =>
  intro sels typ hb hl
  have := fA sels
  have hs : sels = [] := List.length_eq_zero_iff.1 (by omega)
  subst hs
  apply aJh
  unfold aDh
  rw [cC (r := true) (by simp [nO])]
  simp [eX]
 | succ n ih =>
  intro sels typ hb hl
  apply aJh
  unfold aDh
  have hlen := fA sels
  have key := iC (b := nO s typ sels (fnum b) d s) sels (fun k (a : Bool) => (a, (k : Int))) (fun r a => (eX s typ r).all (aCC s b)) (fun k a => a = true) (by show sels.length < _; omega)
   (by intro a ha; subst ha; simp [nO, eX])
   (by
    intro k x r a hm hk hd h1 h2 h3 hI
    have hx := nX hm
    have hx2 := nY x
    simp only [nO, h1, fZ, h2, bP, h3, aYM b s d typ x h, aFp s typ x h, ih x.sels (hK s typ x) (by omega) (by omega)]
    simp only [eX, aGb, List.all_append, List.all_cons]
    cases aCC s b ⟨typ, x⟩
    ·exact .inl rfl
    ·cases (eX s (hK s typ x) x.sels).all (aCC s b)
     ·exact .inl rfl
     ·exact .inr ⟨true, rfl, rfl, rfl⟩) (s := (true, 0)) (a := true) rfl rfl
  rw [key]; rfl
theorem aYN (b : Bool) (s : GSchema) (d e : GDoc) (h : SOk s) (hd : jL d < 500000000) : aPr s d (fnum b) e s = some ((gF s d).all (aCC s b)) := by
 rw [aAf] at hd
 have hol := mI bkOp aSD d.ops
 have hfl := mI gB aES d.frags
 have k1 := sC (b := nP s d (fnum b) e s) d.ops (fun r => bif (r.flatMap fun o => eX s (oY s o) o.sels).all (aCC s b) then (.inl () : Unit ⊕ Unit) else .inr ()) (by show d.ops.length < _; omega) (by simp only [nP, aGM, qX]; rfl)
  (fun k x r hm h1 h2 h3 => by
   have hb := aJv x
   have hx := gS bkOp hm
   simp only [nP, h1, fZ, h2, bP, h3, aUL, aWY b s e h _ x.sels (oY s x) (Nat.le_refl _) (by omega), List.flatMap_cons, List.all_append]
   cases (eX s (oY s x) x.sels).all (aCC s b)
   ·exact .inl rfl
   ·exact .inr ⟨rfl, rfl⟩)
 have k2 := sC (b := nQ s d (fnum b) e s) d.frags (fun r => bif (r.flatMap fun f => eX s f.on_ f.sels).all (aCC s b) then (.inl () : Unit ⊕ Unit) else .inr ()) (by show d.frags.length < _; omega) (by simp only [nQ, aGM, qX]; rfl)
  (fun k x r hm h1 h2 h3 => by
   have hb := aAe x
   have hx := gS gB hm
   simp only [nQ, h1, fZ, h2, bP, h3, aWY b s e h _ x.sels x.on_ (Nat.le_refl _) (by omega), List.flatMap_cons, List.all_append]
   cases (eX s x.on_ x.sels).all (aCC s b)
   ·exact .inl rfl
   ·exact .inr ⟨rfl, rfl⟩)
 apply aPJ
 simp only [aDi, k1, k2, bP, gF, List.all_append]
 cases (d.ops.flatMap fun o => eX s (oY s o) o.sels).all (aCC s b) <;> cases (d.frags.flatMap fun f => eX s f.on_ f.sels).all (aCC s b) <;> rfl
theorem aDF (b:Bool) (s:GSchema) (d:GDoc) (h:SOk s) (hd:jL d<500000000):tH s d (fnum b)=some ((gF s d).all (aCC s b)):=by
 apply aPL
 simp only [aDj,aYN b s d d h hd,bP]
 cases b<;>cases (gF s d).all (aCC s _)<;>simp [fnum,cnd]
def aLi (s:GSchema) (p:GSeineref13Spot):Bool :=
 !(p.x.kind==0)||(!(iE s (jC s p.typ p.x.name).1.t.name [0,4]&&decide ((p.x.sels.length:Int)>0))&&(!iE s (jC s p.typ p.x.name).1.t.name [1,2,3]||decide ((p.x.sels.length:Int)>0)))
theorem bAZ (s:GSchema) (d:GDoc) (p:GSeineref13Spot) (h:SOk s):sH s d p 9=some (rO s p):=by
 apply wN
 simp only [jX,aCy s _ _ h,bP,rO,bne]
 cases p.x.kind==0<;>rfl
theorem aYO (s:GSchema) (d:GDoc) (p:GSeineref13Spot) (h:SOk s):sH s d p 10=some (aLi s p):=by
 have hl:Sm s.defs:=h.sm
 apply wN
 simp only [jX,aCy s _ _ h,aJo s _ hl,rM s _ hl,bP,aLi,bne]
 cases p.x.kind==0<;>cases iE s (jC s p.typ p.x.name).1.t.name [0,4]<;>cases iE s (jC s p.typ p.x.name).1.t.name [1,2,3]<;>cases decide ((p.x.sels.length:Int)>0)<;>rfl
def aYP (s:GSchema):Prop:=∀ typ name,(jC s typ name).2=true→iE s (jC s typ name).1.t.name [0,4]=true∨iE s (jC s typ name).1.t.name [1,2,3]=true
theorem aRh (s:GSchema) (ht:aYP s) (p:GSeineref13Spot) (hk:p.x.kind=0) (h9:rO s p=true) (h10:aLi s p=true) (hs:p.x.sels≠[]):aRg s ⟨p.typ,⟨p.x.kind,p.x.alias,p.x.name,p.x.args,p.x.dirs,p.x.on_,[]⟩⟩=false:=by
 have hl:0<p.x.sels.length:=List.length_pos_iff.2 hs
 have hf:(jC s p.typ p.x.name).2=true:=by simpa [rO,hk] using h9
 have h3:iE s (jC s p.typ p.x.name).1.t.name [0,4]=false:=by
  simp only [aLi,hk] at h10
  cases e:iE s (jC s p.typ p.x.name).1.t.name [0,4]
  ·rfl
  ·simp [e,hl] at h10
 have h4:=(ht _ _ hf).resolve_left (by simp [h3])
 have hw:hK s p.typ ⟨p.x.kind,p.x.alias,p.x.name,p.x.args,p.x.dirs,p.x.on_,[]⟩=(jC s p.typ p.x.name).1.t.name:=by simp [hK,hk]
 simp only [aRg,hw,h3,h4]
 simp [hk]
theorem aFq (s:GSchema) (f:GSeineref13Spot→Bool) (typ:Str):∀ (l:List GSel) (k:Nat) (x:GSel),l[k]?=some x→(eX s typ l).all f=true→(f ⟨typ,x⟩=true→f ⟨typ,⟨x.kind,x.alias,x.name,x.args,x.dirs,x.on_,[]⟩⟩=true)→(eX s typ (l.set k ⟨x.kind,x.alias,x.name,x.args,x.dirs,x.on_,[]⟩)).all f=true
 | [],k,x,h,_,_=>by simp at h
 | y::l,0,x,h,ha,hf=>by
  cases h
  simp only [eX,aGb,List.set_cons_zero,List.all_append,List.all_cons,Bool.and_eq_true] at ha ⊢
  exact ⟨⟨hf ha.1.1,by simp [eX]⟩,ha.2⟩
 | y::l,k+1,x,h,ha,hf=>by
  simp only [eX,List.set_cons_succ,List.all_append,Bool.and_eq_true] at ha ⊢
  exact ⟨ha.1,aFq s f typ l k x (by simpa using h) ha.2 hf⟩
theorem aHJ (s:GSchema) (typ:Str):∀ (l:List GSel) (k:Nat) (x:GSel),l[k]?=some x→(⟨typ,x⟩:GSeineref13Spot)∈eX s typ l
 | [],k,x,h=>by simp at h
 | y::l,0,x,h=>by cases h;simp [eX,aGb]
 | y::l,k+1,x,h=>by
  simp only [eX,List.mem_append]
  exact .inr (aHJ s typ l k x (by simpa using h))
noncomputable def entD (s:GSchema) (l:List GParam):Bool:=(lK s l).getD false
noncomputable def ftD (s:GSchema) (f:GFieldDef):Bool:=(iE s f.t.name [0,4]||iE s f.t.name [1,2,3])&&entD s f.params
theorem aYQ (s : GSchema) (h : SOk s) (he : ∀ d ∈ s.defs, lK s d.params = some (entD s d.params) ∧ ∀ f ∈ d.fields, lK s f.params = some (entD s f.params)) (hf : ∀ d ∈ s.defs, Sm d.fields) : aKq s = some (s.defs.all fun d => entD s d.params && d.fields.all (ftD s)) := by
 have hl : Sm s.defs := h.sm
 have k1 : ∀ d ∈ s.defs, bJ (iX s d) 0 = some (bif d.fields.all (ftD s) then .inl () else .inr ()) := fun d hd =>
  sC (b := iX s d) d.fields (fun r => bif r.all (ftD s) then (.inl () : Unit ⊕ Unit) else .inr ()) (hf d hd) (by simp only [iX, aGM, qX]; rfl)
   (fun k f r hm h1 h2 h3 => by
    simp only [iX, h1, fZ, h2, bP, h3, aJo s _ hl, rM s _ hl, (he d hd).2 f hm, List.all_cons, ftD]
    cases iE s f.t.name [0, 4] <;> cases iE s f.t.name [1, 2, 3] <;> cases entD s f.params <;> first | exact .inl rfl | exact .inr ⟨rfl, rfl⟩)
 have k2 := sC (b := lO s) s.defs (fun r => bif r.all (fun d => entD s d.params && d.fields.all (ftD s)) then (.inl () : Unit ⊕ Unit) else .inr ()) hl (by simp only [lO, aGM, qX]; rfl)
  (fun k d r hm h1 h2 h3 => by
   simp only [lO, h1, fZ, h2, bP, h3, (he d hm).1, k1 d hm, List.all_cons]
   cases entD s d.params <;> cases d.fields.all (ftD s) <;> first | exact .inl rfl | exact .inr ⟨rfl, rfl⟩)
 apply aMR
 simp only [aAN, k2, bP]
 cases s.defs.all (fun d => entD s d.params && d.fields.all (ftD s)) <;> rfl
theorem aYR (s:GSchema) (h:(s.defs.all fun d=>entD s d.params&&d.fields.all (ftD s))=true):aYP s:=by
 intro typ name hf
 have key:∀ d∈s.defs,∀ f∈d.fields,iE s f.t.name [0,4]=true∨iE s f.t.name [1,2,3]=true:=fun d hd f hm=>by
  have h1:=List.all_eq_true.1 h d hd
  rw [Bool.and_eq_true] at h1
  have h2:=List.all_eq_true.1 h1.2 f hm
  rw [ftD,Bool.and_eq_true,Bool.or_eq_true] at h2
  exact h2.1
 revert hf
 unfold jC
 cases name==tnS&&iE s typ [1,2,3]
 ·simp only [cond_false]
  cases (bM s typ).1.kind==1||(bM s typ).1.kind==2
  ·intro hf;exact absurd hf (by simp)
  ·simp only [cond_true]
   cases e:(bM s typ).1.fields.find? (fun f=>f.name==name) with
   | none=>intro hf;exact absurd hf (by simp)
   | some f =>
    intro _
    have hm:=List.mem_of_find?_eq_some e
    unfold bM at hm
    cases e2:pM typ
    ·rw [e2] at hm
     simp only [cond_false] at hm
     cases e3:s.defs.find? (fun d=>d.name==typ) with
     | none=>rw [e3] at hm;simp [zDef] at hm
     | some d=>rw [e3] at hm;exact key d (List.mem_of_find?_eq_some e3) f hm
    ·rw [e2] at hm;simp at hm
 ·intro _
  simp only [cond_true]
  left
  simp [tnF,iE,bM,pM]
abbrev aN8 (y:GSel):GSel:=⟨y.kind,y.alias,y.name,y.args,y.dirs,y.on_,[]⟩
abbrev opL (x:GOp) (k:Nat) (y:GSel):GOp:=⟨x.kind,x.name,x.vars,x.dirs,x.sels.set k (aN8 y)⟩
abbrev docL (d:GDoc) (i:Nat) (x:GOp) (k:Nat) (y:GSel):GDoc:=⟨d.ops.set i (opL x k y),d.frags⟩
theorem aYS (y:GSel):gG (aN8 y)≤gG y:=by
 have h:=gV y
 rw [gV]
 simp only [bkSl,sumL] at h ⊢
 omega
theorem aCD {α:Type} (bk:α→Nat):∀ (l:List α) (k:Nat) (x x':α),l[k]?=some x→bk x'≤bk x→sumL bk (l.set k x')≤sumL bk l
 | [],k,x,x',h,_=>by simp at h
 | y::l,0,x,x',h,hb=>by cases h;simp only [List.set_cons_zero,sumL];omega
 | y::l,k+1,x,x',h,hb=>by
  have:=aCD bk l k x x' (by simpa using h) hb
  simp only [List.set_cons_succ,sumL];omega
theorem bA0 (d:GDoc) (i:Nat) (x:GOp) (k:Nat) (y:GSel) (hx:d.ops[i]?=some x) (hy:x.sels[k]?=some y):jL (docL d i x k y)≤jL d:=by
 have h1:=aCD gG x.sels k y (aN8 y) hy (aYS y)
 have h2:bkOp (opL x k y)≤bkOp x:=by
  have h:=nL x
  rw [nL]
  simp only [bkSl] at h ⊢
  omega
 have h3:=aCD bkOp d.ops i x (opL x k y) hx h2
 rw [aAf,aAf]
 show sumL bkOp (d.ops.set i (opL x k y))+sumL gB d.frags+3≤_
 omega
theorem aSE {α β:Type} (f:α→List β) (p:β→Bool):∀ (l:List α) (i:Nat) (x x':α),l[i]?=some x→(l.flatMap f).all p=true→((f x).all p=true→(f x').all p=true)→((l.set i x').flatMap f).all p=true
 | [],i,x,x',h,_,_=>by simp at h
 | y::l,0,x,x',h,ha,hf=>by
  cases h
  simp only [List.set_cons_zero,List.flatMap_cons,List.all_append,Bool.and_eq_true] at ha ⊢
  exact ⟨hf ha.1,ha.2⟩
 | y::l,i+1,x,x',h,ha,hf=>by
  simp only [List.set_cons_succ,List.flatMap_cons,List.all_append,Bool.and_eq_true] at ha ⊢
  exact ⟨ha.1,aSE f p l i x x' (by simpa using h) ha.2 hf⟩
theorem aUM (s:GSchema) (d:GDoc) (i:Nat) (x:GOp) (k:Nat) (y:GSel) (hs:SOk s) (ht:aYP s) (hd:jL d≤1048576) (hx:d.ops[i]?=some x) (hy:x.sels[k]?=some y) (hk:y.kind=0) (hn:y.sels≠[]) (h9:(gF s d).all (rO s)=true) (h10:(gF s d).all (aLi s)=true):tH s (docL d i x k y) 9=some true∧tH s (docL d i x k y) 10=some false:=by
 have hb:=bA0 d i x k y hx hy
 have e9:tH s (docL d i x k y) 9=some ((gF s (docL d i x k y)).all (rO s)):=aDF true s (docL d i x k y) hs (by omega)
 have e10:tH s (docL d i x k y) 10=some ((gF s (docL d i x k y)).all (aRg s)):=aDF false s (docL d i x k y) hs (by omega)
 have hm:(⟨oY s x,y⟩:GSeineref13Spot)∈gF s d:=List.mem_append.2 (.inl (List.mem_flatMap.2 ⟨x,List.mem_of_getElem? hx,aHJ s _ _ k y hy⟩))
 have hi:=(List.getElem?_eq_some_iff.1 hx).1
 have hk2:=(List.getElem?_eq_some_iff.1 hy).1
 have hm2:(⟨oY s x,aN8 y⟩:GSeineref13Spot)∈gF s (docL d i x k y):=by
  refine List.mem_append.2 (.inl (List.mem_flatMap.2 ⟨opL x k y,List.mem_of_getElem? (i:=i) (List.getElem?_set_self hi),?_⟩))
  exact aHJ s (oY s x) _ k (aN8 y) (List.getElem?_set_self hk2)
 have hd9:((d.ops.set i (opL x k y)).flatMap fun o=>eX s (oY s o) o.sels).all (rO s)=true:=by
  have h:=h9
  unfold gF at h
  rw [List.all_append,Bool.and_eq_true] at h
  exact aSE _ _ _ i x (opL x k y) hx h.1 fun hq=>aFq s (rO s) (oY s x) x.sels k y hy hq fun hq=>hq
 have hf:aRg s ⟨oY s x,aN8 y⟩=false:=aRh s ht ⟨oY s x,y⟩ hk (List.all_eq_true.1 h9 _ hm) (List.all_eq_true.1 h10 _ hm) hn
 refine ⟨?_,?_⟩
 ·rw [e9]
  have h:=h9
  unfold gF at h ⊢
  rw [List.all_append,Bool.and_eq_true] at h
  rw [List.all_append,hd9,h.2]
  rfl
 ·rw [e10]
  congr 1
  rw [← Bool.not_eq_true,List.all_eq_true]
  intro h
  rw [h _ hm2] at hf
  cases hf
end Go.Proofs.YtphmfillajagdaaGreat
open Go Go.Ev Go.Ev.PV
set_option maxRecDepth 100000
namespace Go.Proofs.YtphmfillajagdaaGreat
def aSF:Summ:=sv1 [⟨false,[(.int .u8)]⟩] [E2']
theorem aYT:Ds 169 aSF:=aI (C:=cf [] [] 0 false []) Tryz.func169 rfl rfl sn' (by kernel_rfl)
def aSG:Summ:=sv1 [⟨false,[(.int .u8)]⟩] [E2']
theorem aYU:Ds 170 aSG:=aI (C:=cf [] [] 0 false []) Tryz.func170 rfl rfl sn' (by kernel_rfl)
def oA:Summ:=sv1 [E12'] [E2']
theorem pN:Ds 98 oA:=aI (C:=cf [(169,aSF),(170,aSG)] [] 0 false [lh 4 [.same,.same,.lf (.int .i64)] 2 1073741824 [some 0,none]]) Tryz.func98 rfl rfl (sc' aYT (sc' aYU sn')) (by kernel_rfl)
def gL:Summ:=sv1 [E10'] [E2']
theorem jD:Ds 101 gL:=aI (C:=cf [(98,oA)] [] 0 false []) Tryz.func101 rfl rfl (sc' pN sn') (by kernel_rfl)
def aAZ:Summ:=sv1 [E1'] [E7']
def aYV:Cfg:=cf [] [(213,aAZ,0)] 0 true [lh 4 (.same :: .lf (.int .i64) :: .lf (.int .i64)::sa 5 []) 2 1048576 [some 0],lh 10 (.same :: .lf (.int .i64) :: .lf (.int .i64)::sa 5 []) 2 1048576 [some 2]]
theorem aYW:∀ x,x∈([(213,aAZ,0)]:List (FuncId×Summ×Nat))→Ds x.1 x.2.1 :=
 vG (fun x=>aYV) (all_cons ⟨rfl,rfl,rfl,sn',rfl,_,Tryz.func213,by kernel_rfl⟩ (aBI))
theorem aSH:Ds 213 aAZ:=aYW (213,aAZ,0) (by simp)
def aWZ:Summ:=sv1 [E12'] [E2']
theorem bA1:Ds 223 aWZ:=aI (C:=cf [(239,aSr)] [] 0 false []) Tryz.func223 rfl rfl (sc' aYH sn') (by kernel_rfl)
def aN9:Summ:=sv1 [E12'] [E7']
theorem aW0:Ds 221 aN9:=aI (C:=cf [(238,aJr)] [] 0 false []) Tryz.func221 rfl rfl (sc' aUH sn') (by kernel_rfl)
def aSI:Summ:=sv1 [E12'] [E7',E2']
theorem aYX:Ds 222 aSI:=aI (C:=cf [] [] 0 false [lh 5 (sa 3 (.lf (.int .i64) :: .same::[.lf (.int .i64)])) 3 1073741824 [some 0,none]]) Tryz.func222 rfl rfl sn' (by kernel_rfl)
def lX:Summ:=sv1 [E1'] [E2']
def aOa:Cfg:=cf [(221,aN9),(222,aSI),(223,aWZ),(98,oA)] [(191,lX,0)] 0 true [lh 25 (sa 2 (.lf (.int .i64)::sa 5 [])) 2 1048576 [some 1,none],lh 32 (sa 2 (.lf (.int .i64)::sa 5 [])) 2 1048576 [some 3,none]]
theorem aOb:∀ x,x∈([(191,lX,0)]:List (FuncId×Summ×Nat))→Ds x.1 x.2.1 :=
 vG (fun x=>aOa) (all_cons ⟨rfl,rfl,rfl,(sc' aW0 (sc' aYX (sc' bA1 (sc' pN sn')))),rfl,_,Tryz.func191,by kernel_rfl⟩ (aBI))
theorem aFr:Ds 191 lX:=aOb (191,lX,0) (by simp)
def aFs:Summ:=sv1 [E8',E12'] [E2']
theorem aHK:Ds 29 aFs:=aI (C:=cf [] [] 0 false [(2,{hv:=[.same,.same,.same,.lf (.int .i64)],cnt:=3,top:=16777216,ex:=[(some 0,[.same,.same,.same,.lf (.int .i64)]),(none,[.same,.same,.lf .bool,.lf (.int .i64)])]})]) Tryz.func29 rfl rfl sn' (by kernel_rfl)
def bB0:Summ:=sv1 [E10'] [E2']
theorem bCo:Ds 195 bB0:=aI (C:=cf [(101,gL)] [] 0 false []) Tryz.func195 rfl rfl (sc' jD sn') (by kernel_rfl)
def aET:Summ:=sv1 [E1',E1'] [E2']
def aEU:Summ:=sv1 [⟨false,[.sl 7 16777216 false]⟩,⟨false,[.sl 7 16777216 false]⟩] [E2']
def bA2:Cfg:=cf [] [(174,aET,0),(215,aEU,0)] 0 true [lh 4 (sa 3 (.lf (.int .i64)::sa 10 [])) 3 16777216 [some 0,none]]
def aUN:Cfg:=cf [] [(174,aET,0),(215,aEU,0)] 0 false [lh 4 [.same,.same,.same,.lf (.int .i64)] 3 16777216 [some 0,none]]
theorem bA3:∀ x,x∈([(174,aET,0),(215,aEU,0)]:List (FuncId×Summ×Nat))→Ds x.1 x.2.1 :=
 vG (fun x=>if x.1=174 then bA2 else aUN) (all_cons ⟨rfl,rfl,rfl,sn',rfl,_,Tryz.func174,by kernel_rfl⟩ (all_cons ⟨rfl,rfl,rfl,sn',rfl,_,Tryz.func215,by kernel_rfl⟩ (aBI)))
theorem bA4:Ds 174 aET:=bA3 (174,aET,0) (by simp)
def aDG:Summ:=sv1 [E1'] [E2']
def aYY:Cfg:=cf [(98,oA)] [(235,aDG,0)] 0 true [lh 2 (sa 2 (.lf (.int .i64)::sa 5 [])) 2 1048576 [some 0,none],lh 7 (sa 2 (.lf (.int .i64)::sa 5 [])) 2 1048576 [some 2,none]]
theorem aYZ:∀ x,x∈([(235,aDG,0)]:List (FuncId×Summ×Nat))→Ds x.1 x.2.1 :=
 vG (fun x=>aYY) (all_cons ⟨rfl,rfl,rfl,(sc' pN sn'),rfl,_,Tryz.func235,by kernel_rfl⟩ (aBI))
theorem aY0:Ds 235 aDG:=aYZ (235,aDG,0) (by simp)
def aSJ:Summ:=sv1 [E1'] [E2']
theorem aY1:Ds 212 aSJ:=aI (C:=cf [(191,lX),(213,aAZ),(235,aDG)] [] 0 false []) Tryz.func212 rfl rfl (sc' aFr (sc' aSH (sc' aY0 sn'))) (by kernel_rfl)
def aJw:Summ:=sv1 [E10',E10'] [E2']
theorem aUO:Ds 197 aJw:=aI (C:=cf [(101,gL)] [] 0 false []) Tryz.func197 rfl rfl (sc' jD sn') (by kernel_rfl)
def aW1:Summ:=sv2 [E1'] [E8']
theorem bA5:Ds 214 aW1:=aI (C:=cg [(236,aWR)] [] 0 false [] 1) Tryz.func214 rfl rfl (sc' bAX sn') (by kernel_rfl)
def aHL:Summ:=sv1 [E12'] [E4',E2']
theorem aRi:Ds 121 aHL:=aI (C:=cf [] [] 0 false []) Tryz.func121 rfl rfl sn' (by kernel_rfl)
def aRj:Summ:=sv1 [E3',E12'] [E13',E2']
theorem aW2:Ds 113 aRj:=aI (C:=cf [] [] 0 false [(2,{hv:=(sa 4 (.lf (.int .i64)::sa 6 [])),cnt:=4,top:=1048576,ex:=[(some 0,(sa 4 (.lf (.int .i64)::sa 6 []))),(none,(sa 3 (.lf .bool :: .lf (.int .i64) :: .lf .str :: .lf .str :: .lf (.sl 8 1048576 false) :: .lf (.sl 12 1048576 false)::sa 2 [])))]})]) Tryz.func113 rfl rfl sn' (by kernel_rfl)
def aSK:Summ:=sv1 [E16',E12'] [E4',E2']
theorem aY2:Ds 193 aSK:=aI (C:=cf [] [] 0 false [(2,{hv:=(sa 4 (.lf (.int .i64)::sa 10 [])),cnt:=4,top:=16777216,ex:=[(some 0,(sa 4 (.lf (.int .i64)::sa 10 []))),(none,[.same,.same,.same,.lf .bool,.lf (.int .i64),.lf .str,.lf .str,.lf (.int .i64),.lf (.int .i64),.lf .bool,.lf (.int .i64),.lf (.int .i64),.lf .str,.lf (.sl 6 1048576 false),.lf (.sl 7 1048576 false)])]})]) Tryz.func193 rfl rfl sn' (by kernel_rfl)
def aHM:Summ:=sv1 [E12'] [E2']
theorem aOc:Ds 156 aHM:=aI (C:=cf [] [] 0 false []) Tryz.func156 rfl rfl sn' (by kernel_rfl)
def aCE:Summ:=sv1 [E0',E12'] [E5',E2']
theorem aEV:Ds 164 aCE:=aI (C:=cf [(156,aHM)] [] 0 false [(4,{hv:=(sa 4 (.lf (.int .i64)::sa 9 [])),cnt:=4,top:=1048576,ex:=[(some 0,(sa 4 (.lf (.int .i64)::sa 9 []))),(none,(sa 3 (.lf .bool :: .lf (.int .i64) :: .lf (.int .i64) :: .lf .str :: .lf (.sl 0 1048576 false) :: .lf (.sl 4 1048576 false) :: .lf (.sl 0 1048576 false) :: .lf (.sl 5 1048576 false)::sa 3 [])))]})]) Tryz.func164 rfl rfl (sc' aOc sn') (by kernel_rfl)
def aW3:Summ:=sv1 [E0',E12',E7',E7',E7'] [E2']
theorem aY3:Ds 159 aW3:=aI (C:=cf [(164,aCE)] [] 0 false []) Tryz.func159 rfl rfl (sc' aEV sn') (by kernel_rfl)
def aLj:Summ:=sv1 [E0',E12'] [E2']
theorem aRk:Ds 118 aLj:=aI (C:=cf [(159,aW3)] [] 0 false []) Tryz.func118 rfl rfl (sc' aY3 sn') (by kernel_rfl)
def oZ:Summ:=sv1 [E0',E12'] [E2']
theorem sW:Ds 112 oZ:=aI (C:=cf [(159,aW3)] [] 0 false []) Tryz.func112 rfl rfl (sc' aY3 sn') (by kernel_rfl)
def aLk:Summ:=sv1 [E0',E12',E12'] [E6',E2']
theorem aSL:Ds 117 aLk:=aI (C:=cf [(112,oZ),(164,aCE)] [] 0 false [(7,{hv:=(sa 4 (.lf (.int .i64)::sa 15 [])),cnt:=4,top:=1048576,ex:=[(some 0,(sa 4 (.lf (.int .i64)::sa 15 []))),(none,(sa 2 (.lf .bool :: .same :: .lf (.int .i64)::sa 6 (.lf .str :: .lf (.sl 5 1048576 false) :: .lf .str :: .lf (.int .i64) :: .lf (.int .i64) :: .lf (.sl 8 1048576 false)::sa 3 []))))]})]) Tryz.func117 rfl rfl (sc' sW (sc' aEV sn')) (by kernel_rfl)
def aHN:Summ:=sv1 [⟨false,[.sl 8 16777216 false]⟩] [E8']
theorem aRl:Ds 122 aHN:=aI (C:=cf [] [] 0 false [lh 3 [.same,.acc 0 0 1,.lf (.int .i64)] 2 16777216 [some 0]]) Tryz.func122 rfl rfl sn' (by kernel_rfl)
def aHO:Summ:=sv2 [E0',E3'] [⟨false,[.sl 14 16777216 false]⟩]
theorem aRm:Ds 120 aHO:=aI (C:=cg [(58,aDD)] [] 0 false [lh 3 (sa 2 (.acc 14 0 1 :: .lf (.int .i64)::sa 5 [])) 3 4194304 [some 0],lh 7 (sa 2 (.acc 14 4194304 1 :: .lf (.int .i64)::sa 5 [])) 3 4194304 [some 2],lh 12 (.acc 14 8388608 1 :: .same :: .lf (.int .i64)::sa 5 []) 2 4194304 [some 4]] 2) Tryz.func120 rfl rfl (sc' aGd sn') (by kernel_rfl)
def aLl:Summ:=sv1 [E8'] [E2']
theorem aSM:Ds 50 aLl:=aI (C:=cf [] [] 0 false [(5,{hv:=[.same,.same,.same,.lf (.int .i64)],cnt:=3,top:=16777216,ex:=[(some 2,[.same,.same,.same,.lf (.int .i64)]),(none,[.same,.lf .bool,.same,.lf (.int .i64)])]}),(2,{hv:=[.same,.same,.lf (.int .i64)],cnt:=2,top:=16777216,ex:=[(some 0,[.same,.same,.lf (.int .i64)]),(none,[.same,.lf .bool,.lf (.int .i64)])]})]) Tryz.func50 rfl rfl sn' (by kernel_rfl)
def aJx:Summ:=sv2 [E0',E3',E7'] [E2']
theorem aUP:Ds 60 aJx:=aI (C:=cg [(120,aHO),(121,aHL),(122,aHN),(50,aLl)] [] 0 false [lh 6 (sa 5 (.lf (.int .i64)::sa 5 [])) 5 16777216 [some 2,none],lh 3 (sa 4 (.lf (.int .i64)::sa 5 [])) 4 16777216 [some 0,none]] 3) Tryz.func60 rfl rfl (sc' aRm (sc' aRi (sc' aRl (sc' aSM sn')))) (by kernel_rfl)
def aDH:Summ:=sv1 [E0',E12'] [E2']
theorem aHP:Ds 90 aDH:=aI (C:=cf [(159,aW3)] [] 0 false []) Tryz.func90 rfl rfl (sc' aY3 sn') (by kernel_rfl)
def aCF:Summ:=sv1 [E0',E12'] [E8']
theorem aHQ:Ds 185 aCF:=aI (C:=cf [(164,aCE),(29,aFs),(90,aDH)] [] 0 false [lh 8 (sa 2 (.acc 0 0 1 :: .lf (.int .i64)::sa 9 [])) 3 1048576 [some 1],lh 15 (sa 2 (.acc 0 0 1 :: .lf (.int .i64)::sa 9 [])) 3 1048576 [some 3]]) Tryz.func185 rfl rfl (sc' aEV (sc' aHK (sc' aHP sn'))) (by kernel_rfl)
def aSN:Summ:=sv1 [E0',E12',E12'] [E2']
theorem aY4:Ds 119 aSN:=aI (C:=cf [(185,aCF),(29,aFs)] [] 0 false [(3,{hv:=(sa 3 (.lf (.int .i64)::sa 3 [])),cnt:=3,top:=16777216,ex:=[(some 0,(sa 3 (.lf (.int .i64)::sa 3 []))),(none,(.lf .bool::sa 2 (.lf (.int .i64)::sa 3 [])))]})]) Tryz.func119 rfl rfl (sc' aHQ (sc' aHK sn')) (by kernel_rfl)
def aFt:Summ:=sv1 [E0',E3',⟨true,[.str,(.int .i64),.str,.str,(.sl 7 1048576 false),(.sl 8 1048576 false),.str,(.sl 12 1048576 false)]⟩,E7'] [E2']
theorem aOd:Ds 59 aFt:=aI (C:=cf [(117,aLk),(118,aLj),(112,oZ),(119,aSN),(113,aRj)] [] 0 false []) Tryz.func59 rfl rfl (sc' aSL (sc' aRk (sc' sW (sc' aY4 (sc' aW2 sn'))))) (by kernel_rfl)
def aSO:Summ:=sv1 [E0',E3'] [E2']
theorem aY5:Ds 52 aSO:=aI (C:=cf [] [] 0 false [lh 2 (sa 3 (.lf (.int .i64)::sa 5 [])) 3 1048576 [some 0,none]]) Tryz.func52 rfl rfl sn' (by kernel_rfl)
def wH:Summ:=sv2 [E1',E7',E2'] [E2']
theorem aDI:Ds 173 wH:=aI (C:=cg [(212,aSJ),(213,aAZ),(214,aW1)] [] 0 false [] 3) Tryz.func173 rfl rfl (sc' aY1 (sc' aSH (sc' bA5 sn'))) (by kernel_rfl)
def rP:Summ:=sv2 [⟨false,[.sl 7 16777216 false]⟩,E7',E2'] [E2']
theorem aAg:Ds 171 rP:=aI (C:=cg [(98,oA),(173,wH)] [] 0 false [lh 2 (sa 4 ([.lf (.int .i64)])) 4 16777216 [some 0,none]] 3) Tryz.func171 rfl rfl (sc' pN (sc' aDI sn')) (by kernel_rfl)
def sX:Summ:=sv2 [⟨false,[.sl 8 16777216 false]⟩,E7',E2'] [E2']
theorem aAh:Ds 99 sX:=aI (C:=cg [(98,oA),(171,rP)] [] 0 false [lh 2 (sa 4 ([.lf (.int .i64)])) 4 16777216 [some 0,none]] 3) Tryz.func99 rfl rfl (sc' pN (sc' aAg sn')) (by kernel_rfl)
def lY:Summ:=sv2 [⟨false,[.sl 12 16777216 false]⟩,E7'] [E2']
def aCG:Summ:=sv2 [E9',E7'] [E2']
def aOe:Cfg:=cg [] [(100,lY,0),(172,aCG,0)] 0 false [lh 4 [.same,.same,.same,.lf (.int .i64)] 3 16777216 [some 0,none]] 2
def aRn:Cfg:=cg [(99,sX),(98,oA),(171,rP)] [(100,lY,0),(172,aCG,0)] 0 true [] 2
theorem aOf:∀ x,x∈([(100,lY,0),(172,aCG,0)]:List (FuncId×Summ×Nat))→Ds x.1 x.2.1 :=
 vG (fun x=>if x.1=100 then aOe else aRn) (all_cons ⟨rfl,rfl,rfl,sn',rfl,_,Tryz.func100,by kernel_rfl⟩ (all_cons ⟨rfl,rfl,rfl,(sc' aAh (sc' pN (sc' aAg sn'))),rfl,_,Tryz.func172,by kernel_rfl⟩ (aBI)))
theorem aOg:Ds 100 lY:=aOf (100,lY,0) (by simp)
def rQ:Summ:=sv2 [E2',E1'] [E2']
theorem aAi:Ds 102 rQ:=aI (C:=cg [(173,wH),(174,aET)] [] 0 false [] 2) Tryz.func102 rfl rfl (sc' aDI (sc' bA4 sn')) (by kernel_rfl)
def aY6:Summ:=sv2 [E3'] [E2']
theorem aY7:Ds 33 aY6:=aI (C:=cg [(98,oA),(99,sX),(100,lY),(101,gL),(102,rQ)] [] 0 false [lh 8 (sa 4 (.lf (.int .i64)::sa 7 [])) 4 1048576 [some 2,none],lh 2 (sa 2 (.lf (.int .i64)::sa 2 [])) 2 1048576 [some 0,none],lh 13 (sa 2 (.lf (.int .i64)::sa 2 [])) 2 1048576 [some 4,none]] 1) Tryz.func33 rfl rfl (sc' pN (sc' aAh (sc' aOg (sc' jD (sc' aAi sn'))))) (by kernel_rfl)
def aDJ:Summ:=sv1 [E8'] [E2']
theorem aLm:Ds 232 aDJ:=aI (C:=cf [(98,oA)] [] 0 false [lh 2 [.same,.same,.lf (.int .i64)] 2 16777216 [some 0,none]]) Tryz.func232 rfl rfl (sc' pN sn') (by kernel_rfl)
def tM:Summ:=sv2 [E16'] [E2']
theorem aBl:Ds 234 tM:=aI (C:=cg [(98,oA),(101,gL),(102,rQ)] [] 0 false [lh 2 [.same,.same,.lf (.int .i64)] 2 16777216 [some 0,none]] 1) Tryz.func234 rfl rfl (sc' pN (sc' jD (sc' aAi sn'))) (by kernel_rfl)
def aBm:Summ:=sv2 [⟨false,[.sl 4 16777216 false]⟩] [E2']
theorem aIJ:Ds 233 aBm:=aI (C:=cg [(98,oA),(234,tM),(101,gL),(99,sX)] [] 0 false [lh 2 [.same,.same,.lf (.int .i64)] 2 16777216 [some 0,none]] 1) Tryz.func233 rfl rfl (sc' pN (sc' aBl (sc' jD (sc' aAh sn')))) (by kernel_rfl)
def aHR:Summ:=sv2 [E5'] [E2']
theorem aRo:Ds 209 aHR:=aI (C:=cg [(98,oA),(232,aDJ),(233,aBm),(234,tM),(29,aFs)] [] 0 false [] 1) Tryz.func209 rfl rfl (sc' pN (sc' aLm (sc' aIJ (sc' aBl (sc' aHK sn'))))) (by kernel_rfl)
def aBn:Summ:=sv2 [E0'] [E2']
theorem aIK:Ds 157 aBn:=aI (C:=cg [(209,aHR),(98,oA)] [] 0 false [lh 2 (sa 2 (.lf (.int .i64)::sa 3 [])) 2 1048576 [some 0,none]] 1) Tryz.func157 rfl rfl (sc' aRo (sc' pN sn')) (by kernel_rfl)
def aSP:Summ:=sv1 [E0',E12'] [E2']
theorem aY8:Ds 129 aSP:=aI (C:=cf [(159,aW3)] [] 0 false []) Tryz.func129 rfl rfl (sc' aY3 sn') (by kernel_rfl)
def aZ2:Summ:=sv1 [E0',E10',E10'] [E2']
theorem bB1:Ds 211 aZ2:=aI (C:=cf [(101,gL),(197,aJw),(164,aCE),(185,aCF),(29,aFs)] [] 0 false []) Tryz.func211 rfl rfl (sc' jD (sc' aUO (sc' aEV (sc' aHQ (sc' aHK sn'))))) (by kernel_rfl)
def aSQ:Summ:=sv1 [E0',E6',E6'] [E2']
theorem aY9:Ds 165 aSQ:=aI (C:=cf [(211,aZ2),(193,aSK),(195,bB0)] [] 0 false [lh 4 (sa 3 (.lf (.int .i64)::sa 15 [])) 3 1048576 [some 0,none],lh 10 (sa 3 (.lf (.int .i64)::sa 15 [])) 3 1048576 [some 2,none]]) Tryz.func165 rfl rfl (sc' bB1 (sc' aY2 (sc' bCo sn'))) (by kernel_rfl)
def aHS:Summ:=sv1 [E0'] [E8']
theorem aRp:Ds 155 aHS:=aI (C:=cf [] [] 0 false [lh 3 (.same :: .acc 0 0 1 :: .lf (.int .i64)::sa 3 []) 2 1048576 [some 0]]) Tryz.func155 rfl rfl sn' (by kernel_rfl)
def aJy:Summ:=sv1 [E0',E16'] [E2']
theorem aJz:Ds 163 aJy:=aI (C:=cf [(129,aSP)] [] 0 false [lh 2 (sa 3 (.lf (.int .i64)::sa 3 [])) 3 16777216 [some 0,none]]) Tryz.func163 rfl rfl (sc' aY8 sn') (by kernel_rfl)
def aDK:Summ:=sv1 [⟨false,[.sl 4 16777216 false]⟩] [E8']
theorem aLn:Ds 160 aDK:=aI (C:=cf [] [] 0 false [lh 3 [.same,.acc 0 0 1,.lf (.int .i64)] 2 16777216 [some 0]]) Tryz.func160 rfl rfl sn' (by kernel_rfl)
def aSR:Summ:=sv1 [E12'] [E2']
theorem aZa:Ds 210 aSR:=aI (C:=cf [] [] 0 false []) Tryz.func210 rfl rfl sn' (by kernel_rfl)
def aAj:Summ:=sv1 [E0',E16'] [E2']
theorem aHT:Ds 168 aAj:=aI (C:=cf [(118,aLj)] [] 0 false [lh 2 (sa 3 (.lf (.int .i64)::sa 3 [])) 3 16777216 [some 0,none]]) Tryz.func168 rfl rfl (sc' aRk sn') (by kernel_rfl)
def aLo:Summ:=sv1 [E8'] [E2']
theorem aSS:Ds 162 aLo:=aI (C:=cf [] [] 0 false [(5,{hv:=[.same,.same,.same,.lf (.int .i64)],cnt:=3,top:=16777216,ex:=[(some 2,[.same,.same,.same,.lf (.int .i64)]),(none,[.same,.lf .bool,.same,.lf (.int .i64)])]}),(2,{hv:=[.same,.same,.lf (.int .i64)],cnt:=2,top:=16777216,ex:=[(some 0,[.same,.same,.lf (.int .i64)]),(none,[.same,.lf .bool,.lf (.int .i64)])]})]) Tryz.func162 rfl rfl sn' (by kernel_rfl)
def aW4:Summ:=sv1 [E8'] [E2']
theorem aZ3:Ds 158 aW4:=aI (C:=cf [(210,aSR),(162,aLo)] [] 0 false [lh 2 [.same,.same,.lf (.int .i64)] 2 16777216 [some 0,none]]) Tryz.func158 rfl rfl (sc' aZa (sc' aSS sn')) (by kernel_rfl)
def aDL:Summ:=sv1 [E16'] [E8']
theorem aLp:Ds 161 aDL:=aI (C:=cf [] [] 0 false [lh 3 [.same,.acc 0 0 1,.lf (.int .i64)] 2 16777216 [some 0]]) Tryz.func161 rfl rfl sn' (by kernel_rfl)
def aST:Summ:=sv2 [E0'] [E2']
theorem aZb:Ds 89 aST:=aI (C:=cg [(155,aHS),(156,aHM),(157,aBn),(158,aW4)] [] 0 false [lh 3 (sa 3 (.lf (.int .i64)::sa 3 [])) 3 16777216 [some 0,none]] 1) Tryz.func89 rfl rfl (sc' aRp (sc' aOc (sc' aIK (sc' aZ3 sn')))) (by kernel_rfl)
def aSU:Summ:=sv1 [E0'] [E2']
theorem aZc:Ds 91 aSU:=aI (C:=cf [(160,aDK),(158,aW4),(161,aDL),(162,aLo)] [] 0 false [lh 8 (sa 4 (.lf (.int .i64)::sa 9 [])) 4 1048576 [some 2,none],lh 2 (sa 2 (.lf (.int .i64)::sa 3 [])) 2 1048576 [some 0,none]]) Tryz.func91 rfl rfl (sc' aLn (sc' aZ3 (sc' aLp (sc' aSS sn')))) (by kernel_rfl)
def aSV:Summ:=sv1 [E0'] [E2']
theorem aZd:Ds 92 aSV:=aI (C:=cf [(163,aJy),(118,aLj),(112,oZ)] [] 0 false [lh 8 (sa 4 (.lf (.int .i64)::sa 9 [])) 4 1048576 [some 2,none],lh 2 (sa 2 (.lf (.int .i64)::sa 3 [])) 2 1048576 [some 0,none]]) Tryz.func92 rfl rfl (sc' aJz (sc' aRk (sc' sW sn'))) (by kernel_rfl)
def aSW:Summ:=sv1 [E0'] [E2']
theorem aZe:Ds 93 aSW:=aI (C:=cf [(164,aCE),(29,aFs)] [] 0 false [lh 12 (sa 6 (.lf (.int .i64)::sa 15 [])) 6 1048576 [some 4,none],lh 6 (sa 4 (.lf (.int .i64)::sa 9 [])) 4 1048576 [some 2,none],lh 2 (sa 2 (.lf (.int .i64)::sa 3 [])) 2 1048576 [some 0,none]]) Tryz.func93 rfl rfl (sc' aEV (sc' aHK sn')) (by kernel_rfl)
def aSX:Summ:=sv1 [E0'] [E2']
theorem aZf:Ds 94 aSX:=aI (C:=cf [(164,aCE),(117,aLk),(165,aSQ)] [] 0 false [lh 10 (sa 6 (.lf (.int .i64)::sa 15 [])) 6 1048576 [some 4,none],lh 6 (sa 4 (.lf (.int .i64)::sa 9 [])) 4 1048576 [some 2,none],lh 2 (sa 2 (.lf (.int .i64)::sa 3 [])) 2 1048576 [some 0,none]]) Tryz.func94 rfl rfl (sc' aEV (sc' aSL (sc' aY9 sn'))) (by kernel_rfl)
def aSY:Summ:=sv1 [E0'] [E2']
theorem aZg:Ds 95 aSY:=aI (C:=cf [(90,aDH)] [] 0 false [lh 5 (sa 3 (.lf (.int .i64)::sa 3 [])) 3 1048576 [some 2,none],lh 2 (sa 2 (.lf (.int .i64)::sa 3 [])) 2 1048576 [some 0,none]]) Tryz.func95 rfl rfl (sc' aHP sn') (by kernel_rfl)
def aSZ:Summ:=sv2 [E0',E10',E1'] [E2']
theorem aZh:Ds 130 aSZ:=aI (C:=cg [(101,gL),(191,lX),(192,aSs)] [] 0 false [] 3) Tryz.func130 rfl rfl (sc' jD (sc' aFr (sc' aYF sn'))) (by kernel_rfl)
def aHU:Summ:=sv2 [E0',E16'] [E2']
theorem aRq:Ds 167 aHU:=aI (C:=cg [(130,aSZ)] [] 0 false [lh 2 (sa 3 (.lf (.int .i64)::sa 3 [])) 3 16777216 [some 0,none]] 2) Tryz.func167 rfl rfl (sc' aZh sn') (by kernel_rfl)
def aS0:Summ:=sv2 [E0'] [E2']
theorem aZi:Ds 97 aS0:=aI (C:=cg [(167,aHU),(168,aAj)] [] 0 false [lh 7 (sa 3 (.lf (.int .i64)::sa 3 [])) 3 1048576 [some 2,none],lh 2 (sa 2 (.lf (.int .i64)::sa 3 [])) 2 1048576 [some 0,none]] 1) Tryz.func97 rfl rfl (sc' aRq (sc' aHT sn')) (by kernel_rfl)
def aW5:Summ:=sv2 [E0',E7'] [E2']
theorem aW6:Ds 32 aW5:=aI (C:=cg [(89,aST),(90,aDH),(91,aSU),(92,aSV),(93,aSW),(94,aSX),(95,aSY),(96,aSt),(97,aS0)] [] 0 false [] 2) Tryz.func32 rfl rfl (sc' aZb (sc' aHP (sc' aZc (sc' aZd (sc' aZe (sc' aZf (sc' aZg (sc' aYK (sc' aZi sn'))))))))) (by kernel_rfl)
def aZj:Summ:=sv2 [E0'] [E7']
theorem aZk:Ds 10 aZj:=aI (C:=cg [(32,aW5)] [] 0 false [(2,{hv:=(sa 2 (.lf (.int .i64)::sa 3 [])),cnt:=2,top:=1048576,ex:=[(some 0,(sa 2 (.lf (.int .i64)::sa 3 []))),(none,(.same :: .lf (.int .i64) :: .lf (.int .i64)::sa 3 []))]})] 1) Tryz.func10 rfl rfl (sc' aW6 sn') (by kernel_rfl)
def aS1:Summ:=sv1 [E3'] [E8']
theorem aZl:Ds 51 aS1:=aI (C:=cf [] [] 0 false [lh 3 [.same,.acc 0 0 1,.lf (.int .i64),.same,.same] 2 1048576 [some 0]]) Tryz.func51 rfl rfl sn' (by kernel_rfl)
def aFu:Summ:=sv1 [E3'] [E8']
theorem aOh:Ds 53 aFu:=aI (C:=cf [] [] 0 false [lh 3 [.same,.acc 0 0 1,.lf (.int .i64),.same,.same] 2 1048576 [some 0]]) Tryz.func53 rfl rfl sn' (by kernel_rfl)
def aS2:Summ:=sv2 [E0',E3'] [E2']
theorem aZm:Ds 54 aS2:=aI (C:=cg [(112,oZ),(58,aDD)] [] 0 false [lh 2 (sa 3 (.lf (.int .i64)::sa 5 [])) 3 16777216 [some 0,none],lh 8 (sa 3 (.lf (.int .i64)::sa 5 [])) 3 16777216 [some 2,none]] 2) Tryz.func54 rfl rfl (sc' sW (sc' aGd sn')) (by kernel_rfl)
def aS3:Summ:=sv2 [E0',E3'] [E2']
theorem aZn:Ds 55 aS3:=aI (C:=cg [(58,aDD),(113,aRj)] [] 0 false [lh 3 (sa 3 (.lf (.int .i64)::sa 5 [])) 3 16777216 [some 0,none]] 2) Tryz.func55 rfl rfl (sc' aGd (sc' aW2 sn')) (by kernel_rfl)
def aS4:Summ:=sv2 [E3'] [E2']
theorem aZo:Ds 56 aS4:=aI (C:=cg [(114,aLd),(29,aFs)] [] 0 false [(2,{hv:=(sa 2 (.lf (.int .i64)::sa 2 [])),cnt:=2,top:=1048576,ex:=[(some 0,(sa 2 (.lf (.int .i64)::sa 2 []))),(none,[.same,.lf .bool,.lf (.int .i64),.same,.same])]})] 1) Tryz.func56 rfl rfl (sc' aSA (sc' aHK sn')) (by kernel_rfl)
def aS5:Summ:=sv2 [E3'] [E2']
theorem aZp:Ds 57 aS5:=aI (C:=cg [(114,aLd),(29,aFs)] [] 0 false [lh 6 (sa 2 (.lf .bool :: .lf (.int .i64)::sa 2 [])) 3 1048576 [some 2],(2,{hv:=[.same,.any,.lf (.int .i64),.same,.same],cnt:=2,top:=1048576,ex:=[(some 0,[.same,.any,.lf (.int .i64),.same,.same]),(none,(sa 2 (.lf (.int .i64)::sa 2 [])))]})] 1) Tryz.func57 rfl rfl (sc' aSA (sc' aHK sn')) (by kernel_rfl)
def bA6:Summ:=sv2 [E0',E3',⟨false,[.rng .i64 0 10]⟩] [E2']
theorem bA7:Ds 20 bA6:=aI (C:=cg [(51,aS1),(50,aLl),(52,aSO),(53,aFu),(54,aS2),(55,aS3),(56,aS4),(57,aS5),(58,aDD),(59,aFt),(60,aJx)] [] 0 false [lh 23 (sa 5 (.lf (.int .i64)::sa 5 [])) 5 16777216 [some 1,none]] 3) Tryz.func20 rfl rfl (sc' aZl (sc' aSM (sc' aY5 (sc' aOh (sc' aZm (sc' aZn (sc' aZo (sc' aZp (sc' aGd (sc' aOd (sc' aUP sn'))))))))))) (by kernel_rfl)
def wI:Summ:=sv1 [E1'] [E7']
def bA8:Cfg:=cf [] [(88,wI,0)] 0 true [lh 3 (.same :: .lf (.int .i64) :: .lf (.int .i64)::sa 5 []) 2 1048576 [some 0],lh 7 (.same :: .lf (.int .i64) :: .lf (.int .i64)::sa 5 []) 2 1048576 [some 2]]
theorem bA9:∀ x,x∈([(88,wI,0)]:List (FuncId×Summ×Nat))→Ds x.1 x.2.1 :=
 vG (fun x=>bA8) (all_cons ⟨rfl,rfl,rfl,sn',rfl,_,Tryz.func88,by kernel_rfl⟩ (aBI))
theorem aHV:Ds 88 wI:=bA9 (88,wI,0) (by simp)
def aAk:Summ:=sv1 [⟨false,[.sl 8 16777216 false]⟩] [E7']
theorem aFv:Ds 86 aAk:=aI (C:=cf [(88,wI)] [] 0 false [lh 3 [.same,.lf (.int .i64),.lf (.int .i64)] 2 16777216 [some 0]]) Tryz.func86 rfl rfl (sc' aHV sn') (by kernel_rfl)
def pA:Summ:=sv1 [⟨false,[.sl 12 16777216 false]⟩] [E7']
def aOi:Cfg:=cf [(88,wI),(86,aAk)] [(87,pA,0)] 0 false [lh 3 [.same,.lf (.int .i64),.lf (.int .i64)] 2 16777216 [some 0]]
theorem aOj:∀ x,x∈([(87,pA,0)]:List (FuncId×Summ×Nat))→Ds x.1 x.2.1 :=
 vG (fun x=>aOi) (all_cons ⟨rfl,rfl,rfl,(sc' aHV (sc' aFv sn')),rfl,_,Tryz.func87,by kernel_rfl⟩ (aBI))
theorem aOk:Ds 87 pA:=aOj (87,pA,0) (by simp)
def aZq:Summ:=sv1 [E3'] [E2']
theorem aZr:Ds 31 aZq:=aI (C:=cf [(86,aAk),(87,pA),(88,wI)] [] 0 false [lh 7 [.same,.lf (.int .i64),.same,.lf (.int .i64),.same,.same] 3 1048576 [some 2],lh 3 [.same,.lf (.int .i64),.lf (.int .i64),.same,.same] 2 1048576 [some 0],lh 11 [.same,.lf (.int .i64),.lf (.int .i64),.same,.same] 2 1048576 [some 4]]) Tryz.func31 rfl rfl (sc' aFv (sc' aOk (sc' aHV sn'))) (by kernel_rfl)
def aDM:Summ:=sv1 [E8'] [E7']
theorem aLq:Ds 83 aDM:=aI (C:=cf [] [] 0 false [lh 3 [.same,.lf (.int .i64),.lf (.int .i64)] 2 16777216 [some 0]]) Tryz.func83 rfl rfl sn' (by kernel_rfl)
def aBo:Summ:=sv1 [E16'] [E7']
theorem aIL:Ds 84 aBo:=aI (C:=cf [(88,wI)] [] 0 false [lh 3 [.same,.lf (.int .i64),.lf (.int .i64)] 2 16777216 [some 0]]) Tryz.func84 rfl rfl (sc' aHV sn') (by kernel_rfl)
def aFw:Summ:=sv1 [⟨false,[.sl 8 16777216 false]⟩] [E7']
theorem aOl:Ds 85 aFw:=aI (C:=cf [(88,wI)] [] 0 false [lh 3 [.same,.lf (.int .i64),.lf (.int .i64)] 2 16777216 [some 0]]) Tryz.func85 rfl rfl (sc' aHV sn') (by kernel_rfl)
def aZs:Summ:=sv1 [E0'] [E2']
theorem aZt:Ds 30 aZs:=aI (C:=cf [(83,aDM),(84,aBo),(85,aFw)] [] 0 false [lh 8 (.same :: .lf (.int .i64)::sa 2 (.lf (.int .i64)::sa 9 [])) 4 1048576 [some 2],lh 3 (.same :: .lf (.int .i64) :: .lf (.int .i64)::sa 3 []) 2 1048576 [some 0]]) Tryz.func30 rfl rfl (sc' aLq (sc' aIL (sc' aOl sn'))) (by kernel_rfl)
end Go.Proofs.YtphmfillajagdaaGreat
