import Derived.Test.YtenmfogokijilaaGreatGa
import Derived.Test.YtenmfogokijilaaGreatRows
import Derived.WalkKit
import Derived.ProofKit
import Derived.OpenShut
import Derived.JoinedCond
import Derived.Test.YtenmfogokijilaaGreatEc
import Derived.Test.YtenmfogokijilaaGreatGc
import Derived.LoopTactic
import Derived.Deep.AppendLies
import Derived.Maps.OwnOps
import Derived.BigRegion
import Derived.Deep.RegionLaw
import Derived.Deep.RegionWith
import Derived.Laws.OwnMore
import Derived.Test.YtenmfogokijilaaGreatEd
import Derived.KernelRfl
set_option maxHeartbeats 4000000
noncomputable section
set_option maxRecDepth 100000
set_option linter.unusedVariables false
set_option linter.unusedSimpArgs false
open Go Go.Ev
open Go.ChangeShapes Go.WideShapes Go.ChangeAt Go.RowKit
namespace Go.Ev
theorem aaW:type_of% @List.foldl_cons:=@List.foldl_cons
theorem abB:type_of% @List.length_eq_zero_iff:=@List.length_eq_zero_iff
theorem abC:type_of% @List.mem_append_right:=@List.mem_append_right
theorem abD:type_of% @List.mem_append_left:=@List.mem_append_left
theorem abs:type_of% @List.length_pos_iff:=@List.length_pos_iff
theorem abE:type_of% @World.ownsRow_nil:=@World.ownsRow_nil
theorem aaA:type_of% @World.cell?_of_block:=@World.cell?_of_block
theorem ab5:type_of% @Code.wp_mono:=@Code.wp_mono
theorem abf:type_of% @World.news_of_block:=@World.news_of_block
theorem abg:type_of% @List.not_mem_nil:=@List.not_mem_nil
theorem abo:type_of% @List.length_take:=@List.length_take
theorem abp:type_of% @List.pairwise_cons:=@List.pairwise_cons
end Go.Ev
namespace Go.Proofs.YtenmfogokijilaaGreat
theorem mixed:Tryz.prog.follows .mixedOrders=true:=by kernel_rfl
theorem bJK : (Tryz.prog.funcs.toList.all fun fn => !fn.body.isSome || !(fn.name == "runtime.NumGoroutine")) = true := by kernel_rfl
theorem laid:laidOutB Tryz.prog=true:=by kernel_rfl
theorem pok:POk Tryz.prog:=by
 refine ⟨mixed,fun f fn hf hb => ?_⟩
 have hm:fn∈Tryz.prog.funcs.toList:=by
  have:=Array.mem_of_getElem? hf
  simpa using this
 have:=aak.1 bJK fn hm
 rw [hb] at this
 simpa using this
theorem blOk {H:Type}:BlOk (H:=H) Rows.uptoBulk Rows.uptoBulkAll:=by
 refine ⟨fun l => ?_,fun s => ?_,?_,fun es sp => ?_,fun ps => ?_,fun d r => ?_⟩
 ·cases l<;>simp [Rows.uptoBulk]
 ·simp [Rows.uptoBulk]
 ·simp [Rows.uptoBulk]
 ·simp only [Rows.uptoBulk];omega
 ·simp only [Rows.uptoBulk];omega
 ·simp [Rows.uptoBulkAll]
theorem own:ownKnob Tryz.prog.godebug=none:=by kernel_rfl
open Go Go.Ev
mutual
def szV:GValue->Nat
 | ⟨_,_,s,l,m⟩=>1+s.length+szVs l+szMs m
def szVs:List GValue->Nat
 | []=>0
 | x::l=>szV x+szVs l
def szM:GMember->Nat
 | ⟨n,v⟩=>n.length+szV v
def szMs:List GMember->Nat
 | []=>0
 | x::l=>szM x+szMs l
end
theorem aB8 (v:GValue):szV v=1+v.s.length+szVs v.l+szMs v.m:=by cases v;simp only [szV]
theorem aID (x:GMember):szM x=x.name.length+szV x.v:=by cases x;simp only [szM]
theorem aIE {x:GValue}:∀ {l:List GValue},x∈l->szV x<=szVs l
 | a::l,h=>by
  simp only [szVs]
  rcases aa3.1 h with rfl | h
  ·omega
  ·have:=aIE h;omega
theorem aC9 {x:GMember}:∀ {l:List GMember},x∈l->szM x<=szMs l
 | a::l,h=>by
  simp only [szMs]
  rcases aa3.1 h with rfl | h
  ·omega
  ·have:=aC9 h;omega
theorem aLJ:∀ (l:List GValue),l.length<=szVs l
 | []=>by simp [szVs]
 | a::l=>by have:=aLJ l;have:=aB8 a;simp only [szVs,aaV];omega
theorem aFE:∀ (l:List GMember),l.length<=szMs l
 | []=>by simp [szMs]
 | a::l=>by have:=aFE l;have:=aID a;have:=aB8 a.v;simp only [szMs,aaV];omega
mutual
theorem bDf:∀ v:GValue,szV v<=bY v
 | ⟨_,_,s,l,m⟩=>by
  have h1:=bDg l
  have h2:=aNN m
  simp only [szV,bY,bk1,eV];omega
theorem bDg:∀ l:List GValue,szVs l<=xN l
 | []=>by simp [szVs]
 | x::l=>by have:=bDf x;have:=bDg l;simp only [szVs,xN];omega
theorem bG2:∀ x:GMember,szM x<=aV x
 | ⟨n,v⟩=>by have:=bDf v;simp only [szM,aV,eV];omega
theorem aNN:∀ l:List GMember,szMs l<=tC l
 | []=>by simp [szMs]
 | x::l=>by have:=bG2 x;have:=aNN l;simp only [szMs,tC];omega
end
theorem aDv (l : List Str) (v : Str) (hl : Sm l) : ∃ i, fU l v = some i /\ decide (i ≥ 0) = l.contains v := by
 have key := iJ (b := eP l v) l (fun k (_ : Nat) => (k : Int)) (fun r k => match r.findIdx? (fun y => v == y) with | some j => Sum.inr ((k + j : Nat) : Int) | none => Sum.inl ()) (fun k a => a = k) hl
  (by intro a _; simp [eP, eU, cx])
  (by
   intro k x r a hm hk hd h1 h2 h3 hI
   subst hI
   simp only [eP, eU, h1, eS, h2, bF, h3, List.findIdx?_cons, cx]
   cases hv : v == x
   ·refine .inr ⟨a + 1, rfl, rfl, ?_⟩
    simp only [abv, if_false]
    cases r.findIdx? (fun y => v == y) with
    | none => rfl
    | some j => simp only [aat]; congr 2; omega
   ·left; simp) (s := 0) (a := 0) rfl rfl
 have hrun : ∀ i, nU l v = some i -> fU l v = some i := fun i h => wK h
 simp only [nU, iQ, cx] at hrun
 rw [key] at hrun
 simp only [bF, aae] at hrun
 have hc : l.contains v = (l.findIdx? (fun y => v == y)).isSome := by
  rw [List.findIdx?_isSome, List.contains_eq_any_beq]
 cases hf : l.findIdx? (fun y => v == y) with
 | none => rw [hf] at hrun hc; exact ⟨-1, hrun _ rfl, by rw [hc]; rfl⟩
 | some j => rw [hf] at hrun hc; exact ⟨(j : Int), hrun _ rfl, by rw [hc]; simp⟩
theorem qV (l:List Str) (v:Str) (hl:Sm l):iC l v=some (l.contains v):=by
 obtain ⟨i,h1,h2⟩:=aDv l v hl
 apply tN
 simp only [uT,gB,h1,bF,h2,cx]
theorem aHh (l : List Int) (v : Int) (hl : Sm l) : ∃ i, kU l v = some i /\ decide (i ≥ 0) = l.contains v := by
 have key := iJ (b := gU l v) l (fun k (_ : Nat) => (k : Int)) (fun r k => match r.findIdx? (fun y => v == y) with | some j => Sum.inr ((k + j : Nat) : Int) | none => Sum.inl ()) (fun k a => a = k) hl
  (by intro a _; simp [gU, iR, cx])
  (by
   intro k x r a hm hk hd h1 h2 h3 hI
   subst hI
   simp only [gU, iR, h1, eS, h2, bF, h3, List.findIdx?_cons, cx]
   cases hv : v == x
   ·refine .inr ⟨a + 1, rfl, rfl, ?_⟩
    simp only [abv, if_false]
    cases r.findIdx? (fun y => v == y) with
    | none => rfl
    | some j => simp only [aat]; congr 2; omega
   ·left; simp) (s := 0) (a := 0) rfl rfl
 have hrun : ∀ i, uA l v = some i -> kU l v = some i := fun i h => aB6 h
 simp only [uA, nL, cx] at hrun
 rw [key] at hrun
 simp only [bF, aae] at hrun
 have hc : l.contains v = (l.findIdx? (fun y => v == y)).isSome := by
  rw [List.findIdx?_isSome, List.contains_eq_any_beq]
 cases hf : l.findIdx? (fun y => v == y) with
 | none => rw [hf] at hrun hc; exact ⟨-1, hrun _ rfl, by rw [hc]; rfl⟩
 | some j => rw [hf] at hrun hc; exact ⟨(j : Int), hrun _ rfl, by rw [hc]; simp⟩
theorem aDw (l:List Int) (v:Int) (hl:Sm l):mF l v=some (l.contains v):=by
 obtain ⟨i,h1,h2⟩:=aHh l v hl
 apply aAj
 simp only [aBx,kQ,h1,bF,h2,cx]
theorem tT (l:List Str) (v:Str) (hl:Sm l):aTd l v=some (l.contains v):=by
 apply aZ7
 simp only [bFa,aRi,cx]
 rw [aLx (b:=aFu l v) l (fun r=>bif r.contains v then .inr () else .inl ()) hl (by simp [aFu,aIp,cx]) (by
  intro k x r hm h1 h2 h3
  simp only [aFu,aIp,h1,eS,h2,bF,h3,List.contains_cons,cx]
  rw [BEq.comm (a:=x) (b:=v)]
  cases v==x
  ·right;simp
  ·left;simp)]
 cases l.contains v<;>rfl
theorem aIF {α:Type} (l:List α) (p:α->Bool) {β:Type} (g:α->β):l.findSome? (fun x=>if p x then some (g x) else none)=(l.find? p).map g:=by
 induction l with
 | nil=>rfl
 | cons a l ih =>
  rw [List.findSome?_cons,List.find?_cons]
  cases p a with
  | true=>rfl
  | false=>exact ih
def addD (l:List Str) (n:Str):List Str:=bif l.contains n then l else l++[n]
theorem aRy (l:List Str) (n:Str):(addD l n).length<=l.length+1:=by
 unfold addD;cases l.contains n<;>simp
theorem aPR {l:List Str} {n:Str} (h:l.Nodup):(addD l n).Nodup:=by
 unfold addD
 cases hc:l.contains n
 ·simp only [cond_false]
  have hm:n∉l:=by simpa using hc
  exact List.nodup_append.2 ⟨h,by simp,fun a ha b hb=>by simp at hb;subst hb;exact fun e=>hm (e ▸ ha)⟩
 ·exact h
theorem bFo {l:List Str} {n x:Str} (h:x∈addD l n):x∈l∨x=n:=by
 unfold addD at h
 cases hc:l.contains n
 ·rw [hc] at h;simpa using h
 ·rw [hc] at h;exact .inl h
abbrev zDef:GDef:=⟨0,[],[],[],[],[]⟩
def aET (n:Str):Bool:=n==[73,110,116]||(n==[83,116,114,105,110,103]||(n==[66,111,111,108,101,97,110]||n==[73,68]))
theorem aUj n:aM1 n=some (aET n):=by
 apply aRu;simp [aNI,aET];cases n==[73,110,116]<;>cases n==[83,116,114,105,110,103]<;>cases n==[66,111,111,108,101,97,110]<;>rfl
theorem aUk n:aM2 n=some (aET n):=by
 apply aRw;simp [aNJ,aET];cases n==[73,110,116]<;>cases n==[83,116,114,105,110,103]<;>cases n==[66,111,111,108,101,97,110]<;>rfl
def cT (s:GSchema) (n:Str):GDef×Bool:=bif aET n then (⟨0,n,[],[],[],[]⟩,true) else match s.defs.find? (fun d=>d.name==n) with | some d=>(d,true) | none=>(zDef,false)
theorem aPS s n (f:Sm s.defs):aWk s n=some (cT s n):=by
 apply aWO;simp [aTV,cx];unfold cT;rw [zH (b:=aCS s n) s.defs (fun d=>if (d.name==n)=true then some (.inr (d.kind,d.name,d.faces,d.fields,d.parts,d.params)) else none) (.inl ()) f (by simp [aCS,aFx,cx]) (by
  intro k x g e c a;simp only [aCS,aFx,e,c,bF,a,cx];cases x.name==n<;>rfl),aIF,aUj]
 cases aET n;· cases s.defs.find? (fun d=>d.name==n)<;>rfl
 rfl
theorem aB9 s n (f:Sm s.defs):aMV s n=some (cT s n):=by
 apply aWR;simp [aTW,cx];unfold cT;rw [zH (b:=aCU s n) s.defs (fun d=>if (d.name==n)=true then some (.inr (d.kind,d.name,d.faces,d.fields,d.parts,d.params)) else none) (.inl ()) f (by simp [aCU,aFy,cx]) (by
  intro k x g e c a;simp only [aCU,aFy,e,c,bF,a,cx];cases x.name==n<;>rfl),aIF,aUk]
 cases aET n;· cases s.defs.find? (fun d=>d.name==n)<;>rfl
 rfl
def iN (s:GSchema) (n:Str) (a:List Int):Bool:=(cT s n).2&&a.contains (cT s n).1.kind
theorem uW s n a (c:Sm s.defs) (b:Sm a):aWe s n a=some (iN s n a):=by
 apply aWA;simp [aTF,aPS s n c,aDw a _ b,iN,cx];cases (cT s n).2<;>rfl
theorem aLK s n a b c (d:Sm s.defs):bHY s n a b c=some (iN s n [a,b,c]):=by
 apply bC4;simp only [bC3,aB9 s n d,bF,iN,cx];have:[a,b,c].contains (cT s n).1.kind=((cT s n).1.kind==a||((cT s n).1.kind==b||(cT s n).1.kind==c)):=by
  simp only [List.contains_cons,List.contains_nil,Bool.or_false]
 rw [this];cases (cT s n).2<;>cases (cT s n).1.kind==a<;>cases (cT s n).1.kind==b<;>rfl
theorem bDh s n a b:iN s n [a,b,b]=iN s n [a,b]:=by
 simp [iN]
theorem bDi s n a:iN s n [a,a,a]=iN s n [a]:=by
 simp [iN]
theorem bAs s n (a:Sm s.defs):aWm s n=some (iN s n [0,4]) :=
 aWS (by simp [aTZ,uW s n [0,4] a (by decide),cx])
theorem aEU s n (a:Sm s.defs):aEi s n=some (iN s n [1,2,3]) :=
 aLe (by simp [aGi,uW s n [1,2,3] a (by decide),cx])
theorem bAt s n (a:Sm s.defs):aWr s n=some (iN s n [0,4]) :=
 aW3 (by simp [aUa,aLK s n _ _ _ a,bDh,cx])
theorem aEV s n (a:Sm s.defs):aEo s n=some (iN s n [1,2,3]) :=
 aLj (by simp [aGo,aLK s n _ _ _ a,cx])
theorem aUl s n (a:Sm s.defs):aMW s n=some (iN s n [1]) :=
 aRp (by simp [aND,aLK s n _ _ _ a,bDi,cx])
structure SOk (s:GSchema):Prop where
 bk:eH s<1073741824
theorem bDj d:1<=aJd d:=by rw [pL];omega
theorem aON d:1<=jR d:=by rw [lZ];omega
theorem aDa d:1<=eG d:=by rw [pK];omega
theorem bDk d:1<=gF d:=by rw [jF];omega
theorem pA d:1<=aV d:=by rw [dG];omega
theorem SOk.defs {s} (h:SOk s):s.defs.length<1073741824:=by
 have a:=h.bk;rw [oL] at a;have b:=fQ bDj s.defs;omega
theorem SOk.def_bk {s} (h:SOk s) {d} (b:d∈s.defs):aJd d<1073741824:=by
 have a:=h.bk;rw [oL] at a;have c:=iY (f:=aJd) b;omega
theorem SOk.faces {s} (h:SOk s) d (b:d∈s.defs):d.faces.length<1073741824:=by
 have a:=h.def_bk b;rw [pL] at a;have c:=fQ aSP d.faces;omega
theorem SOk.parts {s} (h:SOk s) d (b:d∈s.defs):d.parts.length<1073741824:=by
 have a:=h.def_bk b;rw [pL] at a;have c:=fQ aSP d.parts;omega
theorem SOk.fields {s} (h:SOk s) d (b:d∈s.defs):d.fields.length<1073741824:=by
 have a:=h.def_bk b;rw [pL] at a;have c:=fQ aON d.fields;omega
theorem SOk.sm {s} (h:SOk s):Sm s.defs:=by have:=h.defs;omega
theorem aAo s n:(cT s n).1∈s.defs∨((cT s n).1.faces=[]/\(cT s n).1.fields=[]/\(cT s n).1.parts=[]/\(cT s n).1.params=[]):=by
 unfold cT;grind
theorem SOk.partsF {s} (h:SOk s) n:(cT s n).1.parts.length<1073741824:=by
 rcases aAo s n with a | ⟨_,_,b,_⟩;· exact h.parts _ a
 grind
theorem SOk.fieldsF {s} (h:SOk s) n:(cT s n).1.fields.length<1073741824:=by
 rcases aAo s n with a | ⟨_,b,_,_⟩;· exact h.fields _ a
 grind
abbrev zF:GFieldDef:=⟨[],[],⟨[],0,0⟩,[]⟩
abbrev tnS:Str:=[95,95,116,121,112,101,110,97,109,101]
abbrev tnF:GFieldDef:=⟨tnS,[],⟨[83,116,114,105,110,103],0,1⟩,[]⟩
theorem aUm (l : List GFieldDef) (d : GDef) (a b : Str) (p q : Int) (c : Str) (s : GSchema) (B : Sm l) :
  ∃ i, zL l d a b p q c s = some i /\ (match l.find? (fun f => f.name == c) with | some f => decide (i < 0) = false /\ nthI l i = some f | none => decide (i < 0) = true) := by
 have v : ∀ f, aFl f d a b p q c s = some (f.name == c) := fun f => aOv rfl;have m := iJ (b := tH l d a b p q c s) l (fun k (_ : Nat) => k) (fun r k => match r.findIdx? (fun f => f.name == c) with | some j => Sum.inr ((k + j : Nat) : Int) | none => Sum.inl ()) (fun k a => a = k) B
  (by intro a _; simp [tH, vH, cx])
  (by
   intro k x r z E o D y w u A;subst A;simp only [tH, vH, y, w, bF, u, v, List.findIdx?_cons, cx];cases hv : x.name == c;· refine .inr ⟨z + 1, rfl, rfl, ?_⟩;grind
   simp) (s := 0) (a := 0) rfl rfl
 have e : ∀ i, aIe l d a b p q c s = some i -> zL l d a b p q c s = some i := fun i h => aNg h;simp [aIe, aCM, cx] at e;rw [m] at e;simp at e;cases g : l.findIdx? (fun f => f.name == c) with
 | none =>
  rw [g] at e;refine ⟨-1, e _ rfl, ?_⟩;grind
 | some j =>
  rw [g] at e;refine ⟨j, e _ rfl, ?_⟩;obtain ⟨n, C, t⟩ := List.findIdx?_eq_some_iff_getElem.1 g;have : l.find? (fun f => f.name == c) = some l[j] := by
   rw [List.find?_eq_some_iff_getElem];exact ⟨C, j, n, rfl, fun k o => by simpa using t k o⟩
  rw [this];exact ⟨by simp, by rw [dF, aa4 n]⟩
def sK (s:GSchema) (a b:Str):GFieldDef×Bool :=
 bif b==tnS&&iN s a [1,2,3] then (tnF,true) else bif (cT s a).1.kind==1||(cT s a).1.kind==2 then (match (cT s a).1.fields.find? (fun f=>f.name==b) with | some f=>(f,true) | none=>(zF,false)) else (zF,false)
theorem bAu {s n} (h:(cT s n).2=false):(cT s n).1=zDef:=by
 revert h;unfold cT;grind
theorem aHi s a b (h:SOk s):aQZ s a b=some (sK s a b):=by
 apply aTE;have g:=h.sm;have p:=h.fieldsF a;obtain ⟨i,n,e⟩:=aUm (cT s a).1.fields (cT s a).1 [] [] 0 0 b s (by omega);have d:(cnd (!(cT s a).2) (some (zF,false)) (cnd ((cT s a).1.kind != 1) (cnd ((cT s a).1.kind != 2) (some (zF,false)) (cnd (decide (i<0)) (some (zF,false)) (bnd (nthI (cT s a).1.fields i) fun y=>some (y,true)))) (cnd (decide (i<0)) (some (zF,false)) (bnd (nthI (cT s a).1.fields i) fun y=>some (y,true))))) =
   some (bif (cT s a).1.kind==1||(cT s a).1.kind==2 then (match (cT s a).1.fields.find? (fun f=>f.name==b) with | some f=>(f,true) | none=>(zF,false)) else (zF,false)):=by
  have l:((cT s a).1.kind != 1) = !((cT s a).1.kind==1):=rfl;have k:((cT s a).1.kind != 2) = !((cT s a).1.kind==2):=rfl;cases j:(cT s a).2;· rw [bAu j];rfl
  rw [l,k];cases c:(cT s a).1.fields.find? (fun f=>f.name==b) with
  | none=>rw [c] at e;rw [e];cases (cT s a).1.kind==1<;>cases (cT s a).1.kind==2<;>rfl
  | some f=>rw [c] at e;obtain ⟨m,o⟩:=e;rw [m,o];cases (cT s a).1.kind==1<;>cases (cT s a).1.kind==2<;>rfl
 simp [aPE,aG1,aG0,aEU s a g,aPS s a g,n,sK,cx];rw [d];cases b==tnS<;>cases iN s a [1,2,3]<;>rfl
theorem aAp s a c (h:SOk s):aQ6 s a c=some (sK s a c):=by
 apply aT4;have e:=h.sm;have q:=h.fieldsF a;have m:Sm (cT s a).1.fields:=by omega
 have n:∀ b:Int->Option (Int⊕(Unit⊕(Str×List GParam×Str×Int×Int×List GDir))),(∀ k,b k=cnd (decide (k<(List.length (cT s a).1.fields:Int))) (bnd (nthI (cT s a).1.fields k) fun x=>cnd (x.name==c) (bnd (nthI (cT s a).1.fields k) fun y=>some (.inr (.inr (y.name,y.params,y.t.name,y.t.lists,y.t.musts,y.dirs)))) (some (.inl (IntKind.wrap .i64 (k+1))))) (some (.inr (.inl ())))) ->
   cW b 0=some (match (cT s a).1.fields.find? (fun f=>f.name==c) with | some y => .inr (y.name,y.params,y.t.name,y.t.lists,y.t.musts,y.dirs) | none => .inl ()):=by
  intro b g;rw [zH (b:=b) (cT s a).1.fields (fun y=>if (y.name==c)=true then some (.inr (y.name,y.params,y.t.name,y.t.lists,y.t.musts,y.dirs)) else none) (.inl ()) m (by rw [g];simp) (by
   intro k x u p o i;rw [g];simp only [p,o,bF,i];cases x.name==c<;>rfl),aIF]
  cases (cT s a).1.fields.find? (fun f=>f.name==c)<;>rfl
 have l:((cT s a).1.kind != 1) = !((cT s a).1.kind==1):=rfl;have j:((cT s a).1.kind != 2) = !((cT s a).1.kind==2):=rfl;simp [aPO,aHf,aHe,aEV s a e,aB9 s a e,sK,l,j,cx];simp [n (aEM c (cT s a)) (fun k=>by simp [aEM,aHd,cx])];cases r:c==tnS;· cases (cT s a).1.fields.find? (fun f=>f.name==c)<;>cases (cT s a).1.kind==1<;>cases (cT s a).1.kind==2<;>rfl
 have d:c=tnS:=by grind
 subst d;cases iN s a [1,2,3]<;>cases (cT s a).1.fields.find? (fun f=>f.name==tnS)<;>cases (cT s a).1.kind==1<;>cases (cT s a).1.kind==2<;>rfl
theorem aA9 (m:List GMember) (hm:m.length<1073741824) (h:∀ x∈m,aHZ x.v=some x.v):aJo m=some m:=by
 apply aOB
 simp only [aTQ,aEF,cx]
 rw [aMr (b:=vK m) m (fun k a=>(a,(k:Int))) hm (by intro a;simp [vK,yB,cx]) (by
  intro k x a hx h1 h2 h3 h4
  simp only [vK,yB,h1,eS,h2,bF,h3,h4,h x hx,cx]
  cases x;rfl) (s:=([],0)) rfl]
 rfl
theorem aUn:∀ (n:Nat),n<1073741824->∀ v:GValue,szV v<=n->aHZ v=some v:=by
 intro n
 induction n with
 | zero=>intro _ v h;have:=aB8 v;omega
 | succ n ih =>
  intro hn v h
  have hv:=aB8 v
  have hl:=aLJ v.l
  have hm:=aFE v.m
  apply aT2
  simp only [bAf,aJL,cx]
  rw [aMr (b:=aA3 v) v.l (fun k a=>(a,(k:Int))) (by omega) (by intro a;simp [aA3,aCW,cx]) (by
   intro k x a hx h1 h2 h3 h4
   simp only [aA3,aCW,h1,eS,h2,bF,h3,h4,ih (by omega) x (by have:=aIE hx;omega),cx]) (s:=([],0)) rfl]
  simp only [bF,aA9 v.m (by omega) fun x hx=>ih (by omega) x.v (by have:=aC9 hx;have:=aID x;omega)]
  cases v;rfl
theorem aHj (v:GValue) (h:szV v<1073741824):aHZ v=some v:=aUn _ h v (aa1 _)
theorem aJU {m:List GMember} (h:bkSl aV m<1073741824) {x:GMember} (hx:x∈m):szV x.v<1073741824:=by
 have h1:=iY (f:=aV) hx
 have h2:=bG2 x
 have h3:=aID x
 omega
theorem aPT (l:List GDir) (h:bkSl gF l<1073741824):aWg l=some l:=by
 apply aWH
 simp only [bCV,aNp,cx]
 have hl:=fQ bDk l
 rw [aMr (b:=aCO l) l (fun k a=>(a,(k:Int))) (by omega) (by intro a;simp [aCO,aFt,cx]) (by
  intro k x a hx h1 h2 h3 h4
  have hb:=iY (f:=gF) hx
  rw [jF] at hb
  have hm:=fQ pA x.args
  simp only [aCO,aFt,h1,eS,h2,bF,h3,h4,aA9 x.args (by omega) fun y hy=>aHj y.v (aJU (by omega) hy),cx]) (s:=([],0)) rfl]
 rfl
mutual
def aDb:GSel->List Str
 | ⟨k,_,n,_,_,_,l⟩=>(bif k==1 then [n] else [])++eE l
def eE:List GSel->List Str
 | []=>[]
 | x::l=>aDb x++eE l
end
theorem aPU x:aDb x=(bif x.kind==1 then [x.name] else [])++eE x.sels:=by cases x;simp [aDb]
mutual
theorem aJV:∀ x:GSel,(aDb x).length<=cZ x
 | ⟨k,a,n,c,b,o,l⟩=>by
  have h:=aEW l;simp [aDb,cZ];grind
theorem aEW:∀ l:List GSel,(eE l).length<=aK l
 | []=>by simp [eE]
 | x::l=>by have:=aJV x;have:=aEW l;simp only [eE,aK,aar];omega
end
theorem pX {x l} (h:x∈l):cZ x<=aK l:=by rw [bK];exact bG cZ h
theorem gV x:aK x.sels+1<=cZ x:=by rw [eN,bK];simp [bkSl];omega
theorem aNO x:1<=cZ x:=by rw [eN];omega
theorem fP l:l.length<=aK l:=by rw [bK];exact gR cZ aNO l
theorem mZ:∀ (a l:List Str),(a.foldl addD l).length<=l.length+a.length
 | [],l=>by simp
 | n::a,l=>by have:=mZ a (addD l n);have:=aRy l n;grind
theorem mP:∀ (a l:List Str),l.Nodup->(a.foldl addD l).Nodup
 | [],l,h=>h
 | n::a,l,h=>mP a _ (aPR h)
theorem aYz l n x:x∈addD l n↔x∈l∨x=n:=by
 constructor;· exact bFo
 unfold addD;grind
theorem fK:∀ (a l:List Str) x,x∈a.foldl addD l↔x∈l∨x∈a
 | [],l,x=>by simp
 | n::a,l,x=>by rw [aaW,fK a,aYz,aa3];grind
theorem aW7 l n:∃ t,addD l n=l++t:=by
 unfold addD;cases l.contains n;all_goals simp
theorem aEX:∀ (a l:List Str),∃ t,a.foldl addD l=l++t
 | [],l=>⟨[],by simp⟩
 | n::a,l=>by
  obtain ⟨t,b⟩:=aW7 l n;obtain ⟨u,c⟩:=aEX a (addD l n);grind
theorem aJW : ∀ n, ∀ c l, aK c <= n -> l.length + aK c < 1073741824 -> pO l c = some ((eE c).foldl addD l) := by
 intro n;induction n with
 | zero =>
  intro c l h o;have := fP c;have u : c = [] := abB.1 (by omega);subst u;apply aB5;simp [aEK, tR, cx];rw [cG (r := l) (by simp [lO, mY, cx])];rfl
 | succ n B =>
  intro c l h o;apply aB5;simp [aEK, tR, cx];have j := fP c;have f := iJ (b := lO c) c (fun k a => (a, k)) (fun r a => (eE r).foldl addD a) (fun k a => a.length + aK (c.drop k) < 1073741824) (by show c.length < _; omega)
   (by intro a _; simp [lO, mY, eE, cx])
   (by
    intro k x r a z D i y w p m;rw [i] at m;simp [aK] at m;have g : c.drop (k + 1) = r := by rw [<- List.tail_drop, i]; rfl
    have A := pX z;have t := gV x;have d : ∀ e , e.length <= a.length + 1 -> pO e x.sels = some ((eE x.sels).foldl addD e) := fun e q => by grind
    have C := aJV x;refine .inr ⟨(aDb x).foldl addD a, ?_, ?_, ?_⟩
    ·rw [aPU];simp only [lO, mY, y, eS, w, bF, p, qV a x.name (by omega), d a (by omega), cx];cases x.kind == 1;· rfl
     have v : tapp a [x.name] = some (a ++ [x.name]) := gM (by simp [gY]; omega);simp only [cond_true, aaj, aaW, addD, v, bF, d (a ++ [x.name]) (by simp)];cases a.contains x.name <;> rfl
    ·rw [g];have := mZ (aDb x) a;omega
    simp [eE]) (s := (l, 0)) (a := l) rfl (by simpa using o)
  rw [f]; rfl
theorem aDm a l (h:l.length+aK a<1073741824):pO l a=some ((eE a).foldl addD l):=aJW _ a l (aa1 _) h
abbrev bKD:GFrag:=⟨[],[],[],[]⟩
theorem aUo (l : List GFrag) (a b c : Str) (d : GDoc) (z : Sm l) :
  ∃ i, aBT l a b c d = some i /\ (match l.find? (fun f => f.name == c) with | some f => decide (i < 0) = false /\ nthI l i = some f | none => decide (i < 0) = true) := by
 have t : ∀ f, aAN f a b c d = some (f.name == c) := fun f => aLh rfl;have m := iJ (b := vM l a b c d) l (fun k (_ : Nat) => k) (fun r k => match r.findIdx? (fun f => f.name == c) with | some j => Sum.inr ((k + j : Nat) : Int) | none => Sum.inl ()) (fun k a => a = k) z
  (by intro a _; simp [vM, yE, cx])
  (by
   intro k x r w C o B v u q y;subst y;simp only [vM, yE, v, u, bF, q, t, List.findIdx?_cons, cx];cases hv : x.name == c
   ·refine .inr ⟨w + 1, rfl, rfl, ?_⟩;simp only [abv, if_false];cases r.findIdx? (fun f => f.name == c) with
    | none => rfl
    | some j => simp only [aat]; congr 2; omega
   left; simp) (s := 0) (a := 0) rfl rfl
 have e : ∀ i, aKJ l a b c d = some i -> aBT l a b c d = some i := fun i h => aOK h;simp [aKJ, aEL, cx] at e;rw [m] at e;simp at e;cases g : l.findIdx? (fun f => f.name == c) with
 | none =>
  rw [g] at e;refine ⟨-1, e _ rfl, ?_⟩;have : l.find? (fun f => f.name == c) = none := by grind
  rw [this]; rfl
 | some j =>
  rw [g] at e;refine ⟨j, e _ rfl, ?_⟩;obtain ⟨n, A, p⟩ := List.findIdx?_eq_some_iff_getElem.1 g;have : l.find? (fun f => f.name == c) = some l[j] := by
   rw [List.find?_eq_some_iff_getElem];exact ⟨A, j, n, rfl, fun k o => by simpa using p k o⟩
  rw [this];exact ⟨by simp, by rw [dF, aa4 n]⟩
def eJ (d:GDoc) (n:Str):GFrag×Bool:=match d.frags.find? (fun f=>f.name==n) with | some f=>(f,true) | none=>(bKD,false)
theorem aIG d n (h:Sm d.frags):aJu d n=some (eJ d n):=by
 apply aOL;obtain ⟨i,e,a⟩:=aUo d.frags [] [] n d h;simp [aKK,e,eJ,cx];cases g:d.frags.find? (fun f=>f.name==n) with
 | none=>simp_all
 | some f=>rw [g] at a;obtain ⟨c,b⟩:=a;rw [c,b];rfl
theorem qW {d n} (h:(eJ d n).2=true):(eJ d n).1∈d.frags/\(eJ d n).1.name=n:=by
 revert h;unfold eJ;grind
theorem aYA {d f} (h:f∈d.frags):(eJ d f.name).2=true:=by
 unfold eJ;grind
def wX (d:GDoc) (S:Str->Prop):Prop:=∀ n,S n->(eJ d n).2=true->∀ m∈eE (eJ d n).1.sels,S m
def allN (d:GDoc) (a:List GSel):List Str:=eE a++d.frags.flatMap fun f=>eE f.sels
theorem pF:∀ l,(l.flatMap fun f=>eE f.sels).length<=sumL dQ l
 | []=>by simp
 | f::l=>by
  have c:=pF l;have b:=aEW f.sels;have a:aK f.sels<=dQ f:=by rw [mR,bK];simp [bkSl];omega
  simp only [ab2,aar,sumL];omega
theorem cQ d:sumL dQ d.frags+1<=dY d:=by rw [mB];simp [bkSl];omega
theorem aPV f:1<=dQ f:=by rw [mR];omega
theorem jE d:d.frags.length+1<=dY d:=by
 have:=cQ d;have:=gR dQ aPV d.frags;omega
theorem aLk d sels (E : dY d + aK sels < 500000000) :
  ∃ l, aCx d sels = some l /\ l.length < 1073741824 /\ (∀ n ∈ eE sels, n ∈ l) /\ wX d (· ∈ l) /\ ∀ S , (∀ n ∈ eE sels, S n) -> wX d S -> ∀ n ∈ l, S n := by
 have z : (allN d sels).length <= dY d + aK sels := by
  have h1 := aEW sels;have h2 := pF d.frags;have B := cQ d;simp only [allN, aar]; omega
 have D := jE d;have hsm : Sm d.frags := by show d.frags.length < _; omega
 have base : pO [] sels = some ((eE sels).foldl addD []) := aDm sels [] (by simp only [aaH]; omega);have hsub : ∀ (l : List Str), l.Nodup -> (∀ x ∈ l, x ∈ allN d sels) -> l.length <= dY d + aK sels := fun l h1 h2 => aa5 (vT l _ h1 h2) z;obtain ⟨l, v, q⟩ := aSQ (b := lM d sels)
  (I := fun s => ∃ i : Nat, s.1 = (i : Int) /\ i <= s.2.length /\ s.2.Nodup /\ (∀ x ∈ s.2, x ∈ allN d sels) /\ (∀ n ∈ eE sels, n ∈ s.2) /\
   (∀ (j : Nat) (n : Str), j < i -> s.2[j]? = some n -> (eJ d n).2 = true -> ∀ m ∈ eE (eJ d n).1.sels, m ∈ s.2) /\ (∀ S : Str -> Prop, (∀ n ∈ eE sels, S n) -> wX d S -> ∀ n ∈ s.2, S n))
  (m := fun s => dY d + aK sels + 1 - s.1.toNat)
  (Q := fun l => l.length < 1073741824 /\ (∀ n ∈ eE sels, n ∈ l) /\ wX d (· ∈ l) /\ ∀ S , (∀ n ∈ eE sels, S n) -> wX d S -> ∀ n ∈ l, S n)
  (by
   rintro ⟨C, l⟩ ⟨i, g, a, hnd, hall, hin, hcl, hmin⟩;simp only at g a hnd hall hin hcl hmin;subst g;have o := hsub l hnd hall;by_cases r : l.length <= i
   ·left;refine ⟨l, ?_, by omega, hin, ?_, hmin⟩
    ·have e1 : decide (i ≥ (List.length l : Int)) = true := by simp; omega
     simp only [lM, mU, e1, eS, cx]
    ·intro n hn hfr m p;obtain ⟨j, hj⟩ := aao.1 hn;have w := (aa2.1 hj).1;exact by grind
   ·right;have e1 : decide (i ≥ (List.length l : Int)) = false := by simp; omega
    have hx := aa4 (show i < l.length by omega);have k : IntKind.wrap .i64 (i + 1) = ((i + 1 : Nat) : Int) := wadd (by omega);cases hfr : (eJ d l[i]).2
    ·refine ⟨(((i + 1 : Nat) : Int), l), ?_, ⟨i + 1, rfl, by simp only; omega, hnd, hall, hin, ?_, hmin⟩, ?_⟩;· simp only [lM, mU, e1, jN, dF, hx, bF, aIG d _ hsm, hfr, Bool.not_false, eS, k, cx]
     ·intro j n hj hjn hfn;by_cases hji : j = i;· subst hji;rw [hx] at hjn; cases hjn;rw [hfr] at hfn; simp at hfn
      ·exact hcl j n (by omega) hjn hfn
     ·simp only [Int.toNat_natCast]; omega
    ·obtain ⟨hfm, _⟩ := qW hfr;have A := bG dQ hfm;have u : aK (eJ d l[i]).1.sels <= dQ (eJ d l[i]).1 := by rw [mR, bK]; simp only [bkSl]; omega
     have y := cQ d;have e := aDm (eJ d l[i]).1.sels l (by omega);obtain ⟨t, f⟩ := aEX (eE (eJ d l[i]).1.sels) l;refine ⟨(((i + 1 : Nat) : Int), (eE (eJ d l[i]).1.sels).foldl addD l), ?_, ⟨i + 1, rfl, by simp only; rw [f]; simp only [aar]; omega, mP _ _ hnd, ?_, ?_, ?_, ?_⟩, ?_⟩;· simp only [lM, mU, e1, jN, dF, hx, bF, aIG d _ hsm, hfr, abm, e, k, cx]
     ·intro x c;rcases (fK _ _ _).1 c with h | h;· exact hall x h
      ·exact abC _ (aaE.2 ⟨_, hfm, h⟩)
     ·intro n hn; exact by grind
     ·intro j n hj hjn hfn m p;simp at hjn ⊢;rw [f] at hjn;rw [fK];by_cases hji : j = i;· subst hji;rw [aaq (by omega), hx] at hjn; cases hjn;exact .inr p
      rw [aaq (by omega)] at hjn;exact by grind
     ·intro S h1 h2 n hn;rcases (fK _ _ _).1 hn with h | h;· exact hmin S h1 h2 n h
      exact h2 l[i] (by grind) hfr n h
     ·simp [Int.toNat_natCast]; omega)
  (0, (eE sels).foldl addD [])
  ⟨0, rfl, aaP _, mP _ _ abk, (fun x hx => by
   rcases (fK _ _ _).1 hx with h | h;· simp at h
   exact abD _ h), (fun n hn => (fK _ _ _).2 (.inr hn)), (fun j n hj => by omega), (fun S h1 _ n hn => by
   rcases (fK _ _ _).1 hn with h | h;· simp at h
   exact h1 n h)⟩
 exact ⟨l, aJI (by simp [aNq, aAg, base, v, cx]), q⟩
theorem aKQ (x:GSel):bkSl aV x.args<=cZ x/\bkSl gF x.dirs<=cZ x:=by
 rw [eN];omega
theorem bAv : ∀ (n : Nat) (l : List GSel), aK l <= n -> n < 1073741824 -> aQV l = some l := by
 intro n
 induction n with
 | zero =>
  intro l h _
  have := fP l
  have hs : l = [] := abB.1 (by omega)
  subst hs
  apply aM9
  simp only [aTr, aH4, cx]
  rw [cG (r := []) (by simp [zT, aBW, cx])]
  rfl
 | succ n ih =>
  intro l h hn
  have hlen := fP l
  apply aM9
  have key := iJ (b := zT l) l (fun k (a : List GSel) => (a, (k : Int))) (fun r a => a ++ r) (fun k a => a.length = k) (by show l.length < _; omega)
   (fun a _ => by simp [zT, aBW, cx])
   (fun k x r a hx hk hd h1 h2 h3 ha => by
    have hb := pX hx
    have hs := gV x
    have hp := aKQ x
    have hml : x.args.length < 1073741824 := by have := fQ (f := aV) pA x.args; omega
    refine .inr ⟨a ++ [x], ?_, by simp [ha], by simp⟩
    simp only [zT, aBW, h1, h2, h3, bF, eS, aA9 x.args hml (fun y hy => aHj _ (aJU (by omega) hy)), aPT x.dirs (by omega), ih x.sels (by omega) (by omega), cx]
    rw [gM (show a.length + [(⟨x.kind, x.alias, x.name, x.args, x.dirs, x.on_, x.sels⟩ : GSel)].length <= lim by simp [gY]; omega)]
    cases x; rfl) (s := ([], 0)) (a := []) rfl rfl
  simp only [aTr, aH4, key, bF, aai, cx]
theorem bAw (l:List GSel) (h:aK l<1073741824):aQV l=some l:=bAv _ l (aa1 _) h
open Go Go.Ev Go.RowKit
theorem tU {M w} (h:Cons M w) {b} (d:w.heap.size<=b) i:M b i=none:=by
 cases a:M b i with
 | none=>rfl
 | some v =>
  obtain ⟨arr,T,fz,c,_⟩:=h b i v a;grind
theorem qX {M w w'} (h:Cons M w) (d:∀ k,k<w.heap.size->(∃ i,M k i≠none)->w'.heap[k]?=w.heap[k]?):Cons M w':=by
 intro b i v hv;obtain ⟨arr,T,fz,c,a⟩:=h b i v hv;grind
theorem pY {M w w'} (b:Cons M w) (h:Below w.heap.size w w'):Cons M w':=qX b fun k a _=>h.block k a
structure From (B:Nat) (M:Mem) (w:World) (M':Mem) (w':World):Prop where
 mem:∀ b i v,M b i=some v->M' b i=some v
 old:∀ b,b<B->∀ i,M' b i=M b i
 below:Below B w w'
theorem From.refl B M w:From B M w M w:=⟨fun _ _ _ h=>h,fun _ _ _=>rfl,Below.refl _ _⟩
theorem From.trans {B M a e w f d} (h:From B M w a f) (k:From B a f e d):From B M w e d :=
 ⟨fun b i v hv=>k.mem b i v (h.mem b i v hv),fun b c i=>(k.old b c i).trans (h.old b c i),h.below.trans k.below⟩
theorem From.of_below {B M w w'} (h:Below B w w'):From B M w M w':=⟨fun _ _ _ h=>h,fun _ _ _=>rfl,h⟩
theorem kJ {w w':World} {B e size n:Nat} {v xs} (h:w.ownsRow B e size v n xs) (d:∀ k,v.ownBlock=some k->w'.heap[k]?=w.heap[k]?):w'.ownsRow B e size v n xs:=by
 refine ⟨h.1,?_⟩;rcases h.2 with f | ⟨g,cap,b,rfl,c,a,rest⟩;· grind
 exact .inr ⟨g,cap,b,rfl,c,(d g rfl).trans a,rest⟩
def frzM (B:Nat) (M:Mem) (w:World):Mem:=fun b i=>if B<=b then (match w.heap[b]? with | some (.cells arr _ _)=>arr[i]? | _=>none) else M b i
theorem aUp {B M w} (h:Cons M w):∀ b i v,M b i=some v->frzM B M w b i=some v:=by
 intro b i v hv;unfold frzM;split;· obtain ⟨arr,T,fz,c,a⟩:=h b i v hv;grind
 exact hv
def frzV (v:Value) (M:Mem) (w:World):Mem:=fun b i=>if v.ownBlock=some b then (match w.heap[b]? with | some (.cells arr _ _)=>arr[i]? | _=>none) else M b i
theorem aEY {v M w} (h:Cons M w):Cons (frzV v M w) w:=by
 intro b i u a;unfold frzV at a;split at a;· grind
 exact h b i u a
theorem tV {v M w} (h:Cons M w):∀ b i u,M b i=some u->frzV v M w b i=some u:=by
 intro b i u a;unfold frzV;split;· obtain ⟨arr,T,fz,d,c⟩:=h b i u a;grind
 exact a
theorem yQ {v M w b} (h:v.ownBlock≠some b) i:frzV v M w b i=M b i:=by
 unfold frzV;grind
theorem aIH {B' e size n:Nat} {M' q} {w:World} {v xs} (h:w.ownsRow B' e size v n xs) (x:∀ g arr T fz,v.ownBlock=some g->w.heap[g]?=some (.cells arr T fz)->∀ i,M' g i=arr[i]?) es (t:es.length=n) (m:∀ p∈es,okEl size p) (r:∀ i p j c,es[i]?=some p->p.cells[j]?=some c->∃ u,xs[i*size+j]?=some u/\Rv M' q c u) :
  Rv M' q (.slice es [] false) v:=by
 rcases h.2 with ⟨rfl,C⟩ | ⟨g,cap,l,rfl,D,z,f,o,y,k⟩
 ·have:es=[]:=by grind
  subst this;exact .nil false
 subst t;refine .slice es [] false ⟨g,0,none⟩ cap size (fun i j=>(xs[i*size+j]?).getD undef) (fun _=>rfl) (by simpa using f) (by simp) ?_ ?_ ?_;· exact by grind
 ·intro i p j d B;rw [aac] at d;obtain ⟨_,_,s,_⟩:=m p (aad d);obtain ⟨u,b,_⟩:=r i p j (p.cells[j]'(by omega)) d (by simp);rw [b,aaN];rw [x g l e (0,0) rfl z];rw [<- k,abb] at b;split at b;· simpa using b
  simp at b
 intro i p j c d s;rw [aac] at d;obtain ⟨u,b,hv⟩:=r i p j c d s;rw [b];exact hv
theorem aNP {B B' e size n:Nat} {M w v xs} (h:w.ownsRow B' e size v n xs) (b:B<=B'):∀ g arr T fz,v.ownBlock=some g->w.heap[g]?=some (.cells arr T fz)->∀ i,frzM B M w g i=arr[i]?:=by
 intro g arr T fz c a i;unfold frzM;rw [if_pos (aa5 b (h.lt g c).1),a]
theorem aII {M w v}:∀ g arr T fz,v.ownBlock=some g->w.heap[g]?=some (.cells arr T fz)->∀ i,frzV v M w g i=arr[i]?:=by
 unfold frzV;grind
theorem pB {M B es v} (h:Rv M B (.slice es [] false) v):∃ a l k,v = .slice a l k:=by
 cases h with
 | nil o=>simp
 | slice es bs o a cap s f i d g b e c=>simp
structure OCV (M:Mem) (o:GOp) (v2 v3 v4:Value):Prop where
 r2:Rv M noB (.slice (List.map cK o.vars) [] false) v2
 r3:Rv M noB (.slice (List.map bJ o.dirs) [] false) v3
 r4:Rv M noB (.slice (List.map aH o.sels) [] false) v4
abbrev aEZ (o:GOp) (c a b:Value):List Value:=[.int .i64 o.kind,.string ⟨o.name.toArray⟩,c,a,b]
theorem OCV.mono {M M' o e c d} (h:OCV M o e c d) (a:∀ b i v,M b i=some v->M' b i=some v):OCV M' o e c d :=
 ⟨h.r2.mono a (fun _ _ _ h=>h),h.r3.mono a (fun _ _ _ h=>h),h.r4.mono a (fun _ _ _ h=>h)⟩
inductive OpRow (M:Mem):List GOp->List Value->Prop
 | nil:OpRow M [] []
 | snoc {l:List GOp} {ys:List Value} {x:GOp} {v2 v3 v4:Value} (h:OpRow M l ys) (hc:OCV M x v2 v3 v4):OpRow M (l++[x]) (ys++aEZ x v2 v3 v4)
theorem OpRow.mono {M M' l ys} (h:OpRow M l ys) (a:∀ b i v,M b i=some v->M' b i=some v):OpRow M' l ys:=by
 induction h with
 | nil=>exact .nil
 | snoc h d c=>exact .snoc c (d.mono a)
theorem aUq {M l ys} (h:OpRow M l ys):ys.length=l.length*5:=by
 induction h with
 | nil=>rfl
 | snoc h b a=>simp;omega
theorem bFp {M l ys} (h:OpRow M l ys):∀ i x,l[i]?=some x->∃ m e k,OCV M x m e k/\∀ j u,(aEZ x m e k)[j]?=some u->ys[i*5+j]?=some u:=by
 induction h with
 | nil=>intro i x h;simp at h
 | @snoc l ys x m e k h p t =>
  intro i q d;have r:=aUq h;rcases aaG i l.length with n | o
  ·rw [aaq n] at d;obtain ⟨a,b,c,v,s⟩:=t i q d;refine ⟨a,b,c,v,fun j u g => ?_⟩;have w  := by have:=(aa2.1 g).1;simpa using this
   rw [aaq (by omega)];exact s j u g
  rw [aaJ o] at d;have f:i-l.length=0:=by
   rcases Nat.eq_zero_or_pos (i-l.length) with f | f;· exact f
   rw [List.getElem?_eq_none (by simp;omega)] at d;cases d
  rw [f] at d;cases d;refine ⟨m,e,k,p,fun j u g => ?_⟩;rw [aaJ (by omega),show i*5+j-ys.length=j by omega];exact g
structure FCV (M:Mem) (f:GFrag) (v2 v3:Value):Prop where
 r2:Rv M noB (.slice (List.map bJ f.dirs) [] false) v2
 r3:Rv M noB (.slice (List.map aH f.sels) [] false) v3
abbrev aIJ (f:GFrag) (b a:Value):List Value:=[.string ⟨f.name.toArray⟩,.string ⟨f.on_.toArray⟩,b,a]
theorem FCV.mono {M M' o d c} (h:FCV M o d c) (a:∀ b i v,M b i=some v->M' b i=some v):FCV M' o d c :=
 ⟨h.r2.mono a (fun _ _ _ h=>h),h.r3.mono a (fun _ _ _ h=>h)⟩
inductive FrRow (M:Mem):List GFrag->List Value->Prop
 | nil:FrRow M [] []
 | snoc {l:List GFrag} {ys:List Value} {x:GFrag} {v2 v3:Value} (h:FrRow M l ys) (hc:FCV M x v2 v3):FrRow M (l++[x]) (ys++aIJ x v2 v3)
theorem FrRow.mono {M M' l ys} (h:FrRow M l ys) (a:∀ b i v,M b i=some v->M' b i=some v):FrRow M' l ys:=by
 induction h with
 | nil=>exact .nil
 | snoc h d c=>exact .snoc c (d.mono a)
theorem aUr {M l ys} (h:FrRow M l ys):ys.length=l.length*4:=by
 induction h with
 | nil=>rfl
 | snoc h b a=>simp;omega
theorem bFq {M l ys} (h:FrRow M l ys):∀ i x,l[i]?=some x->∃ b a,FCV M x b a/\∀ j u,(aIJ x b a)[j]?=some u->ys[i*4+j]?=some u:=by
 induction h with
 | nil=>intro i x h;simp at h
 | @snoc l ys x b a h e d =>
  have c:=aUr h;grind
inductive RvL (M:Mem) (B:BM):List PV->List Value->Prop
 | nil:RvL M B [] []
 | cons {c:PV} {v:Value} {cs:List PV} {vs:List Value} (h:Rv M B c v) (t:RvL M B cs vs):RvL M B (c::cs) (v::vs)
theorem aUs {M B}:∀ cs vs,vs.length=cs.length->(∀ (i:Nat) c v,cs[i]?=some c->vs[i]?=some v->Rv M B c v)->RvL M B cs vs
 | [],[],_,_ => .nil
 | [],_::_,h,_=>by grind
 | _::_,[],h,_=>by grind
 | c::cs,v::vs,h,a => .cons (a 0 c v rfl rfl) (aUs cs vs (by grind) fun i c v d b=>a (i+1) c v (by grind) (by grind))
theorem bG3 {M B cs v} (h:Rv M B (.agg cs) v):∃ l,v = .agg l.toArray/\RvL M B cs l:=by
 cases h with
 | agg cs vs f g e b =>
  refine ⟨vs.toList,rfl,aUs _ _ (by omega) fun i c v d a => ?_⟩;grind
theorem bJL {M x l} (h:RvL M noB (cO x).cells l):∃ c a b,l=aEZ x c a b/\OCV M x c a b:=by
 cases h with | cons f h =>
 cases h with | cons i h =>
 cases h with | cons e h =>
 cases h with | cons d h =>
 cases h with | cons g h =>
 cases h;cases f;cases i;exact ⟨_,_,_,rfl,e,d,g⟩
theorem bJM {M x l} (h:RvL M noB (aL x).cells l):∃ b a,l=aIJ x b a/\FCV M x b a:=by
 cases h with | cons e h =>
 cases h with | cons f h =>
 cases h with | cons d h =>
 cases h with | cons c h =>
 cases h;cases e;cases f;exact ⟨_,_,rfl,d,c⟩
theorem aRz {M w l c} (R:Cons M w) (h:Rv M noB (.slice (List.map cO l) [] false) c) :
  ∃ B cap,c = .slice B l.length cap/\l.length<=cap/\(l≠[]->∃ blk off,B=some ⟨blk,off,none⟩)/\∀ blk off,B=some ⟨blk,off,none⟩->∀ k x,l[k]?=some x->∃ q n p,OCV M x q n p/\∀ j v,(aEZ x q n p)[j]?=some v->M blk (off+k*5+j)=some v:=by
 generalize g:List.map cO l=es at h;cases h with
 | nil o =>
  have  := by simpa using g
  subst this;exact ⟨none,0,rfl,aa1 _,fun h=>by grind,fun _ _ h=>by simp at h⟩
 | slice H bs o a cap s f L A Q z O J =>
  have I:es.length=l.length:=by rw [<- g];simp
  have r:l.length<=cap:=by simp at A;omega
  refine ⟨some a,cap,by rw [I],r,fun u=>⟨a.block,a.off,by
   have:=L (by have:=abs.2 u;omega);obtain ⟨b,o,s⟩:=a;simp at this;rw [this]⟩,fun blk off t k x D => ?_⟩
  cases t;have m:(es++[])[k]?=some (cO x):=by rw [aac,<- g,aa9,D];rfl
  have K  := by
   have:=z k _ m;obtain ⟨_,_,E,_⟩:=this;rw [pJ] at E;exact E.symm
  subst K;have P  := (aa2.1 D).1;have N:RvL M noB (cO x).cells [f k 0,f k 1,f k 2,f k 3,f k 4]:=by
   refine aUs _ _ (by rw [pJ];rfl) fun i c v G d => ?_;have F  := by have:=(aa2.1 d).1;simpa using this
   have:=J k _ i c m G;match i,F,d with
   | 0,_,d=>cases d;exact this
   | 1,_,d=>cases d;exact this
   | 2,_,d=>cases d;exact this
   | 3,_,d=>cases d;exact this
   | 4,_,d=>cases d;exact this
  obtain ⟨q,n,p,e,y⟩:=bJL N;refine ⟨q,n,p,y,fun j v hv => ?_⟩;rw [<- e] at hv;have C  := by have:=(aa2.1 hv).1;simpa using this
  have:=O k _ j m C;match j,C,hv with
  | 0,_,hv=>cases hv;exact this
  | 1,_,hv=>cases hv;exact this
  | 2,_,hv=>cases hv;exact this
  | 3,_,hv=>cases hv;exact this
  | 4,_,hv=>cases hv;exact this
theorem bFr {M w l c} (O:Cons M w) (h:Rv M noB (.slice (List.map aL l) [] false) c) :
  ∃ z cap,c = .slice z l.length cap/\l.length<=cap/\(l≠[]->∃ blk off,z=some ⟨blk,off,none⟩)/\∀ blk off,z=some ⟨blk,off,none⟩->∀ k x,l[k]?=some x->∃ t n,FCV M x t n/\∀ j v,(aIJ x t n)[j]?=some v->M blk (off+k*4+j)=some v:=by
 generalize g:List.map aL l=es at h;cases h with
 | nil o =>
  have  := by simpa using g
  subst this;exact ⟨none,0,rfl,aa1 _,fun h=>by grind,fun _ _ h=>by simp at h⟩
 | slice E bs o a cap s f J y N u P G =>
  have F:es.length=l.length:=by rw [<- g];simp
  have p:l.length<=cap:=by simp at y;omega
  refine ⟨some a,cap,by rw [F],p,fun r=>⟨a.block,a.off,by
   have:=J (by have:=abs.2 r;omega);obtain ⟨b,o,s⟩:=a;simp at this;rw [this]⟩,fun blk off q k x A => ?_⟩
  cases q;have m:(es++[])[k]?=some (aL x):=by rw [aac,<- g,aa9,A];rfl
  have I:s=4:=by
   have:=u k _ m;obtain ⟨_,_,B,_⟩:=this;rw [iU] at B;exact B.symm
  subst I;have L  := (aa2.1 A).1;have K:RvL M noB (aL x).cells [f k 0,f k 1,f k 2,f k 3]:=by
   refine aUs _ _ (by rw [iU];rfl) fun i c v D d => ?_;have C  := by have:=(aa2.1 d).1;simpa using this
   have:=G k _ i c m D;match i,C,d with
   | 0,_,d=>cases d;exact this
   | 1,_,d=>cases d;exact this
   | 2,_,d=>cases d;exact this
   | 3,_,d=>cases d;exact this
  obtain ⟨t,n,e,H⟩:=bJM K;grind
theorem rQ {M w} (d:Cons M w) {b i v} (h:M b i=some v):w.cell? ⟨b,i,none⟩=some v:=by
 obtain ⟨arr,T,fz,c,a⟩:=d b i v h;rw [cell_of_row w b _ _ _ _ c];exact a
theorem bG4 x:okEl 10 (cK x):=by exact ⟨rfl,rfl,rfl,by decide⟩
theorem bFs {M l E n cap} (h:Rv M noB (.slice (List.map cK l) [] false) (.slice E n cap)) :
  n=l.length/\(l≠[]->∃ (blk off:Nat) (d:List Value),E=some ⟨blk,off,none⟩/\d.length=n*10/\(∀ j u,d[j]?=some u->M blk (off+j)=some u)/\(∀ u∈d,u.oneCell'=true) /\
   ∀ i p j c,(List.map cK l)[i]?=some p->p.cells[j]?=some c->∃ u,d[i*10+j]?=some u/\Rv M noB c u):=by
 generalize g:List.map cK l=es at h;cases h with
 | nil o =>
  have:l=[]:=by simpa using g
  subst this;exact ⟨rfl,fun h=>by grind⟩
 | slice G bs o a cap s f P L O m N J =>
  have H:es.length=l.length:=by rw [<- g];simp
  refine ⟨H,fun F => ?_⟩;have z:0<l.length:=by grind
  have y:a.spot=none:=by grind
  have K:s=10:=by
   have I:(es++[])[0]?=some (cK l[0]):=by rw [aac,<- g,aa9,aa4 z];rfl
   obtain ⟨_,_,D,_⟩:=m 0 _ I;rw [kC] at D;exact D.symm
  subst K;have x:∀ q,q<es.length*10->((List.range (es.length*10)).map fun q=>f (q / 10) (q % 10))[q]?=some (f (q / 10) (q % 10)):=fun q t=>by
   rw [aa9,aby t];rfl
  have k:∀ q,q<es.length*10->∃ p,(es++[])[q / 10]?=some p/\∃ c,p.cells[q % 10]?=some c:=fun q t=>by
   have C:q / 10<l.length:=by omega
   refine ⟨cK l[q / 10],by rw [aac,<- g,aa9,aa4 C];rfl,?_⟩;have:q % 10<(cK l[q / 10]).cells.length:=by rw [(bG4 _).2.2.1];omega
   exact ⟨_,aa4 this⟩
  refine ⟨a.block,a.off,(List.range (es.length*10)).map fun q=>f (q / 10) (q % 10),by obtain ⟨b,o,Q⟩:=a;simp at y;rw [y],by simp,fun j u v => ?_,fun u v => ?_,fun i p j c r w => ?_⟩
  ·have A:j<es.length*10:=by have:=(aa2.1 v).1;simpa using this
   rw [x j A] at v;cases v;obtain ⟨p,r,c,w⟩:=k j A;have:=N (j / 10) p (j % 10) r (by omega);have e:a.off+j / 10*10+j % 10=a.off+j:=by omega
   rw [e] at this;exact this
  ·obtain ⟨q,t,rfl⟩:=aah.1 v;have t:q<es.length*10:=by grind
   obtain ⟨p,r,c,w⟩:=k q t;exact aQi (m _ _ r) w (J _ _ _ _ r w)
  have C  := (aa2.1 r).1;have B:(es++[])[i]?=some p:=by rw [aac];exact r
  have A  := by have:=(aa2.1 w).1;rw [(m _ _ B).2.2.1] at this;exact this
  refine ⟨f i j,?_,by grind⟩;rw [x (i*10+j) (by omega),show (i*10+j) / 10=i by omega,show (i*10+j) % 10=j by omega]
theorem bFt {M} {B' e:Nat} {w w':World} {l v a} (m:Cons M w') (n:w'.ownsRow B' e 10 v l.length a) (g:∀ i p j c,(List.map cK l)[i]?=some p->p.cells[j]?=some c->∃ u,a[i*10+j]?=some u/\Rv M noB c u) :
  Rv (frzV v M w') noB (.slice (List.map cK l) [] false) v:=by
 refine aIH n aII _ (by simp) ?_ fun i p j c d b => ?_;· intro p d;obtain ⟨x,_,rfl⟩:=aah.1 d;exact bG4 x
 obtain ⟨u,k,f⟩:=g i p j c d b;exact ⟨u,k,f.mono (tV m) (fun _ _ _ h=>h)⟩
def fstC:Code->Code | .seq a _=>a | c=>c
def sndC:Code->Code | .seq _ b=>b | c=>c
def blkC:Code->Code | .block _ c=>c | c=>c
def lopC:Code->Code | .loop c=>c | c=>c
def bB (f:Func):Code:=match f.body with | some c=>c | none => .skip
def blA (c:Code):Code:=sndC (fstC (sndC (sndC c)))
def blB (c:Code):Code:=sndC (fstC (sndC (sndC (sndC c))))
def inC (c:Code):Code:=blkC (fstC (sndC (lopC (blkC c))))
noncomputable def r6C:Code:=fstC (sndC (inC (blA (bB Tryz.f9))))
noncomputable def r7C:Code:=fstC (sndC (sndC (inC (blA (bB Tryz.f9)))))
noncomputable def r8C:Code:=sndC (sndC (sndC (inC (blA (bB Tryz.f9)))))
structure Stp (H:Nat) (M:Mem) (w:World) (M':Mem) (w':World):Prop where
 mem:∀ b i v,M b i=some v->M' b i=some v
 blk:∀ b,b<w.heap.size->b≠H->w'.heap[b]?=w.heap[b]?
 old:∀ b,b<w.heap.size->∀ i,M' b i=M b i
 os:w'.os=w.os
 tape:w'.tape=w.tape
 output:w'.output=w.output
 size:w.heap.size<=w'.heap.size
 cons:Cons M' w'
theorem Stp.refl {H M w} (a:Cons M w):Stp H M w M w:=⟨fun _ _ _ h=>h,fun _ _ _=>rfl,fun _ _ _=>rfl,rfl,rfl,rfl,by omega,a⟩
theorem Stp.trans {H M c e w f d} (h:Stp H M w c f) (k:Stp H c f e d):Stp H M w e d :=
 ⟨fun b i v hv=>k.mem b i v (h.mem b i v hv),fun b a g=>(k.blk b (aaF a h.size) g).trans (h.blk b a g),fun b a i=>(k.old b (aaF a h.size) i).trans (h.old b a i),k.os.trans h.os,k.tape.trans h.tape,k.output.trans h.output,aa5 h.size k.size,k.cons⟩
theorem Stp.quiet {H M M' w w'} (q:Quiet M w M' w') (c:Cons M' w'):Stp H M w M' w':=⟨q.mem,fun b a _=>(q.old b a).1,fun b a=>(q.old b a).2,q.os,q.tape,q.output,q.size,c⟩
theorem aIK {M w} (a:Cons M w):Cons M w.drew:=fun b i v h=>a b i v h
theorem Stp.drew {H M w} (a:Cons M w):Stp H M w M w.drew:=⟨fun _ _ _ h=>h,fun _ _ _=>rfl,fun _ _ _=>rfl,rfl,rfl,rfl,aa1 _,a⟩
theorem Stp.set {H M w} (a:Cons M w) (g:∀ i,M H i=none) j u:Stp H M w M (w.setCell ⟨H,j,none⟩ u) :=
 ⟨fun _ _ _ h=>h,fun b _ c=>Below.heap_setCell _ _ _ _ c,fun _ _ _=>rfl,rfl,rfl,rfl,by simp,qX a fun k f ⟨i,d⟩=>Below.heap_setCell _ _ _ _ fun e=>by grind⟩
theorem Stp.grown {H g n cap M w w'} (h:Cons M w) (a:w.grownBy w' none) (f:w.heap.size<=g) o (j:o = .slice (some ⟨g,0,none⟩) n cap):Stp H M w (frzV o M w') w':=by
 have c  := qX h fun k e _=>a.block k e (by simp);refine ⟨tV c,fun b d _=>a.block b d (by simp),fun b d i=>yQ (by subst j;simp [Value.ownBlock];omega) i,a.os,a.tape,a.output,a.size,aEY c⟩
theorem Stp.free {H M M' w w'} (h:Stp H M w M' w') (b:H<w.heap.size) (a:∀ i,M H i=none):∀ i,M' H i=none:=fun i=>(h.old H b i).trans (a i)
theorem addN b o j:(⟨b,o,none⟩:Addr).add j=⟨b,o+j,none⟩:=by unfold Addr.add;simp
theorem bJN P a w:Sem.run P (loadCellsFrom a 0 0 #[]) w = .ok #[] w:=rfl
theorem Tryz.u33:Tryz.prog.underlying 33=some (.slice 84):=by simp
def aIL (o:Option TypeInfo) (s b:Nat):Bool:=match o with | some i=>(match i.zero with | some z=>z.cells.size==s&&(i.size==s&&i.bytes==b) | none=>false) | none=>false
theorem aAq {o s b} (h:aIL o s b=true):∃ i z,o=some i/\i.zero=some z/\i.size=s/\i.bytes=b/\z.cells.size=s:=by
 cases o with
 | none=>simp [aIL] at h
 | some i =>
  cases a:i.zero with
  | none=>simp [aIL,a] at h
  | some z =>
   simp [aIL] at h;grind
theorem Tryz.i84:aIL (Tryz.prog.info? 84) 10 136=true:=by kernel_rfl
theorem Tryz.i37:aIL (Tryz.prog.info? 37) 5 96=true:=by kernel_rfl
theorem Tryz.i49:aIL (Tryz.prog.info? 49) 4 80=true:=by kernel_rfl
theorem Tryz.u25:Tryz.prog.underlying 25=some (.slice 37):=by simp
theorem Tryz.u26:Tryz.prog.underlying 26=some (.slice 49):=by simp
theorem bH6 {M w} H (x:GOp) r l2 o a3 T W a4 S V (q:Cons M w) (hH:w.heap[H]?=some (.cells #[.int .i64 x.kind,.string ⟨x.name.toArray⟩,.slice r l2 o,.slice a3 T W,.slice a4 S V] 37 (0,0))) (hf:∀ i,M H i=none) (hr:Rv M noB (.slice (List.map cK x.vars) [] false) (.slice r l2 o)) (hl:x.vars.length<=1048576) Q v0 v1 Z X v4 Y v7 v8 P f v11 v12 v13 v14 v15 v16 v17 v18 m v20 E C L v v25 v26 v27 v28 v29 v30 v31 v32 v33 v34 v35 v36 v37 v38 v39 v40 v41 v42 v43 v44 l v46 v47 v48 v49 v50 v51 v52 v53 v54 v55 b v57 v58 v59 c v61 v62 v63 d v65
  (hC:∀ w' M' b2 U R N s z I,Stp H M w M' w'->w'.heap[H]?=some (.cells #[.int .i64 x.kind,.string ⟨x.name.toArray⟩,.slice b2 U R,.slice a3 T W,.slice a4 S V] 37 (0,0))->Rv M' noB (.slice (List.map cK x.vars) [] false) (.slice b2 U R)->Q .normal ⟨#[v0,v1,Z,X,v4,.pointer (some ⟨H,0,none⟩),Y,v7,v8,P,f,v11,v12,v13,v14,v15,v16,v17,v18,m,v20,N,s,z,I,v25,v26,v27,v28,v29,v30,v31,v32,v33,v34,v35,v36,v37,v38,v39,v40,v41,v42,v43,v44,l,v46,v47,v48,v49,v50,v51,v52,v53,v54,v55,b,v57,v58,v59,c,v61,v62,v63,d,v65],[]⟩ w') :
  Code.wp Tryz.prog r6C Q ⟨#[v0,v1,Z,X,v4,.pointer (some ⟨H,0,none⟩),Y,v7,v8,P,f,v11,v12,v13,v14,v15,v16,v17,v18,m,v20,E,C,L,v,v25,v26,v27,v28,v29,v30,v31,v32,v33,v34,v35,v36,v37,v38,v39,v40,v41,v42,v43,v44,l,v46,v47,v48,v49,v50,v51,v52,v53,v54,v55,b,v57,v58,v59,c,v61,v62,v63,d,v65],[]⟩ w:=by
 have hHl:H<w.heap.size:=(aag.1 hH).1;obtain ⟨rfl,hnews⟩:=bFs hr;have k2:w.cell? ⟨H,2,none⟩=some (.slice r x.vars.length o):=by rw [cell_of_row w H _ _ _ _ hH];rfl
 have kf:w.frozen? ⟨H,2,none⟩=false:=frozen_of_row w H _ _ _ hH;unfold r6C;simp [Tryz.f9,bB,inC,blA,blkC,lopC,fstC,sndC];replace hC:=(id hC:Hid _);by_cases p:x.vars=[]
 ·have e0:x.vars.length=0:=by rw [p];rfl
  rw [e0] at hr k2 hH;have done:Hid (Stp H M w M (w.setCell ⟨H,2,none⟩ (.slice none 0 0))):=Stp.set q hf 2 _;have hrow:Hid ((w.setCell ⟨H,2,none⟩ (.slice none 0 0)).heap[H]?=_):=heap_setCell_same w H 2 _ _ (.slice none 0 0) hH;have hnil:Hid (Rv M noB (.slice (List.map cK x.vars) [] false) (.slice none 0 0)):=by rw [p];exact .nil false
  clear hnews;cases r with
  | none =>
   go_wp2;exact hC.out _ _ _ _ _ _ _ _ _ done hrow hnil
  | some a =>
   have hld:=bJN Tryz.prog a w;go_wp2;exact hC.out _ _ _ _ _ _ _ _ _ done hrow hnil
 ·obtain ⟨blk,off,news,rfl,B,hncell,hone,hnr⟩:=hnews p;obtain ⟨i0,z0,hi,J,y,t,K⟩:=aAq Tryz.i84;have hpos:0<x.vars.length:=abs.2 p;have hn:∀ j u,news[j]?=some u->w.cell? ((⟨blk,off,none⟩:Addr).add j)=some u:=fun j u hu=>by rw [addN];exact rQ q (hncell j u hu)
  replace hnr:=(id hnr:Hid _);replace hncell:=(id hncell:Hid _);go_wp2_with (at_builtin;refine wpList_append_lies _ rfl (.const (.slice none 0 0)) (.tmp 22) 33 rfl w.heap.size 84 i0 _ 10 136 Tryz.u33 hi J y t K (by decide) (.slice none 0 0) 0 [] rfl (abE _ _ _ _) ⟨blk,off,none⟩ x.vars.length o news rfl B hn hone hpos (by simp [maxLen];omega) (by omega) (aa1 _) _ rfl ?_;intro g cap' w1 hown hgrow D hlt;have G:=hgrow.block H hHl (by simp [Value.ownBlock]);have k3:=(aaA (a:=⟨H,2,none⟩) G).trans k2;have k4:=(World.frozen?_of_block (a:=⟨H,2,none⟩) G).trans kf);have O:w.heap.size<=g:=by
   rcases D with h | h;· simp [Value.ownBlock] at h
   omega
  have A:=Stp.grown (H:=H) (n:=x.vars.length) (cap:=cap') q hgrow O _ rfl;have S2:=A.trans (Stp.set A.cons (A.free hHl hf) 2 (.slice (some ⟨g,0,none⟩) x.vars.length cap'));have hown2:w1.ownsRow w.heap.size 84 10 (.slice (some ⟨g,0,none⟩) x.vars.length cap') x.vars.length news:=by
   have e:0+x.vars.length=x.vars.length:=aae _;rw [e,aai] at hown;exact hown
  have F  := qX q fun k hk _=>hgrow.block k hk (by simp [Value.ownBlock]);exact hC.out _ _ _ _ _ _ _ _ _ S2 (heap_setCell_same w1 H 2 _ _ _ (G.trans hH)) (bFt (w:=w) F hown2 hnr.out)
theorem aNQ l (k:bkSl gF l<1073741824) {M w} v (h:Cons M w) (d:Rv M noB (.slice (List.map bJ l) [] false) v) :
  Calls Tryz.prog 20 #[v] w fun e w'=>∃ a n p M',e = .returned (.slice a n p)/\Rv M' noB (.slice (List.map bJ l) [] false) (.slice a n p)/\Cons M' w'/\Quiet M w M' w':=by
 have j:=aPT l k;have g:O 20 [.slice (List.map bJ l) [] false] []=some (.slice (List.map bJ l) [] false,[]):=dW (enc:=fun r=>(aCw r,[])) j;have c:=aFc pokX xok g (M:=M) (w:=w) (vals := #[v]) rfl h ⟨rfl,fun i p b=>by
  match i,b with
  | 0,b=>cases b;exact ⟨d,cD rfl⟩
  | i+1,b=>grind⟩
 refine c.mono ?_;rintro e w' ⟨v,M',rfl,hv,f,m⟩;obtain ⟨a,n,p,rfl⟩:=pB hv;grind
theorem aUt l (k:aK l<1073741824) {M w} v (h:Cons M w) (d:Rv M noB (.slice (List.map aH l) [] false) v) :
  Calls Tryz.prog 21 #[v] w fun e w'=>∃ a n p M',e = .returned (.slice a n p)/\Rv M' noB (.slice (List.map aH l) [] false) (.slice a n p)/\Cons M' w'/\Quiet M w M' w':=by
 have j:=bAw l k;have g:O 21 [.slice (List.map aH l) [] false] []=some (.slice (List.map aH l) [] false,[]):=dW (enc:=fun r=>(aCr r,[])) j;have c:=aFc pokX xok g (M:=M) (w:=w) (vals := #[v]) rfl h ⟨rfl,fun i p b=>by
  match i,b with
  | 0,b=>cases b;exact ⟨d,cD rfl⟩
  | i+1,b=>grind⟩
 refine c.mono ?_;rintro e w' ⟨v,M',rfl,hv,f,m⟩;obtain ⟨a,n,p,rfl⟩:=pB hv;grind
noncomputable def r13C:Code:=fstC (sndC (inC (blB (bB Tryz.f9))))
noncomputable def r14C:Code:=sndC (sndC (inC (blB (bB Tryz.f9))))
set_option maxHeartbeats 4000000 in
theorem bFu {M:Mem} {w:World} (H:Nat) (x:GFrag) (a3:Option Addr) (l3 p3:Nat) (a4:Option Addr) (l4 p4:Nat) (hc:Cons M w) (hH:w.heap[H]?=some (.cells #[.string ⟨x.name.toArray⟩,.string ⟨x.on_.toArray⟩,.slice a3 l3 p3,.slice a4 l4 p4] 49 (0,0))) (hf:∀ i,M H i=none) (hr3:Rv M noB (.slice (List.map bJ x.dirs) [] false) (.slice a3 l3 p3)) (hr4:Rv M noB (.slice (List.map aH x.sels) [] false) (.slice a4 l4 p4)) (hl3:bkSl gF x.dirs<1073741824) (hl4:aK x.sels<1073741824) (Q:Exit->Act->World->Prop) (v0 v1 v2 v3 v4 v5 v6 v8 v9 v10 v11 v12 v13 v14 v15 v16 v17 v18 v19 v20 v21 v22 v23 v24 v25 v26 v27 v28 v29 v30 v31 v32 v33 v34 v35 v36 v37 v38 v39 v40 v41 v42 v43 v44 v45 v46 v47 v48 v49 v50 v51 v52 v53 v54 v55 v56 v57 v58 v59 v60 v61 v62 v63 v64 v65:Value)
  (hC:∀ (w':World) (M':Mem) (b3:Option Addr) (m3 q3:Nat) (b4:Option Addr) (m4 q4:Nat) (z51 z52 z53 z54 z55 z56 z57 z58:Value),Stp H M w M' w'->w'.heap[H]?=some (.cells #[.string ⟨x.name.toArray⟩,.string ⟨x.on_.toArray⟩,.slice b3 m3 q3,.slice b4 m4 q4] 49 (0,0))->Rv M' noB (.slice (List.map bJ x.dirs) [] false) (.slice b3 m3 q3)->Rv M' noB (.slice (List.map aH x.sels) [] false) (.slice b4 m4 q4)->Q .normal ⟨#[v0,v1,v2,v3,v4,v5,v6,.pointer (some ⟨H,0,none⟩),v8,v9,v10,v11,v12,v13,v14,v15,v16,v17,v18,v19,v20,v21,v22,v23,v24,v25,v26,v27,v28,v29,v30,v31,v32,v33,v34,v35,v36,v37,v38,v39,v40,v41,v42,v43,v44,v45,v46,v47,v48,v49,v50,z51,z52,z53,z54,z55,z56,z57,z58,v59,v60,v61,v62,v63,v64,v65],[]⟩ w') :
  Code.wp Tryz.prog r13C Q ⟨#[v0,v1,v2,v3,v4,v5,v6,.pointer (some ⟨H,0,none⟩),v8,v9,v10,v11,v12,v13,v14,v15,v16,v17,v18,v19,v20,v21,v22,v23,v24,v25,v26,v27,v28,v29,v30,v31,v32,v33,v34,v35,v36,v37,v38,v39,v40,v41,v42,v43,v44,v45,v46,v47,v48,v49,v50,v51,v52,v53,v54,v55,v56,v57,v58,v59,v60,v61,v62,v63,v64,v65],[]⟩ w:=by
 have hHl:H<w.heap.size:=(aag.1 hH).1
 have k3:w.cell? ⟨H,2,none⟩=some (.slice a3 l3 p3):=by rw [cell_of_row w H _ _ _ _ hH];rfl
 have k4:w.cell? ⟨H,3,none⟩=some (.slice a4 l4 p4):=by rw [cell_of_row w H _ _ _ _ hH];rfl
 have fin:Hid (∀ (w2 w3:World) (M2 M3:Mem) (b3:Option Addr) (m3 q3:Nat) (b4:Option Addr) (m4 q4:Nat) (z51 z52 z53 z54 z55 z56 z57 z58:Value),Cons M2 w2->Quiet M w.drew M2 w2->Cons M3 w3->Quiet M2 w2 M3 w3->Rv M2 noB (.slice (List.map bJ x.dirs) [] false) (.slice b3 m3 q3)->Rv M3 noB (.slice (List.map aH x.sels) [] false) (.slice b4 m4 q4)->Q .normal ⟨#[v0,v1,v2,v3,v4,v5,v6,.pointer (some ⟨H,0,none⟩),v8,v9,v10,v11,v12,v13,v14,v15,v16,v17,v18,v19,v20,v21,v22,v23,v24,v25,v26,v27,v28,v29,v30,v31,v32,v33,v34,v35,v36,v37,v38,v39,v40,v41,v42,v43,v44,v45,v46,v47,v48,v49,v50,z51,z52,z53,z54,z55,z56,z57,z58,v59,v60,v61,v62,v63,v64,v65],[]⟩ ((w3.setCell ⟨H,2,none⟩ (.slice b3 m3 q3)).setCell ⟨H,3,none⟩ (.slice b4 m4 q4))):=by
  intro w2 w3 M2 M3 b3 m3 q3 b4 m4 q4 z51 z52 z53 z54 z55 z56 z57 z58 hc2 hq2 hc3 hq3 h3 h4
  have S0:=((Stp.drew (H:=H) hc).trans (Stp.quiet hq2 hc2)).trans (Stp.quiet hq3 hc3)
  have S1:=S0.trans (Stp.set S0.cons (S0.free hHl hf) 2 (.slice b3 m3 q3))
  have S2:=S1.trans (Stp.set S1.cons (S1.free hHl hf) 3 (.slice b4 m4 q4))
  have e2:w3.heap[H]?=w.heap[H]?:=(hq3.old H (aaF hHl hq2.size)).1.trans (hq2.old H hHl).1
  exact hC _ _ _ _ _ _ _ _ _ _ _ _ _ _ _ _ S2 (heap_setCell_same _ H 3 _ _ _ (heap_setCell_same _ H 2 _ _ _ (e2.trans hH))) (h3.mono hq3.mem (fun _ _ _ h=>h)) h4
 have h36:=aNQ x.dirs hl3 (M:=M) (w:=w.drew) (.slice a3 l3 p3) (aIK hc) hr3
 have h37:=fun (M2:Mem) (w2:World) (hc2:Cons M2 w2) (hq2:Quiet M w.drew M2 w2)=>aUt x.sels hl4 (M:=M2) (w:=w2) (.slice a4 l4 p4) hc2 (hr4.mono hq2.mem (fun _ _ _ h=>h))
 have hcl:Hid (∀ (M2:Mem) (w2:World),Quiet M w.drew M2 w2->w2.cell? ⟨H,3,none⟩=some (.slice a4 l4 p4)):=fun M2 w2 hq2=>(aaA (a:=⟨H,3,none⟩) (hq2.old H hHl).1).trans k4
 have hst:Hid (∀ (M2:Mem) (w2:World) (M3:Mem) (w3:World),Quiet M w.drew M2 w2->Quiet M2 w2 M3 w3->w3.cell? ⟨H,2,none⟩=some (.slice a3 l3 p3)/\w3.frozen? ⟨H,2,none⟩=false/\w3.cell? ⟨H,3,none⟩=some (.slice a4 l4 p4)/\w3.frozen? ⟨H,3,none⟩=false):=by
  intro M2 w2 M3 w3 hq2 hq3
  have e2:w3.heap[H]?=w.heap[H]?:=(hq3.old H (aaF hHl hq2.size)).1.trans (hq2.old H hHl).1
  exact ⟨(aaA (a:=⟨H,2,none⟩) e2).trans k3,frozen_of_row _ _ _ _ _ (e2.trans hH),(aaA (a:=⟨H,3,none⟩) e2).trans k4,frozen_of_row _ _ _ _ _ (e2.trans hH)⟩
 replace h37:=(id h37:Hid _)
 clear hC hH
 refine ab5 (Q:=Exit.then (Q .normal) (fun _ _ _=>False)) (fun e a w h=>by cases e<;>first | exact h | exact h.elim) ?_
 unfold r13C
 simp only [Tryz.f9,bB,inC,blA,blB,blkC,lopC,fstC,sndC]
 go_wp2
 go_region_with (first | (go_at_call 20;refine h36.mono ?_;rintro e' w2 ⟨b3,m3,q3,M2,rfl,hv3,hc2,hq2⟩;have j4:=hcl.out M2 w2 hq2) | (go_at_call 21;have h37b:=h37.out M2 w2 hc2 hq2;refine h37b.mono ?_;rintro e' w3 ⟨b4,m4,q4,M3,rfl,hv4,hc3,hq3⟩;obtain ⟨i1,i2,i3,i4⟩:=hst.out M2 w2 M3 w3 hq2 hq3))
 all_goals exact fin.out w2 w3 M2 M3 b3 m3 q3 b4 m4 q4 _ _ _ _ _ _ _ _ hc2 hq2 hc3 hq3 hv3 hv4
theorem bJO {w} H Z B (x:GOp) p s j q l o r k m z n cap ys vz (A:w.heap[H]?=some (.cells #[.int .i64 x.kind,.string ⟨x.name.toArray⟩,.slice p s j,.slice q l o,.slice r k m] 37 (0,0))) (hZ:w.heap[Z]?=some (.cells #[.slice z n cap,vz] 28 (0,0))) (t:w.ownsRow B 37 5 (.slice z n cap) n ys) (hZB:Z<B) (hB:B<=w.heap.size) (hn:n<=1048576) Q v0 v1 v2 v4 v6 v7 v8 v9 v10 N v12 v13 v14 S v16 v17 W v19 v20 X T v23 F G J P v28 R M v31 v32 v33 v34 v35 v36 v37 v38 v39 v40 v41 v42 v43 U v45 V v47 v48 v49 I v51 D C Y v55 v56 L O v59 v60 v61 v62 E v64 K
  (hC:∀ w' g d z33 z34 z35 z36 z37 z38,w'.ownsRow B 37 5 (.slice (some ⟨g,0,none⟩) (n+1) d) (n+1) (ys++[.int .i64 x.kind,.string ⟨x.name.toArray⟩,.slice p s j,.slice q l o,.slice r k m])->w'.heap[Z]?=some (.cells #[.slice (some ⟨g,0,none⟩) (n+1) d,vz] 28 (0,0))->(∀ b,b<w.heap.size->b≠Z->(Value.slice z n cap).ownBlock≠some b->w'.heap[b]?=w.heap[b]?)->((Value.slice z n cap).ownBlock=some g∨w.heap.size<=g)->w'.os=w.os->w'.tape=w.tape->w'.output=w.output->w.heap.size<=w'.heap.size->Q .normal ⟨#[v0,v1,v2,.pointer (some ⟨Z,0,none⟩),v4,.pointer (some ⟨H,0,none⟩),v6,v7,v8,v9,v10,N,v12,v13,v14,S,v16,v17,W,v19,v20,X,T,v23,F,G,J,P,v28,R,M,v31,v32,z33,z34,z35,z36,z37,z38,v39,v40,v41,v42,v43,U,v45,V,v47,v48,v49,I,v51,D,C,Y,v55,v56,L,O,v59,v60,v61,v62,E,v64,K],[]⟩ w') :
  Code.wp Tryz.prog r8C Q ⟨#[v0,v1,v2,.pointer (some ⟨Z,0,none⟩),v4,.pointer (some ⟨H,0,none⟩),v6,v7,v8,v9,v10,N,v12,v13,v14,S,v16,v17,W,v19,v20,X,T,v23,F,G,J,P,v28,R,M,v31,v32,v33,v34,v35,v36,v37,v38,v39,v40,v41,v42,v43,U,v45,V,v47,v48,v49,I,v51,D,C,Y,v55,v56,L,O,v59,v60,v61,v62,E,v64,K],[]⟩ w:=by
 have hHl:H<w.heap.size:=(aag.1 A).1;have hZl:Z<w.heap.size:=(aag.1 hZ).1;obtain ⟨i0,z0,hi,hz0,hz1,hz2,hzc⟩:=aAq Tryz.i37;have k3:w.cell? ⟨Z,0,none⟩=some (.slice z n cap):=by rw [cell_of_row w Z _ _ _ _ hZ];rfl
 have c0:w.cell? ⟨H,0,none⟩=_:=cell_of_row w H 0 _ _ _ A;have c1:w.cell? ⟨H,1,none⟩=_:=cell_of_row w H 1 _ _ _ A;have c2:w.cell? ⟨H,2,none⟩=_:=cell_of_row w H 2 _ _ _ A;have c3:w.cell? ⟨H,3,none⟩=_:=cell_of_row w H 3 _ _ _ A;have c4:w.cell? ⟨H,4,none⟩=_:=cell_of_row w H 4 _ _ _ A;simp only [abr,abh,abi] at c0 c1 c2 c3 c4;have hn0:=abf (cs := #[.int .i64 x.kind,.string ⟨x.name.toArray⟩,.slice p s j,.slice q l o,.slice r k m]) (heap_alloc_new w (.cells #[.int .i64 x.kind,.string ⟨x.name.toArray⟩,.slice p s j,.slice q l o,.slice r k m] 37));have y:=t.alloc (.cells #[.int .i64 x.kind,.string ⟨x.name.toArray⟩,.slice p s j,.slice q l o,.slice r k m] 37);have hsz:(w.alloc (.cells #[.int .i64 x.kind,.string ⟨x.name.toArray⟩,.slice p s j,.slice q l o,.slice r k m] 37)).heap.size=w.heap.size+1:=by simp
 have hBs:B<=(w.alloc (.cells #[.int .i64 x.kind,.string ⟨x.name.toArray⟩,.slice p s j,.slice q l o,.slice r k m] 37)).heap.size:=by omega
 replace hC:=(id hC:Hid _);have v:(Value.slice z n cap).ownBlock≠some Z:=fun e=>by have:=(t.lt Z e).1;omega
 have f:(w.alloc (.cells #[.int .i64 x.kind,.string ⟨x.name.toArray⟩,.slice p s j,.slice q l o,.slice r k m] 37)).heap[Z]?=w.heap[Z]?:=heap_alloc_old w _ hZl;replace v:=(id v:Hid _);replace f:=(id f:Hid _);unfold r8C;simp only [Tryz.f9,bB,inC,blA,blB,blkC,lopC,fstC,sndC];go_wp2_with (at_builtin;refine wpList_append_lies _ rfl (.tmp 34) (.tmp 36) 25 rfl B 37 i0 _ 5 96 Tryz.u25 hi hz0 hz1 hz2 hzc (by decide) (.slice z n cap) n ys rfl y ⟨w.heap.size,0,none⟩ 1 1 [.int .i64 x.kind,.string ⟨x.name.toArray⟩,.slice p s j,.slice q l o,.slice r k m] rfl rfl hn0 (by intro u hu;simp [aa3,abg,or_false] at hu;rcases hu with rfl | rfl | rfl | rfl | rfl<;>rfl) (by decide) (by simp [maxLen];omega) (by omega) hBs _ rfl ?_;intro g d w1 i c hat hlt;have e1:=c.block Z (by rw [hsz];omega) (fun e=>v.out e.symm);have k4:=(aaA (a:=⟨Z,0,none⟩) (e1.trans f.out)).trans k3;have k5:=frozen_of_row w1 Z 0 _ _ ((e1.trans f.out).trans hZ));refine hC.out _ g d _ _ _ _ _ _ (ownsRow_setCell_other i (a:=⟨Z,0,none⟩) (by have:=(i.lt g rfl).1;simp [Value.ownBlock,ne_eq];omega) _) (heap_setCell_same w1 Z 0 _ _ _ (e1.trans (f.out.trans hZ))) ?_ ?_ c.os c.tape c.output ?_;· intro b hb hbz hbo;rw [Below.heap_setCell _ _ _ _ hbz];exact (c.block b (by rw [hsz];omega) (fun e=>hbo e.symm)).trans (heap_alloc_old w _ hb)
 ·rcases hat with h | h;· exact .inl h
  omega
 have:=c.size;simp;omega
theorem bJP {w} H Z B (x:GFrag) o k m p j l t n cap ys vz (y:w.heap[H]?=some (.cells #[.string ⟨x.name.toArray⟩,.string ⟨x.on_.toArray⟩,.slice o k m,.slice p j l] 49 (0,0))) (hZ:w.heap[Z]?=some (.cells #[vz,.slice t n cap] 28 (0,0))) (q:w.ownsRow B 49 4 (.slice t n cap) n ys) (hZB:Z<B) (hB:B<=w.heap.size) (hn:n<=1048576) Q v0 v1 v2 v4 v5 v6 v8 v9 v10 L v12 v13 v14 P v16 v17 V v19 v20 W R v23 C D G N v28 O K v31 Y U E v35 A v37 v38 v39 v40 v41 v42 v43 S v45 T v47 v48 v49 F v51 z v X v55 v56 J M v59 v60 v61 v62 v63 v64 I
  (hC:∀ w' g d z59 z60 z61 z62 z63 z64,w'.ownsRow B 49 4 (.slice (some ⟨g,0,none⟩) (n+1) d) (n+1) (ys++[.string ⟨x.name.toArray⟩,.string ⟨x.on_.toArray⟩,.slice o k m,.slice p j l])->w'.heap[Z]?=some (.cells #[vz,.slice (some ⟨g,0,none⟩) (n+1) d] 28 (0,0))->(∀ b,b<w.heap.size->b≠Z->(Value.slice t n cap).ownBlock≠some b->w'.heap[b]?=w.heap[b]?)->((Value.slice t n cap).ownBlock=some g∨w.heap.size<=g)->w'.os=w.os->w'.tape=w.tape->w'.output=w.output->w.heap.size<=w'.heap.size->Q .normal ⟨#[v0,v1,v2,.pointer (some ⟨Z,0,none⟩),v4,v5,v6,.pointer (some ⟨H,0,none⟩),v8,v9,v10,L,v12,v13,v14,P,v16,v17,V,v19,v20,W,R,v23,C,D,G,N,v28,O,K,v31,Y,U,E,v35,A,v37,v38,v39,v40,v41,v42,v43,S,v45,T,v47,v48,v49,F,v51,z,v,X,v55,v56,J,M,z59,z60,z61,z62,z63,z64,I],[]⟩ w') :
  Code.wp Tryz.prog r14C Q ⟨#[v0,v1,v2,.pointer (some ⟨Z,0,none⟩),v4,v5,v6,.pointer (some ⟨H,0,none⟩),v8,v9,v10,L,v12,v13,v14,P,v16,v17,V,v19,v20,W,R,v23,C,D,G,N,v28,O,K,v31,Y,U,E,v35,A,v37,v38,v39,v40,v41,v42,v43,S,v45,T,v47,v48,v49,F,v51,z,v,X,v55,v56,J,M,v59,v60,v61,v62,v63,v64,I],[]⟩ w:=by
 have hHl:H<w.heap.size:=(aag.1 y).1;have hZl:Z<w.heap.size:=(aag.1 hZ).1;obtain ⟨i0,z0,hi,hz0,hz1,hz2,hzc⟩:=aAq Tryz.i49;have k3:w.cell? ⟨Z,1,none⟩=some (.slice t n cap):=by rw [cell_of_row w Z _ _ _ _ hZ];rfl
 have c0:w.cell? ⟨H,0,none⟩=_:=cell_of_row w H 0 _ _ _ y;have c1:w.cell? ⟨H,1,none⟩=_:=cell_of_row w H 1 _ _ _ y;have c2:w.cell? ⟨H,2,none⟩=_:=cell_of_row w H 2 _ _ _ y;have c3:w.cell? ⟨H,3,none⟩=_:=cell_of_row w H 3 _ _ _ y;simp only [abr,abh,abi] at c0 c1 c2 c3;have hn0:=abf (cs := #[.string ⟨x.name.toArray⟩,.string ⟨x.on_.toArray⟩,.slice o k m,.slice p j l]) (heap_alloc_new w (.cells #[.string ⟨x.name.toArray⟩,.string ⟨x.on_.toArray⟩,.slice o k m,.slice p j l] 49));have s:=q.alloc (.cells #[.string ⟨x.name.toArray⟩,.string ⟨x.on_.toArray⟩,.slice o k m,.slice p j l] 49);have hsz:(w.alloc (.cells #[.string ⟨x.name.toArray⟩,.string ⟨x.on_.toArray⟩,.slice o k m,.slice p j l] 49)).heap.size=w.heap.size+1:=by simp
 have hBs:B<=(w.alloc (.cells #[.string ⟨x.name.toArray⟩,.string ⟨x.on_.toArray⟩,.slice o k m,.slice p j l] 49)).heap.size:=by omega
 replace hC:=(id hC:Hid _);have r:(Value.slice t n cap).ownBlock≠some Z:=fun e=>by have:=(q.lt Z e).1;omega
 have f:(w.alloc (.cells #[.string ⟨x.name.toArray⟩,.string ⟨x.on_.toArray⟩,.slice o k m,.slice p j l] 49)).heap[Z]?=w.heap[Z]?:=heap_alloc_old w _ hZl;replace r:=(id r:Hid _);replace f:=(id f:Hid _);unfold r14C;simp only [Tryz.f9,bB,inC,blA,blB,blkC,lopC,fstC,sndC];go_wp2_with (at_builtin;refine wpList_append_lies _ rfl (.tmp 60) (.tmp 62) 26 rfl B 49 i0 _ 4 80 Tryz.u26 hi hz0 hz1 hz2 hzc (by decide) (.slice t n cap) n ys rfl s ⟨w.heap.size,0,none⟩ 1 1 [.string ⟨x.name.toArray⟩,.string ⟨x.on_.toArray⟩,.slice o k m,.slice p j l] rfl rfl hn0 (by intro u hu;simp [aa3,abg,or_false] at hu;rcases hu with rfl | rfl | rfl | rfl<;>rfl) (by decide) (by simp [maxLen];omega) (by omega) hBs _ rfl ?_;intro g d w1 i c hat hlt;have e1:=c.block Z (by rw [hsz];omega) (fun e=>r.out e.symm);have k4:=(aaA (a:=⟨Z,1,none⟩) (e1.trans f.out)).trans k3;have k5:=frozen_of_row w1 Z 1 _ _ ((e1.trans f.out).trans hZ));refine hC.out _ g d _ _ _ _ _ _ (ownsRow_setCell_other i (a:=⟨Z,1,none⟩) (by have:=(i.lt g rfl).1;simp [Value.ownBlock,ne_eq];omega) _) (heap_setCell_same w1 Z 1 _ _ _ (e1.trans (f.out.trans hZ))) ?_ ?_ c.os c.tape c.output ?_;· intro b hb hbz hbo;rw [Below.heap_setCell _ _ _ _ hbz];exact (c.block b (by rw [hsz];omega) (fun e=>hbo e.symm)).trans (heap_alloc_old w _ hb)
 ·rcases hat with h | h;· exact .inl h
  omega
 have:=c.size;simp;omega
noncomputable def cAC:Code:=fstC (lopC (blkC (blA (bB Tryz.f9))))
noncomputable def r5C:Code:=fstC (inC (blA (bB Tryz.f9)))
noncomputable def r4C:Code:=sndC (sndC (lopC (blkC (blA (bB Tryz.f9)))))
theorem aFF {w:World} {B e size n:Nat} {v:Value} {xs:List Value} (h:w.ownsRow B e size v n xs):∃ ga cap,v = .slice ga n cap:=by
 rcases h.2 with ⟨rfl,h0⟩ | ⟨g,cap,cur,rfl,_⟩
 ·exact ⟨none,0,by rw [h0]⟩
 ·exact ⟨_,_,rfl⟩
theorem Stp.alloc {H:Nat} {M:Mem} {w:World} (hc:Cons M w) (o:Obj):Stp H M w M (w.alloc o):=⟨fun _ _ _ h=>h,fun b hb _=>heap_alloc_old w o hb,fun _ _ _=>rfl,rfl,rfl,rfl,by simp,qX hc fun k hk _=>heap_alloc_old w o hk⟩
theorem aW8 {w:World} {B B' e size n:Nat} {v xs} (h:w.ownsRow B e size v n xs) (b:B'<=B):w.ownsRow B' e size v n xs:=by
 refine ⟨h.1,?_⟩;rcases h.2 with d | ⟨g,cap,a,hv,c,rest⟩;· grind
 exact .inr ⟨g,cap,a,hv,by omega,rest⟩
structure OwnL (B:Nat) (M:Mem) (w:World) (e size:Nat) (es:List PV) (v:Value):Prop where
 own:∃ ys,w.ownsRow B e size v es.length ys/\∀ (i:Nat) (p:PV) (j:Nat) (c:PV),es[i]?=some p->p.cells[j]?=some c->∃ u,ys[i*size+j]?=some u/\Rv M noB c u
 ok:∀ p∈es,okEl size p
 free:∀ g,v.ownBlock=some g->∀ i,M g i=none
theorem OwnL.nil B M w e size:OwnL B M w e size [] (.slice none 0 0) :=
 ⟨⟨[],abE _ _ _ _,fun i p j c h=>by grind⟩,fun p h=>by grind,fun g h=>by simp [Value.ownBlock] at h⟩
theorem OwnL.lt {B e size M w es v} (h:OwnL B M w e size es v):∀ k,v.ownBlock=some k->B<=k/\k<w.heap.size:=by
 obtain ⟨ys,a,_⟩:=h.own;exact a.lt
theorem OwnL.form {B e size M w es v} (h:OwnL B M w e size es v):∃ a cap,v = .slice a es.length cap:=by
 obtain ⟨ys,b,_⟩:=h.own;exact aFF b
theorem OwnL.le {B B' e size M w es v} (h:OwnL B M w e size es v) (b:B'<=B):OwnL B' M w e size es v:=by
 obtain ⟨ys,c,a⟩:=h.own;exact ⟨⟨ys,aW8 c b,a⟩,h.ok,h.free⟩
theorem OwnL.move {B e size M M' w w' es v} (h:OwnL B M w e size es v) (n:∀ b i v,M b i=some v->M' b i=some v) (r:∀ k,v.ownBlock=some k->w'.heap[k]?=w.heap[k]?) (l:∀ k,v.ownBlock=some k->∀ i,M' k i=M k i):OwnL B M' w' e size es v:=by
 obtain ⟨ys,s,f⟩:=h.own;refine ⟨⟨ys,kJ s r,fun i p j c q o => ?_⟩,h.ok,fun g a i=>(l g a i).trans (h.free g a i)⟩;obtain ⟨u,d,m⟩:=f i p j c q o;exact ⟨u,d,m.mono n (fun _ _ _ h=>h)⟩
theorem OwnL.quiet {B e size M M' w w' es v} (h:OwnL B M w e size es v) (q:Quiet M w M' w'):OwnL B M' w' e size es v :=
 h.move q.mem (fun k a=>(q.old k (h.lt k a).2).1) (fun k a=>(q.old k (h.lt k a).2).2)
theorem OwnL.stp {H B e size M M' w w' es v} (h:OwnL B M w e size es v) (q:Stp H M w M' w') (b:v.ownBlock≠some H):OwnL B M' w' e size es v :=
 h.move q.mem (fun k a=>q.blk k (h.lt k a).2 fun e=>by grind) (fun k a=>q.old k (h.lt k a).2)
theorem OwnL.rv {B e size M w es v} (h:OwnL B M w e size es v) (k:Cons M w):Rv (frzV v M w) noB (.slice es [] false) v:=by
 obtain ⟨ys,l,f⟩:=h.own;refine aIH l aII es rfl h.ok fun i p j c g d => ?_;obtain ⟨u,b,a⟩:=f i p j c g d;exact ⟨u,b,a.mono (tV k) (fun _ _ _ h=>h)⟩
theorem OwnL.rvM {B a e size M w es v} (h:OwnL B M w e size es v) (k:Cons M w) (g:a<=B):Rv (frzM a M w) noB (.slice es [] false) v:=by
 obtain ⟨ys,b,f⟩:=h.own;refine aIH b (aNP b g) es rfl h.ok fun i p j c n m => ?_;obtain ⟨u,d,l⟩:=f i p j c n m;exact ⟨u,d,l.mono (aUp k) (fun _ _ _ h=>h)⟩
theorem Stp.frz {H:Nat} {M w} (c:Cons M w) v B (hv:∀ k,v.ownBlock=some k->B<=k):(∀ b,b<B->∀ i,frzV v M w b i=M b i):=fun b a i=>yQ (fun e=>by grind) i
structure SCV (M:Mem) (x:GSel) (v3 v4 v6:Value):Prop where
 r3:Rv M noB (.slice (List.map aE x.args) [] false) v3
 r4:Rv M noB (.slice (List.map bJ x.dirs) [] false) v4
 r6:Rv M noB (.slice (List.map aH x.sels) [] false) v6
theorem SCV.mono {M M' x c e d} (h:SCV M x c e d) (a:∀ b i v,M b i=some v->M' b i=some v):SCV M' x c e d :=
 ⟨h.r3.mono a (fun _ _ _ h=>h),h.r4.mono a (fun _ _ _ h=>h),h.r6.mono a (fun _ _ _ h=>h)⟩
abbrev lP (x:GSel) (a c b:Value):List Value:=[.int .i64 x.kind,.string ⟨x.alias.toArray⟩,.string ⟨x.name.toArray⟩,a,c,.string ⟨x.on_.toArray⟩,b]
theorem aDc x:okEl 7 (aH x):=by cases x;exact ⟨rfl,rfl,rfl,by decide⟩
theorem bDl {M x b e d} (h:SCV M x b e d):∀ (j:Nat) c,(aH x).cells[j]?=some c->∃ u,(lP x b e d)[j]?=some u/\Rv M noB c u:=by
 intro j c a;have f  := by have:=(aa2.1 a).1;rw [(aDc x).2.2.1] at this;omega
 rw [iZ] at a;match j,f,a with
 | 0,_,a=>cases a;exact ⟨_,rfl,.int _ _⟩
 | 1,_,a=>cases a;exact ⟨_,rfl,.str _⟩
 | 2,_,a=>cases a;exact ⟨_,rfl,.str _⟩
 | 3,_,a=>cases a;exact ⟨_,rfl,h.r3⟩
 | 4,_,a=>cases a;exact ⟨_,rfl,h.r4⟩
 | 5,_,a=>cases a;exact ⟨_,rfl,.str _⟩
 | 6,_,a=>cases a;exact ⟨_,rfl,h.r6⟩
theorem bH7 {M x l} (h:RvL M noB (aH x).cells l):∃ a c b,l=lP x a c b/\SCV M x a c b:=by
 rw [iZ] at h;cases h with | cons i h =>
 cases h with | cons k h =>
 cases h with | cons e h =>
 cases h with | cons d h =>
 cases h with | cons j h =>
 cases h with | cons f h =>
 cases h with | cons g h =>
 cases h;cases i;cases k;cases e;cases f;exact ⟨_,_,_,rfl,d,j,g⟩
theorem aUu {M w l c} (R:Cons M w) (h:Rv M noB (.slice (List.map aH l) [] false) c) :
  ∃ B cap,c = .slice B l.length cap/\l.length<=cap/\(l≠[]->∃ blk off,B=some ⟨blk,off,none⟩)/\∀ blk off,B=some ⟨blk,off,none⟩->∀ k x,l[k]?=some x->∃ n q p,SCV M x n q p/\∀ j v,(lP x n q p)[j]?=some v->M blk (off+k*7+j)=some v:=by
 generalize g:List.map aH l=es at h;cases h with
 | nil o =>
  have  := by simpa using g
  subst this;exact ⟨none,0,rfl,aa1 _,fun h=>by grind,fun _ _ h=>by simp at h⟩
 | slice H bs o a cap s f L A Q z O J =>
  have I:es.length=l.length:=by rw [<- g];simp
  have r:l.length<=cap:=by simp at A;omega
  refine ⟨some a,cap,by rw [I],r,fun u=>⟨a.block,a.off,by
   have:=L (by have:=abs.2 u;omega);obtain ⟨b,o,s⟩:=a;simp at this;rw [this]⟩,fun blk off t k x D => ?_⟩
  cases t;have m:(es++[])[k]?=some (aH x):=by rw [aac,<- g,aa9,D];rfl
  have K  := by
   have:=z k _ m;obtain ⟨_,_,E,_⟩:=this;rw [(aDc x).2.2.1] at E;exact E.symm
  subst K;have P  := (aa2.1 D).1;have N:RvL M noB (aH x).cells [f k 0,f k 1,f k 2,f k 3,f k 4,f k 5,f k 6]:=by
   refine aUs _ _ (by rw [(aDc x).2.2.1];rfl) fun i c v G d => ?_;have F  := by have:=(aa2.1 d).1;simpa using this
   have:=J k _ i c m G;match i,F,d with
   | 0,_,d=>cases d;exact this
   | 1,_,d=>cases d;exact this
   | 2,_,d=>cases d;exact this
   | 3,_,d=>cases d;exact this
   | 4,_,d=>cases d;exact this
   | 5,_,d=>cases d;exact this
   | 6,_,d=>cases d;exact this
  obtain ⟨n,q,p,e,y⟩:=bH7 N;refine ⟨n,q,p,y,fun j v hv => ?_⟩;rw [<- e] at hv;have C  := by have:=(aa2.1 hv).1;simpa using this
  have:=O k _ j m C;match j,C,hv with
  | 0,_,hv=>cases hv;exact this
  | 1,_,hv=>cases hv;exact this
  | 2,_,hv=>cases hv;exact this
  | 3,_,hv=>cases hv;exact this
  | 4,_,hv=>cases hv;exact this
  | 5,_,hv=>cases hv;exact this
  | 6,_,hv=>cases hv;exact this
theorem Tryz.i40:aIL (Tryz.prog.info? 40) 7 128=true:=by kernel_rfl
theorem Tryz.u35:Tryz.prog.underlying 35=some (.slice 40):=by simp
theorem aUv l (q:bkSl aV l<1073741824) {M w} v (k:Cons M w) (g:Rv M noB (.slice (List.map aE l) [] false) v) :
  Calls Tryz.prog 63 #[v] w fun e w'=>∃ a n p M',e = .returned (.slice a n p)/\Rv M' noB (.slice (List.map aE l) [] false) (.slice a n p)/\Cons M' w'/\Quiet M w M' w':=by
 have c:l.length<1073741824:=by have:=fQ (f:=aV) pA l;omega
 have m:=aA9 l c (fun y hy=>aHj _ (aJU (by omega) hy));have j:O 63 [.slice (List.map aE l) [] false] []=some (.slice (List.map aE l) [] false,[]):=dW (enc:=fun r=>(mC r,[])) m;have d:=aFc pokX xok j (M:=M) (w:=w) (vals := #[v]) rfl k ⟨rfl,fun i p b=>by
  match i,b with
  | 0,b=>cases b;exact ⟨g,cD rfl⟩
  | i+1,b=>grind⟩
 refine d.mono ?_;rintro e w' ⟨v,M',rfl,hv,h,o⟩;obtain ⟨a,n,p,rfl⟩:=pB hv;grind
noncomputable def t5C:Code:=fstC (inC (blA (bB Tryz.f21)))
noncomputable def t6C:Code:=fstC (sndC (inC (blA (bB Tryz.f21))))
noncomputable def t7C:Code:=sndC (sndC (inC (blA (bB Tryz.f21))))
set_option maxHeartbeats 8000000 in
theorem bDm {M:Mem} {w:World} (H:Nat) (x:GSel) (a3:Option Addr) (l3 p3:Nat) (a4:Option Addr) (l4 p4:Nat) (a6:Option Addr) (l6 p6:Nat) (hc:Cons M w) (hH:w.heap[H]?=some (.cells #[.int .i64 x.kind,.string ⟨x.alias.toArray⟩,.string ⟨x.name.toArray⟩,.slice a3 l3 p3,.slice a4 l4 p4,.string ⟨x.on_.toArray⟩,.slice a6 l6 p6] 40 (0,0))) (hf:∀ i,M H i=none) (hr3:Rv M noB (.slice (List.map aE x.args) [] false) (.slice a3 l3 p3)) (hr4:Rv M noB (.slice (List.map bJ x.dirs) [] false) (.slice a4 l4 p4)) (hr6:Rv M noB (.slice (List.map aH x.sels) [] false) (.slice a6 l6 p6)) (hl3:bkSl aV x.args<1073741824) (hl4:bkSl gF x.dirs<1073741824) (hl6:aK x.sels<1073741824) (Q:Exit->Act->World->Prop) (v0 v1 v2 v3 v4 v6 v7 v8 v9 v10 v11 v12 v13 v14 v15 v16 v17 v18 v19 v20 v21 v22 v23 v24 v25 v26 v27 v28 v29 v30 v31 v32:Value)
  (hC:∀ (w':World) (M':Mem) (b3:Option Addr) (m3 q3:Nat) (b4:Option Addr) (m4 q4:Nat) (b6:Option Addr) (m6 q6:Nat) (z16 z17 z18 z19 z20 z21 z22 z23 z24 z25 z26 z27:Value),Stp H M w M' w'->w'.heap[H]?=some (.cells #[.int .i64 x.kind,.string ⟨x.alias.toArray⟩,.string ⟨x.name.toArray⟩,.slice b3 m3 q3,.slice b4 m4 q4,.string ⟨x.on_.toArray⟩,.slice b6 m6 q6] 40 (0,0))->Rv M' noB (.slice (List.map aE x.args) [] false) (.slice b3 m3 q3)->Rv M' noB (.slice (List.map bJ x.dirs) [] false) (.slice b4 m4 q4)->Rv M' noB (.slice (List.map aH x.sels) [] false) (.slice b6 m6 q6)->Q .normal ⟨#[v0,v1,v2,v3,v4,.pointer (some ⟨H,0,none⟩),v6,v7,v8,v9,v10,v11,v12,v13,v14,v15,z16,z17,z18,z19,z20,z21,z22,z23,z24,z25,z26,z27,v28,v29,v30,v31,v32],[]⟩ w') :
  Code.wp Tryz.prog t6C Q ⟨#[v0,v1,v2,v3,v4,.pointer (some ⟨H,0,none⟩),v6,v7,v8,v9,v10,v11,v12,v13,v14,v15,v16,v17,v18,v19,v20,v21,v22,v23,v24,v25,v26,v27,v28,v29,v30,v31,v32],[]⟩ w:=by
 have hHl:H<w.heap.size:=(aag.1 hH).1
 have k3:w.cell? ⟨H,3,none⟩=some (.slice a3 l3 p3):=by rw [cell_of_row w H _ _ _ _ hH];rfl
 have k4:w.cell? ⟨H,4,none⟩=some (.slice a4 l4 p4):=by rw [cell_of_row w H _ _ _ _ hH];rfl
 have k6:w.cell? ⟨H,6,none⟩=some (.slice a6 l6 p6):=by rw [cell_of_row w H _ _ _ _ hH];rfl
 have fin:Hid (∀ (w2 w3 w4:World) (M2 M3 M4:Mem) (b3:Option Addr) (m3 q3:Nat) (b4:Option Addr) (m4 q4:Nat) (b6:Option Addr) (m6 q6:Nat) (z16 z17 z18 z19 z20 z21 z22 z23 z24 z25 z26 z27:Value),Cons M2 w2->Quiet M w.drew M2 w2->Cons M3 w3->Quiet M2 w2 M3 w3->Cons M4 w4->Quiet M3 w3 M4 w4->Rv M2 noB (.slice (List.map aE x.args) [] false) (.slice b3 m3 q3)->Rv M3 noB (.slice (List.map bJ x.dirs) [] false) (.slice b4 m4 q4)->Rv M4 noB (.slice (List.map aH x.sels) [] false) (.slice b6 m6 q6)->Q .normal ⟨#[v0,v1,v2,v3,v4,.pointer (some ⟨H,0,none⟩),v6,v7,v8,v9,v10,v11,v12,v13,v14,v15,z16,z17,z18,z19,z20,z21,z22,z23,z24,z25,z26,z27,v28,v29,v30,v31,v32],[]⟩ (((w4.setCell ⟨H,3,none⟩ (.slice b3 m3 q3)).setCell ⟨H,4,none⟩ (.slice b4 m4 q4)).setCell ⟨H,6,none⟩ (.slice b6 m6 q6))):=by
  intro w2 w3 w4 M2 M3 M4 b3 m3 q3 b4 m4 q4 b6 m6 q6 z16 z17 z18 z19 z20 z21 z22 z23 z24 z25 z26 z27 hc2 hq2 hc3 hq3 hc4 hq4 h3 h4 h6
  have S0:=(((Stp.drew (H:=H) hc).trans (Stp.quiet hq2 hc2)).trans (Stp.quiet hq3 hc3)).trans (Stp.quiet hq4 hc4)
  have S1:=S0.trans (Stp.set S0.cons (S0.free hHl hf) 3 (.slice b3 m3 q3))
  have S2:=S1.trans (Stp.set S1.cons (S1.free hHl hf) 4 (.slice b4 m4 q4))
  have S3:=S2.trans (Stp.set S2.cons (S2.free hHl hf) 6 (.slice b6 m6 q6))
  have hl2:H<w2.heap.size:=aaF hHl hq2.size
  have hl3:H<w3.heap.size:=aaF hl2 hq3.size
  have e2:w4.heap[H]?=w.heap[H]?:=(hq4.old H hl3).1.trans ((hq3.old H hl2).1.trans (hq2.old H hHl).1)
  exact hC _ _ _ _ _ _ _ _ _ _ _ _ _ _ _ _ _ _ _ _ _ _ _ S3 (heap_setCell_same _ H 6 _ _ _ (heap_setCell_same _ H 4 _ _ _ (heap_setCell_same _ H 3 _ _ _ (e2.trans hH)))) ((h3.mono hq3.mem (fun _ _ _ h=>h)).mono hq4.mem (fun _ _ _ h=>h)) (h4.mono hq4.mem (fun _ _ _ h=>h)) h6
 have h103:=aUv x.args hl3 (M:=M) (w:=w.drew) (.slice a3 l3 p3) (aIK hc) hr3
 have h36:=fun (M2:Mem) (w2:World) (hc2:Cons M2 w2) (hq2:Quiet M w.drew M2 w2)=>aNQ x.dirs hl4 (M:=M2) (w:=w2) (.slice a4 l4 p4) hc2 (hr4.mono hq2.mem (fun _ _ _ h=>h))
 have h37:=fun (M2:Mem) (w2:World) (M3:Mem) (w3:World) (hq2:Quiet M w.drew M2 w2) (hc3:Cons M3 w3) (hq3:Quiet M2 w2 M3 w3)=>aUt x.sels hl6 (M:=M3) (w:=w3) (.slice a6 l6 p6) hc3 ((hr6.mono hq2.mem (fun _ _ _ h=>h)).mono hq3.mem (fun _ _ _ h=>h))
 have hcl:Hid (∀ (M2:Mem) (w2:World),Quiet M w.drew M2 w2->w2.cell? ⟨H,4,none⟩=some (.slice a4 l4 p4)/\w2.cell? ⟨H,6,none⟩=some (.slice a6 l6 p6)):=fun M2 w2 hq2=>⟨(aaA (a:=⟨H,4,none⟩) (hq2.old H hHl).1).trans k4,(aaA (a:=⟨H,6,none⟩) (hq2.old H hHl).1).trans k6⟩
 have hcm:Hid (∀ (M2:Mem) (w2:World) (M3:Mem) (w3:World),Quiet M w.drew M2 w2->Quiet M2 w2 M3 w3->w3.cell? ⟨H,6,none⟩=some (.slice a6 l6 p6)):=fun M2 w2 M3 w3 hq2 hq3=>(aaA (a:=⟨H,6,none⟩) ((hq3.old H (aaF hHl hq2.size)).1.trans (hq2.old H hHl).1)).trans k6
 have hst:Hid (∀ (M2:Mem) (w2:World) (M3:Mem) (w3:World) (M4:Mem) (w4:World),Quiet M w.drew M2 w2->Quiet M2 w2 M3 w3->Quiet M3 w3 M4 w4->w4.cell? ⟨H,3,none⟩=some (.slice a3 l3 p3)/\w4.frozen? ⟨H,3,none⟩=false/\w4.cell? ⟨H,4,none⟩=some (.slice a4 l4 p4)/\w4.frozen? ⟨H,4,none⟩=false/\w4.cell? ⟨H,6,none⟩=some (.slice a6 l6 p6)/\w4.frozen? ⟨H,6,none⟩=false):=by
  intro M2 w2 M3 w3 M4 w4 hq2 hq3 hq4
  have hl2:H<w2.heap.size:=aaF hHl hq2.size
  have hl3:H<w3.heap.size:=aaF hl2 hq3.size
  have e2:w4.heap[H]?=w.heap[H]?:=(hq4.old H hl3).1.trans ((hq3.old H hl2).1.trans (hq2.old H hHl).1)
  exact ⟨(aaA (a:=⟨H,3,none⟩) e2).trans k3,frozen_of_row _ _ _ _ _ (e2.trans hH),(aaA (a:=⟨H,4,none⟩) e2).trans k4,frozen_of_row _ _ _ _ _ (e2.trans hH),(aaA (a:=⟨H,6,none⟩) e2).trans k6,frozen_of_row _ _ _ _ _ (e2.trans hH)⟩
 replace h36:=(id h36:Hid _)
 replace h37:=(id h37:Hid _)
 clear hC hH
 refine ab5 (Q:=Exit.then (Q .normal) (fun _ _ _=>False)) (fun e a w h=>by cases e<;>first | exact h | exact h.elim) ?_
 unfold t6C
 simp only [Tryz.f21,bB,inC,blA,blkC,lopC,fstC,sndC]
 go_wp2
 go_region_with (first | (go_at_call 63;refine h103.mono ?_;rintro e' w2 ⟨b3,m3,q3,M2,rfl,hv3,hc2,hq2⟩;obtain ⟨j4,j6⟩:=hcl.out M2 w2 hq2) | (go_at_call 20;have h36b:=h36.out M2 w2 hc2 hq2;refine h36b.mono ?_;rintro e' w3 ⟨b4,m4,q4,M3,rfl,hv4,hc3,hq3⟩;have n6:=hcm.out M2 w2 M3 w3 hq2 hq3) | (go_at_call 21;have h37b:=h37.out M2 w2 M3 w3 hq2 hc3 hq3;refine h37b.mono ?_;rintro e' w4 ⟨b6,m6,q6,M4,rfl,hv6,hc4,hq4⟩;obtain ⟨i1,i2,i3,i4,i5,i6⟩:=hst.out M2 w2 M3 w3 M4 w4 hq2 hq3 hq4))
 all_goals exact fin.out w2 w3 w4 M2 M3 M4 b3 m3 q3 b4 m4 q4 b6 m6 q6 _ _ _ _ _ _ _ _ _ _ _ _ hc2 hq2 hc3 hq3 hc4 hq4 hv3 hv4 hv6
set_option maxHeartbeats 4000000 in
theorem bH8 {w:World} (H B:Nat) (x:GSel) (a3:Option Addr) (l3 p3:Nat) (a4:Option Addr) (l4 p4:Nat) (a6:Option Addr) (l6 p6:Nat) (ga:Option Addr) (n cap:Nat) (ys:List Value) (hH:w.heap[H]?=some (.cells #[.int .i64 x.kind,.string ⟨x.alias.toArray⟩,.string ⟨x.name.toArray⟩,.slice a3 l3 p3,.slice a4 l4 p4,.string ⟨x.on_.toArray⟩,.slice a6 l6 p6] 40 (0,0))) (hown:w.ownsRow B 40 7 (.slice ga n cap) n ys) (hB:B<=w.heap.size) (hn:n<=1073741824) (Q:Exit->Act->World->Prop) (v0 v1 v2 v4 v6 v7 v8 v9 v10 v11 v12 v13 v14 v15 v16 v17 v18 v19 v20 v21 v22 v23 v24 v25 v26 v27 v28 v29 v30 v31 v32:Value)
  (hC:∀ (w':World) (g cap':Nat) (z28 z29 z30 z31:Value),w'.ownsRow B 40 7 (.slice (some ⟨g,0,none⟩) (n+1) cap') (n+1) (ys++[.int .i64 x.kind,.string ⟨x.alias.toArray⟩,.string ⟨x.name.toArray⟩,.slice a3 l3 p3,.slice a4 l4 p4,.string ⟨x.on_.toArray⟩,.slice a6 l6 p6])->(∀ b,b<w.heap.size->(Value.slice ga n cap).ownBlock≠some b->w'.heap[b]?=w.heap[b]?)->((Value.slice ga n cap).ownBlock=some g∨w.heap.size<=g)->w'.os=w.os->w'.tape=w.tape->w'.output=w.output->w.heap.size<=w'.heap.size->Q .normal ⟨#[v0,v1,v2,.slice (some ⟨g,0,none⟩) (n+1) cap',v4,.pointer (some ⟨H,0,none⟩),v6,v7,v8,v9,v10,v11,v12,v13,v14,v15,v16,v17,v18,v19,v20,v21,v22,v23,v24,v25,v26,v27,z28,z29,z30,z31,v32],[]⟩ w') :
  Code.wp Tryz.prog t7C Q ⟨#[v0,v1,v2,.slice ga n cap,v4,.pointer (some ⟨H,0,none⟩),v6,v7,v8,v9,v10,v11,v12,v13,v14,v15,v16,v17,v18,v19,v20,v21,v22,v23,v24,v25,v26,v27,v28,v29,v30,v31,v32],[]⟩ w:=by
 have hHl:H<w.heap.size:=(aag.1 hH).1
 obtain ⟨i0,z0,hi,hz0,hz1,hz2,hzc⟩:=aAq Tryz.i40
 have c0:w.cell? ⟨H,0,none⟩=_:=cell_of_row w H 0 _ _ _ hH
 have c1:w.cell? ⟨H,1,none⟩=_:=cell_of_row w H 1 _ _ _ hH
 have c2:w.cell? ⟨H,2,none⟩=_:=cell_of_row w H 2 _ _ _ hH
 have c3:w.cell? ⟨H,3,none⟩=_:=cell_of_row w H 3 _ _ _ hH
 have c4:w.cell? ⟨H,4,none⟩=_:=cell_of_row w H 4 _ _ _ hH
 have c5:w.cell? ⟨H,5,none⟩=_:=cell_of_row w H 5 _ _ _ hH
 have c6:w.cell? ⟨H,6,none⟩=_:=cell_of_row w H 6 _ _ _ hH
 simp only [abr,abh,abi] at c0 c1 c2 c3 c4 c5 c6
 have hn0:=abf (cs := #[.int .i64 x.kind,.string ⟨x.alias.toArray⟩,.string ⟨x.name.toArray⟩,.slice a3 l3 p3,.slice a4 l4 p4,.string ⟨x.on_.toArray⟩,.slice a6 l6 p6]) (heap_alloc_new w (.cells #[.int .i64 x.kind,.string ⟨x.alias.toArray⟩,.string ⟨x.name.toArray⟩,.slice a3 l3 p3,.slice a4 l4 p4,.string ⟨x.on_.toArray⟩,.slice a6 l6 p6] 40))
 have hown2:=hown.alloc (.cells #[.int .i64 x.kind,.string ⟨x.alias.toArray⟩,.string ⟨x.name.toArray⟩,.slice a3 l3 p3,.slice a4 l4 p4,.string ⟨x.on_.toArray⟩,.slice a6 l6 p6] 40)
 have hsz:(w.alloc (.cells #[.int .i64 x.kind,.string ⟨x.alias.toArray⟩,.string ⟨x.name.toArray⟩,.slice a3 l3 p3,.slice a4 l4 p4,.string ⟨x.on_.toArray⟩,.slice a6 l6 p6] 40)).heap.size=w.heap.size+1:=by simp
 have hBs:B<=(w.alloc (.cells #[.int .i64 x.kind,.string ⟨x.alias.toArray⟩,.string ⟨x.name.toArray⟩,.slice a3 l3 p3,.slice a4 l4 p4,.string ⟨x.on_.toArray⟩,.slice a6 l6 p6] 40)).heap.size:=by omega
 replace hC:=(id hC:Hid _)
 unfold t7C
 simp only [Tryz.f21,bB,inC,blA,blkC,lopC,fstC,sndC]
 go_wp2_with (at_builtin;refine wpList_append_lies _ rfl (.tmp 28) (.tmp 30) 35 rfl B 40 i0 _ 7 128 Tryz.u35 hi hz0 hz1 hz2 hzc (by decide) (.slice ga n cap) n ys rfl hown2 ⟨w.heap.size,0,none⟩ 1 1 [.int .i64 x.kind,.string ⟨x.alias.toArray⟩,.string ⟨x.name.toArray⟩,.slice a3 l3 p3,.slice a4 l4 p4,.string ⟨x.on_.toArray⟩,.slice a6 l6 p6] rfl rfl hn0 (by intro u hu;simp only [aa3,abg,or_false] at hu;rcases hu with rfl | rfl | rfl | rfl | rfl | rfl | rfl<;>rfl) (by decide) (by simp [maxLen];omega) (by omega) hBs _ rfl ?_;intro g cap' w1 hown3 hgrow hat hlt)
 refine hC.out _ g cap' _ _ _ _ hown3 ?_ ?_ hgrow.os hgrow.tape hgrow.output ?_
 ·intro b hb hbo
  exact (hgrow.block b (by rw [hsz];omega) (fun e=>hbo e.symm)).trans (heap_alloc_old w _ hb)
 ·rcases hat with h | h
  ·exact .inl h
  ·right;omega
 ·have:=hgrow.size
  omega
theorem OwnL.add {B e size cap g M M' w' es p ys us} (n:ys.length=es.length*size) (s:∀ i p j c,es[i]?=some p->p.cells[j]?=some c->∃ u,ys[i*size+j]?=some u/\Rv M noB c u) (l:∀ p∈es,okEl size p) (y:okEl size p) (w:∀ (j:Nat) c,p.cells[j]?=some c->∃ u,us[j]?=some u/\Rv M' noB c u) (r:∀ b i v,M b i=some v->M' b i=some v)
  (C:w'.ownsRow B e size (.slice (some ⟨g,0,none⟩) (es.length+1) cap) (es.length+1) (ys++us)) (A:∀ i,M' g i=none):OwnL B M' w' e size (es++[p]) (.slice (some ⟨g,0,none⟩) (es.length+1) cap):=by
 refine ⟨⟨ys++us,by grind,fun i q j c d m => ?_⟩,fun q d => ?_,fun k x i => ?_⟩
 ·rcases aaG i es.length with f | t;· rw [aaq f] at d;obtain ⟨u,z,o⟩:=s i q j c d m;exact ⟨u,by grind,o.mono r (fun _ _ _ h=>h)⟩
  grind
 ·grind
 have  := by simpa [Value.ownBlock] using x.symm
 grind
structure SI (M:Mem) (w:World) (M1:Mem) (wr:World) (l:List GSel) (k:Nat) (vo:Value):Prop where
 own:OwnL w.heap.size M1 wr 40 7 (List.map aH (l.take k)) vo
 cons:Cons M1 wr
 frm:From w.heap.size M w M1 wr
theorem SI.next {M K o w t f d k l z G D I H g a ys x} (m:SI M w K t l k (.slice I k H)) (L:l[k]?=some x) (S:Stp t.heap.size K t o f) (P:SCV o x z G D) (C:ys.length=k*7)
  (A:∀ i p j c,(List.map aH (l.take k))[i]?=some p->p.cells[j]?=some c->∃ u,ys[i*7+j]?=some u/\Rv o noB c u)
  (q:d.ownsRow w.heap.size 40 7 (.slice (some ⟨g,0,none⟩) (k+1) a) (k+1) (ys++lP x z G D))
  (blk:∀ b,b<f.heap.size->(Value.slice I k H).ownBlock≠some b->d.heap[b]?=f.heap[b]?) (Q:(Value.slice I k H).ownBlock=some g∨f.heap.size<=g) (F:d.os=f.os) (J:d.tape=f.tape) (v:d.output=f.output) (E:f.heap.size<=d.heap.size) :
  SI M w o d l (k+1) (.slice (some ⟨g,0,none⟩) (k+1) a):=by
 have N:=m.frm.below.size;have r:∀ b,b<w.heap.size->d.heap[b]?=t.heap[b]?:=fun b s =>
  (blk b (by have:=S.size;omega) (fun e=>by have:=(m.own.lt b e).1;omega)).trans (S.blk b (by omega) (by omega))
 have n:(List.map aH (l.take k)).length=k:=by
  rw [aau,abo];have:=(aa2.1 L).1;omega
 refine ⟨?_,?_,?_⟩
 ·have e:List.map aH (l.take (k+1))=List.map aH (l.take k)++[aH x]:=by rw [List.take_add_one,L,aba];rfl
  rw [e];have h:=OwnL.add (M:=o) (M':=o) (w':=d) (es:=List.map aH (l.take k)) (p:=aH x) (ys:=ys) (us:=lP x z G D) (B:=w.heap.size) (e:=40) (size:=7) (g:=g) (cap:=a) (by rw [n];exact C) A (fun p R=>by obtain ⟨y,_,rfl⟩:=aah.1 R;exact aDc y) (aDc x) (bDl P) (fun _ _ _ h=>h) (by rw [n];exact q) (fun i=>by
   rcases Q with h | h;· rw [S.old _ (m.own.lt g h).2];exact m.own.free g h i
   exact tU S.cons h i)
  rw [n] at h;exact h
 ·refine qX S.cons fun b s ⟨i,O⟩=>blk b s (fun e=>O ?_);rw [S.old _ (m.own.lt b e).2];exact m.own.free b e i
 exact m.frm.trans ⟨S.mem,fun b s i=>S.old b (by omega) i,F.trans S.os,J.trans S.tape,v.trans S.output,aa5 S.size E,fun b s=>r b s⟩
noncomputable def t3C:Code:=fstC (lopC (blkC (blA (bB Tryz.f21))))
noncomputable def t4C:Code:=sndC (sndC (lopC (blkC (blA (bB Tryz.f21)))))
theorem bDn l oa cap M w (hN:l.length<1073741824) (hcap:l.length<=cap) (hsm:∀ x∈l,bkSl aV x.args<1073741824/\bkSl gF x.dirs<1073741824/\aK x.sels<1073741824)
  (hat:l≠[]->∃ blk off,oa=some ⟨blk,off,none⟩) (hcell:∀ blk off,oa=some ⟨blk,off,none⟩->∀ k x,l[k]?=some x->∃ v3 v4 v6,SCV M x v3 v4 v6/\∀ j v,(lP x v3 v4 v6)[j]?=some v->M blk (off+k*7+j)=some v)
  M0 w0 (h0:SI M w M0 w0 l 0 (.slice none 0 0)) Q v1 v2 v4 v5 v6 v7 v8 v9 v10 v11 v12 v13 v14 v15 v16 v17 v18 v19 v20 v21 v22 v23 v24 v25 v26 v27 v28 v29 v30 v31 v32
  (hC:∀ w' M' ga gc z4 z5 z6 z7 z8 z9 z10 z11 z12 z13 z14 z15 z16 z17 z18 z19 z20 z21 z22 z23 z24 z25 z26 z27 z28 z29 z30 z31,SI M w M' w' l l.length (.slice ga l.length gc)->Q .normal ⟨#[.slice oa l.length cap,v1,v2,.slice ga l.length gc,z4,z5,z6,z7,z8,z9,z10,z11,z12,z13,z14,z15,z16,z17,z18,z19,z20,z21,z22,z23,z24,z25,z26,z27,z28,z29,z30,z31,v32],[]⟩ w') :
  Code.wp Tryz.prog (fstC (sndC (sndC (bB Tryz.f21)))) Q ⟨#[.slice oa l.length cap,v1,v2,.slice none 0 0,v4,v5,v6,v7,v8,v9,v10,v11,v12,v13,v14,v15,v16,v17,v18,v19,v20,v21,v22,v23,v24,v25,v26,v27,v28,v29,v30,v31,v32],[]⟩ w0:=by
 obtain ⟨N,hln⟩:∃ N,l.length=N:=⟨_,rfl⟩;rw [hln] at hN hcap;simp only [hln] at hC ⊢;replace hC:=(id hC:Hid _);simp [Tryz.f21,bB,fstC,sndC];go_wp2;by_cases h0N:N=0;· subst h0N;refine wp_loop_rounds 1 ?_;rw [rounds_succ];go_wp2;exact hC.out _ _ _ _ _ _ _ _ _ _ _ _ _ _ _ _ _ _ _ _ _ _ _ _ _ _ _ _ _ _ _ _ h0
 obtain ⟨blk,off,rfl⟩:=hat (by intro e;rw [e] at hln;simp at hln;omega);go_loopw [3,4] (fun t3 t4 wr=>∃ (k:Nat) (M1:Mem) (ga:Option Addr) (gc:Nat),k<=N/\t4 = .int .i64 k/\t3 = .slice ga k gc/\SI M w M1 wr l k (.slice ga k gc)) (fun _ t4 _=>N-(intOf t4).toNat);case atStart=>exact ⟨0,M0,none,0,aaP _,rfl,rfl,h0⟩
 case round =>
  obtain ⟨k,M1,ga,gc,hk,rfl,rfl,hD⟩:=hrel;obtain ⟨x,a3,l3,p3,a4,l4,p4,a6,l6,p6,hx⟩:∃ x a3 l3 p3 a4 l4 p4 a6 l6 p6,k<N->l[k]?=some x/\SCV M1 x (.slice a3 l3 p3) (.slice a4 l4 p4) (.slice a6 l6 p6)/\(∀ j v,(lP x (.slice a3 l3 p3) (.slice a4 l4 p4) (.slice a6 l6 p6))[j]?=some v->wr.cell? ⟨blk,off+k*7+j,none⟩=some v):=by
   by_cases hkN:k<N;· have hg:=aa4 (l:=l) (i:=k) (by omega);obtain ⟨v3,v4,v6,h1,h2⟩:=hcell blk off rfl k _ hg;obtain ⟨a3,l3,p3,rfl⟩:=pB h1.r3;obtain ⟨a4,l4,p4,rfl⟩:=pB h1.r4;obtain ⟨a6,l6,p6,rfl⟩:=pB h1.r6;exact ⟨_,a3,l3,p3,a4,l4,p4,a6,l6,p6,fun _=>⟨hg,h1.mono hD.frm.mem,fun j v hv=>rQ hD.cons (hD.frm.mem _ _ _ (h2 j v hv))⟩⟩
   exact ⟨⟨0,[],[],[],[],[],[]⟩,none,0,0,none,0,0,none,0,0,fun h=>absurd h hkN⟩
  have x0:k<N->wr.cell? ⟨blk,off+k*7,none⟩=some (.int .i64 x.kind):=fun h=>(hx h).2.2 0 _ rfl;have x1:k<N->wr.cell? ⟨blk,off+k*7+1,none⟩=some (.string ⟨x.alias.toArray⟩):=fun h=>(hx h).2.2 1 _ rfl;have x2:k<N->wr.cell? ⟨blk,off+k*7+2,none⟩=some (.string ⟨x.name.toArray⟩):=fun h=>(hx h).2.2 2 _ rfl;have x3:k<N->wr.cell? ⟨blk,off+k*7+3,none⟩=some (.slice a3 l3 p3):=fun h=>(hx h).2.2 3 _ rfl;have x4:k<N->wr.cell? ⟨blk,off+k*7+4,none⟩=some (.slice a4 l4 p4):=fun h=>(hx h).2.2 4 _ rfl;have x5:k<N->wr.cell? ⟨blk,off+k*7+5,none⟩=some (.string ⟨x.on_.toArray⟩):=fun h=>(hx h).2.2 5 _ rfl;have x6  := fun h=>(hx h).2.2 6 _ rfl;replace hx:=(id hx:Hid _);change Code.wp Tryz.prog (.seq t3C (.seq (.block 1 (.seq t5C (.seq t6C t7C))) t4C)) _ _ _;unfold t3C t4C t5C;simp only [Tryz.f21,bB,inC,blA,blkC,lopC,fstC,sndC];go_wp2
  ·rename_i hkN K1 hK1 K0 hK0;obtain ⟨hxk,hcv,_⟩:=hx.out hkN;obtain ⟨s3,s4,s6⟩:=hsm x (aad hxk);refine bDm (M:=M1) wr.heap.size x a3 l3 p3 a4 l4 p4 a6 l6 p6 (Stp.alloc (H:=0) hD.cons _).cons (heap_alloc_new wr _) (fun i=>tU hD.cons (aa1 _) i) hcv.r3 hcv.r4 hcv.r6 s3 s4 s6 _ _ _ _ _ _ _ _ _ _ _ _ _ _ _ _ _ _ _ _ _ _ _ _ _ _ _ _ _ _ _ _ _ (fun w3 M3 b3 m3 q3 b4 m4 q4 b6 m6 q6 z16 z17 z18 z19 z20 z21 z22 z23 z24 z25 z26 z27 S3 hH3 hr3 hr4 hr6 => ?_);have S:=(Stp.alloc (H:=wr.heap.size) hD.cons _).trans S3;have hO:=hD.own.stp S (fun e=>by have:=(hD.own.lt _ e).2;omega);obtain ⟨ys,hown,hcl⟩:=hO.own;have hlk:(List.map aH (l.take k)).length=k:=by
    rw [aau,abo];omega
   rw [hlk] at hown;refine hK0 _ _ ?_;refine bH8 wr.heap.size w.heap.size x b3 m3 q3 b4 m4 q4 b6 m6 q6 ga k gc ys hH3 hown (by have:=S.size;have:=hD.frm.below.size;omega) (by omega) _ _ _ _ _ _ _ _ _ _ _ _ _ _ _ _ _ _ _ _ _ _ _ _ _ _ _ _ _ _ _ _ (fun w4 g cap' z28 z29 z30 z31 own' hblk hg hos hta hou hsz4 => ?_);have hDn:=hD.next hxk S ⟨hr3,hr4,hr6⟩ hown.1 hcl own' hblk hg hos hta hou hsz4;replace hDn:=(id hDn:Hid _);refine hK1 _ _ ?_;clear hblk own' hK0 hK1;go_wp2;go_roundw;case rel=>exact ⟨k+1,M3,_,_,by omega,by go_num,rfl,hDn.out⟩
   case measure=>simp [intOf];omega
  rename_i K0 hK0 hkN;have e:k=N:=by omega
  subst e;exact hC.out _ _ _ _ _ _ _ _ _ _ _ _ _ _ _ _ _ _ _ _ _ _ _ _ _ _ _ _ _ _ _ _ hD
noncomputable def u0C:Code:=fstC (bB Tryz.f21)
noncomputable def u1C:Code:=fstC (sndC (bB Tryz.f21))
noncomputable def u2C:Code:=fstC (sndC (sndC (bB Tryz.f21)))
noncomputable def u3C:Code:=sndC (sndC (sndC (bB Tryz.f21)))
theorem bJQ:Tryz.f21.body=some (.seq u0C (.seq u1C (.seq u2C u3C))):=by kernel_rfl
theorem bFv l (G:aK l<1073741824) {M w} v (hc:Cons M w) (hr:Rv M noB (.slice (List.map aH l) [] false) v) :
  Calls Tryz.prog 21 #[v] w fun e w'=>∃ a p M',e = .returned (.slice a l.length p)/\OwnL w.heap.size M' w' 40 7 (List.map aH l) (.slice a l.length p)/\Cons M' w'/\Quiet M w M' w':=by
 have hlen:=fP l;have hsm:∀ x∈l,bkSl aV x.args<1073741824/\bkSl gF x.dirs<1073741824/\aK x.sels<1073741824:=by
  intro x hx;have hb:=pX hx;have z:=gV x;have J:=aKQ x;omega
 obtain ⟨r,cap,rfl,hcap,hat,hcell⟩:=aUu hc hr;have LA:=@bDn l r cap M w (by omega) hcap hsm hat hcell M w ⟨OwnL.nil _ _ _ _ _,hc,From.refl _ _ _⟩;replace LA:=(id LA:Hid _);clear hat hcell hsm;refine calls_of_wp Tryz.func21 bJQ ?_;simp only [Tryz.ntmps21,List.size_toArray,aaV,aaH,Nat.reduceAdd,Nat.reduceSub,Array.replicate_succ];generalize hQ:bodyPost Tryz.prog Tryz.f21 _=Q;replace hQ:=(id hQ:Hid _);unfold u0C u1C;simp [Tryz.f21,bB,fstC,sndC];go_wp2;refine LA.out _ _ _ _ _ _ _ _ _ _ _ _ _ _ _ _ _ _ _ _ _ _ _ _ _ _ _ _ _ _ _ _ (fun F g o gc I y B D E H n k z12 t z14 s u z17 m z19 z20 d z22 j z24 f h z27 c q z30 z31 hD => ?_);rename_i C hK0;refine hK0 _ _ ?_;have hOw:=hD.own;rw [List.take_length] at hOw;replace hOw:=(id hOw:Hid _);unfold u3C;simp [Tryz.f21,bB,sndC];go_wp2;rw [<- hQ.out];refine bodyPost_ret (results_tmp (by rfl) _ _ _) rfl ?_;exact ⟨o,gc,g,rfl,hOw.out,hD.cons,hD.frm.mem,fun b hb=>⟨hD.frm.below.block b hb,fun i=>hD.frm.old b hb i⟩,hD.frm.below.size,hD.frm.below.os,hD.frm.below.tape,hD.frm.below.output⟩
theorem bDo {M w} H (x:GOp) a2 l2 p2 v s t r o p (hc:Cons M w) (hH:w.heap[H]?=some (.cells #[.int .i64 x.kind,.string ⟨x.name.toArray⟩,.slice a2 l2 p2,.slice v s t,.slice r o p] 37 (0,0))) (hf:∀ i,M H i=none) (K:Rv M noB (.slice (List.map bJ x.dirs) [] false) (.slice v s t)) (P:Rv M noB (.slice (List.map aH x.sels) [] false) (.slice r o p)) (J:bkSl gF x.dirs<1073741824) (C:aK x.sels<1073741824) Q v0 Y X S v4 V v7 v8 A l v11 c v13 v14 v15 v16 v17 v18 n v20 v21 v22 v23 v24 B E G Z N F v31 U v33 v34 v35 v36 v37 v38 v39 d v41 v42 v43 v44 m v46 v47 v48 v49 v50 b v52 v53 v54 v55 f v57 v58 v59 g v61 v62 v63 j v65
  (hC:∀ w' M' b3 m3 q3 b4 m4 q4 z25 z26 z27 z28 z29 z30 z31 z32,Stp H M w M' w'->w'.heap[H]?=some (.cells #[.int .i64 x.kind,.string ⟨x.name.toArray⟩,.slice a2 l2 p2,.slice b3 m3 q3,.slice b4 m4 q4] 37 (0,0))->Rv M' noB (.slice (List.map bJ x.dirs) [] false) (.slice b3 m3 q3)->OwnL w.heap.size M' w' 40 7 (List.map aH x.sels) (.slice b4 m4 q4)->Q .normal ⟨#[v0,Y,X,S,v4,.pointer (some ⟨H,0,none⟩),V,v7,v8,A,l,v11,c,v13,v14,v15,v16,v17,v18,n,v20,v21,v22,v23,v24,z25,z26,z27,z28,z29,z30,z31,z32,v33,v34,v35,v36,v37,v38,v39,d,v41,v42,v43,v44,m,v46,v47,v48,v49,v50,b,v52,v53,v54,v55,f,v57,v58,v59,g,v61,v62,v63,j,v65],[]⟩ w') :
  Code.wp Tryz.prog r7C Q ⟨#[v0,Y,X,S,v4,.pointer (some ⟨H,0,none⟩),V,v7,v8,A,l,v11,c,v13,v14,v15,v16,v17,v18,n,v20,v21,v22,v23,v24,B,E,G,Z,N,F,v31,U,v33,v34,v35,v36,v37,v38,v39,d,v41,v42,v43,v44,m,v46,v47,v48,v49,v50,b,v52,v53,v54,v55,f,v57,v58,v59,g,v61,v62,v63,j,v65],[]⟩ w:=by
 have hHl:H<w.heap.size:=(aag.1 hH).1;have k3:w.cell? ⟨H,3,none⟩=some (.slice v s t):=by rw [cell_of_row w H _ _ _ _ hH];rfl
 have z:w.cell? ⟨H,4,none⟩=some (.slice r o p):=by rw [cell_of_row w H _ _ _ _ hH];rfl
 have fin:Hid (∀ (w2 w3:World) (M2 M3:Mem) (b3:Option Addr) (m3 q3:Nat) (b4:Option Addr) (m4 q4:Nat) (z25 z26 z27 z28 z29 z30 z31 z32:Value),Cons M2 w2->Quiet M w.drew M2 w2->Cons M3 w3->Quiet M2 w2 M3 w3->Rv M2 noB (.slice (List.map bJ x.dirs) [] false) (.slice b3 m3 q3)->OwnL w2.heap.size M3 w3 40 7 (List.map aH x.sels) (.slice b4 m4 q4)->Q .normal ⟨#[v0,Y,X,S,v4,.pointer (some ⟨H,0,none⟩),V,v7,v8,A,l,v11,c,v13,v14,v15,v16,v17,v18,n,v20,v21,v22,v23,v24,z25,z26,z27,z28,z29,z30,z31,z32,v33,v34,v35,v36,v37,v38,v39,d,v41,v42,v43,v44,m,v46,v47,v48,v49,v50,b,v52,v53,v54,v55,f,v57,v58,v59,g,v61,v62,v63,j,v65],[]⟩ ((w3.setCell ⟨H,3,none⟩ (.slice b3 m3 q3)).setCell ⟨H,4,none⟩ (.slice b4 m4 q4))):=by
  intro w2 w3 M2 M3 b3 m3 q3 b4 m4 q4 z25 z26 z27 z28 z29 z30 z31 z32 hc2 hq2 hc3 hq3 h3 h4;have W:=((Stp.drew (H:=H) hc).trans (Stp.quiet hq2 hc2)).trans (Stp.quiet hq3 hc3);have O:=W.trans (Stp.set W.cons (W.free hHl hf) 3 (.slice b3 m3 q3));have S2:=O.trans (Stp.set O.cons (O.free hHl hf) 4 (.slice b4 m4 q4));have q:w3.heap[H]?=w.heap[H]?:=(hq3.old H (aaF hHl hq2.size)).1.trans (hq2.old H hHl).1;have eB:∀ k,w.heap.size<=k->k≠H:=fun k y=>by omega
  have D:∀ k,k≠H->((w3.setCell ⟨H,3,none⟩ (.slice b3 m3 q3)).setCell ⟨H,4,none⟩ (.slice b4 m4 q4)).heap[k]?=w3.heap[k]?:=fun k y=>(Below.heap_setCell _ _ _ _ y).trans (Below.heap_setCell _ _ _ _ y);have hz:w.heap.size<=w2.heap.size:=hq2.size;have z:=(h4.le hz).move (M':=M3) (w':=(w3.setCell ⟨H,3,none⟩ (.slice b3 m3 q3)).setCell ⟨H,4,none⟩ (.slice b4 m4 q4)) (fun _ _ _ h=>h) (fun k y=>D k (eB k ((h4.le hz).lt k y).1)) (fun _ _ _=>rfl);exact hC _ _ _ _ _ _ _ _ _ _ _ _ _ _ _ _ S2 (heap_setCell_same _ H 4 _ _ _ (heap_setCell_same _ H 3 _ _ _ (q.trans hH))) (h3.mono hq3.mem (fun _ _ _ h=>h)) z
 have L:=aNQ x.dirs J (M:=M) (w:=w.drew) (.slice v s t) (aIK hc) K;have h37:=fun (M2:Mem) (w2:World) (hc2:Cons M2 w2) (hq2:Quiet M w.drew M2 w2)=>bFv x.sels C (M:=M2) (w:=w2) (.slice r o p) hc2 (P.mono hq2.mem (fun _ _ _ h=>h));have I:Hid (∀ (M2:Mem) (w2:World),Quiet M w.drew M2 w2->w2.cell? ⟨H,4,none⟩=some (.slice r o p)):=fun M2 w2 hq2=>(aaA (a:=⟨H,4,none⟩) (hq2.old H hHl).1).trans z;have hst:Hid (∀ (M2:Mem) (w2:World) (M3:Mem) w3,Quiet M w.drew M2 w2->Quiet M2 w2 M3 w3->w3.cell? ⟨H,3,none⟩=some (.slice v s t)/\w3.frozen? ⟨H,3,none⟩=false/\w3.cell? ⟨H,4,none⟩=some (.slice r o p)/\w3.frozen? ⟨H,4,none⟩=false):=by
  intro M2 w2 M3 w3 hq2 hq3;have q  := (hq3.old H (aaF hHl hq2.size)).1.trans (hq2.old H hHl).1;exact ⟨(aaA (a:=⟨H,3,none⟩) q).trans k3,frozen_of_row _ _ _ _ _ (q.trans hH),(aaA (a:=⟨H,4,none⟩) q).trans z,frozen_of_row _ _ _ _ _ (q.trans hH)⟩
 replace h37:=(id h37:Hid _);clear hC hH;refine ab5 (Q:=Exit.then (Q .normal) (fun _ _ _=>False)) (fun e a w h=>by cases e<;>first | exact h | exact h.elim) ?_;unfold r7C;simp [Tryz.f9,bB,inC,blA,blB,blkC,lopC,fstC,sndC];go_wp2;go_region_with (first | (go_at_call 20;refine L.mono ?_;rintro e' w2 ⟨b3,m3,q3,M2,rfl,R,hc2,hq2⟩;have j4:=I.out M2 w2 hq2) | (go_at_call 21;have u:=h37.out M2 w2 hc2 hq2;refine u.mono ?_;rintro e' w3 ⟨b4,q4,M3,rfl,T,hc3,hq3⟩;obtain ⟨i1,i2,i3,i4⟩:=hst.out M2 w2 M3 w3 hq2 hq3));all_goals exact fin.out w2 w3 M2 M3 b3 m3 q3 b4 x.sels.length q4 _ _ _ _ _ _ _ _ hc2 hq2 hc3 hq3 R T
structure MO (B:Nat) (M:Mem) (w:World) (x:GOp) (u2 u3 u4:Value):Prop where
 r2:Rv M noB (.slice (List.map cK x.vars) [] false) u2
 r3:Rv M noB (.slice (List.map bJ x.dirs) [] false) u3
 o4:OwnL B M w 40 7 (List.map aH x.sels) u4
def Own2 (a:Value) (k:Nat):Prop:=a.ownBlock=some k
theorem MO.lt {B M w x c b a} (h:MO B M w x c b a):∀ k,Own2 a k->B<=k/\k<w.heap.size:=h.o4.lt
theorem MO.le {B B' M w x b a c} (h:MO B M w x b a c) (d:B'<=B):MO B' M w x b a c:=⟨h.r2,h.r3,h.o4.le d⟩
theorem MO.move {B M M' w w' x e d a} (h:MO B M w x e d a) (c:∀ b i v,M b i=some v->M' b i=some v) (f:∀ k,Own2 a k->w'.heap[k]?=w.heap[k]?) (g:∀ k,Own2 a k->∀ i,M' k i=M k i):MO B M' w' x e d a :=
 ⟨h.r2.mono c (fun _ _ _ h=>h),h.r3.mono c (fun _ _ _ h=>h),h.o4.move c f g⟩
theorem MO.frz {B M w x e d c} (h:MO B M w x e d c) (a:Cons M w):∃ M',(∀ b i v,M b i=some v->M' b i=some v)/\Cons M' w/\OCV M' x e d c/\∀ b,¬ Own2 c b->∀ i,M' b i=M b i :=
 ⟨_,tV a,aEY a,⟨h.r2.mono (tV a) (fun _ _ _ h=>h),h.r3.mono (tV a) (fun _ _ _ h=>h),h.o4.rv a⟩,fun _ f=>yQ f⟩
def aFU (M:Mem) (m:Nat) (e d f:Value) (l:List GOp) (ys:List Value):Prop :=
 ys.length=l.length*5/\∀ i x,l[i]?=some x->∃ c a b,((i=m/\c=e/\a=d/\b=f)∨(i≠m/\OCV M x c a b))/\∀ j u,(aEZ x c a b)[j]?=some u->ys[i*5+j]?=some u
theorem aFU.nil M m b a c:aFU M m b a c [] []:=⟨rfl,fun i x h=>by grind⟩
theorem aFU.mono {M M' m c a d l ys} (h:aFU M m c a d l ys) (g:∀ b i v,M b i=some v->M' b i=some v):aFU M' m c a d l ys :=
 ⟨h.1,fun i x e=>by
  obtain ⟨o,f,n,k,j⟩:=h.2 i x e;exact ⟨o,f,n,k.imp id (fun h=>⟨h.1,h.2.mono g⟩),j⟩⟩
theorem aFU.early {M m g f j n e k l ys} (h:aFU M m g f j l ys) (q:l.length<=m):aFU M m n e k l ys :=
 ⟨h.1,fun i x d=>by
  obtain ⟨a,b,c,p,o⟩:=h.2 i x d;grind⟩
theorem aFU.snoc {M m q o s l ys x n e k} (h:aFU M m q o s l ys) (v:(l.length=m/\n=q/\e=o/\k=s)∨(l.length≠m/\OCV M x n e k)):aFU M m q o s (l++[x]) (ys++aEZ x n e k):=by
 have y:=h.1;refine ⟨by simp;omega,fun i w d => ?_⟩;rcases aaG i l.length with r | t
 ·rw [aaq r] at d;obtain ⟨a,b,c,A,z⟩:=h.2 i w d;refine ⟨a,b,c,A,fun j u g => ?_⟩;have B  := by have:=(aa2.1 g).1;simpa using this
  rw [aaq (by omega)];exact z j u g
 rw [aaJ t] at d;have f:i-l.length=0:=by
  rcases Nat.eq_zero_or_pos (i-l.length) with f | f;· exact f
  rw [List.getElem?_eq_none (by simp;omega)] at d;cases d
 rw [f] at d;cases d;have p:i=l.length:=by omega
 refine ⟨n,e,k,by rw [p];exact v,fun j u g => ?_⟩;rw [aaJ (by omega),show i*5+j-ys.length=j by omega];exact g
structure DM (m:Nat) (M:Mem) (w:World) (M1:Mem) (wr:World) (k:Nat) (ops:List GOp) (a' b' vo:Value) (ys:List Value) (u2 u3 u4:Value):Prop where
 box1:wr.heap[w.heap.size]?=some (.cells #[a',b'] 28 (0,0))
 box2:wr.heap[w.heap.size+1]?=some (.cells #[.slice none 0 0,.slice none 0 0] 28 (0,0))
 out:wr.heap[w.heap.size+2]?=some (.cells #[vo,.slice none 0 0] 28 (0,0))
 own:wr.ownsRow (w.heap.size+3) 37 5 vo k ys
 rows:aFU M1 m u2 u3 u4 (ops.take k) ys
 cons:Cons M1 wr
 frm:From w.heap.size M w M1 wr
 f1:∀ i,M1 (w.heap.size+1) i=none
 f2:∀ i,M1 (w.heap.size+2) i=none
 fo:∀ g,vo.ownBlock=some g->∀ i,M1 g i=none
 mrk:∀ x,m<k->ops[m]?=some x->MO (w.heap.size+3) M1 wr x u2 u3 u4/\∀ g,Own2 u4 g->vo.ownBlock≠some g
theorem DM.next {m M M1 R w y p n k j Z b' J I F X Q g l ys u2 Y u4 x} (c:DM m M w M1 y k j Z b' (.slice X k Q) ys u2 Y u4) (P:j[k]?=some x) (S:Stp y.heap.size M1 y R p) (K:MO (y.heap.size+1) R p x J I F)
  (r:n.ownsRow (w.heap.size+3) 37 5 (.slice (some ⟨g,0,none⟩) (k+1) l) (k+1) (ys++aEZ x J I F)) (s:n.heap[w.heap.size+2]?=some (.cells #[.slice (some ⟨g,0,none⟩) (k+1) l,.slice none 0 0] 28 (0,0)))
  (blk:∀ b,b<p.heap.size->b≠w.heap.size+2->(Value.slice X k Q).ownBlock≠some b->n.heap[b]?=p.heap[b]?) (N:(Value.slice X k Q).ownBlock=some g∨p.heap.size<=g) (A:n.os=p.os) (G:n.tape=p.tape) (z:n.output=p.output) (E:p.heap.size<=n.heap.size) :
  ∃ O t2 t3 t4,DM m M w O n (k+1) j Z b' (.slice (some ⟨g,0,none⟩) (k+1) l) (ys++aEZ x J I F) t2 t3 t4:=by
 have W:w.heap.size+2<y.heap.size:=(aag.1 c.out).1;have hS:=S.size;have d:∀ b,b<w.heap.size+2->n.heap[b]?=y.heap[b]?:=fun b a =>
  (blk b (by omega) (by omega) (fun e=>by have:=(c.own.lt b e).1;omega)).trans (S.blk b (by omega) (by omega))
 have hlk:(j.take k).length=k:=by
  rw [abo];have:=(aa2.1 P).1;omega
 have D:j.take (k+1)=j.take k++[x]:=by rw [List.take_add_one,P];rfl
 have c4  := qX S.cons fun b a ⟨i,hi⟩=>blk b a (fun e=>hi (by rw [e,S.old _ W];exact c.f2 i)) (fun e=>hi (by rw [S.old _ (c.own.lt b e).2];exact c.fo b e i));have V  := fun b a=>by
  have:=K.lt b a;exact blk b this.2 (by omega) (fun e=>by have:=(c.own.lt b e).2;omega)
 have B  := K.move (fun _ _ _ h=>h) V (fun _ _ _=>rfl);have C:∀ b,Own2 F b->b≠g:=fun b a e=>by
  have L:=K.lt b a;rcases N with h | h;· have:=(c.own.lt g h).2;omega
  omega
 by_cases U:k=m
 ·refine ⟨R,J,I,F,(d _ (by omega)).trans c.box1,(d _ (by omega)).trans c.box2,s,r,?_,c4,?_,?_,?_,?_,?_⟩;· rw [D];exact ((c.rows.mono S.mem).early (by omega)).snoc (.inl ⟨by omega,rfl,rfl,rfl⟩)
  ·exact c.frm.trans ⟨S.mem,fun b a i=>S.old b (by omega) i,A.trans S.os,G.trans S.tape,z.trans S.output,aa5 S.size E,fun b a=>d b (by omega)⟩
  ·intro i;rw [S.old _ (by omega)];exact c.f1 i
  ·intro i;rw [S.old _ W];exact c.f2 i
  ·intro b a i;have e  := by simpa [Value.ownBlock] using a.symm
   subst e;rcases N with h | h;· rw [S.old _ (c.own.lt b h).2];exact c.fo b h i
   exact tU S.cons h i
  intro x' _ o;rw [<- U,P] at o;cases o;exact ⟨B.le (by omega),fun b a e=>C b a (by simpa [Value.ownBlock] using e.symm)⟩
 obtain ⟨O,t,c5,T,H⟩:=B.frz c4;have f  := fun b a i=>(H b (fun h=>by have:=(K.lt b h).1;omega) i).trans (S.old b a i);refine ⟨O,u2,Y,u4,(d _ (by omega)).trans c.box1,(d _ (by omega)).trans c.box2,s,r,?_,c5,?_,?_,?_,?_,?_⟩;· rw [D];exact ((c.rows.mono S.mem).mono t).snoc (.inr ⟨by omega,T⟩)
 ·exact c.frm.trans ⟨fun b i v hv=>t b i v (S.mem b i v hv),fun b a i=>f b (by omega) i,A.trans S.os,G.trans S.tape,z.trans S.output,aa5 S.size E,fun b a=>d b (by omega)⟩
 ·intro i;rw [f _ (by omega)];exact c.f1 i
 ·intro i;rw [f _ W];exact c.f2 i
 ·intro b a i;have e  := by simpa [Value.ownBlock] using a.symm
  subst e;rcases N with h | h;· rw [f _ (c.own.lt b h).2];exact c.fo b h i
  rw [H b (fun h'=>C b h' rfl)];exact tU S.cons h i
 intro x' hmk o;obtain ⟨L,h2⟩:=c.mrk x' (by omega) o;have u  := fun b a=>(L.lt b a).2;refine ⟨L.move (fun b i v hv=>t b i v (S.mem b i v hv)) (fun b a => ?_) (fun b a=>f b (u b a)),fun b a e => ?_⟩;· have q:=u b a;exact (blk b (by omega) (by have:=(L.lt b a).1;omega) (h2 b a)).trans (S.blk b q (by omega))
 have e  := by simpa [Value.ownBlock] using e
 have q:=u b a;rcases N with h | h;· exact h2 b a (by rw [<- e];exact h)
 omega
theorem bDp m ops oa cap b' M w (hN:ops.length<=1048576) (hcap:ops.length<=cap) (hsm:∀ x∈ops,x.vars.length<=1048576/\bkSl gF x.dirs<1073741824/\aK x.sels<1073741824)
  (hat:ops≠[]->∃ blk off,oa=some ⟨blk,off,none⟩) (hcell:∀ blk off,oa=some ⟨blk,off,none⟩->∀ k x,ops[k]?=some x->∃ v2 v3 v4,OCV M x v2 v3 v4/\∀ j v,(aEZ x v2 v3 v4)[j]?=some v->M blk (off+k*5+j)=some v)
  M0 w0 (h0:DM m M w M0 w0 0 ops (.slice oa ops.length cap) b' (.slice none 0 0) [] undef undef undef) Q v0 v2 v4 v5 v6 v7 v8 v9 v10 c K v13 D o v16 v17 v18 v19 v20 v21 Y F v24 R U d E p b I A t a G v36 B v38 v39 v40 v41 v42 v43 v44 v45 v46 v47 v48 v49 v50 v51 v52 v53 v54 v55 v56 v57 v58 v59 v60 v61 v62 v63 v64 v65
  (hC:∀ w' M' ga gc ys u2 u3 u4 z4 z5 z9 s z11 C P z14 O y z Z V z20 z21 z22 z23 z24 z25 z26 z27 z28 z29 z30 z31 z32 z33 z34 z35 z36 z37 z38,DM m M w M' w' ops.length ops (.slice oa ops.length cap) b' (.slice ga ops.length gc) ys u2 u3 u4->Q .normal ⟨#[v0,.pointer (some ⟨w.heap.size,0,none⟩),v2,.pointer (some ⟨w.heap.size+1+1,0,none⟩),z4,z5,v6,v7,v8,z9,s,z11,C,P,z14,O,y,z,Z,V,z20,z21,z22,z23,z24,z25,z26,z27,z28,z29,z30,z31,z32,z33,z34,z35,z36,z37,z38,v39,v40,v41,v42,v43,v44,v45,v46,v47,v48,v49,v50,v51,v52,v53,v54,v55,v56,v57,v58,v59,v60,v61,v62,v63,v64,v65],[]⟩ w') :
  Code.wp Tryz.prog (fstC (sndC (sndC (bB Tryz.f9)))) Q ⟨#[v0,.pointer (some ⟨w.heap.size,0,none⟩),v2,.pointer (some ⟨w.heap.size+1+1,0,none⟩),v4,v5,v6,v7,v8,v9,v10,c,K,v13,D,o,v16,v17,v18,v19,v20,v21,Y,F,v24,R,U,d,E,p,b,I,A,t,a,G,v36,B,v38,v39,v40,v41,v42,v43,v44,v45,v46,v47,v48,v49,v50,v51,v52,v53,v54,v55,v56,v57,v58,v59,v60,v61,v62,v63,v64,v65],[]⟩ w0:=by
 obtain ⟨N,hln⟩:∃ N,ops.length=N:=⟨_,rfl⟩;rw [hln] at hN hcap;simp only [hln] at hC h0;replace hC:=(id hC:Hid _);have hb0:w0.cell? ⟨w.heap.size,0,none⟩=some (.slice oa N cap):=by rw [cell_of_row w0 _ 0 _ _ _ h0.box1];rfl
 simp only [Tryz.f9,bB,inC,blA,blB,blkC,lopC,fstC,sndC];go_wp2;by_cases h0N:N=0;· subst h0N;refine wp_loop_rounds 1 ?_;rw [rounds_succ];go_wp2;exact hC.out _ _ _ _ _ _ _ _ _ _ _ _ _ _ _ _ _ _ _ _ _ _ _ _ _ _ _ _ _ _ _ _ _ _ _ _ _ _ _ _ h0
 obtain ⟨blk,off,rfl⟩:=hat (by intro e;rw [e] at hln;simp at hln;omega);go_loopw [4] (fun t4 wr=>∃ (k:Nat) (M1:Mem) (vo:Value) (ys:List Value) (u2 u3 u4:Value),k<=N/\t4 = .int .i64 k/\DM m M w M1 wr k ops (.slice (some ⟨blk,off,none⟩) N cap) b' vo ys u2 u3 u4) (fun t4 _=>N-(intOf t4).toNat);case atStart=>exact ⟨0,M0,_,[],_,_,_,aaP _,rfl,h0⟩
 case round =>
  obtain ⟨k,M1,vo,ys,u2,u3,u4,hk,rfl,hD⟩:=hrel;have hb1:wr.cell? ⟨w.heap.size,0,none⟩=some (.slice (some ⟨blk,off,none⟩) N cap):=by rw [cell_of_row wr _ 0 _ _ _ hD.box1];rfl
  obtain ⟨x,a2,l2,p2,a3,l3,p3,a4,l4,p4,hx⟩:∃ x a2 l2 p2 a3 l3 p3 a4 l4 p4,k<N->ops[k]?=some x/\OCV M1 x (.slice a2 l2 p2) (.slice a3 l3 p3) (.slice a4 l4 p4)/\(∀ j v,(aEZ x (.slice a2 l2 p2) (.slice a3 l3 p3) (.slice a4 l4 p4))[j]?=some v->wr.cell? ⟨blk,off+k*5+j,none⟩=some v):=by
   by_cases hkN:k<N;· have hg:=aa4 (l:=ops) (i:=k) (by omega);obtain ⟨v2,v3,v4,h1,h2⟩:=hcell blk off rfl k _ hg;obtain ⟨a2,l2,p2,rfl⟩:=pB h1.r2;obtain ⟨a3,l3,p3,rfl⟩:=pB h1.r3;obtain ⟨a4,l4,p4,rfl⟩:=pB h1.r4;exact ⟨_,a2,l2,p2,a3,l3,p3,a4,l4,p4,fun _=>⟨hg,h1.mono hD.frm.mem,fun j v hv=>rQ hD.cons (hD.frm.mem _ _ _ (h2 j v hv))⟩⟩
   exact ⟨⟨0,[],[],[],[]⟩,none,0,0,none,0,0,none,0,0,fun h=>absurd h hkN⟩
  have x0:k<N->wr.cell? ⟨blk,off+k*5,none⟩=some (.int .i64 x.kind):=fun h=>(hx h).2.2 0 _ rfl;have x1:k<N->wr.cell? ⟨blk,off+k*5+1,none⟩=some (.string ⟨x.name.toArray⟩):=fun h=>(hx h).2.2 1 _ rfl;have x2:k<N->wr.cell? ⟨blk,off+k*5+2,none⟩=some (.slice a2 l2 p2):=fun h=>(hx h).2.2 2 _ rfl;have x3:k<N->wr.cell? ⟨blk,off+k*5+3,none⟩=some (.slice a3 l3 p3):=fun h=>(hx h).2.2 3 _ rfl;have x4:k<N->wr.cell? ⟨blk,off+k*5+4,none⟩=some (.slice a4 l4 p4):=fun h=>(hx h).2.2 4 _ rfl;have hsz:w.heap.size+3<=wr.heap.size:=by have:=(aag.1 hD.out).1;omega
  replace hx:=(id hx:Hid _);change Code.wp Tryz.prog (.seq cAC (.seq (.block 1 (.seq r5C (.seq r6C (.seq r7C r8C)))) r4C)) _ _ _;unfold cAC r4C r5C;simp only [Tryz.f9,bB,inC,blA,blB,blkC,lopC,fstC,sndC];go_wp2
  ·rename_i hkN K1 hK1 K0 hK0;obtain ⟨hxk,hcv,_⟩:=hx.out hkN;obtain ⟨s1,s2,s3⟩:=hsm x (aad hxk);obtain ⟨ga,gc,rfl⟩:=aFF hD.own;refine bH6 (M:=M1) wr.heap.size x a2 l2 p2 a3 l3 p3 a4 l4 p4 (Stp.alloc (H:=0) hD.cons _).cons (heap_alloc_new wr _) (fun i=>tU hD.cons (aa1 _) i) hcv.r2 s1 _ _ _ _ _ _ _ _ _ _ _ _ _ _ _ _ _ _ _ _ _ _ _ _ _ _ _ _ _ _ _ _ _ _ _ _ _ _ _ _ _ _ _ _ _ _ _ _ _ _ _ _ _ _ _ _ _ _ _ _ _ _ _ _ _ _ (fun w2 M2 b2 X W z21 z22 z23 z24 S2 hH2 u => ?_);refine hK0 _ _ ?_;refine wp_seq ?_;refine bDo (M:=M2) wr.heap.size x b2 X W a3 l3 p3 a4 l4 p4 S2.cons hH2 (S2.free (by simp) (fun i=>tU hD.cons (aa1 _) i)) (hcv.r3.mono S2.mem (fun _ _ _ h=>h)) (hcv.r4.mono S2.mem (fun _ _ _ h=>h)) s2 s3 _ _ _ _ _ _ _ _ _ _ _ _ _ _ _ _ _ _ _ _ _ _ _ _ _ _ _ _ _ _ _ _ _ _ _ _ _ _ _ _ _ _ _ _ _ _ _ _ _ _ _ _ _ _ _ _ _ _ _ _ _ _ _ _ _ _ (fun J M3 b3 m3 q3 b4 m4 q4 z25 z26 z27 z28 z29 z30 z31 z32 S3 n f r => ?_);have S:=((Stp.alloc (H:=wr.heap.size) hD.cons _).trans S2).trans S3;have q:J.heap[w.heap.size+1+1]?=some (.cells #[.slice ga k gc,.slice none 0 0] 28 (0,0)):=(S.blk _ (by omega) (by omega)).trans hD.out;have hown3:J.ownsRow (w.heap.size+3) 37 5 (.slice ga k gc) k ys:=kJ hD.own fun g hg=>S.blk g (hD.own.lt g hg).2 (by have:=(hD.own.lt g hg).2;omega);refine bJO wr.heap.size (w.heap.size+1+1) (w.heap.size+3) x b2 X W b3 m3 q3 b4 m4 q4 ga k gc ys _ n q hown3 (by omega) (by have:=S.size;omega) (by omega) _ _ _ _ _ _ _ _ _ _ _ _ _ _ _ _ _ _ _ _ _ _ _ _ _ _ _ _ _ _ _ _ _ _ _ _ _ _ _ _ _ _ _ _ _ _ _ _ _ _ _ _ _ _ _ _ _ _ _ _ _ _ _ _ _ (fun w4 g cap' z33 z34 z35 z36 z37 z38 own' out' hblk hg T L hou hsz4 => ?_);have e1:(wr.alloc (.cells #[.int .i64 x.kind,.string ⟨x.name.toArray⟩,.slice a2 l2 p2,.slice a3 l3 p3,.slice a4 l4 p4] 37)).heap.size=wr.heap.size+1:=by simp
   have hs2:=S2.size;have hmo:MO (wr.heap.size+1) M3 J x (.slice b2 X W) (.slice b3 m3 q3) (.slice b4 m4 q4):=⟨u.mono S3.mem (fun _ _ _ h=>h),f,r.le (by omega)⟩;obtain ⟨M4,t2,t3,t4,hDn⟩:=hD.next hxk S hmo own' out' hblk hg T L hou hsz4;replace hDn:=(id hDn:Hid _);refine hK1 _ _ ?_;clear hblk own' out' hK0 hK1;go_wp2;go_roundw;case rel=>exact ⟨k+1,M4,_,_,_,_,_,by omega,by go_num,hDn.out⟩
   case measure=>simp [intOf];omega
  rename_i K0 hK0 hkN;have e:k=N:=by omega
  subst e;obtain ⟨ga,gc,rfl⟩:=aFF hD.own;exact hC.out _ _ _ _ _ _ _ _ _ _ _ _ _ _ _ _ _ _ _ _ _ _ _ _ _ _ _ _ _ _ _ _ _ _ _ _ _ _ _ _ hD
noncomputable def cBCm:Code:=fstC (lopC (blkC (blB (bB Tryz.f9))))
noncomputable def bJR:Code:=fstC (inC (blB (bB Tryz.f9)))
noncomputable def bJS:Code:=sndC (sndC (lopC (blkC (blB (bB Tryz.f9)))))
structure DG (m:Nat) (u2 u3 u4:Value) (M:Mem) (w:World) (M1:Mem) (wr:World) (k:Nat) (ops:List GOp) (frags:List GFrag) (a' b' va:Value) (ys:List Value) (vf:Value) (zs:List Value):Prop where
 box1:wr.heap[w.heap.size]?=some (.cells #[a',b'] 28 (0,0))
 box2:wr.heap[w.heap.size+1]?=some (.cells #[.slice none 0 0,.slice none 0 0] 28 (0,0))
 out:wr.heap[w.heap.size+2]?=some (.cells #[va,vf] 28 (0,0))
 ownA:wr.ownsRow (w.heap.size+3) 37 5 va ops.length ys
 own:wr.ownsRow (w.heap.size+3) 49 4 vf k zs
 rowsA:aFU M1 m u2 u3 u4 ops ys
 rows:FrRow M1 (frags.take k) zs
 cons:Cons M1 wr
 frm:From w.heap.size M w M1 wr
 f1:∀ i,M1 (w.heap.size+1) i=none
 f2:∀ i,M1 (w.heap.size+2) i=none
 foA:∀ g,va.ownBlock=some g->∀ i,M1 g i=none
 fo:∀ g,vf.ownBlock=some g->∀ i,M1 g i=none
 ne:∀ g,va.ownBlock=some g->vf.ownBlock≠some g
 mrk:∀ x,ops[m]?=some x->MO (w.heap.size+3) M1 wr x u2 u3 u4/\∀ g,Own2 u4 g->va.ownBlock≠some g/\vf.ownBlock≠some g
theorem DM.toG {m e d f M i w l a frags k b' j ys} (h:DM m M w i l a.length a k b' j ys e d f):DG m e d f M w i l 0 a frags k b' j ys (.slice none 0 0) [] :=
 ⟨h.box1,h.box2,h.out,h.own,abE _ _ _ _,by have:=h.rows;grind,.nil,h.cons,h.frm,h.f1,h.f2,h.fo,fun g b=>by simp [Value.ownBlock] at b,fun g b=>by simp [Value.ownBlock],fun x c=>by
  obtain ⟨o,n⟩:=h.mrk x (aa2.1 c).1 c;exact ⟨o,fun g b=>⟨n g b,by simp [Value.ownBlock]⟩⟩⟩
theorem DG.next {m u2 u3 u4 M M1 D w s l j k o frags a' b' B u C ga gc g d ys zs x} (c:DG m u2 u3 u4 M w M1 s k o frags a' b' B ys (.slice ga k gc) zs) (hx:frags[k]?=some x) (S:Stp s.heap.size M1 s D l) (hc:FCV D x u C)
  (p:j.ownsRow (w.heap.size+3) 49 4 (.slice (some ⟨g,0,none⟩) (k+1) d) (k+1) (zs++aIJ x u C)) (r:j.heap[w.heap.size+2]?=some (.cells #[B,.slice (some ⟨g,0,none⟩) (k+1) d] 28 (0,0)))
  (blk:∀ b,b<l.heap.size->b≠w.heap.size+2->(Value.slice ga k gc).ownBlock≠some b->j.heap[b]?=l.heap[b]?) (hg:(Value.slice ga k gc).ownBlock=some g∨l.heap.size<=g) (y:j.os=l.os) (hta:j.tape=l.tape) (t:j.output=l.output) (v:l.heap.size<=j.heap.size) :
  DG m u2 u3 u4 M w D j (k+1) o frags a' b' B ys (.slice (some ⟨g,0,none⟩) (k+1) d) (zs++aIJ x u C):=by
 have hZ  := (aag.1 c.out).1;have f:∀ b,b<w.heap.size+2->j.heap[b]?=s.heap[b]?:=fun b a =>
  (blk b (by have:=S.size;omega) (by omega) (fun e=>by have:=(c.own.lt b e).1;omega)).trans (S.blk b (by omega) (by omega))
 have hA  := fun b a=>by
  obtain ⟨q1,q2⟩:=c.ownA.lt b a;exact (blk b (by have:=S.size;omega) (by omega) (c.ne b a)).trans (S.blk b q2 (by omega))
 refine ⟨(f _ (by omega)).trans c.box1,(f _ (by omega)).trans c.box2,r,kJ c.ownA hA,p,c.rowsA.mono S.mem,?_,?_,?_,?_,?_,?_,?_,?_,?_⟩
 ·have e:frags.take (k+1)=frags.take k++[x]:=by rw [List.take_add_one,hx];rfl
  rw [e];exact .snoc (c.rows.mono S.mem) hc
 ·refine qX S.cons fun b a ⟨i,hi⟩=>blk b a (fun e=>hi ?_) (fun e=>hi ?_);· rw [e,S.old _ hZ];exact c.f2 i
  rw [S.old _ (c.own.lt b e).2];exact c.fo b e i
 ·exact c.frm.trans ⟨S.mem,fun b a i=>S.old b (by omega) i,y.trans S.os,hta.trans S.tape,t.trans S.output,aa5 S.size v,fun b a=>f b (by omega)⟩
 ·intro i;rw [S.old _ (by omega)];exact c.f1 i
 ·intro i;rw [S.old _ hZ];exact c.f2 i
 ·intro b a i;rw [S.old _ (c.ownA.lt b a).2];exact c.foA b a i
 ·intro b a i;have e  := by simpa [Value.ownBlock] using a.symm
  subst e;rcases hg with h | h;· rw [S.old _ (c.own.lt b h).2];exact c.fo b h i
  exact tU S.cons h i
 ·intro b a e;have e  := by simpa [Value.ownBlock] using e.symm
  subst e;rcases hg with h | h;· exact c.ne b a h
  have:=(c.ownA.lt b a).2;have:=S.size;omega
 intro x' A;obtain ⟨z,h2⟩:=c.mrk x' A;have n  := fun b a=>(z.lt b a).2;refine ⟨z.move S.mem (fun b a => ?_) (fun b a=>S.old b (n b a)),fun b a=>⟨(h2 b a).1,fun e => ?_⟩⟩;· have q:=n b a;have:=S.size;exact (blk b (by omega) (by have:=(z.lt b a).1;omega) (h2 b a).2).trans (S.blk b q (by omega))
 have e  := by simpa [Value.ownBlock] using e
 have q:=n b a;rcases hg with h | h;· exact by grind
 have:=S.size;omega
theorem bDq m P u3 Y ops frags oa cap c M w (hN:frags.length<=1048576) (hcap:frags.length<=cap) (hsm:∀ x∈frags,bkSl gF x.dirs<1073741824/\aK x.sels<1073741824)
  (B:frags≠[]->∃ blk off,oa=some ⟨blk,off,none⟩) (hcell:∀ blk off,oa=some ⟨blk,off,none⟩->∀ k x,frags[k]?=some x->∃ v2 E,FCV M x v2 E/\∀ j v,(aIJ x v2 E)[j]?=some v->M blk (off+k*4+j)=some v)
  M0 w0 va ys (h0:DG m P u3 Y M w M0 w0 0 ops frags c (.slice oa frags.length cap) va ys (.slice none 0 0) []) Q v0 v2 v4 v5 v6 v7 v8 v9 v10 v11 v12 v13 v14 v15 v16 v17 v18 v19 v20 v21 v22 v23 v24 v25 v26 v27 v28 v29 v30 v31 v32 v33 v34 v35 v36 v37 v38 J v40 U X T z v45 A O K G f v51 v52 v53 D R v56 n q I v60 v61 W v63 v64 v65
  (hC:∀ w' M' ga gc zs z6 z7 b o V r L z44 p d z47 C Z z50 z51 z52 z53 z54 z55 z56 z57 z58 z59 z60 z61 z62 z63 z64,DG m P u3 Y M w M' w' frags.length ops frags c (.slice oa frags.length cap) va ys (.slice ga frags.length gc) zs->Q .normal ⟨#[v0,.pointer (some ⟨w.heap.size,0,none⟩),v2,.pointer (some ⟨w.heap.size+1+1,0,none⟩),v4,v5,z6,z7,v8,v9,v10,v11,v12,v13,v14,v15,v16,v17,v18,v19,v20,v21,v22,v23,v24,v25,v26,v27,v28,v29,v30,v31,v32,v33,v34,v35,v36,v37,v38,b,o,V,r,L,z44,p,d,z47,C,Z,z50,z51,z52,z53,z54,z55,z56,z57,z58,z59,z60,z61,z62,z63,z64,v65],[]⟩ w') :
  Code.wp Tryz.prog (fstC (sndC (sndC (sndC (bB Tryz.f9))))) Q ⟨#[v0,.pointer (some ⟨w.heap.size,0,none⟩),v2,.pointer (some ⟨w.heap.size+1+1,0,none⟩),v4,v5,v6,v7,v8,v9,v10,v11,v12,v13,v14,v15,v16,v17,v18,v19,v20,v21,v22,v23,v24,v25,v26,v27,v28,v29,v30,v31,v32,v33,v34,v35,v36,v37,v38,J,v40,U,X,T,z,v45,A,O,K,G,f,v51,v52,v53,D,R,v56,n,q,I,v60,v61,W,v63,v64,v65],[]⟩ w0:=by
 obtain ⟨N,hln⟩:∃ N,frags.length=N:=⟨_,rfl⟩;rw [hln] at hN hcap;simp only [hln] at hC h0;replace hC:=(id hC:Hid _);have hb0:w0.cell? ⟨w.heap.size,1,none⟩=some (.slice oa N cap):=by rw [cell_of_row w0 _ 1 _ _ _ h0.box1];rfl
 simp only [Tryz.f9,bB,inC,blA,blB,blkC,lopC,fstC,sndC];go_wp2;by_cases F:N=0;· subst F;refine wp_loop_rounds 1 ?_;rw [rounds_succ];go_wp2;exact hC.out _ _ _ _ _ _ _ _ _ _ _ _ _ _ _ _ _ _ _ _ _ _ _ _ _ _ _ _ _ _ _ _ _ h0
 obtain ⟨blk,off,rfl⟩:=B (by intro e;rw [e] at hln;simp at hln;omega);go_loopw [6] (fun t6 wr=>∃ (k:Nat) (M1:Mem) (vf:Value) (zs:List Value),k<=N/\t6 = .int .i64 k/\DG m P u3 Y M w M1 wr k ops frags c (.slice (some ⟨blk,off,none⟩) N cap) va ys vf zs) (fun t6 _=>N-(intOf t6).toNat);case atStart=>exact ⟨0,M0,_,[],aaP _,rfl,h0⟩
 case round =>
  obtain ⟨k,M1,vf,zs,hk,rfl,hD⟩:=hrel;have hb1:wr.cell? ⟨w.heap.size,1,none⟩=some (.slice (some ⟨blk,off,none⟩) N cap):=by rw [cell_of_row wr _ 1 _ _ _ hD.box1];rfl
  obtain ⟨x,a3,l3,p3,a4,l4,p4,hx⟩:∃ x a3 l3 p3 a4 l4 p4,k<N->frags[k]?=some x/\FCV M1 x (.slice a3 l3 p3) (.slice a4 l4 p4)/\(∀ j v,(aIJ x (.slice a3 l3 p3) (.slice a4 l4 p4))[j]?=some v->wr.cell? ⟨blk,off+k*4+j,none⟩=some v):=by
   by_cases hkN:k<N;· have hg:=aa4 (l:=frags) (i:=k) (by omega);obtain ⟨E,v4,h1,h2⟩:=hcell blk off rfl k _ hg;obtain ⟨a3,l3,p3,rfl⟩:=pB h1.r2;obtain ⟨a4,l4,p4,rfl⟩:=pB h1.r3;exact ⟨_,a3,l3,p3,a4,l4,p4,fun _=>⟨hg,h1.mono hD.frm.mem,fun j v hv=>rQ hD.cons (hD.frm.mem _ _ _ (h2 j v hv))⟩⟩
   exact ⟨⟨[],[],[],[]⟩,none,0,0,none,0,0,fun h=>absurd h hkN⟩
  have x0:k<N->wr.cell? ⟨blk,off+k*4,none⟩=some (.string ⟨x.name.toArray⟩):=fun h=>(hx h).2.2 0 _ rfl;have x1:k<N->wr.cell? ⟨blk,off+k*4+1,none⟩=some (.string ⟨x.on_.toArray⟩):=fun h=>(hx h).2.2 1 _ rfl;have x2:k<N->wr.cell? ⟨blk,off+k*4+2,none⟩=some (.slice a3 l3 p3):=fun h=>(hx h).2.2 2 _ rfl;have x3:k<N->wr.cell? ⟨blk,off+k*4+3,none⟩=some (.slice a4 l4 p4):=fun h=>(hx h).2.2 3 _ rfl;have hsz:w.heap.size+3<=wr.heap.size:=by have:=(aag.1 hD.out).1;omega
  replace hx:=(id hx:Hid _);change Code.wp Tryz.prog (.seq cBCm (.seq (.block 3 (.seq bJR (.seq r13C r14C))) bJS)) _ _ _;unfold cBCm bJS bJR;simp only [Tryz.f9,bB,inC,blA,blB,blkC,lopC,fstC,sndC];go_wp2
  ·rename_i hkN K1 hK1 K0 hK0;obtain ⟨hxk,hcv,_⟩:=hx.out hkN;obtain ⟨s2,s3⟩:=hsm x (aad hxk);obtain ⟨ga,gc,rfl⟩:=aFF hD.own;refine bFu (M:=M1) wr.heap.size x a3 l3 p3 a4 l4 p4 (Stp.alloc (H:=0) hD.cons _).cons (heap_alloc_new wr _) (fun i=>tU hD.cons (aa1 _) i) hcv.r2 hcv.r3 s2 s3 _ _ _ _ _ _ _ _ _ _ _ _ _ _ _ _ _ _ _ _ _ _ _ _ _ _ _ _ _ _ _ _ _ _ _ _ _ _ _ _ _ _ _ _ _ _ _ _ _ _ _ _ _ _ _ _ _ _ _ _ _ _ _ _ _ _ (fun w3 M3 b3 m3 q3 b4 m4 q4 z51 z52 z53 z54 z55 z56 z57 z58 S3 t s y => ?_);have S:=(Stp.alloc (H:=wr.heap.size) hD.cons _).trans S3;have u:w3.heap[w.heap.size+1+1]?=some (.cells #[va,.slice ga k gc] 28 (0,0)):=(S.blk _ (by omega) (by omega)).trans hD.out;have hown3  := kJ hD.own fun g hg=>S.blk g (hD.own.lt g hg).2 (by have:=(hD.own.lt g hg).2;omega);refine hK0 _ _ ?_;refine bJP wr.heap.size (w.heap.size+1+1) (w.heap.size+3) x b3 m3 q3 b4 m4 q4 ga k gc zs _ t u hown3 (by omega) (by have:=S.size;omega) (by omega) _ _ _ _ _ _ _ _ _ _ _ _ _ _ _ _ _ _ _ _ _ _ _ _ _ _ _ _ _ _ _ _ _ _ _ _ _ _ _ _ _ _ _ _ _ _ _ _ _ _ _ _ _ _ _ _ _ _ _ _ _ _ _ _ _ (fun w4 g cap' z59 z60 z61 z62 z63 z64 own' out' hblk hg a hta hou hsz4 => ?_);have hDn:=hD.next hxk S ⟨s,y⟩ own' out' hblk hg a hta hou hsz4;replace hDn:=(id hDn:Hid _);refine hK1 _ _ ?_;clear hblk own' out' hK0 hK1;go_wp2;go_roundw;case rel=>exact ⟨k+1,M3,_,_,by omega,by go_num,hDn.out⟩
   case measure=>simp [intOf];omega
  rename_i K0 hK0 hkN;have e:k=N:=by omega
  subst e;obtain ⟨ga,gc,rfl⟩:=aFF hD.own;exact hC.out _ _ _ _ _ _ _ _ _ _ _ _ _ _ _ _ _ _ _ _ _ _ _ _ _ _ _ _ _ _ _ _ _ hD
noncomputable def r0Cm:Code:=fstC (bB Tryz.f9)
noncomputable def r1Cm:Code:=fstC (sndC (bB Tryz.f9))
noncomputable def laCm:Code:=fstC (sndC (sndC (bB Tryz.f9)))
noncomputable def lbCm:Code:=fstC (sndC (sndC (sndC (bB Tryz.f9))))
noncomputable def bJT:Code:=sndC (sndC (sndC (sndC (bB Tryz.f9))))
theorem bH9:Tryz.f9.body=some (.seq r0Cm (.seq r1Cm (.seq laCm (.seq lbCm bJT)))):=by kernel_rfl
structure DQ (m:Nat) (u2 u3 u4:Value) (M:Mem) (w:World) (M1:Mem) (wr:World) (ops:List GOp) (frags:List GFrag) (va:Value) (ys:List Value) (vf:Value) (zs:List Value):Prop where
 ownA:wr.ownsRow w.heap.size 37 5 va ops.length ys
 own:wr.ownsRow w.heap.size 49 4 vf frags.length zs
 rowsA:aFU M1 m u2 u3 u4 ops ys
 rows:FrRow M1 frags zs
 cons:Cons M1 wr
 frm:From w.heap.size M w M1 wr
 foA:∀ g,va.ownBlock=some g->∀ i,M1 g i=none
 fo:∀ g,vf.ownBlock=some g->∀ i,M1 g i=none
 ne:∀ g,va.ownBlock=some g->vf.ownBlock≠some g
 mrk:∀ x,ops[m]?=some x->MO w.heap.size M1 wr x u2 u3 u4/\∀ g,Own2 u4 g->va.ownBlock≠some g/\vf.ownBlock≠some g
theorem DM.start m f e j {M w} b a b' (c:Cons M w):DM m M w M (((w.alloc (.cells #[a,b'] 28)).alloc (.cells #[.slice none 0 0,.slice none 0 0] 28)).alloc (.cells #[.slice none 0 0,.slice none 0 0] 28)) 0 b a b' (.slice none 0 0) [] f e j:=by
 have d:Below w.heap.size w (((w.alloc (.cells #[a,b'] 28)).alloc (.cells #[.slice none 0 0,.slice none 0 0] 28)).alloc (.cells #[.slice none 0 0,.slice none 0 0] 28)) :=
  (((Below.refl _ _).alloc (by omega) _).alloc (by simp) _).alloc (by simp;omega) _
 refine ⟨?_,?_,?_,abE _ _ _ _,aFU.nil _ _ _ _ _,pY c d,From.of_below d,fun i=>tU c (by omega) i,fun i=>tU c (by omega) i,fun g h=>by simp [Value.ownBlock] at h,fun x k=>by omega⟩;· rw [heap_alloc_old _ _ (by simp;omega),heap_alloc_old _ _ (by simp)];exact heap_alloc_new _ _
 ·rw [heap_alloc_old _ _ (by simp)];have:=heap_alloc_new (w.alloc (.cells #[a,b'] 28)) (.cells #[.slice none 0 0,.slice none 0 0] 28);simp_all
 have:=heap_alloc_new ((w.alloc (.cells #[a,b'] 28)).alloc (.cells #[.slice none 0 0,.slice none 0 0] 28)) (.cells #[.slice none 0 0,.slice none 0 0] 28);simp_all
theorem DG.done {m o n p M r w d a frags A b' s t ys u} (h:DG m o n p M w r d frags.length a frags A b' s ys t u) l f :
  DQ m o n p M w r ((d.setCell ⟨w.heap.size+1,0,none⟩ l).setCell ⟨w.heap.size+1,1,none⟩ f) a frags s ys t u:=by
 have c:∀ k,k≠w.heap.size+1->((d.setCell ⟨w.heap.size+1,0,none⟩ l).setCell ⟨w.heap.size+1,1,none⟩ f).heap[k]?=d.heap[k]?:=fun k b=>(Below.heap_setCell _ _ _ _ b).trans (Below.heap_setCell _ _ _ _ b);refine ⟨aW8 (kJ h.ownA fun g j=>c g (by have:=(h.ownA.lt g j).1;omega)) (by omega),aW8 (kJ h.own fun g j=>c g (by have:=(h.own.lt g j).1;omega)) (by omega),h.rowsA,by have:=h.rows;grind,?_,?_,h.foA,h.fo,h.ne,fun x v => ?_⟩;· exact qX h.cons fun k b ⟨i,z⟩=>c k fun e=>z (by rw [e];exact h.f1 i)
 ·exact h.frm.trans (From.of_below (((Below.refl _ _).setCell (by simp) l).setCell (by simp) f))
 obtain ⟨q,y⟩:=h.mrk x v;exact ⟨(q.move (fun _ _ _ h=>h) (fun k b=>c k (by have:=(q.lt k b).1;omega)) (fun _ _ _=>rfl)).le (by omega),y⟩
theorem aYB m d M w a' b' (Z:dY d<=1048576) (hc:Cons M w) (hra:Rv M noB (.slice (List.map cO d.ops) [] false) a') (hrb:Rv M noB (.slice (List.map aL d.frags) [] false) b') :
  Calls Tryz.prog 9 #[.agg #[a',b']] w fun e w'=>∃ M' ga gc ys gb gd zs u2 u3 u4,e = .returned (.agg #[.slice ga d.ops.length gc,.slice gb d.frags.length gd])/\DQ m u2 u3 u4 M w M' w' d.ops d.frags (.slice ga d.ops.length gc) ys (.slice gb d.frags.length gd) zs:=by
 have g:=mB d;have z:=fQ (f:=bkOp) (fun o=>by rw [kN];omega) d.ops;have W:=fQ (f:=dQ) (fun o=>by rw [mR];omega) d.frags;have hso:∀ x∈d.ops,x.vars.length<=1048576/\bkSl gF x.dirs<1073741824/\aK x.sels<1073741824:=by
  intro x hx;have h1:=iY (f:=bkOp) hx;rw [kN] at h1;have h2:=fQ (f:=mA) (fun o=>by rw [jB];omega) x.vars;have e:bkSl cZ x.sels=aK x.sels+1:=by rw [bK];rfl
  omega
 have hsf:∀ x∈d.frags,bkSl gF x.dirs<1073741824/\aK x.sels<1073741824:=by
  intro x hx;have h1:=iY (f:=dQ) hx;rw [mR] at h1;have e:bkSl cZ x.sels=aK x.sels+1:=by rw [bK];rfl
  omega
 obtain ⟨oa,cap,rfl,hcap,hat,hcell⟩:=aRz hc hra;obtain ⟨ob,capb,rfl,hcapb,hatb,hcellb⟩:=bFr hc hrb;have hst:=DM.start m undef undef undef (M:=M) (w:=w) d.ops (.slice oa d.ops.length cap) (.slice ob d.frags.length capb) hc;refine calls_of_wp Tryz.func9 bH9 ?_;simp only [Tryz.ntmps9,List.size_toArray,aaV,aaH,Nat.reduceAdd,Nat.reduceSub,Array.replicate_succ,
   Array.replicate_zero,List.push_toArray,List.append_toArray,aai,aaj]
 have LA:=@bDp m d.ops oa cap (.slice ob d.frags.length capb) M w (by omega) hcap hso hat hcell;have LB:=fun u2 u3 u4=>@bDq m u2 u3 u4 d.ops d.frags ob capb (.slice oa d.ops.length cap) M w (by omega) hcapb hsf hatb hcellb;replace LA:=(id LA:Hid _);replace LB:=(id LB:Hid _);replace hst:=(id hst:Hid _);clear hat hcell hatb hcellb hso hsf;generalize hQ:bodyPost Tryz.prog Tryz.f9 _=Q;replace hQ:=(id hQ:Hid _);unfold r0Cm r1Cm;simp [Tryz.f9,bB,inC,blA,blB,blkC,lopC,fstC,sndC];go_wp2;rename_i K0 hK0;refine LA.out _ _ (DM.start m undef undef undef (M:=M) (w:=w) d.ops (.slice oa d.ops.length cap) (.slice ob d.frags.length capb) hc) _ _ _ _ _ _ _ _ _ _ _ _ _ _ _ _ _ _ _ _ _ _ _ _ _ _ _ _ _ _ _ _ _ _ _ _ _ _ _ _ _ _ _ _ _ _ _ _ _ _ _ _ _ _ _ _ _ _ _ _ _ _ _ _ _ (fun w1 M1 ga gc ys u2 u3 u4 z4 Y z9 a P s V z14 U i j z18 z19 E K z22 z23 n L z26 k z28 b F z31 v z33 T S c C z38 hD => ?_);have hF:=hD.toG (frags:=d.frags);replace hD:=(id hD:Hid _);refine hK0 _ _ ?_;refine wp_seq ?_;refine LB.out u2 u3 u4 _ _ _ ys hF _ _ _ _ _ _ _ _ _ _ _ _ _ _ _ _ _ _ _ _ _ _ _ _ _ _ _ _ _ _ _ _ _ _ _ _ _ _ _ _ _ _ _ _ _ _ _ _ _ _ _ _ _ _ _ _ _ _ _ _ _ _ _ _ _ (fun w2 G gb gd zs y6 X O y40 J h y D H R y47 q y49 B y51 y52 p u t N A y58 l y60 r y62 y63 I hG => ?_);have q3:w2.cell? ⟨w.heap.size+1+1,0,none⟩=some (.slice ga d.ops.length gc):=by rw [cell_of_row w2 (w.heap.size+1+1) 0 _ _ _ hG.out];rfl
 have q4:w2.cell? ⟨w.heap.size+1+1,1,none⟩=some (.slice gb d.frags.length gd):=by rw [cell_of_row w2 (w.heap.size+1+1) 1 _ _ _ hG.out];rfl
 have q5:w2.cell? ⟨w.heap.size+1,0,none⟩=some (.slice none 0 0):=by rw [cell_of_row w2 (w.heap.size+1) 0 _ _ _ hG.box2];rfl
 have q6:w2.cell? ⟨w.heap.size+1,1,none⟩=some (.slice none 0 0):=by rw [cell_of_row w2 (w.heap.size+1) 1 _ _ _ hG.box2];rfl
 have q7  := frozen_of_row w2 (w.heap.size+1) 0 _ _ hG.box2;have q8  := frozen_of_row w2 (w.heap.size+1) 1 _ _ hG.box2;have hdone:=hG.done (.slice ga d.ops.length gc) (.slice gb d.frags.length gd);replace hdone:=(id hdone:Hid _);have hrow:Hid (((w2.setCell ⟨w.heap.size+1,0,none⟩ (.slice ga d.ops.length gc)).setCell ⟨w.heap.size+1,1,none⟩ (.slice gb d.frags.length gd)).heap[w.heap.size+1]?=some (.cells #[.slice ga d.ops.length gc,.slice gb d.frags.length gd] 28 (0,0))):=heap_setCell_same _ _ _ _ _ _ (heap_setCell_same _ _ _ _ _ _ hG.box2);replace hG:=(id hG:Hid _);replace hF:=(id hF:Hid _);clear hK0 hst LA LB;unfold bJT;simp [Tryz.f9,bB,sndC];show Code.wp _ _ _ _ _;go_wp2;rw [<- hQ.out];try simp only
 refine bodyPost_ret (results_cell_row rfl _ _ (w.heap.size+1) 28 _ (0,0) _ rfl hrow.out Tryz.underlying28 rfl (by kernel_rfl)) rfl ?_;exact ⟨G,ga,gc,ys,gb,gd,zs,u2,u3,u4,rfl,hdone.out⟩
theorem aNR {w:World} {B e size g n cap:Nat} {xs} (h:w.ownsRow B e size (.slice (some ⟨g,0,none⟩) n cap) n xs) j v (m:j<xs.length) :
  (w.setCell ⟨g,j,none⟩ v).ownsRow B e size (.slice (some ⟨g,0,none⟩) n cap) n (xs.set j v):=by
 refine ⟨by rw [aaO];exact h.1,?_⟩;rcases h.2 with ⟨hv,_⟩ | ⟨g',d,b,hv,k,f,c,a,l,i⟩;· grind
 cases hv;refine .inr ⟨g,cap,b.setIfInBounds j v,rfl,k,?_,c,a,by grind,?_⟩;· simp [World.setCell,Array.getElem?_modify,f]
 rw [Array.toList_setIfInBounds,List.take_set,i]
theorem bFw {w:World} {B e size g n cap:Nat} {xs} (h:w.ownsRow B e size (.slice (some ⟨g,0,none⟩) n cap) n xs) {j v} (hv:xs[j]?=some v):w.cell? ⟨g,j,none⟩=some v/\w.frozen? ⟨g,j,none⟩=false:=by
 have b:=h.cells (g:=g) rfl j v hv;rw [addN,aae] at b;refine ⟨b,?_⟩;rcases h.2 with ⟨hv,_⟩ | ⟨g',a,c,hv,f,d,_⟩;· grind
 cases hv;exact frozen_of_row _ _ _ _ _ d
def OpAt (M:Mem) (l:List GOp) (ys:List Value):Prop:=ys.length=l.length*5/\∀ i x,l[i]?=some x->∃ c a b,OCV M x c a b/\∀ j u,(aEZ x c a b)[j]?=some u->ys[i*5+j]?=some u
theorem OpRow.at' {M l ys} (h:OpRow M l ys):OpAt M l ys:=⟨aUq h,bFp h⟩
theorem OpAt.mono {M M' l ys} (h:OpAt M l ys) (e:∀ b i v,M b i=some v->M' b i=some v):OpAt M' l ys :=
 ⟨h.1,fun i x d=>by obtain ⟨a,b,c,g,f⟩:=h.2 i x d;exact ⟨a,b,c,g.mono e,f⟩⟩
theorem aPW {M M' B'} {w:World} {l ys v} (h:OpAt M l ys) (o:w.ownsRow B' 37 5 v l.length ys) (q:∀ b i v,M b i=some v->M' b i=some v) (n:∀ g arr T fz,v.ownBlock=some g->w.heap[g]?=some (.cells arr T fz)->∀ i,M' g i=arr[i]?):Rv M' noB (.slice (List.map cO l) [] false) v:=by
 refine aIH o n _ (by simp) ?_ ?_;· intro p d;obtain ⟨x,_,rfl⟩:=aah.1 d;rw [pJ];exact ⟨rfl,rfl,rfl,by decide⟩
 intro i p j c d a;rw [aa9] at d;cases f:l[i]? with
 | none=>rw [f] at d;simp at d
 | some x =>
  rw [f] at d;simp at d;subst d;obtain ⟨t,r,s,e,k⟩:=h.2 i x f;have e:=e.mono q;have m  := by
   have:=(aa2.1 a).1;rw [pJ] at this;exact this
  rw [pJ] at a;match j,m,a with
  | 0,_,a=>cases a;exact ⟨_,k 0 _ rfl,.int _ _⟩
  | 1,_,a=>cases a;exact ⟨_,by grind,.str _⟩
  | 2,_,a=>cases a;exact ⟨_,by grind,e.r2⟩
  | 3,_,a=>cases a;exact ⟨_,by grind,e.r3⟩
  | 4,_,a=>cases a;exact ⟨_,by grind,e.r4⟩
theorem OpAt.set {M l ys} (h:OpAt M l ys) {k x a} (g:l[k]?=some x) (w:a.kind=x.kind) (A:a.name=x.name) (r:a.vars=x.vars) {c d} (p:Rv M noB (.slice (List.map bJ a.dirs) [] false) c) (s:Rv M noB (.slice (List.map aH a.sels) [] false) d) :
  OpAt M (l.set k a) ((ys.set (k*5+3) c).set (k*5+4) d):=by
 have t  := (aa2.1 g).1;refine ⟨by rw [aaO,aaO,aaO];exact h.1,fun i y hy => ?_⟩;have n:=h.1;by_cases b:i=k;· subst b;rw [ab9 t] at hy;cases hy;obtain ⟨o,q,v,m,f⟩:=h.2 i x g;refine ⟨o,c,d,⟨by rw [r];exact m.r2,p,s⟩,fun j u z => ?_⟩;grind
 rw [aaC (fun e=>b e.symm)] at hy;obtain ⟨o,q,v,m,f⟩:=h.2 i y hy;grind
def FrAt (M:Mem) (l:List GFrag) (ys:List Value):Prop:=ys.length=l.length*4/\∀ i x,l[i]?=some x->∃ b a,FCV M x b a/\∀ j u,(aIJ x b a)[j]?=some u->ys[i*4+j]?=some u
theorem FrRow.at' {M l ys} (h:FrRow M l ys):FrAt M l ys:=⟨aUr h,bFq h⟩
theorem FrAt.mono {M M' l ys} (h:FrAt M l ys) (d:∀ b i v,M b i=some v->M' b i=some v):FrAt M' l ys :=
 ⟨h.1,fun i x c=>by obtain ⟨a,b,f,e⟩:=h.2 i x c;exact ⟨a,b,f.mono d,e⟩⟩
theorem aPX {M M' B'} {w:World} {l ys v} (h:FrAt M l ys) (o:w.ownsRow B' 49 4 v l.length ys) (q:∀ b i v,M b i=some v->M' b i=some v) (n:∀ g arr T fz,v.ownBlock=some g->w.heap[g]?=some (.cells arr T fz)->∀ i,M' g i=arr[i]?):Rv M' noB (.slice (List.map aL l) [] false) v:=by
 refine aIH o n _ (by simp) ?_ ?_;· intro p d;obtain ⟨x,_,rfl⟩:=aah.1 d;rw [iU];exact ⟨rfl,rfl,rfl,by decide⟩
 intro i p j c d a;rw [aa9] at d;cases f:l[i]? with
 | none=>rw [f] at d;simp at d
 | some x =>
  rw [f] at d;simp at d;subst d;obtain ⟨s,r,e,k⟩:=h.2 i x f;have e:=e.mono q;have m  := by
   have:=(aa2.1 a).1;exact this
  match j,m,a with
  | 0,_,a=>cases a;exact ⟨_,k 0 _ rfl,.str _⟩
  | 1,_,a=>cases a;exact ⟨_,by grind,.str _⟩
  | 2,_,a=>cases a;exact ⟨_,by grind,e.r2⟩
  | 3,_,a=>cases a;exact ⟨_,by grind,e.r3⟩
theorem FrAt.set {M l ys} (h:FrAt M l ys) {k x b} (g:l[k]?=some x) (t:b.name=x.name) (w:b.on_=x.on_) {c d} (n:Rv M noB (.slice (List.map bJ b.dirs) [] false) c) (q:Rv M noB (.slice (List.map aH b.sels) [] false) d) :
  FrAt M (l.set k b) ((ys.set (k*4+2) c).set (k*4+3) d):=by
 have r  := (aa2.1 g).1;refine ⟨by rw [aaO,aaO,aaO];exact h.1,fun i y hy => ?_⟩;have m:=h.1;by_cases a:i=k;· subst a;rw [ab9 r] at hy;cases hy;obtain ⟨o,s,p,f⟩:=h.2 i x g;refine ⟨c,d,⟨n,q⟩,fun j u v => ?_⟩;grind
 rw [aaC (fun e=>a e.symm)] at hy;obtain ⟨o,s,p,f⟩:=h.2 i y hy;grind
structure DS (m B E:Nat) (M:Mem) (w:World) (ops:List GOp) (frags:List GFrag) (va:Value) (ys:List Value) (vf:Value) (zs:List Value) (u2 u3 u4:Value):Prop where
 ownA:w.ownsRow B 37 5 va ops.length ys
 own:w.ownsRow B 49 4 vf frags.length zs
 rowsA:aFU M m u2 u3 u4 ops ys
 rows:FrRow M frags zs
 foA:∀ g,va.ownBlock=some g->∀ i,M g i=none
 fo:∀ g,vf.ownBlock=some g->∀ i,M g i=none
 ne:∀ g,va.ownBlock=some g->vf.ownBlock≠some g
 mrk:∀ x,ops[m]?=some x->MO B M w x u2 u3 u4/\∀ g,Own2 u4 g->va.ownBlock≠some g/\vf.ownBlock≠some g
 isx:m<ops.length
 hi:∀ g,(va.ownBlock=some g∨vf.ownBlock=some g∨Own2 u4 g)->B<=g/\g<E
theorem DQ.ds {m d c f M i w b a frags j k ys l} (h:DQ m d c f M w i b a frags j ys k l) (n:m<a.length):DS m w.heap.size b.heap.size i b a frags j ys k l d c f:=by
 refine ⟨h.ownA,h.own,h.rowsA,h.rows,h.foA,h.fo,h.ne,h.mrk,n,?_⟩;rintro g (e | e | e);· exact h.ownA.lt g e
 ·exact h.own.lt g e
 exact (h.mrk _ (aa4 n)).1.lt g e
theorem DS.move {m B E M M' w w' c frags o p ys q l j n} (h:DS m B E M w c frags o ys p q l j n) (e:∀ b i v,M b i=some v->M' b i=some v) (f:∀ k,B<=k->k<E->w'.heap[k]?=w.heap[k]?) (d:∀ k,B<=k->k<E->∀ i,M' k i=M k i):DS m B E M' w' c frags o ys p q l j n:=by
 refine ⟨kJ h.ownA fun g a=>f g (h.hi g (.inl a)).1 (h.hi g (.inl a)).2,kJ h.own fun g a=>f g (h.hi g (by grind)).1 (h.hi g (by grind)).2,h.rowsA.mono e,h.rows.mono e,fun g a i=>(d g (h.hi g (.inl a)).1 (h.hi g (.inl a)).2 i).trans (h.foA g a i),fun g a i=>(d g (h.hi g (by grind)).1 (h.hi g (by grind)).2 i).trans (h.fo g a i),h.ne,fun x r => ?_,h.isx,h.hi⟩;obtain ⟨t,s⟩:=h.mrk x r;exact ⟨t.move e (fun k u=>f k (h.hi k (by grind)).1 (h.hi k (by grind)).2) (fun k u=>d k (h.hi k (by grind)).1 (h.hi k (by grind)).2),s⟩
theorem DS.quiet {m B E M M' w w' a frags e f ys g c b d} (h:DS m B E M w a frags e ys f g c b d) (q:Quiet M w M' w') (j:E<=w.heap.size):DS m B E M' w' a frags e ys f g c b d :=
 h.move q.mem (fun k _ i=>(q.old k (by omega)).1) (fun k _ i=>(q.old k (by omega)).2)
theorem DS.put {m B E M M' w w' c frags p F ys O V Q C s t l} (h:DS m B E M w c frags p ys F O V Q C) (hE:E<=w.heap.size) {x} (L:c[m]?=some x) A (W:A.kind=x.kind) (T:A.name=x.name)
  (I:∀ b i v,M b i=some v->M' b i=some v) (q:∀ b,b<w.heap.size->∀ i,M' b i=M b i) (Y:∀ b,b<w.heap.size->p.ownBlock≠some b->¬ Own2 C b->w'.heap[b]?=w.heap[b]?)
  (U:w'.ownsRow B 37 5 p c.length (((ys.set (m*5+2) s).set (m*5+3) t).set (m*5+4) l)) (P:MO B M' w' A s t l) (R:∀ k,Own2 l k->Own2 C k∨w.heap.size<=k) (hs:w.heap.size<=w'.heap.size) :
  DS m B w'.heap.size M' w' (c.set m A) frags p (((ys.set (m*5+2) s).set (m*5+3) t).set (m*5+4) l) F O s t l:=by
 obtain ⟨Z,N⟩:=h.mrk x L;have z:=h.rowsA.1;have o:=h.isx;have r:∀ k,Own2 l k->p.ownBlock≠some k/\F.ownBlock≠some k:=fun k S=>by
  rcases R k S with e | e;· exact N k e
  exact ⟨fun D=>by have:=(h.hi k (.inl D)).2;omega,fun D=>by have:=(h.hi k (.inr (.inl D))).2;omega⟩
 refine ⟨by rw [aaO];exact U,kJ h.own fun g d=>Y g (by have:=(h.hi g (.inr (.inl d))).2;omega) (fun e=>h.ne g e d) (fun e=>(N g e).2 d),⟨?_,fun i y hy => ?_⟩,h.rows.mono I,fun g d i=>(q g (by have:=(h.hi g (.inl d)).2;omega) i).trans (h.foA g d i),fun g d i=>(q g (by have:=(h.hi g (.inr (.inl d))).2;omega) i).trans (h.fo g d i),h.ne,fun y hy => ?_,by rw [aaO];exact o,?_⟩;· simp;exact z
 ·by_cases n:i=m
  ·subst n;rw [ab9 o] at hy;cases hy;obtain ⟨K,G,J,_,f⟩:=h.rowsA.2 i x L;refine ⟨s,t,l,by simp,fun j u a => ?_⟩;have H  := by have:=(aa2.1 a).1;simpa using this
   match j,H,a with
   | 0,_,a=>rw [aaC (by omega),aaC (by omega),aaC (by omega)];cases a;rw [W];exact f 0 _ rfl
   | 1,_,a=>rw [aaC (by omega),aaC (by omega),aaC (by omega)];cases a;rw [T];exact f 1 _ rfl
   | 2,_,a=>rw [aaC (by omega),aaC (by omega),ab9 (by omega)];exact a
   | 3,_,a=>rw [aaC (by omega),ab9 (by rw [aaO];omega)];exact a
   | 4,_,a=>rw [ab9 (by simp;omega)];exact a
  rw [aaC (fun e=>n e.symm)] at hy;obtain ⟨K,G,J,X,f⟩:=h.rowsA.2 i y hy;refine ⟨K,G,J,.inr (X.elim (fun e=>absurd e.1 n) fun e=>⟨e.1,e.2.mono I⟩),fun j u a => ?_⟩;have H  := by have:=(aa2.1 a).1;simpa using this
  rw [aaC (by omega),aaC (by omega),aaC (by omega)];exact f j u a
 ·rw [ab9 o] at hy;cases hy;exact ⟨P,r⟩
 rintro g (e | e | e);· have:=h.hi g (.inl e);omega
 ·have:=h.hi g (.inr (.inl e));omega
 exact P.lt g e
theorem DS.rv {m B E d M w a frags j l ys z v o q} (h:DS m B E M w a frags j ys l z v o q) (b:Cons M w) (f:d<=B) :
  Rv (frzM d M w) noB (.agg [(.slice (List.map cO a) [] false),(.slice (List.map aL frags) [] false)]) (.agg #[j,l]):=by
 have e:=aUp (B:=d) b;have t:OpAt (frzM d M w) a ys:=by
  refine ⟨h.rowsA.1,fun i x n => ?_⟩;obtain ⟨u,p,s,g,y⟩:=h.rowsA.2 i x n;refine ⟨u,p,s,?_,y⟩;rcases g with ⟨rfl,rfl,rfl,rfl⟩ | ⟨_,g⟩;· obtain ⟨k,_⟩:=h.mrk x n;exact ⟨k.r2.mono e (fun _ _ _ h=>h),k.r3.mono e (fun _ _ _ h=>h),k.o4.rvM b f⟩
  exact g.mono e
 have r  := (h.rows.mono e).at';have C:=aPW t h.ownA (fun _ _ _ h=>h) (aNP h.ownA f);have D:=aPX r h.own (fun _ _ _ h=>h) (aNP h.own f);refine .agg _ _ (fun i=>(#[j,l]:Array Value).getD i undef) rfl (fun i A => ?_) (fun i c b => ?_);· simp_all
 match i,b with
 | 0,b=>simp_all
 | 1,b=>simp_all
theorem DS.at_ {m B E M w a frags f k ys l c b d} (h:DS m B E M w a frags f ys k l c b d):∃ g n cap,f = .slice (some ⟨g,0,none⟩) n cap/\n=a.length/\ys[m*5+2]?=some c/\ys[m*5+3]?=some b/\ys[m*5+4]?=some d:=by
 obtain ⟨s,o,r,i,q⟩:=h.rowsA.2 m _ (aa4 h.isx);rcases i with ⟨_,rfl,rfl,rfl⟩ | ⟨e,_⟩
 ·rcases h.ownA.2 with ⟨e,p⟩ | ⟨g,cap,j,e,_⟩;· have:=h.isx;omega
  grind
 omega
theorem aYC {α:Type} {l:List α} {i:Nat} {a:α} (h:l[i]?=some a):l.set i a=l:=by
 obtain ⟨hi,rfl⟩:=aa2.1 h
 exact List.set_getElem_self hi
theorem DS.put4 {m B E:Nat} {M M':Mem} {w w':World} {ops:List GOp} {frags:List GFrag} {va vf:Value} {ys zs:List Value} {u2 u3 u4 t4:Value} (h:DS m B E M w ops frags va ys vf zs u2 u3 u4) (hE:E<=w.heap.size) {x:GOp} (hx:ops[m]?=some x) (sels:List GSel)
  (hM:∀ b i v,M b i=some v->M' b i=some v) (hMo:∀ b,b<w.heap.size->∀ i,M' b i=M b i) (hb:∀ b,b<w.heap.size->va.ownBlock≠some b->u4.ownBlock≠some b->w'.heap[b]?=w.heap[b]?)
  (hA:w'.ownsRow B 37 5 va ops.length (ys.set (m*5+4) t4)) (ho:OwnL B M' w' 40 7 (List.map aH sels) t4) (ht:∀ k,t4.ownBlock=some k->u4.ownBlock=some k∨w.heap.size<=k) (hs:w.heap.size<=w'.heap.size) :
  DS m B w'.heap.size M' w' (ops.set m ⟨x.kind,x.name,x.vars,x.dirs,sels⟩) frags va (ys.set (m*5+4) t4) vf zs u2 u3 t4:=by
 obtain ⟨h1,h2⟩:=h.mrk x hx
 obtain ⟨_,_,_,_,_,e2,e3,e4⟩:=h.at_
 have e:((ys.set (m*5+2) u2).set (m*5+3) u3).set (m*5+4) t4=ys.set (m*5+4) t4:=by rw [aYC e2,aYC e3]
 rw [<- e] at hA ⊢
 exact h.put hE hx ⟨x.kind,x.name,x.vars,x.dirs,sels⟩ rfl rfl hM hMo hb hA ⟨h1.r2.mono hM (fun _ _ _ h=>h),h1.r3.mono hM (fun _ _ _ h=>h),ho⟩ ht hs
def at_:List Value->Nat->Value
 | [],_=>undef
 | v::_,0=>v
 | _::l,n+1=>at_ l n
def AllL:Nat->(List Value->Prop)->Prop
 | 0,P=>P []
 | n+1,P=>∀ v,AllL n fun l=>P (v::l)
theorem eR:∀ (n:Nat) (P:List Value->Prop),AllL n P->∀ l,l.length=n->P l
 | 0,P,h,l,e=>by cases l with | nil=>exact h | cons v l=>simp at e
 | n+1,P,h,l,e=>by
  cases l with
  | nil=>simp at e
  | cons v l=>exact eR n (fun l=>P (v::l)) (h v) l (by simpa using e)
theorem aIM:∀ (l:List Value) (i:Nat),l.toArray.getD i undef=at_ l i
 | [],i=>by simp [at_]
 | v::l,0=>by simp [at_]
 | v::l,i+1=>by have:=aIM l i;simpa [at_] using this
def FV (l:List Value):List (Nat×Value)->Prop
 | []=>True
 | (i,v)::r=>at_ l i=v/\FV l r
open Go Go.Ev Go.Ev.PV
def sa:Nat->List HV->List HV
 | 0,l=>l
 | n+1,l => .same::sa n l
def tτ:Tb:=[⟨false,[.str]⟩,⟨false,[(.int .i64)]⟩,⟨true,[(.sl 3 1048576 false),.str,.str]⟩,⟨true,[(.int .i64),.str,(.sl 0 1048576 false),(.sl 4 1048576 false),(.sl 0 1048576 false),(.sl 5 1048576 false)]⟩,⟨true,[.str,(.sl 5 1048576 false),.str,(.int .i64),(.int .i64),(.sl 8 1048576 false)]⟩,⟨true,[.str,.str,(.int .i64),(.int .i64),.bool,(.int .i64),(.int .i64),.str,(.sl 6 1048576 false),(.sl 7 1048576 false)]⟩,⟨true,[(.int .i64),(.int .i64),.str,(.sl 6 1048576 false),(.sl 7 1048576 false)]⟩,⟨true,[.str,(.int .i64),(.int .i64),.str,(.sl 6 1048576 false),(.sl 7 1048576 false)]⟩,⟨true,[.str,(.sl 7 1048576 false)]⟩,⟨true,[(.sl 10 1048576 false),(.sl 13 1048576 false)]⟩,⟨true,[(.int .i64),.str,(.sl 11 1048576 false),(.sl 8 1048576 false),(.sl 12 1048576 false)]⟩,⟨true,[.str,.str,(.int .i64),(.int .i64),.bool,(.int .i64),(.int .i64),.str,(.sl 6 1048576 false),(.sl 7 1048576 false)]⟩,⟨true,[(.int .i64),.str,.str,(.sl 7 1048576 false),(.sl 8 1048576 false),.str,(.sl 12 1048576 false)]⟩,⟨true,[.str,.str,(.sl 8 1048576 false),(.sl 12 1048576 false)]⟩,⟨false,[(.sl 8 1048576 false)]⟩,⟨true,[.str,(.int .i64),(.int .i64)]⟩,⟨true,[.str,(.int .i64),.str,.str,(.sl 7 1048576 false),(.sl 8 1048576 false),.str,(.sl 12 1048576 false)]⟩,⟨true,[.str,.str,(.int .i64),(.int .i64),.bool]⟩,⟨true,[(.int .i64),(.int .i64),.str,.str,(.sl 7 1048576 false),(.sl 8 1048576 false),.str,(.sl 12 1048576 false),.str,(.sl 18 1048576 false)]⟩]
def cf (s:STb) (r:List (FuncId×Summ×Nat)) (me:Nat) (ag:Bool) (l:List (Nat×LH)):Cfg:={τ:=tτ,sums:=s,recs:=r,me:=me,meAg:=ag,loops:=l}
def cg (s:STb) (r:List (FuncId×Summ×Nat)) (me:Nat) (ag:Bool) (l:List (Nat×LH)) (np:Nat):Cfg:={τ:=tτ,sums:=s,recs:=r,me:=me,meAg:=ag,loops:=l,cap:=2097152,np:=np}
abbrev Ds (f:FuncId) (sm:Summ):Prop:=aK5 Tryz.prog MT XT tτ f sm
theorem bL s:eV s=s.length+1:=rfl
theorem lfSl {α:Type} {τ} {n a enc} {l:List α} (h:∀ x∈l,ElOk τ (elOf τ n) (enc x)) (c:l.length<=a):LfOk τ (.sl n a false) (.slice (l.map enc) [] false):=by
 refine .sl (fun e b => ?_) (by grind);grind
theorem bJU x (a:aAJ x<=1048576):ElOk tτ (elOf tτ 15) (rJ x):=by
 simp [jA,bL] at a;exact .ag (.cons (.str (by unfold topL;omega)) (.cons (.int _ _) (.cons (.int _ _) (.nil))))
theorem okVM:∀ n,n<=1048576->(∀ x,bY x<=n->ElOk tτ (elOf tτ 6) (aW x))/\(∀ x,aV x<=n->ElOk tτ (elOf tτ 7) (aE x)):=by
 intro n;induction n with
 | zero=>intro _;exact ⟨fun x h=>by rw [cS] at h;omega,fun x h=>by rw [dG] at h;omega⟩
 | succ n i =>
  intro j;obtain ⟨g,c⟩:=i (by omega);have b:=g;have a:=c;refine ⟨fun x e => ?_,fun x e => ?_⟩;· simp [cS,bL] at e;rw [eK];change ElOk tτ ⟨true,[(.int .i64),(.int .i64),.str,(.sl 6 1048576 false),(.sl 7 1048576 false)]⟩ _;exact .ag (.cons (.int _ _) (.cons (.int _ _) (.cons (.str (by unfold topL;omega)) (.cons (lfSl (fun y hy=>b y (by have:=iY (f:=bY) hy;omega)) (by have:=fQ (f:=bY) (fun d=>by rw [cS];omega) x.l;omega)) (.cons (lfSl (fun y hy=>a y (by have:=iY (f:=aV) hy;omega)) (by have:=fQ (f:=aV) (fun d=>by rw [dG];omega) x.m;omega)) (.nil))))))
  
  simp [dG,cS,bL] at e;rw [lQ];change ElOk tτ ⟨true,[.str,(.int .i64),(.int .i64),.str,(.sl 6 1048576 false),(.sl 7 1048576 false)]⟩ _;exact .ag (.cons (.str (by unfold topL;omega)) (.cons (.int _ _) (.cons (.int _ _) (.cons (.str (by unfold topL;omega)) (.cons (lfSl (fun y hy=>b y (by have:=iY (f:=bY) hy;omega)) (by have:=fQ (f:=bY) (fun d=>by rw [cS];omega) x.v.l;omega)) (.cons (lfSl (fun y hy=>a y (by have:=iY (f:=aV) hy;omega)) (by have:=fQ (f:=aV) (fun d=>by rw [dG];omega) x.v.m;omega)) (.nil)))))))
theorem aRA x (h:bY x<=1048576):ElOk tτ (elOf tτ 6) (aW x):=(okVM _ (by omega)).1 x h
theorem aLL x (h:aV x<=1048576):ElOk tτ (elOf tτ 7) (aE x):=(okVM _ (by omega)).2 x h
theorem bDr x (a:eG x<=1048576):ElOk tτ (elOf tτ 5) (bR x):=by
 simp [pK,jA,cS,bL] at a;exact .ag (.cons (.str (by unfold topL;omega)) (.cons (.str (by unfold topL;omega)) (.cons (.int _ _) (.cons (.int _ _) (.cons (.bool _) (.cons (.int _ _) (.cons (.int _ _) (.cons (.str (by unfold topL;omega)) (.cons (lfSl (fun y hy=>aRA y (by have:=iY (f:=bY) hy;omega)) (by have:=fQ (f:=bY) (fun d=>by rw [cS];omega) x.default.l;omega)) (.cons (lfSl (fun y hy=>aLL y (by have:=iY (f:=aV) hy;omega)) (by have:=fQ (f:=aV) (fun d=>by rw [dG];omega) x.default.m;omega)) (.nil)))))))))))
theorem bDs x (a:gF x<=1048576):ElOk tτ (elOf tτ 8) (bJ x):=by
 simp [jF,bL] at a;exact .ag (.cons (.str (by unfold topL;omega)) (.cons (lfSl (fun y hy=>aLL y (by have:=iY (f:=aV) hy;omega)) (by have:=fQ (f:=aV) (fun d=>by rw [dG];omega) x.args;omega)) (.nil)))
theorem bAx x (a:jR x<=1048576):ElOk tτ (elOf tτ 4) (cJ x):=by
 simp [lZ,jA,bL] at a;exact .ag (.cons (.str (by unfold topL;omega)) (.cons (lfSl (fun y hy=>bDr y (by have:=iY (f:=eG) hy;omega)) (by have:=fQ (f:=eG) (fun d=>by rw [pK];omega) x.params;omega)) (.cons (.str (by unfold topL;omega)) (.cons (.int _ _) (.cons (.int _ _) (.cons (lfSl (fun y hy=>bDs y (by have:=iY (f:=gF) hy;omega)) (by have:=fQ (f:=gF) (fun d=>by rw [jF];omega) x.dirs;omega)) (.nil)))))))
theorem bKE x (a:aJd x<=1048576):ElOk tτ (elOf tτ 3) (bN x):=by
 simp [pL,bL] at a;rw [oI];change ElOk tτ ⟨true,[(.int .i64),.str,(.sl 0 1048576 false),(.sl 4 1048576 false),(.sl 0 1048576 false),(.sl 5 1048576 false)]⟩ _;exact .ag (.cons (.int _ _) (.cons (.str (by unfold topL;omega)) (.cons (lfSl (fun y hy => .one (.str (by have:=iY (f:=eV) hy;rw [bL] at this;unfold topL;omega))) (by have:=fQ (f:=eV) (fun d=>by rw [bL];omega) x.faces;omega)) (.cons (lfSl (fun y hy=>bAx y (by have:=iY (f:=jR) hy;omega)) (by have:=fQ (f:=jR) (fun d=>by rw [lZ];omega) x.fields;omega)) (.cons (lfSl (fun y hy => .one (.str (by have:=iY (f:=eV) hy;rw [bL] at this;unfold topL;omega))) (by have:=fQ (f:=eV) (fun d=>by rw [bL];omega) x.parts;omega)) (.cons (lfSl (fun y hy=>bDr y (by have:=iY (f:=eG) hy;omega)) (by have:=fQ (f:=eG) (fun d=>by rw [pK];omega) x.params;omega)) (.nil)))))))
theorem aIN x (a:eH x<=1048576):ElOk tτ (elOf tτ 2) (fF x):=by
 simp [oL,bL] at a;exact .ag (.cons (lfSl (fun y hy=>bKE y (by have:=iY (f:=aJd) hy;omega)) (by have:=fQ (f:=aJd) (fun d=>by rw [pL];omega) x.defs;omega)) (.cons (.str (by unfold topL;omega)) (.cons (.str (by unfold topL;omega)) (.nil))))
theorem bFx x (a:mA x<=1048576):ElOk tτ (elOf tτ 11) (cK x):=by
 simp [jB,jA,cS,bL] at a;exact .ag (.cons (.str (by unfold topL;omega)) (.cons (.str (by unfold topL;omega)) (.cons (.int _ _) (.cons (.int _ _) (.cons (.bool _) (.cons (.int _ _) (.cons (.int _ _) (.cons (.str (by unfold topL;omega)) (.cons (lfSl (fun y hy=>aRA y (by have:=iY (f:=bY) hy;omega)) (by have:=fQ (f:=bY) (fun d=>by rw [cS];omega) x.default.l;omega)) (.cons (lfSl (fun y hy=>aLL y (by have:=iY (f:=aV) hy;omega)) (by have:=fQ (f:=aV) (fun d=>by rw [dG];omega) x.default.m;omega)) (.nil)))))))))))
theorem bJV:∀ n,n<=1048576->∀ x,cZ x<=n->ElOk tτ (elOf tτ 12) (aH x):=by
 intro n;induction n with
 | zero=>intro _ x h;rw [eN] at h;omega
 | succ n b =>
  intro e x c;have a:=b (by omega);simp [eN,bL] at c;rw [iZ];change ElOk tτ ⟨true,[(.int .i64),.str,.str,(.sl 7 1048576 false),(.sl 8 1048576 false),.str,(.sl 12 1048576 false)]⟩ _;exact .ag (.cons (.int _ _) (.cons (.str (by unfold topL;omega)) (.cons (.str (by unfold topL;omega)) (.cons (lfSl (fun y hy=>aLL y (by have:=iY (f:=aV) hy;omega)) (by have:=fQ (f:=aV) (fun d=>by rw [dG];omega) x.args;omega)) (.cons (lfSl (fun y hy=>bDs y (by have:=iY (f:=gF) hy;omega)) (by have:=fQ (f:=gF) (fun d=>by rw [jF];omega) x.dirs;omega)) (.cons (.str (by unfold topL;omega)) (.cons (lfSl (fun y hy=>a y (by have:=iY (f:=cZ) hy;omega)) (by have:=fQ (f:=cZ) (fun d=>by rw [eN];omega) x.sels;omega)) (.nil))))))))
theorem bFy x (h:cZ x<=1048576):ElOk tτ (elOf tτ 12) (aH x):=bJV _ (by omega) x h
theorem okOp x (a:bkOp x<=1048576):ElOk tτ (elOf tτ 10) (cO x):=by
 simp [kN,bL] at a;exact .ag (.cons (.int _ _) (.cons (.str (by unfold topL;omega)) (.cons (lfSl (fun y hy=>bFx y (by have:=iY (f:=mA) hy;omega)) (by have:=fQ (f:=mA) (fun d=>by rw [jB];omega) x.vars;omega)) (.cons (lfSl (fun y hy=>bDs y (by have:=iY (f:=gF) hy;omega)) (by have:=fQ (f:=gF) (fun d=>by rw [jF];omega) x.dirs;omega)) (.cons (lfSl (fun y hy=>bFy y (by have:=iY (f:=cZ) hy;omega)) (by have:=fQ (f:=cZ) (fun d=>by rw [eN];omega) x.sels;omega)) (.nil))))))
theorem bJW x (a:dQ x<=1048576):ElOk tτ (elOf tτ 13) (aL x):=by
 simp [mR,bL] at a;exact .ag (.cons (.str (by unfold topL;omega)) (.cons (.str (by unfold topL;omega)) (.cons (lfSl (fun y hy=>bDs y (by have:=iY (f:=gF) hy;omega)) (by have:=fQ (f:=gF) (fun d=>by rw [jF];omega) x.dirs;omega)) (.cons (lfSl (fun y hy=>bFy y (by have:=iY (f:=cZ) hy;omega)) (by have:=fQ (f:=cZ) (fun d=>by rw [eN];omega) x.sels;omega)) (.nil)))))
theorem bFz x (a:dY x<=1048576):ElOk tτ (elOf tτ 9) (tB x):=by
 simp [mB] at a;exact .ag (.cons (lfSl (fun y hy=>okOp y (by have:=iY (f:=bkOp) hy;omega)) (by have:=fQ (f:=bkOp) (fun d=>by rw [kN];omega) x.ops;omega)) (.cons (lfSl (fun y hy=>bJW y (by have:=iY (f:=dQ) hy;omega)) (by have:=fQ (f:=dQ) (fun d=>by rw [mR];omega) x.frags;omega)) (.nil)))
abbrev eL0:El:=⟨false,[.bool]⟩
abbrev eL1:El:=⟨true,[(.sl 3 1048576 false),.str,.str]⟩
abbrev eL2:El:=⟨false,[(.int .i64)]⟩
abbrev eL3:El:=⟨false,[.str]⟩
abbrev eL4:El:=⟨true,[(.sl 10 1048576 false),(.sl 13 1048576 false)]⟩
abbrev eL5:El:=⟨false,[.sl 0 16777216 false]⟩
abbrev eL6:El:=⟨true,[(.int .i64),(.int .i64),.str,(.sl 6 1048576 false),(.sl 7 1048576 false)]⟩
abbrev eL7:El:=⟨false,[.sl 5 16777216 false]⟩
abbrev eL8:El:=⟨true,[.str,(.int .i64),(.int .i64)]⟩
abbrev eL9:El:=⟨false,[.sl 7 16777216 false]⟩
abbrev eL10:El:=⟨false,[.sl 12 16777216 false]⟩
abbrev eL11:El:=⟨false,[.sl 8 16777216 false]⟩
abbrev eL12:El:=⟨true,[.str,.str,(.int .i64),(.int .i64),.bool,(.int .i64),(.int .i64),.str,(.sl 6 1048576 false),(.sl 7 1048576 false)]⟩
abbrev eL13:El:=⟨true,[.str,(.sl 5 1048576 false),.str,(.int .i64),(.int .i64),(.sl 8 1048576 false)]⟩
abbrev eL14:El:=⟨true,[(.int .i64),.str,(.sl 0 1048576 false),(.sl 4 1048576 false),(.sl 0 1048576 false),(.sl 5 1048576 false)]⟩
abbrev eL15:El:=⟨true,[.str,(.int .i64),.str,.str,(.sl 7 1048576 false),(.sl 8 1048576 false),.str,(.sl 12 1048576 false)]⟩
abbrev eL16:El:=⟨false,[.sl 11 16777216 false]⟩
abbrev Dn (f:FuncId) (S:Summ):Prop:=aK5 Tryz.prog MT XT tτ f S
abbrev sN (i o:List El):Summ:=⟨i,o,0⟩
abbrev sC (i o:List El):Summ:=⟨i,o,2097152⟩
def hD (l:List Nat):List HV:=l.map fun | 0 => .same | 1 => .lf (.int .i64) | _ => .acc 0 0 1
def lH (h:List HV) (c t:Nat) (k:List (Option Nat)):LH:=⟨h,c,t,k.map fun k=>(k,h)⟩
theorem df {f:FuncId} {fn:Func} {sm:Summ} {l:STb} (L:List (Nat×LH)) (hf:Tryz.prog.funcs[f]?=some fn) (hs:∀ g s,(g,s)∈l->aK5 Tryz.prog MT XT tτ g s) (h:aFun Tryz.prog (MT f) fn.ntmps {τ:=tτ,sums:=l,recs:=[],me:=0,meAg:=false,loops:=L} fn sm=true:=by kernel_rfl) (hx:XT f=none:=by rfl):Dn f sm:=aYo hf hx rfl hs h
theorem dc {f:FuncId} {fn:Func} {sm:Summ} {l:STb} (n:Nat) (L:List (Nat×LH)) (hf:Tryz.prog.funcs[f]?=some fn) (hs:∀ g s,(g,s)∈l->aK5 Tryz.prog MT XT tτ g s) (h:aFun Tryz.prog (MT f) fn.ntmps {τ:=tτ,sums:=l,recs:=[],me:=0,meAg:=false,loops:=L,cap:=2097152,np:=n} fn sm=true:=by kernel_rfl) (hx:XT f=none:=by rfl):Dn f sm:=aYo hf hx rfl hs h
def bFA:Summ:=sN [eL3] [⟨false,[.sl 1 1073741824 false]⟩,eL0]
def bAy:Summ:=sN [eL3] [eL2,eL2]
def bIa:Summ:=sC [eL6,⟨false,[.sl 0 16777216 true]⟩] [⟨false,[.sl 0 16777216 true]⟩]
def bFB:Summ:=sC [eL1,eL8,eL6,eL0] [eL0]
def bFC:Summ:=sC [eL1] [eL0]
def bFD:Summ:=sC [eL1,eL4] [⟨false,[.sl 16 4194304 false]⟩]
def bFE:Summ:=sC [eL4,eL10] [eL5]
def bIb:Summ:=sC [eL4,eL10] [eL5]
def bAz:Summ:=sC [eL1,eL4,⟨true,[(.int .i64),.str,(.sl 11 1048576 false),(.sl 8 1048576 false),(.sl 12 1048576 false)]⟩] [⟨false,[.sl 17 16777216 false]⟩]
theorem aQ {τ} {l a vs} (h:CsOk τ (l::a) vs):∃ v r,vs=v::r/\LfOk τ l v/\CsOk τ a r:=by
 cases h with | cons h b=>grind
theorem aCa {τ} {vs} (h:CsOk τ [] vs):vs=[]:=by cases h;rfl
theorem nA {τ} {v} (h:LfOk τ .str v):∃ s,v = .str s/\s.length<=topL:=by cases h with | str h=>grind
theorem sL {τ} {k v} (h:LfOk τ (.int k) v):∃ n,v = .int k n:=by cases h with | int k n=>simp
theorem aRB {τ} {v} (h:LfOk τ .bool v):∃ b,v = .bool b:=by cases h with | bool b=>simp
theorem tY {τ} {n a o v} (h:LfOk τ (.sl n a o) v):∃ es,v = .slice es [] o/\(∀ e,e∈es->ElOk τ (elOf τ n) e)/\es.length<=a:=by cases h with | sl h b=>grind
theorem dK {α:Type} {f:α->PV}:∀ {es},(∀ e,e∈es->∃ x,e=f x)->∃ l,es=List.map f l
 | [],_=>⟨[],rfl⟩
 | e::es,h=>by
  obtain ⟨x,rfl⟩:=h e (by simp);obtain ⟨l,rfl⟩:=dK (f:=f) (es:=es) (fun e a=>by grind);exact ⟨x::l,rfl⟩
theorem bDt {e} (h:ElOk tτ ⟨false,[.str]⟩ e):∃ s,e=PV.str s:=by
 cases h with | one h=>obtain ⟨s,rfl,_⟩:=nA h;simp
theorem bIc {e} (h:ElOk tτ (elOf tτ 15) e):∃ x,e=rJ x:=by
 cases h with
 | ag j =>
  obtain ⟨_,_,rfl,g,a⟩:=aQ j;obtain ⟨v0,rfl,_⟩:=nA g;obtain ⟨_,_,rfl,f,b⟩:=aQ a;obtain ⟨i,rfl⟩:=sL f;obtain ⟨_,_,rfl,d,c⟩:=aQ b;obtain ⟨k,rfl⟩:=sL d;cases aCa c;exact ⟨⟨v0,i,k⟩,by rw [pI]⟩
theorem bJX:∀ n,(∀ e,bX e<=n->ElOk tτ (elOf tτ 6) e->∃ x,e=aW x)/\(∀ e,bX e<=n->ElOk tτ (elOf tτ 7) e->∃ x,e=aE x):=by
 intro n;induction n with
 | zero =>
  refine ⟨fun e d => ?_,fun e d => ?_⟩<;>(exfalso;cases e<;>simp [bX] at d<;>omega)
 | succ n F =>
  obtain ⟨b,a⟩:=F;refine ⟨fun e d h => ?_,fun e d h => ?_⟩
  ·change ElOk tτ ⟨true,[(.int .i64),(.int .i64),.str,(.sl 6 1048576 false),(.sl 7 1048576 false)]⟩ e at h;cases h with
   | ag y =>
    obtain ⟨_,_,rfl,w,i⟩:=aQ y;obtain ⟨v0,rfl⟩:=sL w;obtain ⟨_,_,rfl,q,l⟩:=aQ i;obtain ⟨B,rfl⟩:=sL q;obtain ⟨_,_,rfl,z,k⟩:=aQ l;obtain ⟨u,rfl,_⟩:=nA z;obtain ⟨_,_,rfl,v,j⟩:=aQ k;obtain ⟨G,rfl,C,_⟩:=tY v;obtain ⟨_,_,rfl,p,g⟩:=aQ j;obtain ⟨r,rfl,m,_⟩:=tY p;cases aCa g;obtain ⟨o,rfl⟩:=dK (f:=aW) (fun e c=>b e (by have:=rY c;simp [bX,gC] at d;omega) (C e c));obtain ⟨t,rfl⟩:=dK (f:=aE) (fun e c=>a e (by have:=rY c;simp [bX,gC] at d;omega) (m e c));exact ⟨⟨v0,B,u,o,t⟩,by rw [eK]⟩
  change ElOk tτ ⟨true,[.str,(.int .i64),(.int .i64),.str,(.sl 6 1048576 false),(.sl 7 1048576 false)]⟩ e at h;cases h with
  | ag y =>
   obtain ⟨_,_,rfl,w,i⟩:=aQ y;obtain ⟨v0,rfl,_⟩:=nA w;obtain ⟨_,_,rfl,q,l⟩:=aQ i;obtain ⟨B,rfl⟩:=sL q;obtain ⟨_,_,rfl,z,k⟩:=aQ l;obtain ⟨u,rfl⟩:=sL z;obtain ⟨_,_,rfl,v,j⟩:=aQ k;obtain ⟨o,rfl,_⟩:=nA v;obtain ⟨_,_,rfl,p,g⟩:=aQ j;obtain ⟨r,rfl,m,_⟩:=tY p;obtain ⟨_,_,rfl,H,A⟩:=aQ g;obtain ⟨E,rfl,s,_⟩:=tY H;cases aCa A;obtain ⟨t,rfl⟩:=dK (f:=aW) (fun e c=>b e (by have:=rY c;simp [bX,gC] at d;omega) (m e c));obtain ⟨D,rfl⟩:=dK (f:=aE) (fun e c=>a e (by have:=rY c;simp [bX,gC] at d;omega) (s e c));exact ⟨⟨v0,⟨B,u,o,t,D⟩⟩,by rw [lQ]⟩
theorem aLM {e} (h:ElOk tτ (elOf tτ 6) e):∃ x,e=aW x:=(bJX (bX e)).1 e (by omega) h
theorem aIO {e} (h:ElOk tτ (elOf tτ 7) e):∃ x,e=aE x:=(bJX (bX e)).2 e (by omega) h
theorem aYD {e} (h:ElOk tτ (elOf tτ 5) e):∃ x,e=bR x:=by
 cases h with
 | ag o =>
  obtain ⟨_,_,rfl,n,hs1⟩:=aQ o;obtain ⟨v0,rfl,_⟩:=nA n;obtain ⟨_,_,rfl,i,hs2⟩:=aQ hs1;obtain ⟨r,rfl,_⟩:=nA i;obtain ⟨_,_,rfl,p,hs3⟩:=aQ hs2;obtain ⟨l,rfl⟩:=sL p;obtain ⟨_,_,rfl,m,hs4⟩:=aQ hs3;obtain ⟨v3,rfl⟩:=sL m;obtain ⟨_,_,rfl,d,hs5⟩:=aQ hs4;obtain ⟨j,rfl⟩:=aRB d;obtain ⟨_,_,rfl,t,hs6⟩:=aQ hs5;obtain ⟨v5,rfl⟩:=sL t;obtain ⟨_,_,rfl,b,hs7⟩:=aQ hs6;obtain ⟨g,rfl⟩:=sL b;obtain ⟨_,_,rfl,q,hs8⟩:=aQ hs7;obtain ⟨k,rfl,_⟩:=nA q;obtain ⟨_,_,rfl,c,hs9⟩:=aQ hs8;obtain ⟨es8,rfl,he8,_⟩:=tY c;obtain ⟨_,_,rfl,h9,hs10⟩:=aQ hs9;obtain ⟨s,rfl,he9,_⟩:=tY h9;cases aCa hs10;obtain ⟨u,rfl⟩:=dK (f:=aW) (fun e he=>aLM (he8 e he));obtain ⟨a,rfl⟩:=dK (f:=aE) (fun e he=>aIO (he9 e he));exact ⟨⟨v0,⟨r,l,v3⟩,j,⟨v5,g,k,u,a⟩⟩,by rw [kM]⟩
theorem aYE {e} (h:ElOk tτ (elOf tτ 8) e):∃ x,e=bJ x:=by
 cases h with
 | ag l =>
  obtain ⟨_,_,rfl,i,b⟩:=aQ l;obtain ⟨v0,rfl,_⟩:=nA i;obtain ⟨_,_,rfl,g,c⟩:=aQ b;obtain ⟨d,rfl,a,_⟩:=tY g;cases aCa c;obtain ⟨j,rfl⟩:=dK (f:=aE) (fun e k=>aIO (a e k));exact ⟨⟨v0,j⟩,by rw [vU]⟩
theorem aW9 {e} (h:ElOk tτ (elOf tτ 4) e):∃ x,e=cJ x:=by
 cases h with
 | ag w =>
  obtain ⟨_,_,rfl,v,d⟩:=aQ w;obtain ⟨v0,rfl,_⟩:=nA v;obtain ⟨_,_,rfl,r,l⟩:=aQ d;obtain ⟨q,rfl,a,_⟩:=tY r;obtain ⟨_,_,rfl,y,j⟩:=aQ l;obtain ⟨t,rfl,_⟩:=nA y;obtain ⟨_,_,rfl,u,g⟩:=aQ j;obtain ⟨m,rfl⟩:=sL u;obtain ⟨_,_,rfl,p,b⟩:=aQ g;obtain ⟨s,rfl⟩:=sL p;obtain ⟨_,_,rfl,A,k⟩:=aQ b;obtain ⟨o,rfl,c,_⟩:=tY A;cases aCa k;obtain ⟨z,rfl⟩:=dK (f:=bR) (fun e i=>aYD (a e i));obtain ⟨n,rfl⟩:=dK (f:=bJ) (fun e i=>aYE (c e i));exact ⟨⟨v0,z,⟨t,m,s⟩,n⟩,by rw [fE]⟩
theorem bJY {e} (h:ElOk tτ (elOf tτ 3) e):∃ x,e=bN x:=by
 cases h with
 | ag B =>
  obtain ⟨_,_,rfl,A,g⟩:=aQ B;obtain ⟨v0,rfl⟩:=sL A;obtain ⟨_,_,rfl,t,m⟩:=aQ g;obtain ⟨D,rfl,_⟩:=nA t;obtain ⟨_,_,rfl,C,j⟩:=aQ m;obtain ⟨q,rfl,d,_⟩:=tY C;obtain ⟨_,_,rfl,y,i⟩:=aQ j;obtain ⟨z,rfl,l,_⟩:=tY y;obtain ⟨_,_,rfl,s,b⟩:=aQ i;obtain ⟨u,rfl,n,_⟩:=tY s;obtain ⟨_,_,rfl,E,k⟩:=aQ b;obtain ⟨r,rfl,c,_⟩:=tY E;cases aCa k;obtain ⟨w,rfl⟩:=dK (f:=PV.str) (fun e a=>bDt (d e a));obtain ⟨p,rfl⟩:=dK (f:=cJ) (fun e a=>aW9 (l e a));obtain ⟨v,rfl⟩:=dK (f:=PV.str) (fun e a=>bDt (n e a));obtain ⟨o,rfl⟩:=dK (f:=bR) (fun e a=>aYD (c e a));exact ⟨⟨v0,D,w,p,v,o⟩,by rw [oI]⟩
theorem aIP {e} (h:ElOk tτ (elOf tτ 2) e):∃ x,e=fF x:=by
 cases h with
 | ag j =>
  obtain ⟨_,_,rfl,g,a⟩:=aQ j;obtain ⟨m,rfl,b,_⟩:=tY g;obtain ⟨_,_,rfl,l,d⟩:=aQ a;obtain ⟨n,rfl,_⟩:=nA l;obtain ⟨_,_,rfl,k,c⟩:=aQ d;obtain ⟨o,rfl,_⟩:=nA k;cases aCa c;obtain ⟨v0,rfl⟩:=dK (f:=bN) (fun e i=>bJY (b e i));exact ⟨⟨v0,n,o⟩,by rw [lS]⟩
theorem bDu {e} (h:ElOk tτ (elOf tτ 11) e):∃ x,e=cK x:=by
 cases h with
 | ag o =>
  obtain ⟨_,_,rfl,n,hs1⟩:=aQ o;obtain ⟨v0,rfl,_⟩:=nA n;obtain ⟨_,_,rfl,i,hs2⟩:=aQ hs1;obtain ⟨r,rfl,_⟩:=nA i;obtain ⟨_,_,rfl,p,hs3⟩:=aQ hs2;obtain ⟨l,rfl⟩:=sL p;obtain ⟨_,_,rfl,m,hs4⟩:=aQ hs3;obtain ⟨v3,rfl⟩:=sL m;obtain ⟨_,_,rfl,d,hs5⟩:=aQ hs4;obtain ⟨j,rfl⟩:=aRB d;obtain ⟨_,_,rfl,t,hs6⟩:=aQ hs5;obtain ⟨v5,rfl⟩:=sL t;obtain ⟨_,_,rfl,b,hs7⟩:=aQ hs6;obtain ⟨g,rfl⟩:=sL b;obtain ⟨_,_,rfl,q,hs8⟩:=aQ hs7;obtain ⟨k,rfl,_⟩:=nA q;obtain ⟨_,_,rfl,c,hs9⟩:=aQ hs8;obtain ⟨es8,rfl,he8,_⟩:=tY c;obtain ⟨_,_,rfl,h9,hs10⟩:=aQ hs9;obtain ⟨s,rfl,he9,_⟩:=tY h9;cases aCa hs10;obtain ⟨u,rfl⟩:=dK (f:=aW) (fun e he=>aLM (he8 e he));obtain ⟨a,rfl⟩:=dK (f:=aE) (fun e he=>aIO (he9 e he));exact ⟨⟨v0,⟨r,l,v3⟩,j,⟨v5,g,k,u,a⟩⟩,by rw [kC]⟩
theorem bId:∀ n,∀ e,bX e<=n->ElOk tτ (elOf tτ 12) e->∃ x,e=aH x:=by
 intro n;induction n with
 | zero =>
  intro e hp;cases e<;>simp [bX] at hp<;>omega
 | succ n ihSel =>
  intro e hp h;cases h with
  | ag p =>
   obtain ⟨_,_,rfl,o,hs1⟩:=aQ p;obtain ⟨v0,rfl⟩:=sL o;obtain ⟨_,_,rfl,g,hs2⟩:=aQ hs1;obtain ⟨s,rfl,_⟩:=nA g;obtain ⟨_,_,rfl,q,hs3⟩:=aQ hs2;obtain ⟨k,rfl,_⟩:=nA q;obtain ⟨_,_,rfl,l,hs4⟩:=aQ hs3;obtain ⟨m,rfl,he3,_⟩:=tY l;obtain ⟨_,_,rfl,c,hs5⟩:=aQ hs4;obtain ⟨i,rfl,he4,_⟩:=tY c;obtain ⟨_,_,rfl,t,hs6⟩:=aQ hs5;obtain ⟨a,rfl,_⟩:=nA t;obtain ⟨_,_,rfl,b,hs7⟩:=aQ hs6;obtain ⟨r,rfl,he6,_⟩:=tY b;cases aCa hs7;obtain ⟨v3,rfl⟩:=dK (f:=aE) (fun e he=>aIO (he3 e he));obtain ⟨j,rfl⟩:=dK (f:=bJ) (fun e he=>aYE (he4 e he));obtain ⟨d,rfl⟩:=dK (f:=aH) (fun e he=>ihSel e (by have:=rY he;simp [bX,gC] at hp;omega) (he6 e he));exact ⟨⟨v0,s,k,v3,j,a,d⟩,by rw [iZ]⟩
theorem aYF {e} (h:ElOk tτ (elOf tτ 12) e):∃ x,e=aH x:=bId (bX e) e (by omega) h
theorem bJZ {e} (h:ElOk tτ (elOf tτ 10) e):∃ x,e=cO x:=by
 cases h with
 | ag r =>
  obtain ⟨_,_,rfl,q,d⟩:=aQ r;obtain ⟨v0,rfl⟩:=sL q;obtain ⟨_,_,rfl,u,k⟩:=aQ d;obtain ⟨v,rfl,_⟩:=nA u;obtain ⟨_,_,rfl,t,i⟩:=aQ k;obtain ⟨p,rfl,b,_⟩:=tY t;obtain ⟨_,_,rfl,n,g⟩:=aQ i;obtain ⟨m,rfl,j,_⟩:=tY n;obtain ⟨_,_,rfl,s,c⟩:=aQ g;obtain ⟨w,rfl,l,_⟩:=tY s;cases aCa c;obtain ⟨z,rfl⟩:=dK (f:=cK) (fun e a=>bDu (b e a));obtain ⟨o,rfl⟩:=dK (f:=bJ) (fun e a=>aYE (j e a));obtain ⟨y,rfl⟩:=dK (f:=aH) (fun e a=>aYF (l e a));exact ⟨⟨v0,v,z,o,y⟩,by rw [pJ]⟩
theorem bIe {e} (h:ElOk tτ (elOf tτ 13) e):∃ x,e=aL x:=by
 cases h with
 | ag p =>
  obtain ⟨_,_,rfl,o,b⟩:=aQ p;obtain ⟨v0,rfl,_⟩:=nA o;obtain ⟨_,_,rfl,r,j⟩:=aQ b;obtain ⟨s,rfl,_⟩:=nA r;obtain ⟨_,_,rfl,q,g⟩:=aQ j;obtain ⟨n,rfl,a,_⟩:=tY q;obtain ⟨_,_,rfl,l,d⟩:=aQ g;obtain ⟨k,rfl,i,_⟩:=tY l;cases aCa d;obtain ⟨t,rfl⟩:=dK (f:=bJ) (fun e c=>aYE (a e c));obtain ⟨m,rfl⟩:=dK (f:=aH) (fun e c=>aYF (i e c));exact ⟨⟨v0,s,t,m⟩,by rw [iU]⟩
theorem aYG {e} (h:ElOk tτ (elOf tτ 9) e):∃ x,e=tB x:=by
 cases h with
 | ag j =>
  obtain ⟨_,_,rfl,i,a⟩:=aQ j;obtain ⟨m,rfl,c,_⟩:=tY i;obtain ⟨_,_,rfl,l,g⟩:=aQ a;obtain ⟨k,rfl,b,_⟩:=tY l;cases aCa g;obtain ⟨v0,rfl⟩:=dK (f:=cO) (fun e d=>bJZ (c e d));obtain ⟨n,rfl⟩:=dK (f:=aL) (fun e d=>bIe (b e d));exact ⟨⟨v0,n⟩,by rw [aBM]⟩
mutual
def varN:GValue->List Str
 | ⟨k,_,s,l,m⟩=>bif k==8 then [s] else bif k==6 then aLl l else bif k==7 then wL m else []
def aLl:List GValue->List Str
 | []=>[]
 | x::l=>varN x++aLl l
def aXa:GMember->List Str
 | ⟨_,v⟩=>varN v
def wL:List GMember->List Str
 | []=>[]
 | x::l=>aXa x++wL l
end
theorem bIf v:varN v=bif v.kind==8 then [v.s] else bif v.kind==6 then aLl v.l else bif v.kind==7 then wL v.m else []:=by cases v;simp [varN]
theorem aYH x:aXa x=varN x.v:=by cases x;simp [aXa]
mutual
theorem aJX:∀ v:GValue,(varN v).length<=szV v
 | ⟨k,n,s,l,m⟩=>by
  have b:=aYI l;have a:=aRC m;simp [varN,szV];grind
theorem aYI:∀ l:List GValue,(aLl l).length<=szVs l
 | []=>by simp [aLl]
 | x::l=>by have:=aJX x;have:=aYI l;simp only [aLl,szVs,aar];omega
theorem bFF:∀ x:GMember,(aXa x).length<=szM x
 | ⟨n,v⟩=>by have:=aJX v;simp only [aXa,szM];omega
theorem aRC:∀ l:List GMember,(wL l).length<=szMs l
 | []=>by simp [wL]
 | x::l=>by have:=bFF x;have:=aRC l;simp only [wL,szMs,aar];omega
end
theorem aUw {l x} (h:x∈l):addD l x=l:=by unfold addD;grind
theorem bFG {l x} (h:x∉l):addD l x=l++[x]:=by
 unfold addD;grind
theorem aUx:∀ (L a b:List Str),(L.foldl addD a).foldl addD b=L.foldl addD (a.foldl addD b)
 | [],a,b=>rfl
 | x::L,a,b=>by
  rw [aaW,aUx L (addD a x) b,aaW];by_cases h:x∈a;· rw [aUw h,aUw ((fK _ _ _).2 (.inr h))]
  rw [bFG h,abl];rfl
theorem bKF (L a:List Str):(L.foldl addD []).foldl addD a=L.foldl addD a:=aUx L [] a
theorem aNS : ∀ n v l, szV v <= n -> l.length + szV v < 1073741824 -> aWf v l = some ((varN v).foldl addD l) := by
 intro n;induction n with
 | zero => intro v l h; have := aB8 v; omega
 | succ n z =>
  intro v l h M;have hv := aB8 v;have L := aLJ v.l;have N := aFE v.m;have y : ∀ F, (v.kind == 6) = F -> True := fun _ _ => trivial;apply aWD;simp only [bCS, aNk, cx];rw [bIf];have d : ∀ a , (v.kind == 6) = false -> cW (iE v) (a, 0) = some a := by
   intro a e;apply cG;simp only [iE, pR, e, jN, aFd, cx]
  have c : ∀ a , (v.kind == 7) = false -> cW (iF v) (a, 0) = some a := by
   intro a f;apply cG;simp only [iF, pT, f, jN, aFd, cx]
  cases D : v.kind == 8
  ·cases e : v.kind == 6
   ·cases f : v.kind == 7;· simp only [jN, cond_false, d l e, c l f, bF]; rfl
    have i := iJ (b := iF v) v.m (fun k a => (a, k)) (fun r a => (wL r).foldl addD a) (fun k a => a.length + szMs (v.m.drop k) < 1073741824) (by show v.m.length < _; omega)
     (by intro a _; simp [iF, pT, wL, cx])
     (by
      intro k x r a w p o q t u j;rw [o] at j;simp only [szMs] at j;have g : v.m.drop (k + 1) = r := by rw [<- List.tail_drop, o]; rfl
      have G := aC9 w;have B := aID x;have K := aJX x.v;have H := mZ (varN x.v) a;refine .inr ⟨(varN x.v).foldl addD a, ?_, ?_, ?_⟩;· simp only [iF, pT, f, q, eS, t, bF, u, z x.v a (by omega) (by omega), cx]
      ·rw [g]; omega
      simp only [wL, aYH, abl]) (s := (l, 0)) (a := l) rfl (by simp; omega)
    simp only [jN, eS, cond_false, cond_true, d l e, i, bF]
   have i := iJ (b := iE v) v.l (fun k a => (a, k)) (fun r a => (aLl r).foldl addD a) (fun k a => a.length + szVs (v.l.drop k) < 1073741824) (by show v.l.length < _; omega)
    (by intro a _; simp [iE, pR, aLl, cx])
    (by
     intro k x r a w p o q t u j;rw [o] at j;simp only [szVs] at j;have g : v.l.drop (k + 1) = r := by rw [<- List.tail_drop, o]; rfl
     have G := aIE w;have K := aJX x;have H := mZ (varN x) a;refine .inr ⟨(varN x).foldl addD a, ?_, ?_, ?_⟩;· simp only [iE, pR, e, q, eS, t, bF, u, z x a (by omega) (by omega), cx]
     ·rw [g]; omega
     simp [aLl, abl]) (s := (l, 0)) (a := l) rfl (by simp; omega)
   have f : (v.kind == 7) = false := by
    have : v.kind = 6 := by simpa using e
    rw [this]; rfl
   simp [jN, eS, cond_false, cond_true, i, c _ f, bF]
  have C : tapp l [v.s] = some (l ++ [v.s]) := gM (by simp [gY]; omega);have p : v.kind = 8 := by simpa using D
  have e : (v.kind == 6) = false := by rw [p]; rfl
  have f : (v.kind == 7) = false := by rw [p]; rfl
  have A : ∀ a , cW (iE v) (a, 0) = some a := by
   intro a; apply cG; simp [iE, pR, e, jN, aFd, cx]
  have E : ∀ a , cW (iF v) (a, 0) = some a := by
   intro a; apply cG; simp [iF, pT, f, jN, aFd, cx]
  have J : ∀ a , cW (iE v) (a, 0) = some a := by
   intro a; apply cG; simp [iE, pR, e, jN, aFd, cx]
  have I : ∀ a , cW (iF v) (a, 0) = some a := by
   intro a; apply cG; simp [iF, pT, f, jN, aFd, cx]
  simp only [eS, cond_true, tT l v.s (by omega), bF, C, A, E, J, I, aaW, addD];cases l.contains v.s <;> rfl
theorem bAA v (h:szV v<1073741824):aWs v=some ((varN v).foldl addD []) :=
 aW5 (by simp [aUd,aNS _ v [] (aa1 _) (by grind),cx])
def aHk:List GDir->List Str
 | []=>[]
 | d::l=>wL d.args++aHk l
mutual
def aRD:GSel->List Str
 | ⟨_,_,_,b,a,_,l⟩=>wL b++(aHk a++useS l)
def useS:List GSel->List Str
 | []=>[]
 | x::l=>aRD x++useS l
end
theorem bFH x:aRD x=wL x.args++(aHk x.dirs++useS x.sels):=by cases x;simp [aRD]
theorem aLN l:(wL l).length<=bkSl aV l:=by
 have:=aRC l;have:=aNN l;rw [kD] at this;have e:bkSl aV l=sumL aV l+1:=rfl;omega
theorem aRE:∀ l,(aHk l).length<=sumL gF l
 | []=>by simp [aHk]
 | d::l=>by
  have b:=aRE l;have a:=aLN d.args;simp [aHk,sumL,jF];omega
mutual
theorem aYJ:∀ x:GSel,(aRD x).length<=cZ x
 | ⟨k,a,n,c,b,o,l⟩=>by
  have h:=aNT l;have e:=aLN c;have d:=aRE b;rw [eN];simp [aRD];have i:bkSl gF b=sumL gF b+1:=rfl;have f:bkSl cZ l=sumL cZ l+1:=rfl;have g:=bK l;omega
theorem aNT:∀ l:List GSel,(useS l).length<=aK l
 | []=>by simp [useS]
 | x::l=>by have:=aYJ x;have:=aNT l;simp only [useS,aK,aar];omega
end
theorem bDv (L:List Str):(L.foldl addD []).length<=L.length:=by have:=mZ L [];grind
theorem bAB L c (h : c.length + L.length < 1073741824) : cW (aAn L) (c, 0) = some (L.foldl addD c) :=
 aBJ (b := aAn L) L (fun k a => (a, k)) addD id (fun k a => a.length + (L.length - k) < 1073741824) (by omega)
  (by simp [aAn, aFA, cx])
  (by
   intro k x a l i g e f j;have d : tapp a [x] = some (a ++ [x]) := gM (by simp [gY]; omega);have := aRy a x;refine ⟨?_, by omega⟩;simp only [aAn, aFA, g, e, bF, f, tT a x (by omega), d, addD, cx];cases a.contains x <;> rfl) (s := (c, 0)) (a := c) rfl (by omega)
theorem aPY m c (h : c.length + bkSl aV m < 1073741824) : aWo m c = some ((wL m).foldl addD c) := by
 apply aW2;have q := aNN m;rw [kD] at q;have e : bkSl aV m = sumL aV m + 1 := rfl;have g := aFE m;have d := iJ (b := aC2 m) m (fun k a => (a, k)) (fun r a => (wL r).foldl addD a) (fun k a => a.length + szMs (m.drop k) < 1073741824) (by omega)
  (by simp [aC2, aFB, wL, cx])
  (by
   intro k x r a z y f p j n i;rw [f] at i;simp [szMs] at i;have t : m.drop (k + 1) = r := by rw [<- List.tail_drop, f]; rfl
   have o := aID x;have w := aJX x.v;have u := mZ (varN x.v) a;have l := bDv (varN x.v);refine .inr ⟨(varN x.v).foldl addD a, ?_, ?_, ?_⟩;· simp only [aC2, aFB, p, eS, j, bF, n, bAA x.v (by omega), bAB _ a (show a.length + ((varN x.v).foldl addD []).length < _ by omega), bKF, cx]
   ·grind
   simp [wL, aYH]) (s := (c, 0)) (a := c) rfl (by grind)
 simp [aT7, d, cx]
theorem aXb l (i : Nat) x (f : nthI l i = some x) c (h : c.length + bkSl gF x.dirs < 1073741824) :
  cW (oX l i) (c, 0) = some ((aHk x.dirs).foldl addD c) := by
 have j := gR gF (fun d => by rw [jF]; omega) x.dirs;have e : bkSl gF x.dirs = sumL gF x.dirs + 1 := rfl;exact iJ (b := oX l i) x.dirs (fun k a => (a, k)) (fun r a => (aHk r).foldl addD a) (fun k a => a.length + sumL gF (x.dirs.drop k) < 1073741824) (by omega)
  (by simp [oX, vL, f, aHk, cx])
  (by
   intro k d r a y v g p n o m;rw [g] at m;simp [sumL] at m;have t : x.dirs.drop (k + 1) = r := by rw [<- List.tail_drop, g]; rfl
   have w := jF d;have q := aLN d.args;have u := mZ (wL d.args) a;refine .inr ⟨(wL d.args).foldl addD a, ?_, ?_, ?_⟩;· simp only [oX, vL, f, bF, p, eS, n, o, aPY d.args a (by omega), cx]
   ·grind
   simp [aHk]) (s := (c, 0)) (a := c) rfl (by grind)
theorem aUy : ∀ n l c, aK l <= n -> c.length + aK l < 1073741824 -> aCy l c = some ((useS l).foldl addD c) := by
 intro n;induction n with
 | zero =>
  intro l c h g;have := fP l;have u : l = [] := abB.1 (by omega);subst u;apply aEH;simp [aIs, yC, cx];rw [cG (r := c) (by simp [oY, qS, cx])];rfl
 | succ n p =>
  intro l c h g;apply aEH;simp [aIs, yC, cx];have m := fP l;have e := iJ (b := oY l) l (fun k a => (a, k)) (fun r a => (useS r).foldl addD a) (fun k a => a.length + aK (l.drop k) < 1073741824) (by show l.length < _; omega)
   (by intro a _; simp [oY, qS, useS, cx])
   (by
    intro k x r a w z i q j t f;rw [i] at f;simp [aK] at f;have d : l.drop (k + 1) = r := by rw [<- List.tail_drop, i]; rfl
    have C := pX w;have o := gV x;have v := eN x;have E := bK x.sels;have y : bkSl cZ x.sels = sumL cZ x.sels + 1 := rfl;have F : bkSl gF x.dirs = sumL gF x.dirs + 1 := rfl;have b1 := aLN x.args;have b2 := aRE x.dirs;have D := aNT x.sels;have A := mZ (wL x.args) a;have B := mZ (aHk x.dirs) ((wL x.args).foldl addD a);refine .inr ⟨(aRD x).foldl addD a, ?_, ?_, ?_⟩;· rw [bFH, abl, abl];simp only [oY, qS, q, eS, j, bF, t, aPY x.args a (by omega), aXb l k x j ((wL x.args).foldl addD a) (by omega), p x.sels ((aHk x.dirs).foldl addD ((wL x.args).foldl addD a)) (by omega) (by omega), cx]
    ·rw [d];have := mZ (aRD x) a;have := aYJ x;omega
    simp [useS]) (s := (c, 0)) (a := c) rfl (by simpa using g)
  rw [e]; rfl
theorem aGp l a (h:a.length+aK l<1073741824):aCy l a=some ((useS l).foldl addD a):=aUy _ l a (aa1 _) h
theorem aUz:∀ (x y:Str),Op.bytesLess x y=true↔x<y
 | [],[]=>by simp [Op.bytesLess]
 | _::_,[]=>by simp [Op.bytesLess]
 | [],_::_=>by simp [Op.bytesLess]
 | a::x,b::y=>by rw [Op.bytesLess,List.cons_lt_cons_iff,aay,aa0,aUz x y,beq_iff_eq,decide_eq_true_eq]
abbrev Ris (l:List Str):Prop:=l.Pairwise (· < ·)
theorem Ris.nodup {l} (h:Ris l):l.Nodup:=h.imp fun h e=>by grind
theorem aIQ:∀ l s x,x∈insS l s↔x∈l∨x=s
 | [],s,x=>by simp [insS]
 | y::r,s,x=>by
  have a:=aIQ r s x;simp [insS];grind
theorem aRF:∀ l s,Ris l->Ris (insS l s)
 | [],s,h=>by simp [insS]
 | y::r,s,h=>by
  have c:=abp.1 h;simp [insS];split;· rename_i a;rw [aUz] at a;refine abp.2 ⟨fun z b => ?_,aRF r s c.2⟩;rcases (aIQ r s z).1 b with h | h;all_goals grind
  rename_i a;rw [aUz] at a;split;· exact h
  refine abp.2 ⟨fun z b => ?_,h⟩;grind
theorem aNU:∀ (a l:List Str) x,x∈a.foldl insS l↔x∈l∨x∈a
 | [],l,x=>by simp
 | n::a,l,x=>by rw [aaW,aNU a,aIQ,aa3,or_assoc]
theorem aNV:∀ (a l:List Str),Ris l->Ris (a.foldl insS l)
 | [],l,h=>h
 | n::a,l,h=>aNV a _ (aRF l n h)
theorem bDw:∀ l m,Ris l->Ris m->(∀ x,x∈l↔x∈m)->l=m
 | [],[],_,_,_=>rfl
 | [],y::m,_,_,h=>by have:=(h y).2 (by simp);grind
 | x::l,[],_,_,h=>by have:=(h x).1 (by simp);grind
 | x::l,y::m,c,d,h=>by
  have b:=abp.1 c;have a:=abp.1 d;have e:x=y:=by
   rcases aa3.1 ((h x).1 (by simp)) with e | f;· exact e
   rcases aa3.1 ((h y).2 (by simp)) with e | hy;all_goals grind
  congr 1;refine bDw l m b.2 a.2 fun z => ?_;grind
end Go.Proofs.YtenmfogokijilaaGreat
