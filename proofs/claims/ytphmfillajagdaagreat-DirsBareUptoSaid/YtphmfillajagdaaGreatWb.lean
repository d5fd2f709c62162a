import Derived.Test.YtphmfillajagdaaGreatWa
import Derived.Test.YtphmfillajagdaaGreatGa
import Derived.KernelRfl
import Derived.Test.YtphmfillajagdaaGreatGc
import Derived.Test.YtphmfillajagdaaGreatEt
import Derived.LoopTactic
import Derived.WalkKit
import Derived.Deep.AppendLies
import Derived.Maps.OwnOps
import Derived.BigRegion
import Derived.Deep.RegionLaw
import Derived.Deep.RegionWith
import Derived.Laws.OwnMore
set_option maxRecDepth 100000
set_option linter.unusedVariables false
set_option linter.unusedSimpArgs false
set_option linter.unusedSimpArgs false
open Go Go.Ev
namespace Go.Proofs.YtphmfillajagdaaGreat
theorem aPh (s:GSchema) (typ:Str) (x:GSel) (h:SOk s):uM s typ x=some (pT s typ x):=by
 apply aLL
 simp only [xA,aRL s _ _ h,bQ,pT]
 cases x.kind==0<;>cases x.kind==2<;>cases x.on_==([]:Str)<;>rfl
theorem aVp (s:GSchema) (o:GOp):aHI s o=some (xM s o):=by
 apply aRo
 simp only [aD7,xM]
 cases o.kind==1<;>rfl
open Go Go.Ev
def aPi (n:Str):Bool:=n==([115,107,105,112]:Str)||n==([105,110,99,108,117,100,101]:Str)
theorem aMq (n:Str):∃ p,aBp n=some (p,aPi n):=by
 have:aBp n=some (bif aPi n then (⟨[105,102],⟨[66,111,111,108,101,97,110],0,1⟩,false,⟨0,0,[],[],[]⟩⟩,true) else (⟨[],⟨[],0,0⟩,false,⟨0,0,[],[],[]⟩⟩,false)):=by
  apply aJm
  simp only [sT,aPi]
  cases n==([115,107,105,112]:Str)<;>cases n==([105,110,99,108,117,100,101]:Str)<;>rfl
 rw [this]
 cases aPi n
 ·exact ⟨_,rfl⟩
 ·exact ⟨_,rfl⟩
def tA (l:List GDir):Bool:=l.all fun x=>aPi x.name
theorem aEr (l : List GDir) (h : Sm l) : aBq l = some (tA l) := by
 apply aJs
 have hk := vO (b := iG l) l (fun r => bif r.all fun x => aPi x.name then (.inl () : Unit ⊕ Unit) else .inr ()) h (by simp only [iG, aDJ, pK]; rfl)
  (fun k x r hx h1 h2 h3 => by
   obtain ⟨p, hp⟩ := aMq x.name
   simp only [iG, h1, h2, h3, bQ, fT, hp, List.all_cons]
   cases aPi x.name
   ·left; rfl
   ·right; exact ⟨rfl, rfl⟩)
 simp only [sU, hk, bQ, tA]
 cases l.all fun x => aPi x.name <;> rfl
theorem aMr (l:List GDir):aEW l=some ((l.length:Int)==0):=aJu (by simp only [sV])
def dupA:List Str→List Str→Bool
 | _,[]=>false
 | a,x::r=>a.contains x||dupA (a++[x]) r
def nA (l:List GDir):List Str:=l.map (·.name)
theorem aVq {α:Type} {l:List α} {k:Nat} {x:α} {r:List α} (h:l.drop k=x::r) (hk:k<l.length):l.take k++[x]=l.take (k+1):=by
 rw [List.take_succ_eq_append_getElem hk]
 rw [List.drop_eq_getElem_cons hk] at h
 rw [(List.cons.inj h).1]
theorem aVr {α:Type} (l:List α) (k:Nat) (h:k≤l.length):tslc l 0 (k:Int)=some (l.take k):=by
 unfold tslc
 simp;omega
theorem aF7 (l : List GDir) (h : Sm l) : aDX l = some (!dupA [] (nA l)) := by
 apply aLS
 have inner : ∀ (x : GDir) (m : List GDir), Sm m → bG (gW x m) 0 = some (bif (nA m).contains x.name then (.inr () : Unit ⊕ Unit) else .inl ()) := fun x m hm =>
  vO (b := gW x m) m (fun r => bif (nA r).contains x.name then (.inr () : Unit ⊕ Unit) else .inl ()) hm (by simp only [gW, aDJ, pK]; rfl)
   (fun k y r hy h1 h2 h3 => by
    have e : (y.name == x.name) = (x.name == y.name) := by rw [Bool.eq_iff_iff]; simp only [beq_iff_eq]; exact ⟨Eq.symm, Eq.symm⟩
    simp only [gW, h1, h2, h3, bQ, fT, nA, List.map_cons, List.contains_cons, e]
    cases x.name == y.name
    ·right; exact ⟨rfl, by simp⟩
    ·left; rfl)
 have hk := fF (b := jQ l) l (fun k (_ : List Str) => (k : Int)) (fun r a => !dupA a (nA r)) (fun k a => a = nA (l.take k)) h
  (fun a ha => by simp only [jQ, aDJ, pK]; rfl)
  (fun k x r a hx hk hd h1 h2 h3 ha => by
   subst ha
   simp only [jQ, h1, h2, h3, bQ, fT, aVr l k (by omega), inner x (l.take k) (by have := h; unfold Sm at *; simp; omega)]
   simp only [nA, List.map_cons, dupA]
   cases hq : (List.map (fun v : GDir => v.name) (l.take k)).contains x.name
   ·right; exact ⟨_, rfl, rfl, by rw [← aVq hd hk, List.map_append]; rfl⟩
   ·left; rfl) (s := 0) (a := []) rfl rfl
 simp only [xD, hk, bQ]
def ownD (d:GDoc):List (List GDir):=(d.ops.map (·.dirs))++d.frags.map (·.dirs)
theorem aDi (d : GDoc) (h : kO d < 500000000) : aDW d = some (ownD d) := by
 have hd := pF d
 have hol := gP bkOp aGP d.ops
 have hfl := gP dT vE d.frags
 apply aOl
 have k1 := fF (b := lO d) d.ops (fun k (a : List (List GDir)) => (a, (k : Int))) (fun r a => a ++ r.map (·.dirs)) (fun k a => a.length = k) (by show d.ops.length < _; omega)
  (fun a _ => by simp [lO])
  (fun k x r a hx hk hd h1 h2 h3 ha => by
   refine .inr ⟨a ++ [x.dirs], ?_, by simp [ha], by simp⟩
   simp only [lO, h1, h2, h3, bQ, fT, tJ (show a.length + [x.dirs].length ≤ lim by simp [tK]; omega)]) (s := ([], 0)) (a := []) rfl rfl
 have k2 := fF (b := lP d) d.frags (fun k (a : List (List GDir)) => (a, (k : Int))) (fun r a => a ++ r.map (·.dirs)) (fun k a => a.length = d.ops.length + k) (by show d.frags.length < _; omega)
  (fun a _ => by simp [lP])
  (fun k x r a hx hk hd h1 h2 h3 ha => by
   refine .inr ⟨a ++ [x.dirs], ?_, by simp [ha]; omega, by simp⟩
   simp only [lP, h1, h2, h3, bQ, fT, tJ (show a.length + [x.dirs].length ≤ lim by simp [tK]; omega)]) (s := ([] ++ d.ops.map (·.dirs), 0)) (a := [] ++ d.ops.map (·.dirs)) rfl (by simp)
 simp only [List.nil_append] at k1 k2
 simp only [aBw, k1, bQ, k2, ownD]
theorem bBt (d:GDoc) (h:kO d<500000000):Sm (ownD d):=by
 have hd:=pF d
 have hol:=gP bkOp aGP d.ops
 have hfl:=gP dT vE d.frags
 show (ownD d).length<_
 simp only [ownD,List.length_append,List.length_map];omega
theorem bCh (d:GDoc) (h:kO d<500000000):∀ l∈ownD d,Sm l:=by
 have hd:=pF d
 intro l hl
 rcases List.mem_append.1 hl with hl | hl
 ·obtain ⟨o,ho,rfl⟩:=List.mem_map.1 hl
  have h1:=fE bkOp ho
  rw [mO] at h1
  exact aVe aEe (by omega)
 ·obtain ⟨o,ho,rfl⟩:=List.mem_map.1 hl
  have h1:=fE dT ho
  rw [dY] at h1
  exact aVe aEe (by omega)
theorem aZF (d:GDoc) (h:kO d<500000000):aET d=some ((ownD d).all tA)∧vX d=some ((ownD d).all fun l=>(l.length:Int)==0)∧vY d=some ((ownD d).all fun l => !dupA [] (nA l)):=by
 have hs:=bBt d h
 have hl:=bCh d h
 have gen:∀ (p:List GDir→Bool) (b:Int→Option (Int⊕(Unit⊕Unit))),b ((ownD d).length:Int)=some (.inr (.inl ()))→(∀ (k:Nat) x,x∈ownD d→decide ((k:Int)<((ownD d).length:Int))=true→nthI (ownD d) (k:Int)=some x→IntKind.wrap .i64 ((k:Int)+1)=((k+1:Nat):Int)→b k=cnd (!p x) (some (.inr (.inr ()))) (some (.inl ((k+1:Nat):Int))))→bG b 0=some (bif (ownD d).all p then .inl () else .inr ()):=fun p b h0 h1 =>
  vO (b:=b) (ownD d) (fun r=>bif r.all p then (.inl ():Unit⊕Unit) else .inr ()) hs h0 fun k x r hm e1 e2 e3=>by
   rw [h1 k x hm e1 e2 e3]
   simp only [List.all_cons]
   cases p x
   ·exact .inl rfl
   ·exact .inr ⟨rfl,rfl⟩
 refine ⟨aI0 ?_,aE9 ?_,aFc ?_⟩
 ·have k1:=gen tA (iE (ownD d)) (by simp only [iE,aDJ,pK]) fun k x hm e1 e2 e3=>by
   simp only [iE,e1,fT,e2,bQ,e3,aEr x (hl x hm)]
  simp only [sM,aDi d h,bQ,k1]
  cases (ownD d).all tA<;>rfl
 ·have k1:=gen (fun l=>(l.length:Int)==0) (eI (ownD d)) (by simp only [eI,aDJ,pK]) fun k x hm e1 e2 e3=>by
   simp only [eI,e1,fT,e2,bQ,e3,aMr x]
  simp only [mV,aDi d h,bQ,k1]
  cases (ownD d).all fun l=>(l.length:Int)==0<;>rfl
 ·have k1:=gen (fun l => !dupA [] (nA l)) (eJ (ownD d)) (by simp only [eJ,aDJ,pK]) fun k x hm e1 e2 e3=>by
   simp only [eJ,e1,fT,e2,bQ,e3,aF7 x (hl x hm)]
  simp only [mW,aDi d h,bQ,k1]
  cases (ownD d).all fun l => !dupA [] (nA l)<;>rfl
theorem aTJ {x:GSel} (h:eU x<1073741824):Sm x.dirs:=by
 rw [fV] at h;exact aVe aEe (by omega)
theorem aXF (s:GSchema) (d:GDoc) (typ:Str) (x:GSel) (h:eU x<1073741824):rE typ x d s=some (tA x.dirs)∧mQ typ x d s=some (!dupA [] (nA x.dirs)) :=
 ⟨aCI (by simp only [jO,aEr _ (aTJ h),bQ]),yG (by simp only [fX,aF7 _ (aTJ h),bQ])⟩
theorem aXG (s : GSchema) (h : SOk s) (p : GSel → Bool) (F : Str → List GSel → Option Bool) (b : Str → List GSel → (Bool × Int) → Option ((Bool × Int) ⊕ Bool)) (hF : ∀ typ l r, bG (b typ l) (true, 0) = some r → F typ l = some r)
  (hb : ∀ typ l a k, b typ l (a, k) = cnd (decide (k < (List.length l : Int))) (bnd (nthI l k) fun x => bnd (some (p x)) fun y => cnd y (bnd (uM s typ x) fun t => bnd (F t x.sels) fun z => cnd (!z) (some (.inr z)) (some (.inl (z, (IntKind.wrap .i64 (k + 1)))))) (some (.inr false))) (some (.inr a)) ∨ ∃ x ∈ l, ¬ eU x < 1073741824) :
  ∀ (n : Nat) (sels : List GSel) (typ : Str), bJ sels ≤ n → n < 1073741824 → F typ sels = some ((fL s typ sels).all fun q => p q.x) := by
 intro n
 induction n with
 | zero =>
  intro sels typ hbn hl
  have := iH sels
  have hs : sels = [] := List.length_eq_zero_iff.1 (by omega)
  subst hs
  apply hF
  rw [cM (r := true) (by rcases hb typ [] true 0 with e | ⟨x, hx, _⟩; rw [e]; rfl; simp at hx)]
  simp [fL]
 | succ n ih =>
  intro sels typ hbn hl
  have hlen := iH sels
  have hb' : ∀ a k, b typ sels (a, k) = cnd (decide (k < (List.length sels : Int))) (bnd (nthI sels k) fun x => bnd (some (p x)) fun y => cnd y (bnd (uM s typ x) fun t => bnd (F t x.sels) fun z => cnd (!z) (some (.inr z)) (some (.inl (z, (IntKind.wrap .i64 (k + 1)))))) (some (.inr false))) (some (.inr a)) := fun a k => by
   rcases hb typ sels a k with e | ⟨x, hx, hn⟩
   ·exact e
   ·exact absurd (by have := qP hx; omega) hn
  have key := fF (b := b typ sels) sels (fun k (a : Bool) => (a, (k : Int))) (fun r a => (fL s typ r).all fun q => p q.x) (fun k a => a = true) (by show sels.length < _; omega)
   (by intro a ha; subst ha; rw [hb']; simp [fL])
   (by
    intro k x r a hm hk hd h1 h2 h3 hI
    have hx := qP hm
    have hx2 := vD x
    rw [hb']
    simp only [h1, fT, h2, bQ, h3, aPh s typ x h, ih x.sels (pT s typ x) (by omega) (by omega)]
    simp only [fL, aTf, List.all_append, List.all_cons]
    cases p x
    ·exact .inl rfl
    ·cases (fL s (pT s typ x) x.sels).all fun q => p q.x
     ·exact .inl rfl
     ·exact .inr ⟨true, rfl, rfl, rfl⟩) (s := (true, 0)) (a := true) rfl rfl
  exact hF _ _ _ key
theorem aXH (s:GSchema) (d:GDoc) (h:SOk s) (sels:List GSel) (typ:Str) (hb:bJ sels<1073741824):aHH s typ sels d s=some ((fL s typ sels).all fun q=>tA q.x.dirs)∧rG s typ sels d s=some ((fL s typ sels).all fun q => !dupA [] (nA q.x.dirs)):=by
 refine ⟨?_,?_⟩
 ·refine aXG s h (fun x=>tA x.dirs) (fun t l=>aHH s t l d s) (fun t l=>uS s t l d s) (fun t l r e=>aUz (by simp only [aGL,e,bQ])) (fun t l a k => ?_) _ sels typ (Nat.le_refl _) hb
  by_cases hx:∃ x∈l,¬ eU x<1073741824
  ·exact .inr hx
  ·refine .inl ?_
   simp only [uS]
   cases hc:decide (k<(List.length l:Int))
   ·rfl
   ·simp only [fT]
    cases hn:nthI l k with
    | none=>rfl
    | some x =>
     have hm:x∈l:=by obtain ⟨_,_,h3⟩:=aNb hn;exact List.mem_of_getElem? h3
     simp only [bQ,(aXF s d t x (Classical.not_not.1 fun hh=>hx ⟨x,hm,hh⟩)).1]
 ·refine aXG s h (fun x => !dupA [] (nA x.dirs)) (fun t l=>rG s t l d s) (fun t l=>mX s t l d s) (fun t l r e=>aLs (by simp only [wN,e,bQ])) (fun t l a k => ?_) _ sels typ (Nat.le_refl _) hb
  by_cases hx:∃ x∈l,¬ eU x<1073741824
  ·exact .inr hx
  ·refine .inl ?_
   simp only [mX]
   cases hc:decide (k<(List.length l:Int))
   ·rfl
   ·simp only [fT]
    cases hn:nthI l k with
    | none=>rfl
    | some x =>
     have hm:x∈l:=by obtain ⟨_,_,h3⟩:=aNb hn;exact List.mem_of_getElem? h3
     simp only [bQ,(aXF s d t x (Classical.not_not.1 fun hh=>hx ⟨x,hm,hh⟩)).2]
theorem aTK (s : GSchema) (d : GDoc) (h : SOk s) (hd : kO d < 500000000) (p : GSel → Bool) (F : Str → List GSel → Option Bool) (hF : ∀ l typ, bJ l < 1073741824 → F typ l = some ((fL s typ l).all fun q => p q.x)) (b1 b2 : Int → Option (Int ⊕ (Unit ⊕ Unit)))
  (h1 : ∀ k, b1 k = cnd (decide (k < (List.length d.ops : Int))) (bnd (nthI d.ops k) fun y10 => bnd (aHI s y10) fun y12 => bnd (F y12 y10.sels) fun y14 => cnd (!y14) (some (.inr (.inr ()))) (some (.inl (IntKind.wrap .i64 (k + 1))))) (some (.inr (.inl ()))))
  (h2 : ∀ k, b2 k = cnd (decide (k < (List.length d.frags : Int))) (bnd (nthI d.frags k) fun y25 => bnd (F y25.on_ y25.sels) fun y27 => cnd (!y27) (some (.inr (.inr ()))) (some (.inl (IntKind.wrap .i64 (k + 1))))) (some (.inr (.inl ())))) :
  (bnd (bG b1 0) fun e => elim e (fun _ => bnd (bG b2 0) fun e => elim e (fun _ => some true) (fun _ => some false)) (fun _ => some false)) = some ((sX s d).all fun q => p q.x) := by
 rw [pF] at hd
 have hol := gP bkOp aGP d.ops
 have hfl := gP dT vE d.frags
 have k1 := vO (b := b1) d.ops (fun r => bif (r.flatMap fun o => fL s (xM s o) o.sels).all fun q => p q.x then (.inl () : Unit ⊕ Unit) else .inr ()) (by show d.ops.length < _; omega) (by rw [h1]; simp only [aDJ, pK]; rfl)
  (fun k x r hm e1 e2 e3 => by
   have hb := aKm x
   have hx := fE bkOp hm
   rw [h1]
   simp only [e1, fT, e2, bQ, e3, aVp, hF x.sels (xM s x) (by omega), List.flatMap_cons, List.all_append]
   cases (fL s (xM s x) x.sels).all fun q => p q.x
   ·exact .inl rfl
   ·exact .inr ⟨rfl, rfl⟩)
 have k2 := vO (b := b2) d.frags (fun r => bif (r.flatMap fun f => fL s f.on_ f.sels).all fun q => p q.x then (.inl () : Unit ⊕ Unit) else .inr ()) (by show d.frags.length < _; omega) (by rw [h2]; simp only [aDJ, pK]; rfl)
  (fun k x r hm e1 e2 e3 => by
   have hb := aAU x
   have hx := fE dT hm
   rw [h2]
   simp only [e1, fT, e2, bQ, e3, hF x.sels x.on_ (by omega), List.flatMap_cons, List.all_append]
   cases (fL s x.on_ x.sels).all fun q => p q.x
   ·exact .inl rfl
   ·exact .inr ⟨rfl, rfl⟩)
 simp only [k1, k2, bQ, sX, List.all_append]
 cases (d.ops.flatMap fun o => fL s (xM s o) o.sels).all fun q => p q.x <;> cases (d.frags.flatMap fun f => fL s f.on_ f.sels).all fun q => p q.x <;> rfl
theorem aR5 (s:GSchema) (d:GDoc) (h:SOk s) (hd:kO d<500000000):vW s d=some ((sX s d).all fun q=>tA q.x.dirs)∧pN s d=some ((sX s d).all fun q => !dupA [] (nA q.x.dirs)):=by
 have w1:aQq s d d s=some ((sX s d).all fun q=>tA q.x.dirs):=aQV (aTK s d h hd (fun x=>tA x.dirs) (fun t l=>aHH s t l d s) (fun l t hb=>(aXH s d h l t hb).1) (wL s d d s) (wM s d d s) (fun _=>rfl) (fun _=>rfl))
 have w2:aEU s d d s=some ((sX s d).all fun q => !dupA [] (nA q.x.dirs)):=aI6 (aTK s d h hd (fun x => !dupA [] (nA x.dirs)) (fun t l=>rG s t l d s) (fun l t hb=>(aXH s d h l t hb).2) (oI s d d s) (oJ s d d s) (fun _=>rfl) (fun _=>rfl))
 exact ⟨aE6 (by simp only [mU,w1,bQ]),aBM (by simp only [iS,w2,bQ])⟩
def aTL (s:GSchema) (d:GDoc):Bool:=(ownD d).all tA&&(sX s d).all fun q=>tA q.x.dirs
def aTM (d:GDoc):Bool:=(ownD d).all fun l=>(l.length:Int)==0
def aTN (s:GSchema) (d:GDoc):Bool:=((ownD d).all fun l => !dupA [] (nA l))&&(sX s d).all fun q => !dupA [] (nA q.x.dirs)
theorem aPj (s:GSchema) (d:GDoc) (h:SOk s) (hd:kO d<500000000):rH s d 12=some (aTL s d)∧rH s d 13=some (aTM d)∧rH s d 14=some (aTN s d):=by
 obtain ⟨o1,o2,o3⟩:=aZF d hd
 obtain ⟨s1,s2⟩:=aR5 s d h hd
 refine ⟨wR ?_,wR ?_,wR ?_⟩
 ·simp only [nT,o1,s1,bQ,aTL]
  cases (ownD d).all tA<;>rfl
 ·simp only [nT,o2,bQ,aTM];rfl
 ·simp only [nT,o3,s2,bQ,aTN]
  cases (ownD d).all fun l => !dupA [] (nA l)<;>rfl
mutual
theorem aZG:∀ x:GSel,eU (aLc x)≤eU x
 | ⟨k,a,n,ar,ds,on,sels⟩=>by
  have:=aGS sels
  rw [cK,cK] at this
  rw [fV,fV]
  simp only [aLc,bkSl,sumL]
  omega
theorem aGS:∀ l:List GSel,bJ (uI l)≤bJ l
 | []=>by simp [uI]
 | x::l=>by have:=aZG x;have:=aGS l;simp only [uI,bJ];omega
end
theorem aDj {α:Type} (bk:α→Nat) (f:α→α) (h:∀ x,bk (f x)≤bk x):∀ l:List α,sumL bk (l.map f)≤sumL bk l
 | []=>by simp
 | x::l=>by have:=aDj bk f h l;have:=h x;simp only [List.map_cons,sumL];omega
theorem aZH (o:GOp):bkOp (aEQ o)≤bkOp o:=by
 have:=aGS o.sels
 rw [cK,cK] at this
 rw [mO,mO];simp only [aEQ,bkSl,sumL];omega
theorem aZI (f:GFrag):dT (aER f)≤dT f:=by
 have:=aGS f.sels
 rw [cK,cK] at this
 rw [dY,dY];simp only [aER,bkSl,sumL];omega
theorem aZJ (d:GDoc):kO (aBH d)≤kO d:=by
 have h1:=aDj bkOp aEQ aZH d.ops
 have h2:=aDj dT aER aZI d.frags
 rw [pF,pF];simp only [aBH];omega
mutual
theorem aR6 (s:GSchema):∀ (x:GSel) (typ:Str),∀ q∈aJC s typ (aLc x),q.x.dirs=[]
 | ⟨k,a,n,ar,ds,on,sels⟩,typ,q,hq=>by
  simp only [aLc,aJC,List.mem_cons] at hq
  rcases hq with rfl | hq
  ·rfl
  ·exact xP s sels _ q hq
theorem xP (s:GSchema):∀ (l:List GSel) (typ:Str),∀ q∈fL s typ (uI l),q.x.dirs=[]
 | [],_,q,hq=>by simp [uI,fL] at hq
 | x::l,typ,q,hq=>by
  simp only [uI,fL,List.mem_append] at hq
  rcases hq with hq | hq
  ·exact aR6 s x typ q hq
  ·exact xP s l typ q hq
end
theorem aKq (s:GSchema) (d:GDoc):∀ q∈sX s (aBH d),q.x.dirs=[]:=by
 intro q hq
 rcases List.mem_append.1 hq with hq | hq
 ·obtain ⟨o,ho,hq⟩:=List.mem_flatMap.1 hq
  obtain ⟨o',_,rfl⟩:=List.mem_map.1 ho
  exact xP s _ _ q hq
 ·obtain ⟨o,ho,hq⟩:=List.mem_flatMap.1 hq
  obtain ⟨o',_,rfl⟩:=List.mem_map.1 ho
  exact xP s _ _ q hq
theorem aMs (d:GDoc):∀ l∈ownD (aBH d),l=[]:=by
 intro l hl
 rcases List.mem_append.1 hl with hl | hl
 ·obtain ⟨o,ho,rfl⟩:=List.mem_map.1 hl
  obtain ⟨o',_,rfl⟩:=List.mem_map.1 ho
  rfl
 ·obtain ⟨o,ho,rfl⟩:=List.mem_map.1 hl
  obtain ⟨o',_,rfl⟩:=List.mem_map.1 ho
  rfl
theorem aVs (s:GSchema) (d:GDoc):aTL s (aBH d)=true∧aTM (aBH d)=true∧aTN s (aBH d)=true:=by
 refine ⟨?_,?_,?_⟩
 ·simp only [aTL,Bool.and_eq_true,List.all_eq_true]
  exact ⟨fun l hl=>by rw [aMs d l hl];rfl,fun q hq=>by rw [aKq s d q hq];rfl⟩
 ·simp only [aTM,List.all_eq_true]
  exact fun l hl=>by rw [aMs d l hl];rfl
 ·simp only [aTN,Bool.and_eq_true,List.all_eq_true]
  exact ⟨fun l hl=>by rw [aMs d l hl];rfl,fun q hq=>by rw [aKq s d q hq];rfl⟩
open Go Go.Ev Go.Ev.PV
theorem aR7 {τ:Tb} {v:PV} (h:RsOk τ [⟨false,[.bool]⟩] v):∃ b,v = .bool b:=by
 unfold RsOk at h;cases h with | one h=>exact aMc h
theorem aXI (s:GSchema) (h:oH s≤1048576):∃ b,aAn s=some b:=by
 obtain ⟨r,hr,ho⟩:=aZE [dX s] (.cons (aMb s h) .nil) (.inl rfl)
 obtain ⟨b,rfl⟩:=aR7 ho
 simp only [tys] at hr
 exact ⟨b,aP4 (aA9 aC) hr⟩
theorem aXJ (d:GDoc) (h:kO d≤1048576):∃ b,aAo d=some b:=by
 obtain ⟨r,hr,ho⟩:=aZC [jX d] (.cons (bB8 d h) .nil) (.inl rfl)
 obtain ⟨b,rfl⟩:=aR7 ho
 simp only [tys] at hr
 exact ⟨b,aP4 (aA9 aC) hr⟩
theorem aZK (s:GSchema) (h:oH s≤1048576):∃ b,aSU s=some b:=by
 have hp:=aEj s
 unfold Nr at hp
 obtain ⟨r,hr,ho⟩:=aZv [dX s] (.cons (aMb s h) .nil) (.inr fun v hv=>by rw [List.mem_singleton.1 hv];show _≤2097152;omega)
 have:∃ n,r = .int .i64 n:=by
  have ho:RsOk tτ [⟨false,[.int .i64]⟩] r:=ho
  unfold RsOk at ho;cases ho with | one h=>exact lT h
 obtain ⟨n,rfl⟩:=this
 simp only [tys] at hr
 exact ⟨n,aP4 (aA9 aBk) hr⟩
theorem bBu (s:GSchema) (d:GDoc) (n:Int) (hs:oH s≤1048576) (hd:kO d≤1048576) (hn:0≤n∧n≤15):∃ b,aW0 s d n=some b:=by
 have hp:=aEj s
 have hq:=bA9 d
 unfold Nr at hp hq
 obtain ⟨r,hr,ho⟩:=bBq [dX s,jX d,.int .i64 n] (.cons (aMb s hs) (.cons (bB8 d hd) (.cons (.one (.rng hn)) .nil))) (.inr fun v hv=>by
  show _≤2097152
  rcases List.mem_cons.1 hv with rfl | hv
  ·omega
  ·rcases List.mem_cons.1 hv with rfl | hv
   ·omega
   ·rw [List.mem_singleton.1 hv];simp [bI])
 obtain ⟨b,rfl⟩:=aR7 ho
 simp only [tys] at hr
 exact ⟨b,aP4 (aA9 aC) hr⟩
theorem aDk:fA=some true:=aBK 100 (by kernel_rfl)
theorem yI (s:GSchema) (d:GDoc) (hs:oH s≤1048576) (hd:kO d≤1048576) (hbare:mP d=some (aBH d)):rC s d=some true:=by
 obtain ⟨b8,h8⟩:=aXI s hs
 obtain ⟨b7,h7⟩:=aXJ d hd
 have hl:pM s d=some (bif b8 then b7 else false):=by
  apply aBJ
  simp only [iR,h8,h7,bQ]
  cases b8<;>rfl
 have hbk:=aZJ d
 obtain ⟨c,hc⟩:=aZK s hs
 obtain ⟨k,hk⟩:=bBu s (aBH d) 12 hs (by omega) (by omega)
 obtain ⟨r1,r2,r3⟩:=aPj s (aBH d) ⟨by omega⟩ (by omega)
 obtain ⟨e1,e2,e3⟩:=aVs s d
 rw [e1] at r1;rw [e2] at r2;rw [e3] at r3
 apply wB
 simp only [fH,hl,hbare,hc,hk,r1,r2,r3,bQ,aDk,fT]
 cases (bif b8 then b7 else false)
 ·rfl
 ·cases c != 0
  ·cases k<;>rfl
  ·rfl
theorem aPk (x:GSel):bkSl bF x.args≤eU x∧bkSl kN x.dirs≤eU x:=by
 rw [fV];omega
theorem aVt : ∀ (n : Nat) (l : List GSel), bJ l ≤ n → n < 1073741824 → aHG l = some l := by
 intro n
 induction n with
 | zero =>
  intro l h _
  have := iH l
  have hs : l = [] := List.length_eq_zero_iff.1 (by omega)
  subst hs
  apply aHN
  unfold aAt
  rw [cM (r := []) (by simp [kS])]
  rfl
 | succ n ih =>
  intro l h hn
  have hlen := iH l
  apply aHN
  have key := fF (b := kS l) l (fun k (a : List GSel) => (a, (k : Int))) (fun r a => a ++ r) (fun k a => a.length = k) (by show l.length < _; omega)
   (fun a _ => by simp [kS])
   (fun k x r a hx hk hd h1 h2 h3 ha => by
    have hb := qP hx
    have hs := vD x
    have hp := aPk x
    have hml : x.args.length < 1073741824 := by have := cZ (f := bF) aAQ x.args; omega
    refine .inr ⟨a ++ [x], ?_, by simp [ha], by simp⟩
    simp only [kS, h1, h2, h3, bQ, fT, aAS x.args hml (fun y hy => aIi _ (aKg (by omega) hy)), aKh x.dirs (by omega), ih x.sels (by omega) (by omega)]
    rw [tJ (show a.length + [(⟨x.kind, x.alias, x.name, x.args, x.dirs, x.on_, x.sels⟩ : GSel)].length ≤ lim by simp [tK]; omega)]
    cases x; rfl) (s := ([], 0)) (a := []) rfl rfl
  simp only [aAt, key, bQ, List.nil_append]
theorem aVu (l:List GSel) (h:bJ l<1073741824):aHG l=some l:=aVt _ l (Nat.le_refl _) h
theorem aPl:∀ l:List GSel,uI l=l.map aLc
 | []=>rfl
 | x::l=>by simp only [uI,List.map_cons,aPl l]
theorem aZL (x:GSel):aLc x=⟨x.kind,x.alias,x.name,x.args,[],x.on_,uI x.sels⟩:=by cases x;rfl
theorem aPm : ∀ (n : Nat) (l : List GSel), bJ l ≤ n → n < 1073741824 → eP l = some (uI l) := by
 intro n
 induction n with
 | zero =>
  intro l h _
  have := iH l
  have hs : l = [] := List.length_eq_zero_iff.1 (by omega)
  subst hs
  apply mS
  unfold dP
  rw [cM (r := []) (by simp [bU])]
  rfl
 | succ n ih =>
  intro l h hn
  have hlen := iH l
  apply mS
  have key := fF (b := bU l) l (fun k (a : List GSel) => (a, (k : Int))) (fun r a => a ++ r.map aLc) (fun k a => a.length = k) (by show l.length < _; omega)
   (fun a _ => by simp [bU])
   (fun k x r a hx hk hd h1 h2 h3 ha => by
    have hb := qP hx
    have hs := vD x
    refine .inr ⟨a ++ [aLc x], ?_, by simp [ha], by simp⟩
    rw [aZL]
    simp only [bU, h1, h2, h3, bQ, fT, ih x.sels (by omega) (by omega)]
    rw [tJ (show a.length + [(⟨x.kind, x.alias, x.name, x.args, [], x.on_, uI x.sels⟩ : GSel)].length ≤ lim by simp [tK]; omega)]
    rfl) (s := ([], 0)) (a := []) rfl rfl
  simp only [dP, key, bQ, List.nil_append, aPl]
theorem yJ (l:List GSel) (h:bJ l<1073741824):eP l=some (uI l):=aPm _ l (Nat.le_refl _) h
open Go Go.Ev Go.RowKit
theorem xQ {M:Mem} {w:World} (h:Cons M w) {b:Nat} (hb:w.heap.size≤b) (i:Nat):M b i=none:=by
 cases hm:M b i with
 | none=>rfl
 | some v =>
  obtain ⟨arr,T,fz,h1,_⟩:=h b i v hm
  have:=(Array.getElem?_eq_some_iff.1 h1).1
  omega
theorem iB {M:Mem} {w w':World} (h:Cons M w) (hb:∀ k,k<w.heap.size→(∃ i,M k i≠none)→w'.heap[k]?=w.heap[k]?):Cons M w':=by
 intro b i v hv
 obtain ⟨arr,T,fz,h1,h2⟩:=h b i v hv
 exact ⟨arr,T,fz,(hb b (Array.getElem?_eq_some_iff.1 h1).1 ⟨i,by rw [hv];simp⟩).trans h1,h2⟩
theorem aKr {M:Mem} {w w':World} (hc:Cons M w) (h:Below w.heap.size w w'):Cons M w':=iB hc fun k hk _=>h.block k hk
structure From (B:Nat) (M:Mem) (w:World) (M':Mem) (w':World):Prop where
 mem:∀ b i v,M b i=some v→M' b i=some v
 old:∀ b,b<B→∀ i,M' b i=M b i
 below:Below B w w'
theorem From.refl (B:Nat) (M:Mem) (w:World):From B M w M w:=⟨fun _ _ _ h=>h,fun _ _ _=>rfl,Below.refl _ _⟩
theorem From.trans {B:Nat} {M M1 M2:Mem} {w w1 w2:World} (h:From B M w M1 w1) (k:From B M1 w1 M2 w2):From B M w M2 w2 :=
 ⟨fun b i v hv=>k.mem b i v (h.mem b i v hv),fun b hb i=>(k.old b hb i).trans (h.old b hb i),h.below.trans k.below⟩
theorem From.of_below {B:Nat} {M:Mem} {w w':World} (h:Below B w w'):From B M w M w':=⟨fun _ _ _ h=>h,fun _ _ _=>rfl,h⟩
theorem gE {w w':World} {B e size n:Nat} {v:Value} {xs:List Value} (h:w.ownsRow B e size v n xs) (hb:∀ k,v.ownBlock=some k→w'.heap[k]?=w.heap[k]?):w'.ownsRow B e size v n xs:=by
 refine ⟨h.1,?_⟩
 rcases h.2 with hn | ⟨g,cap,cur,rfl,hB,hgg,rest⟩
 ·exact .inl hn
 ·exact .inr ⟨g,cap,cur,rfl,hB,(hb g rfl).trans hgg,rest⟩
def frzM (B:Nat) (M:Mem) (w:World):Mem:=fun b i=>if B≤b then (match w.heap[b]? with | some (.cells arr _ _)=>arr[i]? | _=>none) else M b i
theorem aXK {B:Nat} {M:Mem} {w:World} (h:Cons M w):Cons (frzM B M w) w:=by
 intro b i v hv
 unfold frzM at hv
 split at hv
 ·split at hv
  ·rename_i arr T fz hb
   exact ⟨arr,T,fz,hb,hv⟩
  ·simp at hv
 ·exact h b i v hv
theorem aIB {B:Nat} {M:Mem} {w:World} (h:Cons M w):∀ b i v,M b i=some v→frzM B M w b i=some v:=by
 intro b i v hv
 unfold frzM
 split
 ·obtain ⟨arr,T,fz,h1,h2⟩:=h b i v hv
  rw [h1];exact h2
 ·exact hv
theorem aZM {B:Nat} {M:Mem} {w:World} {b:Nat} (h:b<B) (i:Nat):frzM B M w b i=M b i:=by
 unfold frzM;rw [if_neg (by omega)]
def frzV (v:Value) (M:Mem) (w:World):Mem:=fun b i=>if v.ownBlock=some b then (match w.heap[b]? with | some (.cells arr _ _)=>arr[i]? | _=>none) else M b i
theorem aXL {v:Value} {M:Mem} {w:World} (h:Cons M w):Cons (frzV v M w) w:=by
 intro b i u hu
 unfold frzV at hu
 split at hu
 ·split at hu
  ·rename_i arr T fz hb
   exact ⟨arr,T,fz,hb,hu⟩
  ·simp at hu
 ·exact h b i u hu
theorem aPn {v:Value} {M:Mem} {w:World} (h:Cons M w):∀ b i u,M b i=some u→frzV v M w b i=some u:=by
 intro b i u hu
 unfold frzV
 split
 ·obtain ⟨arr,T,fz,h1,h2⟩:=h b i u hu
  rw [h1];exact h2
 ·exact hu
theorem aVv {v:Value} {M:Mem} {w:World} {b:Nat} (h:v.ownBlock≠some b) (i:Nat):frzV v M w b i=M b i:=by
 unfold frzV;rw [if_neg h]
theorem aMt {B' e size n:Nat} {M':Mem} {BB:BM} {w:World} {v:Value} {xs:List Value} (h:w.ownsRow B' e size v n xs) (hM:∀ g arr T fz,v.ownBlock=some g→w.heap[g]?=some (.cells arr T fz)→∀ i,M' g i=arr[i]?) (es:List PV) (hn:es.length=n) (hok:∀ p∈es,okEl size p) (hr:∀ (i:Nat) (p:PV) (j:Nat) (c:PV),es[i]?=some p→p.cells[j]?=some c→∃ u,xs[i*size+j]?=some u∧Rv M' BB c u) :
  Rv M' BB (.slice es [] false) v:=by
 rcases h.2 with ⟨rfl,h0⟩ | ⟨g,cap,cur,rfl,hb,hg,hcap,hmax,hcs,htk⟩
 ·have:es=[]:=List.eq_nil_of_length_eq_zero (by omega)
  subst this
  exact .nil false
 ·subst hn
  refine .slice es [] false ⟨g,0,none⟩ cap size (fun i j=>(xs[i*size+j]?).getD undef) (fun _=>rfl) (by simpa using hcap) (by simp) ?_ ?_ ?_
  ·intro i p hp
   exact hok p (List.mem_of_getElem? (by simpa using hp))
  ·intro i p j hp hj
   rw [List.append_nil] at hp
   obtain ⟨_,_,hc,_⟩:=hok p (List.mem_of_getElem? hp)
   obtain ⟨u,hu,_⟩:=hr i p j (p.cells[j]'(by omega)) hp (List.getElem?_eq_getElem (by omega))
   rw [hu,Option.getD_some]
   show M' g (0+i*size+j)=some u
   rw [hM g cur e (0,0) rfl hg]
   simp only [Nat.zero_add]
   rw [← htk,List.getElem?_take] at hu
   split at hu
   ·simpa using hu
   ·simp at hu
  ·intro i p j c hp hc
   rw [List.append_nil] at hp
   obtain ⟨u,hu,hv⟩:=hr i p j c hp hc
   rw [hu];exact hv
theorem aPo {B B' e size n:Nat} {M:Mem} {w:World} {v:Value} {xs:List Value} (h:w.ownsRow B' e size v n xs) (hB:B≤B'):∀ g arr T fz,v.ownBlock=some g→w.heap[g]?=some (.cells arr T fz)→∀ i,frzM B M w g i=arr[i]?:=by
 intro g arr T fz hg hh i
 unfold frzM
 rw [if_pos (Nat.le_trans hB (h.lt g hg).1),hh]
theorem aXM {M:Mem} {w:World} {v:Value}:∀ g arr T fz,v.ownBlock=some g→w.heap[g]?=some (.cells arr T fz)→∀ i,frzV v M w g i=arr[i]?:=by
 intro g arr T fz hg hh i
 unfold frzV
 rw [if_pos hg,hh]
theorem nB {M:Mem} {B:BM} {es:List PV} {v:Value} (h:Rv M B (.slice es [] false) v):∃ a l k,v = .slice a l k:=by
 cases h with
 | nil o=>exact ⟨_,_,_,rfl⟩
 | slice es bs o a cap s f ha hc ho hel hm hr=>exact ⟨_,_,_,rfl⟩
structure OCV (M:Mem) (o:GOp) (v2 v3 v4:Value):Prop where
 r2:Rv M noB (.slice (List.map aY o.vars) [] false) v2
 r3:Rv M noB (.slice (List.map aH o.dirs) [] false) v3
 r4:Rv M noB (.slice (List.map aG o.sels) [] false) v4
abbrev aEs (o:GOp) (v2 v3 v4:Value):List Value:=[.int .i64 o.kind,.string ⟨o.name.toArray⟩,v2,v3,v4]
theorem OCV.mono {M M':Mem} {o:GOp} {v2 v3 v4:Value} (h:OCV M o v2 v3 v4) (hM:∀ b i v,M b i=some v→M' b i=some v):OCV M' o v2 v3 v4 :=
 ⟨h.r2.mono hM (fun _ _ _ h=>h),h.r3.mono hM (fun _ _ _ h=>h),h.r4.mono hM (fun _ _ _ h=>h)⟩
inductive OpRow (M:Mem):List GOp→List Value→Prop
 | nil:OpRow M [] []
 | snoc {l:List GOp} {ys:List Value} {x:GOp} {v2 v3 v4:Value} (h:OpRow M l ys) (hc:OCV M x v2 v3 v4):OpRow M (l++[x]) (ys++aEs x v2 v3 v4)
theorem OpRow.mono {M M':Mem} {l:List GOp} {ys:List Value} (h:OpRow M l ys) (hM:∀ b i v,M b i=some v→M' b i=some v):OpRow M' l ys:=by
 induction h with
 | nil=>exact .nil
 | snoc h hc ih=>exact .snoc ih (hc.mono hM)
theorem aPp {M:Mem} {l:List GOp} {ys:List Value} (h:OpRow M l ys):ys.length=l.length*5:=by
 induction h with
 | nil=>rfl
 | snoc h hc ih=>simp only [List.length_append,ih,List.length_cons,List.length_nil];omega
theorem aZN {M:Mem} {l:List GOp} {ys:List Value} (h:OpRow M l ys):∀ (i:Nat) (x:GOp),l[i]?=some x→∃ v2 v3 v4,OCV M x v2 v3 v4∧∀ (j:Nat) (u:Value),(aEs x v2 v3 v4)[j]?=some u→ys[i*5+j]?=some u:=by
 induction h with
 | nil=>intro i x h;simp at h
 | @snoc l ys x v2 v3 v4 h hc ih =>
  intro i x' hi
  have hyl:=aPp h
  rcases Nat.lt_or_ge i l.length with hlt | hge
  ·rw [List.getElem?_append_left hlt] at hi
   obtain ⟨a,b,c,h1,h2⟩:=ih i x' hi
   refine ⟨a,b,c,h1,fun j u hu => ?_⟩
   have hj:j<5:=by have:=(List.getElem?_eq_some_iff.1 hu).1;simpa using this
   rw [List.getElem?_append_left (by omega)];exact h2 j u hu
  ·rw [List.getElem?_append_right hge] at hi
   have h0:i-l.length=0:=by
    rcases Nat.eq_zero_or_pos (i-l.length) with h0 | h0
    ·exact h0
    ·rw [List.getElem?_eq_none (by simp;omega)] at hi;cases hi
   rw [h0] at hi
   cases hi
   refine ⟨v2,v3,v4,hc,fun j u hu => ?_⟩
   rw [List.getElem?_append_right (by omega),show i*5+j-ys.length=j by omega]
   exact hu
structure FCV (M:Mem) (f:GFrag) (v2 v3:Value):Prop where
 r2:Rv M noB (.slice (List.map aH f.dirs) [] false) v2
 r3:Rv M noB (.slice (List.map aG f.sels) [] false) v3
abbrev aEt (f:GFrag) (v2 v3:Value):List Value:=[.string ⟨f.name.toArray⟩,.string ⟨f.on_.toArray⟩,v2,v3]
theorem FCV.mono {M M':Mem} {o:GFrag} {v2 v3:Value} (h:FCV M o v2 v3) (hM:∀ b i v,M b i=some v→M' b i=some v):FCV M' o v2 v3 :=
 ⟨h.r2.mono hM (fun _ _ _ h=>h),h.r3.mono hM (fun _ _ _ h=>h)⟩
inductive FrRow (M:Mem):List GFrag→List Value→Prop
 | nil:FrRow M [] []
 | snoc {l:List GFrag} {ys:List Value} {x:GFrag} {v2 v3:Value} (h:FrRow M l ys) (hc:FCV M x v2 v3):FrRow M (l++[x]) (ys++aEt x v2 v3)
theorem FrRow.mono {M M':Mem} {l:List GFrag} {ys:List Value} (h:FrRow M l ys) (hM:∀ b i v,M b i=some v→M' b i=some v):FrRow M' l ys:=by
 induction h with
 | nil=>exact .nil
 | snoc h hc ih=>exact .snoc ih (hc.mono hM)
theorem aPq {M:Mem} {l:List GFrag} {ys:List Value} (h:FrRow M l ys):ys.length=l.length*4:=by
 induction h with
 | nil=>rfl
 | snoc h hc ih=>simp only [List.length_append,ih,List.length_cons,List.length_nil];omega
theorem aZO {M:Mem} {l:List GFrag} {ys:List Value} (h:FrRow M l ys):∀ (i:Nat) (x:GFrag),l[i]?=some x→∃ v2 v3,FCV M x v2 v3∧∀ (j:Nat) (u:Value),(aEt x v2 v3)[j]?=some u→ys[i*4+j]?=some u:=by
 induction h with
 | nil=>intro i x h;simp at h
 | @snoc l ys x v2 v3 h hc ih =>
  intro i x' hi
  have hyl:=aPq h
  rcases Nat.lt_or_ge i l.length with hlt | hge
  ·rw [List.getElem?_append_left hlt] at hi
   obtain ⟨a,b,h1,h2⟩:=ih i x' hi
   refine ⟨a,b,h1,fun j u hu => ?_⟩
   have hj:j<4:=by have:=(List.getElem?_eq_some_iff.1 hu).1;simpa using this
   rw [List.getElem?_append_left (by omega)];exact h2 j u hu
  ·rw [List.getElem?_append_right hge] at hi
   have h0:i-l.length=0:=by
    rcases Nat.eq_zero_or_pos (i-l.length) with h0 | h0
    ·exact h0
    ·rw [List.getElem?_eq_none (by simp;omega)] at hi;cases hi
   rw [h0] at hi
   cases hi
   refine ⟨v2,v3,hc,fun j u hu => ?_⟩
   rw [List.getElem?_append_right (by omega),show i*4+j-ys.length=j by omega]
   exact hu
inductive RvL (M:Mem) (B:BM):List PV→List Value→Prop
 | nil:RvL M B [] []
 | cons {c:PV} {v:Value} {cs:List PV} {vs:List Value} (h:Rv M B c v) (t:RvL M B cs vs):RvL M B (c::cs) (v::vs)
theorem aTO {M:Mem} {B:BM}:∀ (cs:List PV) (vs:List Value),vs.length=cs.length→(∀ (i:Nat) (c:PV) (v:Value),cs[i]?=some c→vs[i]?=some v→Rv M B c v)→RvL M B cs vs
 | [],[],_,_ => .nil
 | [],_::_,h,_=>by simp at h
 | _::_,[],h,_=>by simp at h
 | c::cs,v::vs,h,hr => .cons (hr 0 c v rfl rfl) (aTO cs vs (by simpa using h) fun i c v h1 h2=>hr (i+1) c v (by simpa using h1) (by simpa using h2))
theorem bCi {M:Mem} {B:BM} {cs:List PV} {v:Value} (h:Rv M B (.agg cs) v):∃ l:List Value,v = .agg l.toArray∧RvL M B cs l:=by
 cases h with
 | agg cs vs f hl hf hr =>
  refine ⟨vs.toList,rfl,aTO _ _ (by simpa using hl) fun i c v h1 h2 => ?_⟩
  have hi:i<cs.length:=(List.getElem?_eq_some_iff.1 h1).1
  have:=hf i hi
  rw [Array.getElem?_toList,this] at h2
  cases h2
  exact hr i c h1
theorem bCj {M:Mem} {x:GOp} {l:List Value} (h:RvL M noB (aU x).cells l):∃ v2 v3 v4,l=aEs x v2 v3 v4∧OCV M x v2 v3 v4:=by
 rw [gQ] at h
 cases h with | cons r0 h =>
 cases h with | cons r1 h =>
 cases h with | cons r2 h =>
 cases h with | cons r3 h =>
 cases h with | cons r4 h =>
 cases h
 cases r0
 cases r1
 exact ⟨_,_,_,rfl,r2,r3,r4⟩
theorem bCk {M:Mem} {x:GFrag} {l:List Value} (h:RvL M noB (aF x).cells l):∃ v2 v3,l=aEt x v2 v3∧FCV M x v2 v3:=by
 rw [dF] at h
 cases h with | cons r0 h =>
 cases h with | cons r1 h =>
 cases h with | cons r2 h =>
 cases h with | cons r3 h =>
 cases h
 cases r0
 cases r1
 exact ⟨_,_,rfl,r2,r3⟩
theorem aZP {M:Mem} {w:World} {l:List GOp} {c:Value} (hc:Cons M w) (h:Rv M noB (.slice (List.map aU l) [] false) c) :
  ∃ oa cap,c = .slice oa l.length cap∧l.length≤cap∧(l≠[]→∃ blk off,oa=some ⟨blk,off,none⟩)∧∀ (blk off:Nat),oa=some ⟨blk,off,none⟩→∀ (k:Nat) (x:GOp),l[k]?=some x→∃ v2 v3 v4,OCV M x v2 v3 v4∧∀ j v,(aEs x v2 v3 v4)[j]?=some v→M blk (off+k*5+j)=some v:=by
 generalize hes:List.map aU l=es at h
 cases h with
 | nil o =>
  have:l=[]:=by simpa using hes
  subst this
  exact ⟨none,0,rfl,Nat.le_refl _,fun h=>absurd rfl h,fun _ _ h=>by simp at h⟩
 | slice es' bs o a cap s f ha hcp ho hel hm hr =>
  have hl:es.length=l.length:=by rw [← hes];simp
  have hle:l.length≤cap:=by simp at hcp;omega
  refine ⟨some a,cap,by rw [hl],hle,fun hne=>⟨a.block,a.off,by
   have:=ha (by have:=List.length_pos_iff.2 hne;omega)
   obtain ⟨b,o,s⟩:=a;simp only at this;rw [this]⟩,fun blk off hoa k x hx => ?_⟩
  cases hoa
  have hx':(es++[])[k]?=some (aU x):=by rw [List.append_nil,← hes,List.getElem?_map,hx];rfl
  have hs:s=5:=by
   have:=hel k _ hx'
   obtain ⟨_,_,h3,_⟩:=this
   rw [gQ] at h3
   exact h3.symm
  subst hs
  have hk:k<l.length:=(List.getElem?_eq_some_iff.1 hx).1
  have hR:RvL M noB (aU x).cells [f k 0,f k 1,f k 2,f k 3,f k 4]:=by
   refine aTO _ _ (by rw [gQ];rfl) fun i c v h1 h2 => ?_
   have hi:i<5:=by have:=(List.getElem?_eq_some_iff.1 h2).1;simpa using this
   have:=hr k _ i c hx' h1
   match i,hi,h2 with
   | 0,_,h2=>cases h2;exact this
   | 1,_,h2=>cases h2;exact this
   | 2,_,h2=>cases h2;exact this
   | 3,_,h2=>cases h2;exact this
   | 4,_,h2=>cases h2;exact this
  obtain ⟨v2,v3,v4,e,hcv⟩:=bCj hR
  refine ⟨v2,v3,v4,hcv,fun j v hv => ?_⟩
  rw [← e] at hv
  have hj:j<5:=by have:=(List.getElem?_eq_some_iff.1 hv).1;simpa using this
  have:=hm k _ j hx' hj
  match j,hj,hv with
  | 0,_,hv=>cases hv;exact this
  | 1,_,hv=>cases hv;exact this
  | 2,_,hv=>cases hv;exact this
  | 3,_,hv=>cases hv;exact this
  | 4,_,hv=>cases hv;exact this
theorem aZQ {M:Mem} {w:World} {l:List GFrag} {c:Value} (hc:Cons M w) (h:Rv M noB (.slice (List.map aF l) [] false) c) :
  ∃ oa cap,c = .slice oa l.length cap∧l.length≤cap∧(l≠[]→∃ blk off,oa=some ⟨blk,off,none⟩)∧∀ (blk off:Nat),oa=some ⟨blk,off,none⟩→∀ (k:Nat) (x:GFrag),l[k]?=some x→∃ v2 v3,FCV M x v2 v3∧∀ j v,(aEt x v2 v3)[j]?=some v→M blk (off+k*4+j)=some v:=by
 generalize hes:List.map aF l=es at h
 cases h with
 | nil o =>
  have:l=[]:=by simpa using hes
  subst this
  exact ⟨none,0,rfl,Nat.le_refl _,fun h=>absurd rfl h,fun _ _ h=>by simp at h⟩
 | slice es' bs o a cap s f ha hcp ho hel hm hr =>
  have hl:es.length=l.length:=by rw [← hes];simp
  have hle:l.length≤cap:=by simp at hcp;omega
  refine ⟨some a,cap,by rw [hl],hle,fun hne=>⟨a.block,a.off,by
   have:=ha (by have:=List.length_pos_iff.2 hne;omega)
   obtain ⟨b,o,s⟩:=a;simp only at this;rw [this]⟩,fun blk off hoa k x hx => ?_⟩
  cases hoa
  have hx':(es++[])[k]?=some (aF x):=by rw [List.append_nil,← hes,List.getElem?_map,hx];rfl
  have hs:s=4:=by
   have:=hel k _ hx'
   obtain ⟨_,_,h3,_⟩:=this
   rw [dF] at h3
   exact h3.symm
  subst hs
  have hk:k<l.length:=(List.getElem?_eq_some_iff.1 hx).1
  have hR:RvL M noB (aF x).cells [f k 0,f k 1,f k 2,f k 3]:=by
   refine aTO _ _ (by rw [dF];rfl) fun i c v h1 h2 => ?_
   have hi:i<4:=by have:=(List.getElem?_eq_some_iff.1 h2).1;simpa using this
   have:=hr k _ i c hx' h1
   match i,hi,h2 with
   | 0,_,h2=>cases h2;exact this
   | 1,_,h2=>cases h2;exact this
   | 2,_,h2=>cases h2;exact this
   | 3,_,h2=>cases h2;exact this
  obtain ⟨v2,v3,e,hcv⟩:=bCk hR
  refine ⟨v2,v3,hcv,fun j v hv => ?_⟩
  rw [← e] at hv
  have hj:j<4:=by have:=(List.getElem?_eq_some_iff.1 hv).1;simpa using this
  have:=hm k _ j hx' hj
  match j,hj,hv with
  | 0,_,hv=>cases hv;exact this
  | 1,_,hv=>cases hv;exact this
  | 2,_,hv=>cases hv;exact this
  | 3,_,hv=>cases hv;exact this
theorem aDl {M:Mem} {w:World} (hc:Cons M w) {b i:Nat} {v:Value} (h:M b i=some v):w.cell? ⟨b,i,none⟩=some v:=by
 obtain ⟨arr,T,fz,h1,h2⟩:=hc b i v h
 rw [cell_of_row w b _ _ _ _ h1];exact h2
theorem bAp (x:GVarDef):okEl 10 (aY x):=by rw [eC];exact ⟨rfl,rfl,rfl,by decide⟩
theorem aZR {M:Mem} {l:List GVarDef} {oa:Option Addr} {n cap:Nat} (h:Rv M noB (.slice (List.map aY l) [] false) (.slice oa n cap)) :
  n=l.length∧(l≠[]→∃ (blk off:Nat) (news:List Value),oa=some ⟨blk,off,none⟩∧news.length=n*10∧(∀ j u,news[j]?=some u→M blk (off+j)=some u)∧(∀ u∈news,u.oneCell'=true) ∧
   ∀ (i:Nat) (p:PV) (j:Nat) (c:PV),(List.map aY l)[i]?=some p→p.cells[j]?=some c→∃ u,news[i*10+j]?=some u∧Rv M noB c u):=by
 generalize hes:List.map aY l=es at h
 cases h with
 | nil o =>
  have:l=[]:=by simpa using hes
  subst this
  exact ⟨rfl,fun h=>absurd rfl h⟩
 | slice es' bs o a cap s f ha hcp ho hel hm hr =>
  have hl:es.length=l.length:=by rw [← hes];simp
  refine ⟨hl,fun hne => ?_⟩
  have hpos:0<l.length:=List.length_pos_iff.2 hne
  have hsp:a.spot=none:=ha (by simp at hcp;omega)
  have hs:s=10:=by
   have hx:(es++[])[0]?=some (aY l[0]):=by rw [List.append_nil,← hes,List.getElem?_map,List.getElem?_eq_getElem hpos];rfl
   obtain ⟨_,_,h3,_⟩:=hel 0 _ hx
   rw [eC] at h3
   exact h3.symm
  subst hs
  have hat:∀ q,q<es.length*10→((List.range (es.length*10)).map fun q=>f (q / 10) (q % 10))[q]?=some (f (q / 10) (q % 10)):=fun q hq=>by
   rw [List.getElem?_map,List.getElem?_range hq];rfl
  have hrow:∀ q,q<es.length*10→∃ p,(es++[])[q / 10]?=some p∧∃ c,p.cells[q % 10]?=some c:=fun q hq=>by
   have hi:q / 10<l.length:=by omega
   refine ⟨aY l[q / 10],by rw [List.append_nil,← hes,List.getElem?_map,List.getElem?_eq_getElem hi];rfl,?_⟩
   have:q % 10<(aY l[q / 10]).cells.length:=by rw [(bAp _).2.2.1];omega
   exact ⟨_,List.getElem?_eq_getElem this⟩
  refine ⟨a.block,a.off,(List.range (es.length*10)).map fun q=>f (q / 10) (q % 10),by obtain ⟨b,o,sp⟩:=a;simp only at hsp;rw [hsp],by simp,fun j u hu => ?_,fun u hu => ?_,fun i p j c hp hc => ?_⟩
  ·have hj:j<es.length*10:=by have:=(List.getElem?_eq_some_iff.1 hu).1;simpa using this
   rw [hat j hj] at hu
   cases hu
   obtain ⟨p,hp,c,hc⟩:=hrow j hj
   have:=hm (j / 10) p (j % 10) hp (by omega)
   have e:a.off+j / 10*10+j % 10=a.off+j:=by omega
   rw [e] at this
   exact this
  ·obtain ⟨q,hq,rfl⟩:=List.mem_map.1 hu
   have hq:q<es.length*10:=List.mem_range.1 hq
   obtain ⟨p,hp,c,hc⟩:=hrow q hq
   exact aKB (hel _ _ hp) hc (hr _ _ _ _ hp hc)
  ·have hi:i<es.length:=(List.getElem?_eq_some_iff.1 hp).1
   have hp':(es++[])[i]?=some p:=by rw [List.append_nil];exact hp
   have hj:j<10:=by have:=(List.getElem?_eq_some_iff.1 hc).1;rw [(hel _ _ hp').2.2.1] at this;exact this
   refine ⟨f i j,?_,hr i p j c hp' hc⟩
   rw [hat (i*10+j) (by omega),show (i*10+j) / 10=i by omega,show (i*10+j) % 10=j by omega]
theorem aZS {M:Mem} {B' e:Nat} {w w':World} {l:List GVarDef} {v:Value} {news:List Value} (hc:Cons M w') (ho:w'.ownsRow B' e 10 v l.length news) (hr:∀ (i:Nat) (p:PV) (j:Nat) (c:PV),(List.map aY l)[i]?=some p→p.cells[j]?=some c→∃ u,news[i*10+j]?=some u∧Rv M noB c u) :
  Rv (frzV v M w') noB (.slice (List.map aY l) [] false) v:=by
 refine aMt ho aXM _ (by simp) ?_ fun i p j c hp hcc => ?_
 ·intro p hp
  obtain ⟨x,_,rfl⟩:=List.mem_map.1 hp
  exact bAp x
 ·obtain ⟨u,h1,h2⟩:=hr i p j c hp hcc
  exact ⟨u,h1,h2.mono (aPn hc) (fun _ _ _ h=>h)⟩
noncomputable def fstC:Code→Code | .seq a _=>a | c=>c
noncomputable def sndC:Code→Code | .seq _ b=>b | c=>c
noncomputable def blkC:Code→Code | .block _ c=>c | c=>c
noncomputable def lopC:Code→Code | .loop c=>c | c=>c
noncomputable def bY (f:Func):Code:=match f.body with | some c=>c | none => .skip
noncomputable def blA (c:Code):Code:=sndC (fstC (sndC (sndC c)))
noncomputable def blB (c:Code):Code:=sndC (fstC (sndC (sndC (sndC c))))
noncomputable def inC (c:Code):Code:=blkC (fstC (sndC (lopC (blkC c))))
noncomputable def r6C:Code:=fstC (sndC (inC (blA (bY Tryz.f13))))
noncomputable def r7C:Code:=fstC (sndC (sndC (inC (blA (bY Tryz.f13)))))
noncomputable def r8C:Code:=sndC (sndC (sndC (inC (blA (bY Tryz.f13)))))
structure Stp (H:Nat) (M:Mem) (w:World) (M':Mem) (w':World):Prop where
 mem:∀ b i v,M b i=some v→M' b i=some v
 blk:∀ b,b<w.heap.size→b≠H→w'.heap[b]?=w.heap[b]?
 old:∀ b,b<w.heap.size→∀ i,M' b i=M b i
 os:w'.os=w.os
 tape:w'.tape=w.tape
 output:w'.output=w.output
 size:w.heap.size≤w'.heap.size
 cons:Cons M' w'
theorem Stp.refl {H:Nat} {M:Mem} {w:World} (hc:Cons M w):Stp H M w M w:=⟨fun _ _ _ h=>h,fun _ _ _=>rfl,fun _ _ _=>rfl,rfl,rfl,rfl,Nat.le_refl _,hc⟩
theorem Stp.trans {H:Nat} {M M1 M2:Mem} {w w1 w2:World} (h:Stp H M w M1 w1) (k:Stp H M1 w1 M2 w2):Stp H M w M2 w2 :=
 ⟨fun b i v hv=>k.mem b i v (h.mem b i v hv),fun b hb hn=>(k.blk b (Nat.lt_of_lt_of_le hb h.size) hn).trans (h.blk b hb hn),fun b hb i=>(k.old b (Nat.lt_of_lt_of_le hb h.size) i).trans (h.old b hb i),k.os.trans h.os,k.tape.trans h.tape,k.output.trans h.output,Nat.le_trans h.size k.size,k.cons⟩
theorem Stp.quiet {H:Nat} {M M':Mem} {w w':World} (q:Quiet M w M' w') (hc:Cons M' w'):Stp H M w M' w':=⟨q.mem,fun b hb _=>(q.old b hb).1,fun b hb=>(q.old b hb).2,q.os,q.tape,q.output,q.size,hc⟩
theorem aEu {M:Mem} {w:World} (hc:Cons M w):Cons M w.drew:=fun b i v h=>hc b i v h
theorem Stp.drew {H:Nat} {M:Mem} {w:World} (hc:Cons M w):Stp H M w M w.drew:=⟨fun _ _ _ h=>h,fun _ _ _=>rfl,fun _ _ _=>rfl,rfl,rfl,rfl,Nat.le_refl _,hc⟩
theorem Stp.set {H:Nat} {M:Mem} {w:World} (hc:Cons M w) (hf:∀ i,M H i=none) (j:Nat) (u:Value):Stp H M w M (w.setCell ⟨H,j,none⟩ u) :=
 ⟨fun _ _ _ h=>h,fun b _ hn=>Below.heap_setCell _ _ _ _ hn,fun _ _ _=>rfl,rfl,rfl,rfl,by simp [World.setCell],iB hc fun k hk ⟨i,hi⟩=>Below.heap_setCell _ _ _ _ fun e=>hi (by rw [e];exact hf i)⟩
theorem Stp.grown {H g n cap:Nat} {M:Mem} {w w':World} (hc:Cons M w) (hg:w.grownBy w' none) (hgs:w.heap.size≤g) (o:Value) (ho:o = .slice (some ⟨g,0,none⟩) n cap):Stp H M w (frzV o M w') w':=by
 have hc':Cons M w':=iB hc fun k hk _=>hg.block k hk (by simp)
 refine ⟨aPn hc',fun b hb _=>hg.block b hb (by simp),fun b hb i=>aVv (by subst ho;simp only [Value.ownBlock,ne_eq,Option.some.injEq];omega) i,hg.os,hg.tape,hg.output,hg.size,aXL hc'⟩
theorem Stp.free {H:Nat} {M M':Mem} {w w':World} (h:Stp H M w M' w') (hH:H<w.heap.size) (hf:∀ i,M H i=none):∀ i,M' H i=none:=fun i=>(h.old H hH i).trans (hf i)
theorem addN (b o j:Nat):(⟨b,o,none⟩:Addr).add j=⟨b,o+j,none⟩:=by unfold Addr.add;split<;>simp_all
theorem bCD (P:Program) (a:Addr) (w:World):Sem.run P (loadCellsFrom a 0 0 #[]) w = .ok #[] w:=rfl
theorem Tryz.u35:Tryz.prog.underlying 35=some (.slice 54):=by kernel_rfl
def aIC (o:Option TypeInfo) (s b:Nat):Bool:=match o with | some i=>(match i.zero with | some z=>z.cells.size==s&&(i.size==s&&i.bytes==b) | none=>false) | none=>false
theorem aR8 {o:Option TypeInfo} {s b:Nat} (h:aIC o s b=true):∃ i z,o=some i∧i.zero=some z∧i.size=s∧i.bytes=b∧z.cells.size=s:=by
 cases o with
 | none=>simp [aIC] at h
 | some i =>
  cases hz:i.zero with
  | none=>simp [aIC,hz] at h
  | some z =>
   simp only [aIC,hz,Bool.and_eq_true,beq_iff_eq] at h
   exact ⟨i,z,rfl,hz,h.2.1,h.2.2,h.1⟩
theorem Tryz.i54:aIC (Tryz.prog.info? 54) 10 136=true:=by kernel_rfl
theorem Tryz.i38:aIC (Tryz.prog.info? 38) 5 96=true:=by kernel_rfl
theorem Tryz.i68:aIC (Tryz.prog.info? 68) 4 80=true:=by kernel_rfl
theorem Tryz.u25:Tryz.prog.underlying 25=some (.slice 38):=by kernel_rfl
theorem Tryz.u26:Tryz.prog.underlying 26=some (.slice 68):=by kernel_rfl
set_option maxHeartbeats 4000000 in
theorem bBv {M:Mem} {w:World} (H:Nat) (x:GOp) (a2:Option Addr) (l2 p2:Nat) (a3:Option Addr) (l3 p3:Nat) (a4:Option Addr) (l4 p4:Nat) (hc:Cons M w) (hH:w.heap[H]?=some (.cells #[.int .i64 x.kind,.string ⟨x.name.toArray⟩,.slice a2 l2 p2,.slice a3 l3 p3,.slice a4 l4 p4] 38 (0,0))) (hf:∀ i,M H i=none) (hr:Rv M noB (.slice (List.map aY x.vars) [] false) (.slice a2 l2 p2)) (hl:x.vars.length≤1048576) (Q:Exit→Act→World→Prop) (v0 v1 v2 v3 v4 v6 v7 v8 v9 v10 v11 v12 v13 v14 v15 v16 v17 v18 v19 v20 v21 v22 v23 v24 v25 v26 v27 v28 v29 v30 v31 v32 v33 v34 v35 v36 v37 v38 v39 v40 v41 v42 v43 v44 v45 v46 v47 v48 v49 v50 v51 v52 v53 v54 v55 v56 v57 v58 v59 v60 v61 v62 v63 v64 v65:Value)
  (hC:∀ (w':World) (M':Mem) (b2:Option Addr) (m2 q2:Nat) (z21 z22 z23 z24:Value),Stp H M w M' w'→w'.heap[H]?=some (.cells #[.int .i64 x.kind,.string ⟨x.name.toArray⟩,.slice b2 m2 q2,.slice a3 l3 p3,.slice a4 l4 p4] 38 (0,0))→Rv M' noB (.slice (List.map aY x.vars) [] false) (.slice b2 m2 q2)→Q .normal ⟨#[v0,v1,v2,v3,v4,.pointer (some ⟨H,0,none⟩),v6,v7,v8,v9,v10,v11,v12,v13,v14,v15,v16,v17,v18,v19,v20,z21,z22,z23,z24,v25,v26,v27,v28,v29,v30,v31,v32,v33,v34,v35,v36,v37,v38,v39,v40,v41,v42,v43,v44,v45,v46,v47,v48,v49,v50,v51,v52,v53,v54,v55,v56,v57,v58,v59,v60,v61,v62,v63,v64,v65],[]⟩ w') :
  Code.wp Tryz.prog r6C Q ⟨#[v0,v1,v2,v3,v4,.pointer (some ⟨H,0,none⟩),v6,v7,v8,v9,v10,v11,v12,v13,v14,v15,v16,v17,v18,v19,v20,v21,v22,v23,v24,v25,v26,v27,v28,v29,v30,v31,v32,v33,v34,v35,v36,v37,v38,v39,v40,v41,v42,v43,v44,v45,v46,v47,v48,v49,v50,v51,v52,v53,v54,v55,v56,v57,v58,v59,v60,v61,v62,v63,v64,v65],[]⟩ w:=by
 have hHl:H<w.heap.size:=(Array.getElem?_eq_some_iff.1 hH).1
 obtain ⟨rfl,hnews⟩:=aZR hr
 have k2:w.cell? ⟨H,2,none⟩=some (.slice a2 x.vars.length p2):=by rw [cell_of_row w H _ _ _ _ hH];rfl
 have kf:w.frozen? ⟨H,2,none⟩=false:=frozen_of_row w H _ _ _ hH
 unfold r6C
 simp only [Tryz.f13,bY,inC,blA,blkC,lopC,fstC,sndC]
 replace hC:=(id hC:Hid _)
 by_cases h0:x.vars=[]
 ·have e0:x.vars.length=0:=by rw [h0];rfl
  rw [e0] at hr k2 hH
  have done:Hid (Stp H M w M (w.setCell ⟨H,2,none⟩ (.slice none 0 0))):=Stp.set hc hf 2 _
  have hrow:Hid ((w.setCell ⟨H,2,none⟩ (.slice none 0 0)).heap[H]?=_):=heap_setCell_same w H 2 _ _ (.slice none 0 0) hH
  have hnil:Hid (Rv M noB (.slice (List.map aY x.vars) [] false) (.slice none 0 0)):=by rw [h0];exact .nil false
  clear hnews
  cases a2 with
  | none =>
   go_wp2
   exact hC.out _ _ _ _ _ _ _ _ _ done hrow hnil
  | some a =>
   have hld:=bCD Tryz.prog a w
   go_wp2
   exact hC.out _ _ _ _ _ _ _ _ _ done hrow hnil
 ·obtain ⟨blk,off,news,rfl,hnl,hncell,hone,hnr⟩:=hnews h0
  obtain ⟨i0,z0,hi,hz0,hz1,hz2,hzc⟩:=aR8 Tryz.i54
  have hpos:0<x.vars.length:=List.length_pos_iff.2 h0
  have hn:∀ j u,news[j]?=some u→w.cell? ((⟨blk,off,none⟩:Addr).add j)=some u:=fun j u hu=>by rw [addN];exact aDl hc (hncell j u hu)
  replace hnr:=(id hnr:Hid _)
  replace hncell:=(id hncell:Hid _)
  go_wp2_with (at_builtin;refine wpList_append_lies _ rfl (.const (.slice none 0 0)) (.tmp 22) 35 rfl w.heap.size 54 i0 _ 10 136 Tryz.u35 hi hz0 hz1 hz2 hzc (by decide) (.slice none 0 0) 0 [] rfl (World.ownsRow_nil _ _ _ _) ⟨blk,off,none⟩ x.vars.length p2 news rfl hnl hn hone hpos (by simp [maxLen];omega) (by omega) (Nat.le_refl _) _ rfl ?_;intro g cap' w1 hown hgrow hat hlt;have e1:=hgrow.block H hHl (by simp [Value.ownBlock]);have k3:=(World.cell?_of_block (a:=⟨H,2,none⟩) e1).trans k2;have k4:=(World.frozen?_of_block (a:=⟨H,2,none⟩) e1).trans kf)
  have hgs:w.heap.size≤g:=by
   rcases hat with h | h
   ·simp [Value.ownBlock] at h
   ·omega
  have S1:=Stp.grown (H:=H) (n:=x.vars.length) (cap:=cap') hc hgrow hgs _ rfl
  have S2:=S1.trans (Stp.set S1.cons (S1.free hHl hf) 2 (.slice (some ⟨g,0,none⟩) x.vars.length cap'))
  have hown2:w1.ownsRow w.heap.size 54 10 (.slice (some ⟨g,0,none⟩) x.vars.length cap') x.vars.length news:=by
   have e:0+x.vars.length=x.vars.length:=Nat.zero_add _
   rw [e,List.nil_append] at hown
   exact hown
  have hc1:Cons M w1:=iB hc fun k hk _=>hgrow.block k hk (by simp [Value.ownBlock])
  exact hC.out _ _ _ _ _ _ _ _ _ S2 (heap_setCell_same w1 H 2 _ _ _ (e1.trans hH)) (aZS (w:=w) hc1 hown2 hnr.out)
theorem aPr (l:List GDir) (hl:bkSl kN l<1073741824) {M:Mem} {w:World} (v:Value) (hc:Cons M w) (hr:Rv M noB (.slice (List.map aH l) [] false) v) :
  Calls Tryz.prog 36 #[v] w fun e w'=>∃ a n p M',e = .returned (.slice a n p)∧Rv M' noB (.slice (List.map aH l) [] false) (.slice a n p)∧Cons M' w'∧Quiet M w M' w':=by
 have hk:=aKh l hl
 unfold aLe at hk
 have hs:O 36 [.slice (List.map aH l) [] false] []=some (.slice (List.map aH l) [] false,[]):=bM (enc:=fun r=>(aBl r,[])) hk
 have key:=aEK pokX xok hs (M:=M) (w:=w) (vals := #[v]) rfl hc ⟨rfl,fun i p hp=>by
  match i,hp with
  | 0,hp=>cases hp;exact ⟨hr,bR rfl⟩
  | i+1,hp=>simp at hp⟩
 refine key.mono ?_
 rintro e w' ⟨v,M',rfl,hv,hc',hq⟩
 obtain ⟨a,n,p,rfl⟩:=nB hv
 exact ⟨a,n,p,M',rfl,hv,hc',hq⟩
theorem aPs (l:List GSel) (hl:bJ l<1073741824) {M:Mem} {w:World} (v:Value) (hc:Cons M w) (hr:Rv M noB (.slice (List.map aG l) [] false) v) :
  Calls Tryz.prog 37 #[v] w fun e w'=>∃ a n p M',e = .returned (.slice a n p)∧Rv M' noB (.slice (List.map aG l) [] false) (.slice a n p)∧Cons M' w'∧Quiet M w M' w':=by
 have hk:=aVu l hl
 unfold aHG at hk
 have hs:O 37 [.slice (List.map aG l) [] false] []=some (.slice (List.map aG l) [] false,[]):=bM (enc:=fun r=>(qF r,[])) hk
 have key:=aEK pokX xok hs (M:=M) (w:=w) (vals := #[v]) rfl hc ⟨rfl,fun i p hp=>by
  match i,hp with
  | 0,hp=>cases hp;exact ⟨hr,bR rfl⟩
  | i+1,hp=>simp at hp⟩
 refine key.mono ?_
 rintro e w' ⟨v,M',rfl,hv,hc',hq⟩
 obtain ⟨a,n,p,rfl⟩:=nB hv
 exact ⟨a,n,p,M',rfl,hv,hc',hq⟩
end Go.Proofs.YtphmfillajagdaaGreat
