import Derived.Test.YtenmfogokijilaaGreatWb
import Derived.KernelRfl
import Derived.Test.YtenmfogokijilaaGreatWa
import Derived.Test.YtenmfogokijilaaGreatEc
import Derived.Test.YtenmfogokijilaaGreatGa
import Derived.Maps.AppendAt
import Derived.Deep.MidRow
import Derived.Laws.IdiomCopy
set_option maxHeartbeats 4000000
noncomputable section
set_option maxRecDepth 100000
set_option linter.unusedSectionVars false
set_option linter.unusedVariables false
set_option linter.unusedSimpArgs false
set_option linter.unusedSimpArgs false
open Go Go.Ev
namespace Go.Proofs.YtenmfogokijilaaGreat
theorem aZc {a d} (h:a.frags=d.frags) n:eJ a n=eJ d n:=by unfold eJ;rw [h]
theorem aRU {a d} (hfr : a.frags = d.frags) (t : dY d <= 4194304) (v : dY a <= 4194304) (w : ∀ f ∈ d.frags, ∀ r, tE d f.sels = some r -> f.name ∉ r) : aCs a = some false := by
 have hlen := jE d;have one : ∀ f ∈ d.frags, xO f a = some false := by
  intro f hf;have z : aK f.sels <= 4194304 := by
   have := bG dQ hf;have := cQ d;have := dE f;omega
  obtain ⟨l, g, A, o, y, c⟩ := aLk a f.sels (by omega);obtain ⟨r, m, u, p, j, m4, h, m6, q⟩ := aAr d f.sels (by omega);have hn : l.contains f.name = false := by
   cases e : l.contains f.name;· rfl
   have h1 := c (· ∈ m) h (fun n h1 h2 => by rw [aZc hfr] at h2 ⊢; exact m6 n h1 h2) f.name (by grind);exact absurd ((m4 f.name).2 ⟨h1, aYA hf⟩) (by grind)
  apply aJz;simp only [aNa, zU, g, bF, qV l f.name (by omega), hn, cx]
 obtain ⟨r, h1, h2⟩ := jK (b := zW a.frags a) a.frags (fun k (_ : Unit) => k) (fun _ _ => True) (fun r => r = .inl ())
  (fun _ _ => ⟨.inl (), by simp [zW, aFr, cx], rfl⟩)
  (fun k x _ hk s _ => by
   have g1 : nthI a.frags k = some a.frags[k] := by rw [dF]; exact by simp
   have g3 : decide ((k : Int) < a.frags.length) = true := by simp; omega
   rw [hfr] at hk;have i : a.frags[k] ∈ d.frags := by rw [<- hfr]; exact by simp
   exact .inr ⟨(), by simp only [zW, aFr, g3, eS, g1, bF, one _ i, jN, wadd (show k < 9223372036854775807 by omega), cx], trivial⟩)
  _ 0 () rfl (by omega) trivial
 subst h2;have h1' : cW (zW a.frags a) 0 = some (.inl ()) := h1;have e1 : aQW a.frags a = some (-1) := aWu (by simp [bCM, aNb, h1', cx]);have e2 : gS a.frags a = some false := xS (by simp only [qA, e1, cx]; rfl);exact aNc (by simp [aH5, e2, cx])
theorem bDV {a:List (List Item)} {b}:In a.flatten b->∃ c∈a,In c b:=by
 induction a with
 | nil=>intro h;exact (aOd h).elim
 | cons x a d =>
  intro h;rcases aZa h with h | h;all_goals grind
theorem aXu {d:List (List Item)} {a b} (h:a∈d) (c:In a b):In d.flatten b:=by
 cases c with
 | here c=>exact .here (List.mem_flatten.2 ⟨a,h,c⟩)
 | deep c e=>exact .deep (List.mem_flatten.2 ⟨a,h,c⟩) e
def Src (s:GSchema) (a:GDoc) (t:Str) (l:List GSel):Prop:=(∃ f∈a.frags,t=f.on_/\l=f.sels)∨∃ o∈a.ops,t=yK s o/\l=o.sels
def Fm (s:GSchema) (fs:List GFrag) (c:List (List Item)) (b:List (Str×List Item)):Prop:=∀ n,match fs.find? (fun f=>f.name==n) with
 | some f=>∃ a,qF n [] b=(a,true)/\a∈c/\Wf s f.on_ a f.sels
 | none=>qF n [] b=([],false)
structure Ls (s:GSchema) (a:GDoc) (ls:List (List Item)) (no:Int):Prop where
 pos:0<=no
 nm:Nm ls.flatten 0 no
 src:∀ its∈ls,∃ t l,Wf s t its l/\Src s a t l
theorem Ls.add {s a g f c b t l} (h:Ls s a g f) (k:Wf s t b l) (j:Nm b f c) (e:f<=c) (m:Src s a t l):Ls s a (g++[b]) c :=
 ⟨by have:=h.pos;omega,by rw [List.flatten_append];simp;exact h.nm.app j h.pos e,fun i d=>by
  rcases aa6.1 d with d | d;· exact h.src i d
  grind⟩
section
variable {s : GSchema} {a : GDoc} (hs : SOk s) (hA : dY a <= 4194304)
include hs hA
theorem bIK : ∃ ls no fm, cW (nJ s a) ([], 0, 0, []) = some (ls, no, fm) /\ ls.length <= a.frags.length /\ Ls s a ls no /\ no <= 4194304 /\ Fm s a.frags ls fm := by
 have p := jE a;obtain ⟨r, j, ls, no, fm, rfl, v⟩ := jK (b := nJ s a) a.frags (fun k (st : List (List Item) × Int × List (Str × List Item)) => (st.1, k, st.2.1, st.2.2))
  (fun k st => st.1.length <= k /\ Ls s a st.1 st.2.1 /\ st.2.1 + (sumL dQ (a.frags.drop k) : Nat) <= 4194304 /\ Fm s (a.frags.take k) st.1 st.2.2)
  (fun r => ∃ ls no fm, r = (ls, no, fm) /\ ls.length <= a.frags.length /\ Ls s a ls no /\ no <= 4194304 /\ Fm s a.frags ls fm)
  (by
   rintro ⟨ls, no, fm⟩ ⟨j1, j2, j3, j4⟩;refine ⟨(ls, no, fm), by simp [nJ, tM, cx], ls, no, fm, rfl, j1, j2, ?_, by rw [List.take_length] at j4; exact j4⟩;simp only [List.drop_length] at j3; simp [sumL] at j3; omega)
  (by
   rintro k f ⟨ls, no, fm⟩ hk z ⟨j1, j2, j3, j4⟩;simp only at j1 j2 j3 j4;have g1 : nthI a.frags k = some a.frags[k] := by rw [dF]; exact by simp
   have d : decide ((k : Int) < a.frags.length) = true := by simp; omega
   have htk : a.frags.take (k + 1) = a.frags.take k ++ [a.frags[k]] := by rw [List.take_succ_eq_append_getElem hk]
   have hdr : a.frags.drop k = a.frags[k] :: a.frags.drop (k + 1) := by simp
   have q := dE a.frags[k];have hpos := j2.pos;rw [hdr] at j3;simp [sumL] at j3;have hy := j4 a.frags[k].name;right;cases hf : (a.frags.take k).find? (fun f => f.name == a.frags[k].name) with
   | some x =>
    rw [hf] at hy;obtain ⟨its, u, B, y⟩ := hy;refine ⟨(ls, no, fm), ?_, by simp; omega, j2, by simp; omega, fun n => ?_⟩;· simp only [nJ, tM, d, eS, g1, bF, u, abm, jN, wadd (show k < 9223372036854775807 by omega), cx]
    have := j4 n;rw [htk, List.find?_append];cases hn : (a.frags.take k).find? (fun f => f.name == n) with
    | some l => rw [hn] at this; exact this
    | none =>
     rw [hn] at this;have hne : (a.frags[k].name == n) = false := by
      cases e : a.frags[k].name == n;· rfl
      rw [<- eq_of_beq e, hf] at hn; cases hn
     simpa [List.find?_cons, hne] using this
   | none =>
    rw [hf] at hy;obtain ⟨its, no', i, m, w, c, o⟩ := aZb hs fm [] [] a.frags[k].on_ a.frags[k].sels no (by omega) hpos (by omega);have hput : ∀ n, qF n ([] : List Item) (zG a.frags[k].name its fm) = bif n == a.frags[k].name then (its, true) else qF n [] fm := fun n => aUO;refine ⟨(ls ++ [its], no', zG a.frags[k].name its fm), ?_, by simp; omega, j2.add c o m (.inl ⟨_, aaK hk, rfl, rfl⟩), by simp; omega, fun n => ?_⟩;· have : tapp ls [its] = some (ls ++ [its]) := gM (by simp [gY]; omega);simp only [nJ, tM, d, eS, g1, bF, hy, Bool.not_false, i, hput, beq_self_eq_true, cond_true, this, wadd (show k < 9223372036854775807 by omega), cx]
    have := j4 n;simp;rw [htk, List.find?_append, hput];cases hn : (a.frags.take k).find? (fun f => f.name == n) with
    | some l =>
     rw [hn] at this;obtain ⟨its1, g, A, t⟩ := this;have hne : (n == a.frags[k].name) = false := by
      cases e : n == a.frags[k].name;· rfl
      rw [eq_of_beq e, hf] at hn; cases hn
     rw [hne];exact ⟨its1, g, by grind, t⟩
    | none =>
     rw [hn] at this;cases e : n == a.frags[k].name
     ·have hne : (a.frags[k].name == n) = false := by rw [aYQ]; exact e
      simpa [hne] using this
     have hne : (a.frags[k].name == n) = true := by rw [aYQ]; exact e
     simp only [List.find?_cons, hne];exact ⟨its, rfl, by simp, c⟩)
  _ 0 ([], 0, []) rfl (aaP _) ⟨by simp, ⟨Int.le_refl _, ⟨fun a h => (aOd h).elim, fun a b h => (aOd h).elim⟩, fun its h => by cases h⟩, by have := cQ a; simp; omega, fun n => by simp [qF]⟩
 exact ⟨ls, no, fm, j, v⟩
theorem bIL {ls no fm} (z : ls.length <= a.frags.length) (m : Ls s a ls no) (E : no <= 4194304) (t : Fm s a.frags ls fm) :
  ∃ ls' no', cW (qP s a fm) (ls, 0, no) = some (ls', no') /\ ls'.length <= 8388608 /\ Ls s a ls' no' /\ Fm s a.frags ls' fm /\ ∀ o ∈ a.ops, ∃ its ∈ ls', Wf s (yK s o) its o.sels := by
 have y := jE a;have e  := gR bkOp (fun x => by rw [kN]; omega) a.ops;have hops' : sumL bkOp a.ops + 1 <= dY a := by rw [mB]; simp [bkSl]; omega
 obtain ⟨r, g1, ls', no', rfl, g2⟩ := jK (b := qP s a fm) a.ops (fun k (st : List (List Item) × Int) => (st.1, k, st.2))
  (fun k st => st.1.length <= a.frags.length + k /\ Ls s a st.1 st.2 /\ st.2 + (sumL bkOp (a.ops.drop k) : Nat) <= 8388608 /\ Fm s a.frags st.1 fm /\ ∀ j (hj : j < k) d, ∃ its ∈ st.1, Wf s (yK s a.ops[j]) its a.ops[j].sels)
  (fun r => ∃ ls' no', r = (ls', no') /\ ls'.length <= 8388608 /\ Ls s a ls' no' /\ Fm s a.frags ls' fm /\ ∀ o ∈ a.ops, ∃ its ∈ ls', Wf s (yK s o) its o.sels)
  (by
   rintro ⟨ls, no⟩ ⟨j1, j2, j3, j4, j5⟩;refine ⟨(ls, no), by simp [qP, xZ, cx], ls, no, rfl, by simp at j1; omega, j2, j4, fun o p => ?_⟩;obtain ⟨j, hj, rfl⟩ := ab0 p;exact j5 j hj hj)
  (by
   rintro k o ⟨ls, no⟩ hk D ⟨j1, j2, j3, j4, j5⟩;simp at j1 j2 j3 j4 j5;have i : nthI a.ops k = some a.ops[k] := by rw [dF]; exact by simp
   have u : decide ((k : Int) < a.ops.length) = true := by simp; omega
   have hdr : a.ops.drop k = a.ops[k] :: a.ops.drop (k + 1) := by simp
   have w : aK a.ops[k].sels <= bkOp a.ops[k] := by rw [kN, bK]; simp [bkSl]; omega
   have F := bG bkOp (aaK hk);have hpos := j2.pos;rw [hdr] at j3;simp [sumL] at j3;obtain ⟨its, no', l, q, B, c, v⟩ := aZb hs fm [] [] (yK s a.ops[k]) a.ops[k].sels no (by omega) hpos (by omega);refine .inr ⟨(ls ++ [its], no'), ?_, by simp; omega, j2.add c v q (.inr ⟨_, aaK hk, rfl, rfl⟩), by simp; omega, fun n => ?_, fun j hj d => ?_⟩;· have : tapp ls [its] = some (ls ++ [its]) := gM (by simp [gY]; omega);simp only [qP, xZ, u, eS, i, bF, bAI, l, this, wadd (show k < 9223372036854775807 by omega), cx]
   ·have := j4 n;cases hn : a.frags.find? (fun f => f.name == n) with
    | some C =>
     rw [hn] at this;obtain ⟨its1, z1, g, A⟩ := this;exact ⟨its1, z1, by grind, A⟩
    | none => rw [hn] at this; exact this
   rcases aaG j k with h | h;· obtain ⟨its1, z1, g⟩ := j5 j h d;exact ⟨its1, by grind, g⟩
   have : j = k := by omega
   subst this;exact ⟨its, by simp, c⟩)
  _ 0 (ls, no) rfl (by omega) ⟨by simpa using z, m, by simp; omega, t, by omega⟩
 exact ⟨ls', no', g1, g2⟩
theorem aXv {d} (hfr : a.frags = d.frags) (D : Sm d.frags) (w : dY d <= 4194304) (hLp : aCs a = some false) (tm : Prop)
  (K : ∀ t l, Src s a t l -> ∃ n, n < 1000000 /\ Ex d l n) (L : tm -> ∀ t l, Src s a t l -> Lst s d t l) :
  ∃ r, lF s a 24 = some r /\ (tm -> r = true) /\ (r = true -> ∀ o ∈ a.ops, (o.sels.filter fun x => x.kind == 0).Pairwise fun x y => keyD x = keyD y -> x.name = y.name) := by
 obtain ⟨V, W, fm, m, C, G, H, F⟩ := bIK hs hA;obtain ⟨ls', no', b1, b2, b3, J, N⟩ := bIL hs hA C G H F;have hbk : ∀ t l, Src s a t l -> aK l <= 4194304 := by
  rintro t l (⟨f, hf, rfl, rfl⟩ | ⟨o, ho, rfl, rfl⟩);· have := bG dQ hf;have := cQ a;have := dE f;omega
  have := bG bkOp ho;have h1 : sumL bkOp a.ops + 1 <= dY a := by rw [mB]; simp [bkSl]; omega
  have : aK o.sels <= bkOp o := by rw [kN, bK]; simp [bkSl]; omega
  omega
 have E : Env s d (In ls'.flatten) fm := by
  refine ⟨fun b hb => ?_, fun n => ?_, fun x y hx hy => b3.nm.one x y hx hy, fun b hb => ?_⟩;· obtain ⟨its, h1, h2⟩ := bDV hb;obtain ⟨t, l, h3, _⟩ := b3.src its h1;exact ⟨fun c hc => ⟨aXu h1 (bKb h2 hc), (h3.sub b h2).1 c hc⟩, (h3.sub b h2).2⟩
  ·have := J n;rw [<- aZc hfr];unfold eJ;cases hn : a.frags.find? (fun f => f.name == n) with
   | some f =>
    rw [hn] at this;obtain ⟨its, M, T, i⟩ := this;simp [M];exact ⟨fun c hc => ⟨aXu T (.here hc), i.typ c hc⟩, i.xs⟩
   | none =>
    rw [hn] at this;simp at this;simp only [this];exact ⟨fun c hc => (by cases hc), rfl⟩
  obtain ⟨its, h1, h2⟩ := bDV hb;obtain ⟨t, l, h3, h4⟩ := b3.src its h1;have := h3.bk b h2;have := hbk t l h4;omega
 obtain ⟨r, R, v⟩ := jK (b := qQ s fm ls' no' a) ls' (fun k (st : Mp × Mp) => (k, st.1, st.2)) (fun k st => Inv2 (In ls'.flatten) tm (st.2, st.1) /\ ∀ j (hj : j < k) e, Fit (ls'[j].filter fun a => a.x.kind == 0))
  (fun r => (tm -> r = .inl ()) /\ (r = .inl () -> ∀ its ∈ ls', Fit (its.filter fun a => a.x.kind == 0)))
  (by
   rintro ⟨p, q⟩ ⟨g, j2⟩;refine ⟨.inl (), by simp [qQ, yA, cx], fun _ => rfl, fun _ its P => ?_⟩;obtain ⟨j, hj, rfl⟩ := ab0 P;exact j2 j hj hj)
  (by
   rintro k x ⟨p, q⟩ hk hx ⟨g, j2⟩;have A : nthI ls' k = some ls'[k] := by rw [dF]; exact by simp
   have B : decide ((k : Int) < ls'.length) = true := by simp; omega
   obtain ⟨t, l, h3, h4⟩ := b3.src ls'[k] (by simp);obtain ⟨n, S, I⟩ := K t l h4;obtain ⟨r, st', Q, U, O, z⟩ := bIJ hs D E tm w no' n S t ls'[k] (q, p) (fun c hc => ⟨aXu (by simp) (.here hc), h3.typ c hc⟩) (by rw [h3.xs]; exact I) g (fun h => by rw [h3.xs]; exact L h t l h4);have w1'  := Q;simp only [qQ, yA, B, eS, A, bF, w1', wadd (show k < 9223372036854775807 by omega), cx];cases r;· exact .inl ⟨.inr (), rfl, fun h => (by have := O h; cases this), fun h => by cases h⟩
   refine .inr ⟨(st'.2, st'.1), rfl, U, fun j hj e => ?_⟩;rcases aaG j k with h | h;· exact j2 j h e
   have : j = k := by omega
   subst this; exact z rfl)
  _ 0 ([], []) rfl (by omega) ⟨⟨fun _ p hp => (by cases hp), fun _ p hp => (by cases hp), fun p hp => (by cases hp)⟩, by intro j hj; omega⟩
 have c1' : cW (qQ s fm ls' no' a) (0, [], []) = some r := R;cases r with
 | inr u =>
  refine ⟨false, aGd ?_, fun h => (by have := v.1 h; cases this), fun h => by cases h⟩;simp only [aKt, aAX, hLp, bF, jN, m, b1, c1', aLw, cx];rfl
 | inl u =>
  refine ⟨true, aGd ?_, fun _ => rfl, fun _ o ho => ?_⟩;· simp only [aKt, aAX, hLp, bF, m, b1, c1', cx];rfl
  obtain ⟨its, h1, h2⟩ := N o ho;have hf := v.2 rfl its h1;rw [<- h2.xs, List.filter_map];refine List.pairwise_map.2 (List.Pairwise.imp_of_mem ?_ hf);intro x y hx hy hxy hk;rcases hxy hk with h | h;· rw [h2.typ x (aaM.1 hx).1, h2.typ y (aaM.1 hy).1] at h; exact by grind
  exact h
end
open Go Go.Ev
theorem bIM {d} (a:dY d<=4194304) n:aK (eJ d n).1.sels<=4194304:=by
 cases e:(eJ d n).2
 ·unfold eJ at e ⊢;split at e;· cases e
  rw [bK];simp [sumL]
 have:=bG dQ (qW e).1;have:=cQ d;have:=dE (eJ d n).1;omega
theorem bKc {d} (q:Sm d.frags) (f:dY d<=4194304) (m:Nat):m<=40->∀ N l,aK l<=N->N<=4194304->∃ r:Nat,nD d l m=some (r:Int)/\r<=m+aK l+m*4194304/\(r<=m->Ex d l r):=by
 induction m using Nat.strongRecOn with
 | _ m ihm =>
  intro F N;induction N using Nat.strongRecOn with
  | _ N ihN =>
   intro L s J;have loop:∀ (l:List GSel),aK l<=N->∀ (k n:Nat),L.drop k=l->n<=m+aK L+m*4194304->∃ r:Nat,cW (cY d L (m:Int)) ((n:Int),(k:Int))=some (r:Int)/\n<=r/\(r<=n∨r<=m+aK l+m*4194304)/\(r<=m->Ex d l (r-n)):=by
    intro l;induction l with
    | nil =>
     intro A k n hk w;exact ⟨n,cG (by simp only [cY,fZ,dr0 hk,jN,cx]),aa1 _,.inl (aa1 _),fun _ => .nil _⟩
    | cons x l z =>
     intro A k n hk w;have hbx:aK (x::l)=cZ x+aK l:=by simp only [bK,sumL]
     have o:=gV x;have hsm:Sm L:=by have:=fP L;show L.length<_;omega
     obtain ⟨e1,e2,p,e4⟩:=dr hsm hk;by_cases hnm:n<=m
     ·have c1:decide ((n:Int)<=(m:Int))=true:=by simp;omega
      have w1:IntKind.wrap .i64 ((m:Int)-(n:Int))=((m-n:Nat):Int):=by rw [wi (by omega)];omega
      have few1:∃ a:Nat,nD d x.sels ((m-n:Nat):Int)=some (a:Int)/\a<=(m-n)+aK x.sels+(m-n)*4194304/\(a<=m-n->Ex d x.sels a):=by
       rcases Nat.eq_zero_or_pos n with e | e;· subst e;exact ihN (aK x.sels) (by omega) x.sels (aa1 _) (by omega)
       exact ihm (m-n) (by omega) (by omega) (aK x.sels) x.sels (aa1 _) (by omega)
      obtain ⟨a,a1,E,t⟩:=few1;have w2:IntKind.wrap .i64 ((n:Int)+1)=((n+1:Nat):Int):=by rw [wi (by omega)];omega
      have w3:IntKind.wrap .i64 (((n+1:Nat):Int)+(a:Int))=((n+1+a:Nat):Int):=by rw [wi (by omega)];omega
      have next:∀ n2:Nat,n+1+a<=n2->n2<=m+cZ x+m*4194304->(∀ y:Nat,(n2<=m->y=n2-(n+1+a))->n2<=m->x.kind=1->Ex d (eJ d x.name).1.sels y)->(x.kind≠1->n2=n+1+a) ->
        cY d L (m:Int) ((n:Int),(k:Int))=some (.inl ((n2:Int),((k+1:Nat):Int))) ->
        ∃ r:Nat,cW (cY d L (m:Int)) ((n:Int),(k:Int))=some (r:Int)/\n<=r/\(r<=n∨r<=m+aK (x::l)+m*4194304)/\(r<=m->Ex d (x::l) (r-n)):=by
       intro n2 H I C G v;have B:cZ x<=aK L:=pX (List.mem_of_mem_drop (by rw [hk];exact List.mem_cons_self ..));obtain ⟨r,r1,j,r3,r4⟩:=z (by omega) (k+1) n2 p (by omega);refine ⟨r,by rw [fL v,r1],by omega,.inr (by rw [hbx];rcases r3 with r3 | r3<;>omega),fun h => ?_⟩;exact .cons (t (by omega)) (fun hk1=>C (n2-(n+1+a)) (fun _=>rfl) (by omega) hk1) (r4 h) (by omega)
      cases hk1:x.kind==1;· refine next (n+1+a) (aa1 _) (by omega) (fun y _ _ h=>by rw [h] at hk1;simp at hk1) (fun _=>rfl) ?_;simp only [cY,fZ,e1,eS,c1,e2,bF,w1,a1,hk1,jN,w2,w3,e4,cx]
      by_cases g:n+1+a<=m
      ·have c:decide (((n+1+a:Nat):Int)<=(m:Int))=true:=by simp;omega
       have i:IntKind.wrap .i64 ((m:Int)-((n+1+a:Nat):Int))=((m-(n+1+a):Nat):Int):=by rw [wi (by omega)];omega
       have hfb:=bIM f x.name;obtain ⟨b,b1,b2,D⟩:=ihm (m-(n+1+a)) (by omega) (by omega) _ (eJ d x.name).1.sels (aa1 _) hfb;have u:IntKind.wrap .i64 (((n+1+a:Nat):Int)+(b:Int))=((n+1+a+b:Nat):Int):=by rw [wi (by omega)];omega
       refine next (n+1+a+b) (by omega) (by omega) (fun y hy h _=>by rw [hy h];exact (D (by omega)).mono (by omega)) (fun h=>absurd (by simpa using hk1) h) ?_;simp only [cY,fZ,e1,eS,c1,e2,bF,w1,a1,hk1,w2,w3,c,yR d x.name q,i,b1,u,e4,cx]
      have c:decide (((n+1+a:Nat):Int)<=(m:Int))=false:=by simp;omega
      refine next (n+1+a) (aa1 _) (by omega) (fun y _ h=>by omega) (fun _=>rfl) ?_;simp only [cY,fZ,e1,eS,c1,e2,bF,w1,a1,hk1,w2,w3,c,jN,e4,cx]
     ·have c1:decide ((n:Int)<=m)=false:=by simp;omega
      exact ⟨n,cG (by simp only [cY,fZ,e1,eS,c1,jN,cx]),aa1 _,.inl (aa1 _),fun h=>absurd h hnm⟩
   obtain ⟨r,r1,j,r3,r4⟩:=loop L s 0 0 (by simp) (by omega);refine ⟨r,aIn ?_,by rcases r3 with r3 | r3<;>omega,fun h=>by simpa using r4 h⟩;have r1':cW (cY d L m) (0,0)=some r:=r1;simp [aLb,wW,r1',cx]
theorem aZd {α} {d} (M : Sm d.frags) (A : dY d <= 4194304) {b : Int × Int -> Option ((Int × Int) ⊕ Int)} l (g : α -> List GSel) (H : l.length <= 4194304) (L : ∀ x ∈ l, aK (g x) <= 4194304)
  (w : ∀ n k, b (n, k) = cnd (decide (k < l.length)) (cnd (decide (n <= 40)) (bnd (nthI l k) fun x => bnd (nD d (g x) 40) fun y => some (.inl (IntKind.wrap .i64 (n + y), IntKind.wrap .i64 (k + 1)))) (some (.inr n))) (some (.inr n))) (n : Nat) (D : n <= 1000000000) :
  ∃ r : Nat, cW b (n, 0) = some (r : Int) /\ r <= 1000000000 /\ n <= r /\ (r <= 40 -> ∀ x ∈ l, Ex d (g x) 40) := by
 obtain ⟨r, e, q, J, N, K, C⟩ := jK (b := b) l (fun k (n : Nat) => ((n : Int), (k : Int))) (fun k c => n <= c /\ c <= 1000000000 /\ (c <= 40 -> ∀ j (m : j < k) H, Ex d (g l[j]) 40)) (fun r => ∃ f : Nat, r = f /\ f <= 1000000000 /\ n <= f /\ (f <= 40 -> ∀ x ∈ l, Ex d (g x) 40))
  (by
   rintro c ⟨o, t, I⟩;refine ⟨c, by rw [w]; simp, c, rfl, t, o, fun h x u => ?_⟩;obtain ⟨j, m, rfl⟩ := ab0 u;exact by grind)
  (by
   rintro k x c G u ⟨o, t, I⟩;have B : nthI l k = some l[k] := by rw [dF]; exact by simp
   have v : decide ((k : Int) < l.length) = true := by simp; omega
   rw [w, B];by_cases i : c <= 40
   ·have p : decide ((c : Int) <= 40) = true := by simp; omega
    obtain ⟨a, P, Q, O⟩ := bKc M A 40 (by omega) _ (g l[k]) (aa1 _) (by grind);have s : nD d (g l[k]) 40 = some (a : Int) := P;have z := L _ (aaK G);refine .inr ⟨c + a, ?_, by omega, by omega, fun h j m F => ?_⟩;· simp only [v, p, bF, s, wadd (show k < 9223372036854775807 by omega)];rw [wi (by omega)]; simp
    rcases aaG j k with E | E;· exact by grind
    have : j = k := by omega
    subst this; exact (O (by omega)).mono (by omega)
   have p : decide ((c : Int) <= 40) = false := by simp; omega
   exact .inl ⟨c, by simp only [v, eS, p, jN], c, rfl, t, o, fun h => absurd h i⟩)
  _ 0 n rfl (by omega) ⟨by omega, D, fun _ j m => by omega⟩
 subst J;exact ⟨q, e, N, K, C⟩
theorem aGt {a}:a.ops.length<=dY a/\∀ o∈a.ops,aK o.sels<=dY a:=by
 have d:sumL bkOp a.ops+1<=dY a:=by rw [mB];simp [bkSl];omega
 have c  := gR bkOp (fun x=>by rw [kN];omega) a.ops;refine ⟨by omega,fun o b => ?_⟩;have:=bG bkOp b;have:aK o.sels<=bkOp o:=by rw [kN,bK];simp [bkSl];omega
 omega
theorem bGt {s d} (i:dY d<=4194304) (c:∃ b,zN s=some b) (e:∃ b,zO d=some b) :
  ∃ r,qZ s d=some r/\(r=true->(∀ o∈d.ops,Ex d o.sels 40)/\∀ f∈d.frags,Ex d f.sels 40):=by
 have l:=jE d;have j:Sm d.frags:=by omega
 obtain ⟨C,E⟩:=aGt (a:=d);obtain ⟨v,c⟩:=c;obtain ⟨u,e⟩:=e;obtain ⟨n,p,w,y,z⟩:=aZd j i (b:=kX d) d.ops (·.sels) (by omega) (fun o D=>by grind) (fun n k=>by simp [kX,rM,cx]) 0 (by omega);obtain ⟨m,t,B,A,x⟩:=aZd j i (b:=qG d) d.frags (·.sels) (by omega) (fun f q=>by have:=bG dQ q;have:=cQ d;have:=dE f;omega) (fun n k=>by simp [qG,rN,cx]) n w;have g:cW (kX d) (0,0)=some (n:Int):=p;cases v;· exact ⟨false,qH (by simp only [nQ,c,cx];rfl),fun h=>by cases h⟩
 cases u;· exact ⟨false,qH (by simp only [nQ,c,e,cx];rfl),fun h=>by cases h⟩
 refine ⟨decide ((m:Int)<=40),qH (by simp only [nQ,c,e,bF,g,t,cx];rfl),fun h => ?_⟩;grind
inductive Kb (M:Nat):List GSel->Prop
 | nil:Kb M []
 | cons {x:GSel} {l:List GSel}:x.alias.length<=M->x.name.length<=M->Kb M x.sels->Kb M l->Kb M (x::l)
theorem Kb.mono {M N l} (h:Kb M l) (e:M<=N):Kb N l:=by
 induction h with
 | nil=>exact .nil
 | cons d c _ _ a b=>exact .cons (by omega) (by omega) a b
theorem aZe N:∀ L,aK L<=N->N<=4194304->∃ o,wV L=some o/\o.length<=aK L/\Kb o.length L:=by
 induction N using Nat.strongRecOn with
 | _ N f =>
  intro L z F;have b:∀ l,aK l<=N->∀ k a,L.drop k=l->a.length+aK l<=8388608->∃ o,cW (iM L) (a,k)=some (a++o)/\o.length<=aK l/\∀ M,a.length+o.length<=M->Kb M l:=by
   intro l;induction l with
   | nil=>intro _ k a d r;exact ⟨[],cG (by simp only [iM,mO,dr0 d,jN,aac,cx]),by simp,fun _ _ => .nil⟩
   | cons x l q =>
    intro D k a d r;have i:aK (x::l)=cZ x+aK l:=by simp [bK,sumL]
    have E:x.alias.length+x.name.length+aK x.sels+1<=cZ x:=by rw [eN,bK];simp [bkSl,eV];omega
    have c:Sm L:=by have:=fP L;show L.length<_;omega
    obtain ⟨m,t,v,j⟩:=dr c d;obtain ⟨p,B,C,w⟩:=f (aK x.sels) (by omega) x.sels (by omega) (by omega);obtain ⟨o,g,h,s⟩:=q (by omega) (k+1) (a++x.alias++x.name++p) v (by simp;omega);refine ⟨x.alias++x.name++p++o,?_,by simp;omega,fun M n => ?_⟩;· have y:tapp a x.alias=some (a++x.alias):=gM (by simp [gY];omega);have u:tapp (a++x.alias) x.name=some (a++x.alias++x.name):=gM (by simp [gY];omega);have A:tapp (a++x.alias++x.name) p=some (a++x.alias++x.name++p):=gM (by simp [gY];omega);rw [fL (s':=(a++x.alias++x.name++p,((k+1:Nat):Int))) (by simp only [iM,mO,m,eS,t,bF,y,u,B,A,j,cx]),g];simp
    simp at n;exact .cons (by omega) (by omega) (w.mono (by omega)) (by grind)
  obtain ⟨o,g,h,s⟩:=b L z 0 [] (by simp) (by simp;omega);have e:cW (iM L) ([],0)=some ([]++o):=g;exact ⟨o,aFT (by simp [aAZ,e,cx]),h,by grind⟩
theorem aQP {d} (J : dY d <= 4194304) l (G : aK l <= 4194304) : ∃ o, oM d l = some o /\ o.length <= aK l + sumL dQ d.frags /\ Kb o.length l /\ ∀ f ∈ d.frags, Kb o.length f.sels := by
 have B := jE d;have u := cQ d;obtain ⟨p, H, K, A⟩ := aZe (aK l) l (by omega) G;obtain ⟨r, e, w, F, y⟩ := jK (b := jC d) d.frags (fun k a => (a, k)) (fun k a => a.length + sumL dQ (d.frags.drop k) <= aK l + sumL dQ d.frags /\ p.length <= a.length /\ ∀ j (c : j < k) n, Kb a.length d.frags[j].sels)
  (fun r => r.length <= aK l + sumL dQ d.frags /\ p.length <= r.length /\ ∀ f ∈ d.frags, Kb r.length f.sels)
  (by
   rintro a ⟨g, q, h⟩;refine ⟨a, by simp [jC, nR, cx], by omega, q, fun f C => ?_⟩;obtain ⟨j, c, rfl⟩ := ab0 C;exact h j c c)
  (by
   rintro k x a m M ⟨g, q, h⟩;have s : nthI d.frags k = some d.frags[k] := by rw [dF]; exact by simp
   have z : decide ((k : Int) < d.frags.length) = true := by simp; omega
   rw [abd m] at g;simp [sumL] at g;have t := dE d.frags[k];have := bG dQ (aaK m);obtain ⟨o, I, L, v⟩ := aZe (aK d.frags[k].sels) d.frags[k].sels (by omega) (by omega);have D : tapp a o = some (a ++ o) := gM (by simp [gY]; omega);refine .inr ⟨a ++ o, by simp only [jC, nR, z, eS, s, bF, I, D, wadd (show k < 9223372036854775807 by omega), cx], by simp; omega, by simp; omega, fun j c n => ?_⟩;rcases aaG j k with i | i;· exact (h j i n).mono (by simp)
   have : j = k := by omega
   subst this; exact v.mono (by simp))
  _ 0 p rfl (by omega) ⟨by simp; omega, by omega, by omega⟩
 have E : cW (jC d) (p, 0) = some r := e;exact ⟨r, aGU (by simp [aBV, H, E, cx]), w, A.mono F, y⟩
theorem bKK {s d M} (o:∀ f∈d.frags,Kb M f.sels) {t l} {F:List Spot} (h:Fl s d t l F):Kb M l->∀ p∈F,(keyD p.x).length<=M:=by
 induction h with
 | nil=>simp
 | fld m _ n =>
  intro b p a;cases b with
  | cons j i g c =>
   rcases aa3.1 a with rfl | a;· unfold keyD;grind
   grind
 | inl m _ _ _ k q =>
  intro b p a;cases b with
  | cons j i g c =>
   grind
 | @spr t x l G F m _ _ _ k q =>
  intro b p a;cases b with
  | cons j i g c =>
   rcases aa6.1 a with a | a
   ·refine k ?_ p a;cases e:(eJ d x.name).2
    ·unfold eJ at e ⊢;split at e;· cases e
     exact .nil
    exact o _ (qW e).1
   grind
 | oth _ _ _ _ n=>intro b;cases b with | cons j i g c=>grind
theorem bIN {s d f} (j:f.kind=0) {t l} {F:List Spot} (h:Fl s d t l F):Fl s d t (l++[f]) (F++[⟨t,f⟩]):=by
 induction h with
 | nil t=>exact .fld j (.nil t)
 | fld c _ a=>exact .fld c a
 | inl c e b _ _ a=>rw [aax];exact .inl c e b a
 | spr c e b _ _ a=>rw [aax];exact .spr c e b a
 | oth b i g _ a=>exact .oth b i g a
theorem bIO {d e} (m:e.kind=0) (j:e.sels=[]) {l n} (h:Ex d l n):Ex d (l++[e]) (n+1):=by
 induction h with
 | nil n=>exact .cons (a:=0) (b:=0) (c:=0) (by rw [j];exact .nil 0) (fun h=>by omega) (.nil 0) (by omega)
 | cons g f _ k _ _ i=>exact .cons g f i (by omega)
theorem bGu {s d a} (e:a.kind=0) (o:a.sels=[]) {M} (r:M<(keyD a).length) (g:∀ f∈d.frags,Kb M f.sels) {t l} (i:Kb M l) (h:Lst s d t l):Lst s d t (l++[a]):=by
 obtain ⟨⟨F,b,c⟩,u⟩:=h;refine ⟨⟨_,bIN e b,List.pairwise_append.2 ⟨c,by simp,fun p j q m v => ?_⟩⟩,fun x k n => ?_⟩;· have:=bKK g b i p j;grind
 grind
abbrev aRV (d:GDoc) (o:GOp) (a:List GOp) (x:GSel):GDoc:=⟨⟨o.kind,o.name,o.vars,o.dirs,o.sels++[x]⟩::a,d.frags⟩
section
variable {s : GSchema} {d : GDoc} {o : GOp} {os : List GOp} (h0 : d.ops = o :: os) (hs : SOk s) (hB : dY d <= 1048576) (hE : (∀ o ∈ d.ops,Ex d o.sels 40) /\ ∀ f ∈ d.frags,Ex d f.sels 40)
 (hL : ∀ f ∈ d.frags,∀ r,tE d f.sels = some r -> f.name ∉ r) {x : GSel} (hk : x.kind = 0) (hn : x.sels = []) (hx : cZ x <= 2200000)
include h0 hB hx
theorem bDW:dY (aRV d o os x)<=4194304:=by
 rw [mB,h0] at hB;rw [mB];simp [bkSl,sumL,kN,aLV] at hB ⊢;omega
include hs hE hL hk hn
theorem bDX:∀ t l,Src s (aRV d o os x) t l->∃ n,n<1000000/\Ex d l n:=by
 rintro t l (⟨f,c,rfl,rfl⟩ | ⟨b,a,rfl,rfl⟩);· grind
 rcases aa3.1 a with rfl | a;· exact ⟨41,by omega,bIO hk hn (by grind)⟩
 grind
theorem bGv (k:tD s d=some true) {M} (w:M<(keyD x).length) (A:Kb M o.sels) (y:∀ f∈d.frags,Kb M f.sels):lF s (aRV d o os x) 24=some true:=by
 have i:Sm d.frags:=by have:=jE d;omega
 have m:=bDW h0 hB hx;have b:∀ o∈d.ops,aK o.sels<=4194304:=fun o g=>by have:=(aGt (a:=d)).2 o g;omega
 have h:∀ f∈d.frags,aK f.sels<=4194304:=fun f c=>by have:=bG dQ c;have:=cQ d;have:=dE f;omega
 obtain ⟨r,p,z⟩:=aP6 hs i (by omega) (fun o g=>⟨40,by omega,hE.1 o g⟩) (fun f c=>⟨40,by omega,hE.2 f c⟩) b h (by have:=(aGt (a:=d)).1;omega);rw [k] at p;cases p;obtain ⟨q,B⟩:=z rfl;obtain ⟨r,v,u,_⟩:=aXv hs m (d:=d) rfl i (by omega) (aRU (d:=d) rfl (by omega) m hL) True (bDX h0 hs hB hE hL hk hn hx) (by
  rintro-t l (⟨f,c,rfl,rfl⟩ | ⟨j,g,rfl,rfl⟩);· exact aY9 hs i (by omega) (n:=40) (by omega) (h f c) (hE.2 f c) (B f c)
  rcases aa3.1 g with rfl | g
  ·have e:o∈d.ops:=by rw [h0];exact by simp
   exact bGu hk hn w y A (aY9 hs i (by omega) (n:=40) (by omega) (b o e) (hE.1 o e) (q o e))
  have e:j∈d.ops:=by exact by grind
  exact aY9 hs i (by omega) (n:=40) (by omega) (b j e) (hE.1 j e) (q j e))
 rw [v,u trivial]
theorem bDY {y} (hy:y∈o.sels) (j:y.kind=0) (c:keyD y=keyD x) (b:y.name≠x.name):lF s (aRV d o os x) 24=some false:=by
 have f:Sm d.frags:=by have:=jE d;omega
 have e:=bDW h0 hB hx;obtain ⟨r,g,_,i⟩:=aXv hs e (d:=d) rfl f (by omega) (aRU (d:=d) rfl (by omega) e hL) False (bDX h0 hs hB hE hL hk hn hx) (fun h=>h.elim);cases r;· exact g
 have k:=i rfl _ (List.mem_cons_self ..);grind
end
abbrev mW:GSchema:=GSchema.mk [(GDef.mk 1 [81] ([]:List Str) [(GFieldDef.mk [98] ([]:List GParam) (GType.mk [73,110,116] 0 0) ([]:List GDir)),(GFieldDef.mk [99] ([]:List GParam) (GType.mk [73,110,116] 0 0) ([]:List GDir))] ([]:List Str) ([]:List GParam))] [81] []
abbrev mX (n:Str):GSel:=GSel.mk 0 [97] n ([]:List GMember) ([]:List GDir) [] ([]:List GSel)
abbrev mD (n:Str):GDoc:=GDoc.mk [(GOp.mk 0 [] ([]:List GVarDef) ([]:List GDir) [mX [98],mX n])] ([]:List GFrag)
theorem bKd:SOk mW:=⟨by decide⟩
theorem aRW {s d} (a:SOk s) (h:Sm d.frags) t n (c:aGr s (fT s ⟨t,mX n⟩) (fT s ⟨t,mX n⟩)=true):fI s d ⟨t,mX n⟩ ⟨t,mX n⟩=some true:=by
 have i:∀ b,aEm s d b []=some []:=fun b=>by
  obtain ⟨F,_,m,_,o⟩:=aAu a h (Ex.nil 0) (by omega) b;grind
 have e:aLH s d ⟨t,mX n⟩ ⟨t,mX n⟩=some []:=aKP (by simp [bAr,aFD,sM s _ _ a,bF,i,cx];rfl);have g:cW (yJ s d [] ⟨t,mX n⟩ ⟨t,mX n⟩ (sK s t n) (sK s t n)) 0=some (.inl ()):=cG rfl;have f:cW (yG s d []) 0=some (.inl ()):=cG rfl;have k:qO s d ⟨t,mX n⟩ ⟨t,mX n⟩=some true:=aIC (by
  simp [aHg,aC7,aFI,bF,beq_self_eq_true,abm,aAp s _ _ a,aK1 s _ _ a,c,e,g,cx])
 have j:aH1 s d []=some true:=aC1 (by simp [aC0,f,cx]);have l:aLG ([]:List GMember) []=some true:=aK0 [] [] (by decide) (by decide) (by decide);exact aEQ (by
  simp [yH,qU,aFI,k,l,e,j,cx])
theorem bKL n:∀ t l,Src mW (mD n) t l->∃ k,k<1000000/\Ex (mD n) l k:=by
 rintro t l (⟨f,d,_⟩ | ⟨o,e,rfl,rfl⟩);· cases d
 cases aaw.1 e;refine ⟨2,by omega,.cons (a:=0) (b:=0) (c:=1) (.nil 0) (fun h=>by cases h) (.cons (a:=0) (b:=0) (c:=0) (.nil 0) (fun h=>by cases h) (.nil 0) (by omega)) (by omega)⟩
theorem bDZ n (j:n.length<=1) (b:Prop) (L:b->∀ t l,Src mW (mD n) t l->Lst mW (mD n) t l):∃ r,lF mW (mD n) 24=some r/\(b->r=true)/\(r=true->[98]=n):=by
 have a:dY (mD n)<=4194304:=by
  simp [mB,kN,eN,bkSl,sumL,eV,bk1];omega
 obtain ⟨r,i,g,c⟩:=aXv bKd a (d:=mD n) rfl (show Sm ([]:List GFrag) by decide) a (aRU (d:=mD n) rfl a a (fun f e=>by cases e)) b (bKL n) L;refine ⟨r,i,g,fun h => ?_⟩;have:=c h _ (aaw.2 rfl);have:=(abp.1 this).1 (mX n) (by simp) rfl;omega
theorem bGw:aDj=some true:=by
 have b  := aFS rfl;obtain ⟨r,e,_,k⟩:=bDZ [99] (by decide) False (fun h=>h.elim);have c:r=false:=by
  grind
 subst c;obtain ⟨r,g1,g2,_⟩:=bDZ [98] (by decide) True (by
  rintro-t l (⟨f,d,_⟩ | ⟨o,g,rfl,rfl⟩);· cases d
  cases aaw.1 g;refine ⟨⟨_,.fld rfl (.fld rfl (.nil _)),abp.2 ⟨fun p i _ => ?_,by simp⟩⟩,fun x j m => ?_⟩;· cases aaw.1 i;exact aRW bKd (show Sm ([]:List GFrag) by decide) _ _ (by decide)
  grind)
 rw [g2 trivial] at g1;apply aFO;have n:aEc (mX [98])=some [97]:=wN _;simp [aAO,b,e,g1,cx];show bnd (aEc (mX [98])) (fun a=>some (a==([97]:Str)))=some true;simp_all
open Go Go.Ev Go.Ev.PV
abbrev pS (s:GSchema):PV := .agg [(zq bN s.defs),(.str s.query),(.str s.mutation)]
abbrev pD (d:GDoc):PV := .agg [(zq cO d.ops),(zq aL d.frags)]
theorem bD0 s d b (h:aHT s d=some b):wU s d 22=some b :=
 kV (ds:=⟨[(118,.v aA)],[]⟩) (G:=cOp (aV9 s d) fun y=>cR y) (by simp [cx,h]) (aG aC) Tryz.func17 (fun _=>by kernel_rfl)
theorem bD1 s d b (h:aMK s d=some b):wU s d 23=some b :=
 kV (ds:=⟨[(123,.v aA)],[]⟩) (G:=cOp (aWa s d) fun y=>cR y) (by simp [cx,h]) (aG aC) Tryz.func17 (fun _=>by kernel_rfl)
theorem aU6 s d b (h:tD s d=some b):wU s d 24=some b :=
 kV (ds:=⟨[(128,.v aA)],[]⟩) (G:=cOp (aWb s d) fun y=>cR y) (by simp [cx,h]) (aG aC) Tryz.func17 (fun _=>by kernel_rfl)
theorem bGx s d b (h:aLE d=some b):wU s d 7=some (!b) :=
 kV (ds:=⟨[(61,.v aA)],[]⟩) (G:=cOp (aZQ d) fun y=>cR (!y)) (by simp [cx,h]) (aG aC) Tryz.func17 (fun _=>by kernel_rfl)
theorem bGy d (A : dY d <= 4194304) : ∃ b, aLE d = some b /\ (b = false -> ∀ f ∈ d.frags, ∀ r, tE d f.sels = some r -> f.name ∉ r) := by
 have l := jE d;have g : ∀ f ∈ d.frags, ∃ r, tE d f.sels = some r /\ aTd r f.name = some (r.contains f.name) := fun f e => by
  have := bG dQ e;have := cQ d;have := dE f;obtain ⟨r, m, p, _, B, _⟩ := aAr d f.sels (by omega);exact ⟨r, p, tT r f.name (by omega)⟩
 obtain ⟨r, v, t⟩ := jK (b := vY d) d.frags (fun k (_ : Unit) => k) (fun k _ => ∀ j (i : j < k) w, ∀ r, tE d d.frags[j].sels = some r -> d.frags[j].name ∉ r) (fun r => r = .inl () -> ∀ f ∈ d.frags, ∀ r, tE d f.sels = some r -> f.name ∉ r)
  (fun _ s => ⟨.inl (), by simp [vY, aCF, cx], fun _ f e => by
   obtain ⟨j, i, rfl⟩ := ab0 e;grind⟩)
  (fun k x _ C y s => by
   have g1 : nthI d.frags k = some d.frags[k] := by rw [dF]; simp
   have n : decide ((k : Int) < d.frags.length) = true := by grind
   obtain ⟨r, q, o⟩ := g d.frags[k] (by simp);simp only [vY, aCF, n, eS, g1, bF, q, o, wadd (show k < 9223372036854775807 by omega), cx];cases z : r.contains d.frags[k].name;· refine .inr ⟨(), rfl, fun j i w => ?_⟩;grind
   simp)
  _ 0 () rfl (by omega) (by simp)
 have c : cW (vY d) 0 = some r := v;cases r with
 | inl u => exact ⟨false, aKo (by simp [aJA, c, cx]), fun _ => t rfl⟩
 | inr u => exact ⟨true, aKo (by simp [aJA, c, cx]), fun h => by cases h⟩
theorem caps {a b c n} (f:bX a<=n) (e:bX b<=n) (d:bX c<=n):∀ v∈[a,b,c],bX v<=n:=by
 grind
theorem bIP s d n (e:eH s<=1048576) (f:dY d<=1048576) (i:0<=n/\n<=21):∃ b,wU s d n=some b:=by
 have h:=aBa s;have a:=aXd d;unfold Nr at h a;obtain ⟨r,c,g⟩:=bIx [fF s,tB d,.int .i64 n] (.cons (aIN s e) (.cons (bFz d f) (.cons (.one (.rng i)) .nil))) (.inr (caps (by grind) (by grind) (by simp [bX])));obtain ⟨b,rfl⟩:=aBy g;exact ⟨b,aHH (aG aC) c⟩
theorem bD2 s d (e:eH s<=1048576) (f:dY d<=1048576):∃ b,aMK s d=some b:=by
 have h:=aBa s;have a:=aXd d;unfold Nr at h a;obtain ⟨r,c,g⟩:=bDN [fF s,tB d] (.cons (aIN s e) (.cons (bFz d f) .nil)) (.inr fun v hv=>by
  grind)
 obtain ⟨b,rfl⟩:=aBy g;exact ⟨b,aHH (aG aC) c⟩
theorem bAY d (e:dY d<=1048576):∃ b,aCv d=some b:=by
 have a:=aXd d;unfold Nr at a;obtain ⟨r,c,f⟩:=bGf [tB d] (.cons (bFz d e) .nil) (.inr fun v hv=>by grind);obtain ⟨b,rfl⟩:=aBy f;exact ⟨b,aHH (aG aC) c⟩
theorem bGz s d (e:eH s<=1048576) (f:dY d<=1048576) (c:∃ b,tD s d=some b) (k:Nat) (g:k<=24):∃ b,wU s d k=some b:=by
 by_cases h:k<=21;· exact bIP s d k e f (by omega)
 have:k=22∨k=23∨k=24:=by omega
 rcases this with rfl | rfl | rfl;· obtain ⟨b,a,_⟩:=bDR s e d f;exact ⟨b,bD0 s d b a⟩
 ·obtain ⟨b,a⟩:=bD2 s d e f;exact ⟨b,bD1 s d b a⟩
 obtain ⟨b,a⟩:=c;exact ⟨b,aU6 s d b a⟩
theorem bIQ s d (m : eH s <= 1048576) (g : dY d <= 1048576) (f : ∃ b, tD s d = some b) : ∃ b, aGO s d 25 = some b /\ (b = true -> aCv d = some true /\ ∀ j : Nat, 1 <= j -> j < 25 -> wU s d j = some true) := by
 obtain ⟨r, c⟩ := bAY d g;obtain ⟨t, q, p⟩ := jK (b := aCD s d 25) (List.replicate 24 ()) (fun k (_ : Unit) => ((k + 1 : Nat) : Int)) (fun k _ => ∀ j , 1 <= j -> j < k + 1 -> wU s d j = some true) (fun t => t = .inl () -> ∀ j : Nat, 1 <= j -> j < 25 -> wU s d j = some true)
  (fun _ e => ⟨.inl (), rfl, fun _ => e⟩)
  (fun k x _ v w e => by
   rw [abj] at v;obtain ⟨b, l⟩ := bGz s d m g f (k + 1) (by omega);have n : decide (((k + 1 : Nat) : Int) < 25) = true := by simp; omega
   simp only [aCD, aJx, n, l, wadd (show k + 1 < 9223372036854775807 by omega), cx];cases b;· exact by simp
   refine .inr ⟨(), rfl, fun j o y => ?_⟩;rcases aaG j (k + 1) with i | i;· exact e j o i
   have : j = k + 1 := by omega
   subst this; exact l)
  _ 0 () rfl (by omega) (by omega)
 have a : cW (aCD s d 25) 1 = some t := q;cases r with
 | false => exact ⟨false, aGT (by simp only [aH3, c, cx]; rfl), fun h => by cases h⟩
 | true =>
  cases t with
  | inl u => exact ⟨true, aGT (by simp only [aH3, c, a, cx]; rfl), fun _ => ⟨c, p rfl⟩⟩
  | inr u => exact ⟨false, aGT (by simp only [aH3, c, a, cx]; rfl), fun h => by cases h⟩
theorem bD3 s (h:eH s<=1048576):∃ b,zN s=some b:=by
 obtain ⟨r,a,c⟩:=bFW [fF s] (.cons (aIN s h) .nil) (.inl rfl);obtain ⟨b,rfl⟩:=aBy c;exact ⟨b,aHH (aG aC) a⟩
theorem bD4 d (h:dY d<=1048576):∃ b,zO d=some b:=by
 obtain ⟨r,a,c⟩:=bFV [tB d] (.cons (bFz d h) .nil) (.inl rfl);obtain ⟨b,rfl⟩:=aBy c;exact ⟨b,aHH (aG aC) a⟩
theorem bGA s (h:eH s<=1048576):∃ b,aQU s=some b:=by
 have d:=aBa s;unfold Nr at d;obtain ⟨r,a,c⟩:=bGp [fF s] (.cons (aIN s h) .nil) (.inr fun v hv=>by grind);have  := by
  cases c with | one h=>exact sL h
 obtain ⟨n,rfl⟩:=this;exact ⟨n,aHH (aG sA) a⟩
theorem bD5 {b c:Bool} (h:some b=some c):b=c:=by cases h;rfl
theorem bD6 (s:GSchema) (d:GDoc) (hs:eH s<=1048576) (hd:dY d<=1048576) (hE:(∀ o∈d.ops,Ex d o.sels 40)/\∀ f∈d.frags,Ex d f.sels 40):∃ b,tD s d=some b:=by
 have hf:Sm d.frags:=by have:=jE d;show d.frags.length<_;omega
 obtain ⟨r,hr,_⟩:=aP6 (s:=s) ⟨by omega⟩ hf (by omega) (fun o ho=>⟨40,by omega,hE.1 o ho⟩) (fun f hf=>⟨40,by omega,hE.2 f hf⟩)
  (fun o ho=>by have:=(aGt (a:=d)).2 o ho;omega) (fun f hf=>by have:=bG dQ hf;have:=cQ d;have:=dE f;omega) (by have:=(aGt (a:=d)).1;show d.ops.length<_;omega)
 exact ⟨r,hr⟩
theorem aJ2 (s:GSchema) (d:GDoc) (hs:eH s<=1048576) (hd:dY d<=1048576) (hE:(∀ o∈d.ops,Ex d o.sels 40)/\∀ f∈d.frags,Ex d f.sels 40) :
  ∃ b,aGO s d 25=some b/\(b=true->aCv d=some true/\tD s d=some true/\∀ f∈d.frags,∀ r,tE d f.sels=some r->f.name∉r):=by
 obtain ⟨c,hc⟩:=bD6 s d hs hd hE
 obtain ⟨b,hb,h1⟩:=bIQ s d hs hd ⟨c,hc⟩
 refine ⟨b,hb,fun h => ?_⟩
 obtain ⟨h2,h3⟩:=h1 h
 obtain ⟨l,hl,h4⟩:=bGy d (by omega)
 have e7:=bGx s d l hl
 have e24:=aU6 s d c hc
 have g7:wU s d 7=some true:=h3 7 (by omega) (by omega)
 have g24:wU s d 24=some true:=h3 24 (by omega) (by omega)
 rw [g7] at e7
 rw [g24] at e24
 have hl':l=false:=by
  cases l with
  | false=>rfl
  | true=>exact absurd (bD5 e7) (by decide)
 have hc':c=true:=(bD5 e24).symm
 subst hl' hc'
 exact ⟨h2,hc,h4 rfl⟩
theorem bKe {α} {enc:α->PV} {bk l} (h:∀ x,Nr (bX (enc x)) (bk x)) (a:sumL bk l<=1048576):bX (PV.slice (l.map enc) [] false)<=2097152:=by
 have q:=psl (l:=l) (fun x _=>h x);simp [bX];omega
theorem aZf l a b (f:sumL gF l<=1048576):∃ c,aKi l a b=some c:=by
 have h:=gR gF (fun x=>by rw [jF];omega) l;obtain ⟨r,e,g⟩:=aBe [.slice (l.map bJ) [] false,.int .i64 a,.bool b] (.cons (.one (lfSl (fun x d=>bDs x (by have:=bG gF d;omega)) (by omega))) (.cons (.one (.int _ _)) (.cons (.one (.bool _)) .nil))) (.inr (caps (bKe bDB f) (by show _<=2097152;simp [bX]) (by show _<=2097152;simp [bX])));obtain ⟨c,rfl⟩:=aBy g;exact ⟨c,aHH (aG aC) e⟩
theorem bGB l a (e:sumL cZ l<=1048576):∃ c,oO l a=some c:=by
 have g:=gR cZ aNO l;obtain ⟨r,d,f⟩:=aKZ [.slice (l.map aH) [] false,.int .i64 a] (.cons (.one (lfSl (fun x b=>bFy x (by have:=bG cZ b;omega)) (by omega))) (.cons (.one (.int _ _)) .nil)) (.inr fun v hv=>by
  show _<=2097152;rcases aa3.1 hv with rfl | hv;· exact bKe bAF e
  rw [aaw.1 hv];simp [bX])
 obtain ⟨c,rfl⟩:=aBy f;exact ⟨c,aHH (aG aC) d⟩
theorem bIR x a (e:cZ x<=1048576):∃ c,uO x a=some c:=by
 have d:=bAF x;unfold Nr at d;obtain ⟨r,b,f⟩:=aXo [aH x,.int .i64 a] (.cons (bFy x e) (.cons (.one (.int _ _)) .nil)) (.inr fun v hv=>by
  show _<=2097152;rcases aa3.1 hv with rfl | hv;· omega
  rw [aaw.1 hv];simp [bX])
 obtain ⟨c,rfl⟩:=aBy f;simp [tys] at b;exact ⟨c,aHH (aG aC) b⟩
theorem bIS x b (i:cZ x<=1048576) (f:x.kind=0) (h:x.name=[]):uO x b=some false:=by
 have e:=eN x;simp [bkSl] at e;obtain ⟨c,g⟩:=aZf x.dirs b false (by omega);have d:aQ4 x.name=some false:=by rw [h];exact aFG [] (by simp)
 apply aNL;simp [aIA,g,f,d,cx];cases c<;>rfl
theorem bGC l a (w : sumL cZ l <= 1048576) x (f : x ∈ l) (i : x.kind = 0) (p : x.name = []) : oO l a = some false := by
 have m := gR cZ aNO l;have e : ∀ y ∈ l, cZ y <= 1048576 := fun y hy => by have := bG cZ hy; omega
 obtain ⟨r, t, s⟩ := jK (b := mV l a) l (fun k (_ : Unit) => k) (fun k _ => ∀ j (h : j < k) m, uO l[j] a = some true) (fun r => r = .inl () -> ∀ y ∈ l, uO y a = some true)
  (fun _ q => ⟨.inl (), by simp [mV, tQ, cx], fun _ y hy => by
   obtain ⟨j, h, rfl⟩ := ab0 hy;grind⟩)
  (fun k z _ i v q => by
   have g1 : nthI l k = some l[k] := by rw [dF]; simp
   have n : decide ((k : Int) < l.length) = true := by grind
   obtain ⟨c, o⟩ := bIR l[k] a (by grind);simp only [mV, tQ, n, g1, bF, o, wadd (show k < 9223372036854775807 by omega), cx];cases c;· simp
   refine .inr ⟨(), rfl, fun j h m => ?_⟩;grind)
  _ 0 () rfl (by omega) (by simp)
 have d : cW (mV l a) 0 = some r := t;apply aLg;cases r with
 | inl u => have g := s rfl x f; rw [bIS x a (e x f) i p] at g; cases g
 | inr u =>
  simp [aGl, d, cx];cases ((l.length : Int) == 0) <;> cases decide (a > 16) <;> rfl
theorem bIT h v (d:bY v<=1048576):∃ c,aEl h v=some c:=by
 have b:=aJY v;unfold Nr at b;obtain ⟨r,a,e⟩:=aAt [.bool h,aW v] (.cons (.one (.bool _)) (.cons (aRA v d) .nil)) (.inr fun v hv=>by
  rcases aa3.1 hv with rfl | hv;· simp [bX]
  grind)
 obtain ⟨c,rfl⟩:=aBy e;simp [tys] at a;exact ⟨c,aHH (aG aC) a⟩
theorem bKf d (I:dY d<=1048576) (i:Int) (H:0<=i) (D:i<d.ops.length) {y} (e:nthI d.ops i=some y) (hy:y∈d.ops):oV d i=some (.inr (.inr ()))∨(oV d i=some (.inl (IntKind.wrap .i64 (i+1)))/\oO y.sels 1=some true):=by
 have L:=bG bkOp hy;have A:=mB d;have m:=kN y;have es:=bK y.sels;simp [bkSl] at A m;rw [bL] at m;obtain ⟨a,w⟩:=aZf y.dirs 0 true (by omega);obtain ⟨b,j⟩:=bGB y.sels 1 (by omega);have p:=aFG y.name (by omega);have hv:=gR mA (fun x=>by rw [jB];omega) y.vars;obtain ⟨t,q,_⟩:Te (cW (aED y) 0):=by
  refine Tt.idx y.vars.length (by omega) fun k g J => ?_;simp [aED,aG8,cx];refine Tt.cnd (fun f=>Tt.nth ⟨g,pH f⟩ fun v hv _ => ?_) fun _=>Tt.ret (Ix.r trivial);have F:=bG mA hv;have z:=jB v;rw [bL] at z;refine Tt.eq (aFG v.name (by omega)) (Tt.cnd (fun _=>Tt.ret (Ix.r trivial)) fun _=>Tt.nth ⟨g,pH f⟩ fun v hv _ => ?_);have G:=bG mA hv;have o:=jB v;have s:=jA v.t;rw [bL] at o s;refine Tt.bnd (bDE v.t (by unfold TN;omega)) fun c _=>Tt.cnd (fun _=>Tt.ret (Ix.r trivial)) fun _=>Tt.nth ⟨g,pH f⟩ fun B n C=>Tt.nth ⟨g,pH f⟩ fun v hv _ => ?_;have K:=bG mA hv;have E:=jB v;obtain ⟨c,h⟩:=bIT B.has v.default (by omega);exact Tt.eq h (Tt.cnd (fun _=>Tt.ret (Ix.r trivial)) fun _=>Tt.ret (Ix.lf f))
 have u:decide (i<d.ops.length)=true:=by simp;omega
 simp only [oV,aCN,wG,u,eS,e,bF,p,w,j,q,cx];cases y.kind != 0<;>cases y.kind != 1<;>cases !(y.name==([]:Str))<;>cases aYP y.name<;>cases a<;>cases b<;>cases t<;>first | exact .inl rfl | exact by simp
theorem aXw d (p : dY d <= 1048576) (h : aCv d = some true) : ∀ o ∈ d.ops, ∀ x ∈ o.sels, x.kind = 0 -> x.name ≠ [] := by
 have i := (aGt (a := d)).1;obtain ⟨r, w, v⟩ := jK (b := oV d) d.ops (fun k (_ : Unit) => k) (fun k _ => ∀ j (l : j < k) y, oO d.ops[j].sels 1 = some true) (fun r => r = .inl () -> ∀ o ∈ d.ops, oO o.sels 1 = some true)
  (fun _ t => ⟨.inl (), by simp [oV, aCN, cx], fun _ o c => by
   obtain ⟨j, l, rfl⟩ := ab0 c;grind⟩)
  (fun k z _ m A t => by
   have g1 : nthI d.ops k = some d.ops[k] := by rw [dF]; simp
   rcases bKf d p k (by omega) (by omega) g1 (by simp) with e | ⟨e, f⟩;· grind
   refine .inr ⟨(), by rw [e, wadd (show k < 9223372036854775807 by omega)], fun j l y => ?_⟩;grind)
  _ 0 () rfl (by omega) (by simp)
 have g : cW (oV d) 0 = some r := w;cases r with
 | inr u =>
  have : aCv d = some false := aTP (by simp [aPH, g, cx]);grind
 | inl u =>
  intro o c x n m q;have f := v rfl o c;have s := (aGt (a := d)).2 o c;rw [bK] at s;rw [bGC o.sels 1 (by omega) x n m q] at f;cases f
abbrev rS (a:Str):GSel:=GSel.mk 0 a tnS ([]:List GMember) ([]:List GDir) [] ([]:List GSel)
theorem bD7 {a:Str} (h:a≠[]):keyD (rS a)=a:=by
 show (bif (0:Int) != 0 then ([]:Str) else bif !(a==([]:Str)) then a else tnS)=a;grind
theorem bKg a:cZ (rS a)<=a.length+30:=by
 simp [eN,bkSl,sumL,eV,bk1];omega
section
variable {s : GSchema} {d : GDoc} {o : GOp} {os : List GOp} (h0 : d.ops = o :: os) (hs : eH s <= 1048576) (hB : dY d <= 1048576) (hE : (∀ o ∈ d.ops,Ex d o.sels 40) /\ ∀ f ∈ d.frags,Ex d f.sels 40) (hK : aGO s d 25 = some true)
include h0 hs hB hE hK
theorem bKM:∃ c,oM d o.sels=some c/\c.length<=2097152/\lF s (aRV d o os (rS ([107]++c))) 24=some true:=by
 obtain ⟨b,h,m⟩:=aJ2 s d hs hB hE;rw [hK] at h;cases h;obtain ⟨_,g,j⟩:=m rfl;have n:o∈d.ops:=by grind
 have r:=(aGt (a:=d)).2 o n;have q:=cQ d;obtain ⟨c,k,p,l,i⟩:=aQP (d:=d) (by omega) o.sels (by omega);have f:([107]++c:Str)≠[]:=by simp
 have e:=bKg ([107]++c);simp only [aar,aaV,aaH] at e;exact ⟨c,k,by omega,bGv h0 ⟨by omega⟩ hB hE j rfl rfl (by omega) g (M:=c.length) (by rw [bD7 f];simp) l i⟩
theorem bKN {x} (f:x∈o.sels) (h:x.kind=0) (n:x.name≠tnS):lF s (aRV d o os (rS (keyD x))) 24=some false:=by
 obtain ⟨b,i,r⟩:=aJ2 s d hs hB hE;rw [hK] at i;cases i;obtain ⟨q,_,p⟩:=r rfl;have k:o∈d.ops:=by grind
 have u:=(aGt (a:=d)).2 o k;have t:=pX f;have c:=aXw d hB q o k x f h;have m:keyD x=bif !(x.alias==([]:Str)) then x.alias else x.name:=by unfold keyD;grind
 have g:keyD x≠[]:=by
  grind
 have j:(keyD x).length<=cZ x:=by
  have e:=eN x;simp [eV] at e;grind
 have l:=bKg (keyD x);exact bDY h0 ⟨by omega⟩ hB hE p rfl rfl (by omega) f h (bD7 g).symm n
end
open Go Go.Ev Go.RowKit
abbrev pvS (s:GSchema):PV := .agg [(.slice (List.map bN s.defs) [] false),(.str s.query),(.str s.mutation)]
abbrev pvD (d:GDoc):PV := .agg [(.slice (List.map cO d.ops) [] false),(.slice (List.map aL d.frags) [] false)]
abbrev ptr (Z:Nat):Value := .pointer (some ⟨Z,0,none⟩)
theorem DS.shut {m B E M w d frags f g ys zs u2 u k} (h:DS m B E M w d frags f ys g zs u2 u k) (hc:Cons M w):∃ M',(∀ b i v,M b i=some v->M' b i=some v)/\Cons M' w/\Rv M' noB (.agg [(.slice (List.map cO d) [] false),(.slice (List.map aL frags) [] false)]) (.agg #[f,g])/\∀ b,¬ (f.ownBlock=some b∨g.ownBlock=some b∨Own2 k b)->∀ i,M' b i=M b i:=by
 obtain ⟨y,h2⟩:=h.mrk _ (aa4 h.isx);obtain ⟨n,q,p,hcv,f1⟩:=y.frz hc;have r:=aEY (v:=f) p;have o:=tV (v:=f) p;have c3:=aEY (v:=g) r;have l:=tV (v:=g) r;have hA:OpAt n d ys:=by
  refine ⟨h.rowsA.1,fun i x hx => ?_⟩;obtain ⟨v2,t,v4,j,s⟩:=h.rowsA.2 i x hx;refine ⟨v2,t,v4,?_,s⟩;rcases j with ⟨rfl,rfl,rfl,rfl⟩ | ⟨_,j⟩;· grind
  exact j.mono q
 have rA:=aPW hA h.ownA o aII;have rF:=aPX (h.rows.mono q).at' h.own (fun b i v hv=>l b i v (o b i v hv)) aII;refine ⟨frzV g (frzV f n w) w,fun b i v hv=>by grind,c3,.agg _ _ (fun i=>(#[f,g]:Array Value).getD i undef) rfl (fun i hi => ?_) (fun i c a => ?_),fun b hb i => ?_⟩;· simp_all
 ·match i,a with
  | 0,a=>cases a;exact rA.mono l (fun _ _ _ h=>h)
  | 1,a=>simp_all
 rw [yQ (fun e=>by grind),yQ (fun e=>by grind),f1 b (fun e=>by grind)]
structure Put (B E:Nat) (M:Mem) (w:World) (M':Mem) (w':World):Prop where
 mem:∀ b i v,M b i=some v->M' b i=some v
 nx:∀ k,k<w.heap.size->(k<B∨E<=k)->w'.heap[k]?=w.heap[k]?/\∀ i,M' k i=M k i
 os:w'.os=w.os
 tape:w'.tape=w.tape
 output:w'.output=w.output
 size:w.heap.size<=w'.heap.size
 cons:Cons M' w'
structure Cl (M:Mem) (w:World) (M1:Mem) (w1:World):Prop where
 b:Below w.heap.size w w1
 m:∀ b i v,M b i=some v->M1 b i=some v
 o:∀ b,b<w.heap.size->∀ i,M1 b i=M b i
 c:Cons M1 w1
theorem Cl.refl {M w} (a:Cons M w):Cl M w M w:=⟨Below.refl _ _,fun _ _ _ h=>h,fun _ _ _=>rfl,a⟩
theorem Cl.start {M w} (a:Cons M w):Cl M w M w.drew:=⟨(Below.refl _ _).drew,fun _ _ _ h=>h,fun _ _ _=>rfl,aIK a⟩
theorem Cl.al {M a w d} (h:Cl M w a d) o:Cl M w a (d.alloc o):=⟨h.b.trans ((Below.refl _ _).alloc h.b.size o),h.m,h.o,pY h.c ((Below.refl _ _).alloc (by omega) o)⟩
theorem Cl.q {M e d w g a} (h:Cl M w e g) (q:Quiet e g d a) (c:Cons d a):Cl M w d a :=
 ⟨h.b.trans ⟨q.os,q.tape,q.output,q.size,fun b f=>(q.old b (by have:=h.b.size;omega)).1⟩,fun b i v hv=>q.mem b i v (h.m b i v hv),fun b f i=>((q.old b (by have:=h.b.size;omega)).2 i).trans (h.o b f i),c⟩
theorem Cl.from {M e d w g a} (h:Cl M w e g) (q:From w.heap.size e g d a) (c:Cons d a):Cl M w d a :=
 ⟨h.b.trans q.below,fun b i v hv=>q.mem b i v (h.m b i v hv),fun b f i=>(q.old b f i).trans (h.o b f i),c⟩
theorem bKO {w:World} {b:Nat} {p} o (h:w.heap[b]?=some p):(w.alloc o).heap[b]?=some p:=(heap_alloc_old w o (aag.1 h).1).trans h
theorem at_q {M c w a} {b:Nat} {p} (q:Quiet M w c a) (h:w.heap[b]?=some p):a.heap[b]?=some p:=(q.old b (aag.1 h).1).1.trans h
theorem bIU (w:World) o p:((w.alloc o).alloc p).heap[w.heap.size+1]?=some p:=by
 have:=heap_alloc_new (w.alloc o) p;simp_all
theorem Cl.box {M M' w w'} {b:Nat} {o} (h:Cl M w M' w') (a:w.heap[b]?=some o):w'.heap[b]?=some o:=(h.b.block b (aag.1 a).1).trans a
theorem Cl.frm {n M M' w w'} (h:Cl M w M' w') (c:n<=w.heap.size):From n M w M' w' :=
 ⟨h.m,fun b a i=>h.o b (by omega) i,h.b.os,h.b.tape,h.b.output,h.b.size,fun b a=>h.b.block b (by omega)⟩
theorem Put.frm {B E n M M' w w'} (h:Put B E M w M' w') (c:n<=B) (d:n<=w.heap.size):From n M w M' w' :=
 ⟨h.mem,fun b a i=>(h.nx b (by omega) (by omega)).2 i,h.os,h.tape,h.output,h.size,fun b a=>(h.nx b (by omega) (by omega)).1⟩
theorem From.of_le {n m M M' w w'} (h:From m M w M' w') (c:n<=m):From n M w M' w' :=
 ⟨h.mem,fun b a i=>h.old b (by omega) i,h.below.os,h.below.tape,h.below.output,h.below.size,fun b a=>h.below.block b (by omega)⟩
theorem From.box {n M M' w w' b o} (h:From n M w M' w') (c:w.heap[b]?=some o) (a:b<n):w'.heap[b]?=some o:=(h.below.block b a).trans c
theorem Put.box {B E M M' w w' b o} (h:Put B E M w M' w') (a:w.heap[b]?=some o) (c:b<B∨E<=b):w'.heap[b]?=some o:=(h.nx b (aag.1 a).1 c).1.trans a
theorem Cl.of {M M' w w'} (h:From w.heap.size M w M' w') (c:Cons M' w'):Cl M w M' w':=⟨h.below,h.mem,h.old,c⟩
theorem Cl.trans {M d f w g e} (h:Cl M w d g) (a:Cl d g f e):Cl M w f e := .of ((h.frm (by omega)).trans (a.frm h.b.size)) a.c
structure DB (B E:Nat) (M:Mem) (w:World) (ops:List GOp) (frags:List GFrag) (Z gA n capA:Nat) (vf:Value) (ys zs:List Value) (u2 u3 u4:Value):Prop where
 ds:DS 0 B E M w ops frags (.slice (some ⟨gA,0,none⟩) n capA) ys vf zs u2 u3 u4
 le:E<=w.heap.size
 box:w.heap[Z]?=some (.cells #[.slice (some ⟨gA,0,none⟩) n capA,vf] 28 (0,0))
 out:E<=Z∨Z<B
 fz:∀ i,M Z i=none
 vfs:∃ a n c,vf = .slice a n c
theorem DB.form {B E M w g frags Z d n b vf ys zs u2 u3 D} (h:DB B E M w g frags Z d n b vf ys zs u2 u3 D) {x} (hx:g[0]?=some x) :
  ∃ (m:Option Addr) (l:Nat) (a:List Value),D = .slice m x.sels.length l/\0<n/\a.length=x.sels.length*7/\(∀ i p j c,(List.map aH x.sels)[i]?=some p->p.cells[j]?=some c->∃ u,a[i*7+j]?=some u/\Rv M noB c u) /\
   (Value.slice m x.sels.length l).ownBlock≠some d/\(Value.slice m x.sels.length l).ownBlock≠some Z/\B<=w.heap.size /\
   ∀ w',Below w.heap.size w w'->w'.cell? ⟨Z,0,none⟩=some (.slice (some ⟨d,0,none⟩) n b)/\w'.cell? ⟨d,4,none⟩=some (.slice m x.sels.length l)/\w'.frozen? ⟨d,4,none⟩=false/\Z<w'.heap.size/\d<w'.heap.size/\w'.ownsRow B 40 7 (.slice m x.sels.length l) x.sels.length a:=by
 obtain ⟨hm,v⟩:=h.ds.mrk x hx;obtain ⟨a,f,o⟩:=hm.o4.own;rw [aau] at f;obtain ⟨m,l,rfl⟩:=aFF f;obtain ⟨gA',n',C,z,hnl,_,_,A⟩:=h.ds.at_;have hn:n=g.length:=by injection z with e1 e2 e3;omega
 have hgA:=h.ds.hi d (.inl rfl);have s:=h.ds.ownA;have hE:=h.le;have ho:=h.out;have y  := (aag.1 h.box).1;have h2  := fun k r=>h.ds.hi k (.inr (.inr r));refine ⟨m,l,a,rfl,by have:=h.ds.isx;omega,f.1,o,fun e=>(v d e).1 rfl,fun e=>by have:=h2 Z e;omega,by omega,fun w' t => ?_⟩;rw [<- hn] at s;have q:=kJ s fun k r=>t.block k (by have:=(h.ds.hi k (.inl r)).2;omega);obtain ⟨c4,f4⟩:=bFw q (j:=4) A;have cz:w'.cell? ⟨Z,0,none⟩=some (.slice (some ⟨d,0,none⟩) n b):=by rw [cell_of_row w' Z 0 _ _ _ ((t.block Z y).trans h.box)];rfl
 exact ⟨cz,c4,f4,by have:=t.size;omega,by have:=t.size;omega,kJ f fun k r=>t.block k (by have:=(h2 k r).2;omega)⟩
theorem DB.aft {B E M w i frags Z b n c A ys D v o r} (h:DB B E M w i frags Z b n c A ys D v o r) {x:GOp} {f d j} (s:(Value.slice f x.sels.length d).ownBlock≠some b) (y:(Value.slice f x.sels.length d).ownBlock≠some Z)
  (k:∀ w',Below w.heap.size w w'->w'.cell? ⟨Z,0,none⟩=some (.slice (some ⟨b,0,none⟩) n c)/\w'.cell? ⟨b,4,none⟩=some (.slice f x.sels.length d)/\w'.frozen? ⟨b,4,none⟩=false/\Z<w'.heap.size/\b<w'.heap.size/\w'.ownsRow B 40 7 (.slice f x.sels.length d) x.sels.length j)
  W g (z:Below w.heap.size w W) (m:W.grownBy g (Value.slice f x.sels.length d).ownBlock):g.cell? ⟨Z,0,none⟩=some (.slice (some ⟨b,0,none⟩) n c)/\g.cell? ⟨b,4,none⟩=some (.slice f x.sels.length d)/\g.frozen? ⟨b,4,none⟩=false:=by
 obtain ⟨u,C,t,F,p,_⟩:=k W z;have q:=m.block Z F (fun e=>y e.symm);have l:=m.block b p (fun e=>s e.symm);exact ⟨(aaA (a:=⟨Z,0,none⟩) q).trans u,(aaA (a:=⟨b,4,none⟩) l).trans C,(World.frozen?_of_block (a:=⟨b,4,none⟩) l).trans t⟩
abbrev iT (a:Str):List Value:=[.int .i64 0,.string ⟨a.toArray⟩,.string ⟨#[95,95,116,121,112,101,110,97,109,101]⟩,.slice none 0 0,.slice none 0 0,.string ⟨#[]⟩,.slice none 0 0]
theorem bD8 {M} a:∀ (j:Nat) c,(aH (rS a)).cells[j]?=some c->∃ u,(iT a)[j]?=some u/\Rv M noB c u:=by
 intro j c h;rw [iZ] at h;have b  := by have:=(aa2.1 h).1;simpa [PV.cells] using this
 match j,b,h with
 | 0,_,h=>cases h;exact ⟨_,rfl,.int _ _⟩
 | 1,_,h=>cases h;exact ⟨_,rfl,.str _⟩
 | 2,_,h=>cases h;exact ⟨_,rfl,.str _⟩
 | 3,_,h=>cases h;exact ⟨_,rfl,.nil _⟩
 | 4,_,h=>cases h;exact ⟨_,rfl,.nil _⟩
 | 5,_,h=>cases h;exact ⟨_,rfl,.str _⟩
 | 6,_,h=>cases h;exact ⟨_,rfl,.nil _⟩
theorem add4 {B E M w d l frags s n f vf ys zs m C D u2 u3 x} (h:DS 0 B E M w l frags (.slice (some ⟨s,0,none⟩) n f) ys vf zs u2 u3 (.slice C x.sels.length D)) (hE:E<=w.heap.size) (hx:l[0]?=some x) (hc:Cons M w)
  (J:∀ i p j c,(List.map aH x.sels)[i]?=some p->p.cells[j]?=some c->∃ u,m[i*7+j]?=some u/\Rv M noB c u) (G:m.length=x.sels.length*7)
  y K (I:∀ (j:Nat) c,(aH y).cells[j]?=some c->∃ u,K[j]?=some u/\Rv M noB c u)
  {g a} (own:d.ownsRow B 40 7 (.slice (some ⟨g,0,none⟩) (x.sels.length+1) a) (x.sels.length+1) (m++K)) (hA:d.ownsRow B 37 5 (.slice (some ⟨s,0,none⟩) n f) l.length (ys.set 4 (.slice (some ⟨g,0,none⟩) (x.sels.length+1) a)))
  (r:(Value.slice C x.sels.length D).ownBlock=some g∨w.heap.size<=g)
  (t:∀ b,b<w.heap.size->b≠s->(Value.slice C x.sels.length D).ownBlock≠some b->d.heap[b]?=w.heap[b]?)
  (H:d.os=w.os) (P:d.tape=w.tape) (F:d.output=w.output) (v:w.heap.size<=d.heap.size) :
  ∃ M',Put B E M w M' d/\Rv M' noB (pvD ⟨l.set 0 ⟨x.kind,x.name,x.vars,x.dirs,x.sels++[y]⟩,frags⟩) (.agg #[.slice (some ⟨s,0,none⟩) n f,vf]):=by
 obtain ⟨hm,hm2⟩:=h.mrk x hx;have hgA:=h.hi s (.inl rfl);have h2:∀ k,(Value.slice C x.sels.length D).ownBlock=some k->B<=k/\k<E:=fun k L=>h.hi k (.inr (.inr L));have o:∀ i,M g i=none:=fun i=>by
  rcases r with e | e;· exact hm.o4.free g e i
  exact tU hc (by omega) i
 have N:Cons M d:=qX hc fun b z ⟨i,hi⟩=>t b z (fun e=>hi (by rw [e];exact h.foA s rfl i)) (fun e=>hi (hm.o4.free b e i));have q:(List.map aH x.sels).length=x.sels.length:=by simp
 have oS:OwnL B M d 40 7 (List.map aH (x.sels++[y])) (.slice (some ⟨g,0,none⟩) (x.sels.length+1) a):=by
  have hh:=OwnL.add (M:=M) (M':=M) (w':=d) (es:=List.map aH x.sels) (p:=aH y) (ys:=m) (us:=K) (B:=B) (e:=40) (size:=7) (g:=g) (cap:=a) (by rw [q];exact G) J (fun p hp=>by obtain ⟨y,_,rfl⟩:=aah.1 hp;exact aDc y) (aDc _) I (fun _ _ _ h=>h) (by rw [q];exact own) o;rw [q] at hh;rw [aba];exact hh
 have hd:=h.put4 hE hx (x.sels++[y]) (fun _ _ _ h=>h) (fun _ _ _=>rfl) (fun b z e1 e2=>t b z (fun e=>e1 (by rw [e];rfl)) e2) hA oS (fun k L=>by
  have  := by simpa [Value.ownBlock] using L.symm
  rw [this];exact r) v
 obtain ⟨M',m1,c,rv,off⟩:=hd.shut N;refine ⟨M',⟨m1,fun b z hr=>⟨by grind,off b fun e => ?_⟩,H,P,F,v,c⟩,rv⟩;rcases e with e | e | e;· have:=h.hi b (.inl e);omega
 ·have:=h.hi b (by grind);omega
 have  := by simpa [Value.ownBlock] using e.symm
 rcases r with O | O;· rw [<- this] at O;have:=h2 b O;omega
 omega
open Go Go.Ev Go.Ev.PV Go.RowKit
theorem bGD {f args r} (c:O f args []=some (r,[])) {M w vals} (d:Cons M w) (g:args.map PV.plain=args) (a:vals.size=args.length) (hv:∀ i p,args[i]?=some p->Rv M noB p (vals.getD i undef)) (b:(callFunc f vals).run Tryz.prog w = .ok (.enter f vals) w) :
  Calls Tryz.prog f vals w fun e w'=>∃ v M',e = .returned v/\Rv M' noB r v/\Cons M' w'/\Quiet M w M' w' :=
 aFc pokX xok c b d ⟨a,fun i p h=>⟨hv i p h,cD (by
  grind)⟩⟩
abbrev CB (f:FuncId) (vals:Array Value) (M:Mem) (w:World) (b:Bool):Prop:=Calls Tryz.prog f vals w fun e w'=>∃ M',e = .returned (.bool b)/\Cons M' w'/\Quiet M w M' w'
section
variable {M : Mem} {w : World} (hc : Cons M w)
include hc
theorem bGE {f args b} (h:O f args []=some (.bool b,[])) {vals} (j:args.map PV.plain=args) (c:vals.size=args.length) (hv:∀ i p,args[i]?=some p->Rv M noB p (vals.getD i undef)) (g:(callFunc f vals).run Tryz.prog w = .ok (.enter f vals) w):CB f vals M w b:=by
 refine (bGD h hc j c hv g).mono ?_;rintro e w' ⟨u,M',rfl,hv,a,d⟩;cases hv;exact ⟨M',rfl,a,d⟩
theorem bKh {s d v} (h:qZ s d=some v) S D (c:Rv M noB (pvS s) S) (b:Rv M noB (pvD d) D):CB 4 #[S,D] M w v :=
 bGE hc (dW (enc:=fun r=>(aA r,[])) h) rfl rfl (fun i p a=>by
  match i,a with
  | 0,a=>simp_all
  | 1,a=>simp_all
  | i+2,a=>grind) rfl
theorem bKP {s d n v} (h:aGO s d n=some v) S D (c:Rv M noB (pvS s) S) (b:Rv M noB (pvD d) D):CB 6 #[S,D,.int .i64 n] M w v :=
 bGE hc (dW (enc:=fun r=>(aA r,[])) h) rfl rfl (fun i p a=>by
  match i,a with
  | 0,a=>simp_all
  | 1,a=>simp_all
  | 2,a=>cases a;exact .int _ _
  | i+3,a=>grind) rfl
theorem bKi {s d n v} (h:lF s d n=some v) S D (c:Rv M noB (pvS s) S) (b:Rv M noB (pvD d) D):CB 10 #[S,D,.int .i64 n] M w v :=
 bGE hc (dW (enc:=fun r=>(aA r,[])) h) rfl rfl (fun i p a=>by
  match i,a with
  | 0,a=>simp_all
  | 1,a=>simp_all
  | 2,a=>cases a;exact .int _ _
  | i+3,a=>grind) rfl
theorem aK3:CB 7 #[] M w true :=
 bGE hc (dW (enc:=fun r=>(aA r,[])) bGw) rfl rfl (fun i p a=>by grind) rfl
theorem bKj {s v} (h:aQU s=some v) S (d:Rv M noB (pvS s) S):Calls Tryz.prog 5 #[S] w fun e w'=>∃ M',e = .returned (.int .i64 v)/\Cons M' w'/\Quiet M w M' w':=by
 refine (bGD (dW (enc:=fun r=>(bE r,[])) h) hc (vals := #[S]) rfl rfl (fun i p a=>by
  match i,a with
  | 0,a=>simp_all
  | i+1,a=>grind) rfl).mono ?_
 rintro e w' ⟨u,M',rfl,hv,b,c⟩;cases hv;grind
theorem bKQ {d l v} (h:oM d l=some v) D L (g:Rv M noB (pvD d) D) (c:Rv M noB (.slice (List.map aH l) [] false) L):Calls Tryz.prog 8 #[D,L] w fun e w'=>∃ M',e = .returned (.string ⟨v.toArray⟩)/\Cons M' w'/\Quiet M w M' w':=by
 refine (bGD (dW (enc:=fun r=>(aF r,[])) h) hc (vals := #[D,L]) rfl rfl (fun i p a=>by
  match i,a with
  | 0,a=>simp_all
  | 1,a=>simp_all
  | i+2,a=>grind) rfl).mono ?_
 rintro e w' ⟨u,M',rfl,hv,b,f⟩;cases hv;grind
theorem keyQ x X (f:Rv M noB (aH x) X):Calls Tryz.prog 11 #[X] w fun e w'=>∃ M',e = .returned (.string ⟨(keyD x).toArray⟩)/\Cons M' w'/\Quiet M w M' w':=by
 have h  := wN x;have b:O 11 [aH x] []=some (aF (keyD x),[]):=by rw [iZ];exact dW (enc:=fun r=>(aF r,[])) h
 refine (bGD b hc (vals := #[X]) (by rw [iZ];rfl) rfl (fun i p a=>by
  match i,a with
  | 0,a=>simp_all
  | i+1,a=>grind) rfl).mono ?_
 rintro e w' ⟨u,M',rfl,hv,c,d⟩;cases hv;grind
end
noncomputable def mk0C:Code:=fstC (bB Tryz.f3)
noncomputable def mk1C:Code:=fstC (sndC (bB Tryz.f3))
noncomputable def mk2C:Code:=fstC (sndC (sndC (bB Tryz.f3)))
noncomputable def mk3C:Code:=fstC (sndC (sndC (sndC (bB Tryz.f3))))
noncomputable def mk4C:Code:=fstC (sndC (sndC (sndC (sndC (bB Tryz.f3)))))
noncomputable def mk5C:Code:=fstC (sndC (sndC (sndC (sndC (sndC (bB Tryz.f3))))))
noncomputable def mk6C:Code:=fstC (sndC (sndC (sndC (sndC (sndC (sndC (bB Tryz.f3)))))))
noncomputable def mk7C:Code:=fstC (sndC (sndC (sndC (sndC (sndC (sndC (sndC (bB Tryz.f3))))))))
noncomputable def mk8C:Code:=fstC (sndC (sndC (sndC (sndC (sndC (sndC (sndC (sndC (bB Tryz.f3)))))))))
noncomputable def mk9C:Code:=fstC (sndC (sndC (sndC (sndC (sndC (sndC (sndC (sndC (sndC (bB Tryz.f3))))))))))
noncomputable def bIV:Code:=fstC (sndC (sndC (sndC (sndC (sndC (sndC (sndC (sndC (sndC (sndC (bB Tryz.f3)))))))))))
noncomputable def aOT:Code:=fstC (sndC (sndC (sndC (sndC (sndC (sndC (sndC (sndC (sndC (sndC (sndC (bB Tryz.f3))))))))))))
noncomputable def bIW:Code:=sndC (sndC (sndC (sndC (sndC (sndC (sndC (sndC (sndC (sndC (sndC (sndC (bB Tryz.f3))))))))))))
theorem bKR:Tryz.f3.body=some (.seq mk0C (.seq mk1C (.seq mk2C (.seq mk3C (.seq mk4C (.seq mk5C (.seq mk6C (.seq mk7C (.seq mk8C (.seq mk9C (.seq bIV (.seq aOT bIW)))))))))))):=by kernel_rfl
theorem a0L w xs ls ps sq sm a b l p q r f Q fr (c:fr.length=139) (g:FV fr [(0,.agg #[.slice xs ls ps,.string sq,.string sm]),(1,.agg #[.slice a l p,.slice b q r]),(2,f)])
  (d:∀ l',l'.length=139->FV l' [(2,f),(3,ptr w.heap.size),(4,ptr (w.heap.size+1))]->Q .normal ⟨l'.toArray,[]⟩ ((w.alloc (.cells #[.slice xs ls ps,.string sq,.string sm] 24)).alloc (.cells #[.slice a l p,.slice b q r] 28))) :
  Code.wp Tryz.prog mk0C Q ⟨fr.toArray,[]⟩ w:=by
 replace d:=(id d:Hid _);revert g;refine eR 139 (fun fr=>FV fr _->Code.wp Tryz.prog _ _ ⟨fr.toArray,[]⟩ _) ?_ fr c;simp only [AllL];iterate 139 intro _
 rintro ⟨e,g1,g2,_⟩;simp [at_] at e g1 g2;subst e g1 g2;unfold mk0C;simp [Tryz.f3,bB,fstC];go_wp2;refine d.out _ ?_ ?_;· rfl
 exact ⟨rfl,rfl,rfl,trivial⟩
theorem guL {M w} X Y xs V ps (W Z:Str) a b l p q r b4 c5 k6 e2 (hc:Cons M w) (hX:w.heap[X]?=some (.cells #[.slice xs V ps,.string ⟨W.toArray⟩,.string ⟨Z.toArray⟩] 24 (0,0))) (hY:w.heap[Y]?=some (.cells #[.slice a l p,.slice b q r] 28 (0,0)))
  (h4:Hid (∀ M' w',Cl M w M' w'->Calls Tryz.prog 4 #[.agg #[.slice xs V ps,.string ⟨W.toArray⟩,.string ⟨Z.toArray⟩],.agg #[.slice a l p,.slice b q r]] w' fun e u=>∃ v,e = .returned (.bool b4)/\Cons v u/\Quiet M' w' v u))
  (h5:Hid (∀ M' w',Cl M w M' w'->Calls Tryz.prog 5 #[.agg #[.slice xs V ps,.string ⟨W.toArray⟩,.string ⟨Z.toArray⟩]] w' fun e u=>∃ v,e = .returned (.int .i64 c5)/\Cons v u/\Quiet M' w' v u))
  (R:b4=true->Hid (∀ M' w',Cl M w M' w'->Calls Tryz.prog 6 #[.agg #[.slice xs V ps,.string ⟨W.toArray⟩,.string ⟨Z.toArray⟩],.agg #[.slice a l p,.slice b q r],.int .i64 25] w' fun e u=>∃ v,e = .returned (.bool k6)/\Cons v u/\Quiet M' w' v u)) Q fr (hlen:fr.length=139) (g:FV fr [(2,e2),(3,ptr X),(4,ptr Y)])
  (S:∀ M' w' l',l'.length=139->Cl M w M' w'->FV l' [(6,.bool true)]->Q .ret ⟨l'.toArray,[]⟩ w')
  (hN:b4=true->l≠0->c5=0->k6=true->∀ M' w' l',l'.length=139->Cl M w M' w'->FV l' [(2,e2),(3,ptr X),(4,ptr Y)]->Q .normal ⟨l'.toArray,[]⟩ w') :
  Code.wp Tryz.prog mk1C Q ⟨fr.toArray,[]⟩ w:=by
 have i:Hid (∀ w':World,Below w.heap.size w w'->w'.cell? ⟨X,0,none⟩=some (.slice xs V ps)/\w'.cell? ⟨X,1,none⟩=some (.string ⟨W.toArray⟩)/\w'.cell? ⟨X,2,none⟩=some (.string ⟨Z.toArray⟩)/\w'.cell? ⟨Y,0,none⟩=some (.slice a l p)/\w'.cell? ⟨Y,1,none⟩=some (.slice b q r)):=by
  intro w' hb;have hl:∀ b o,w.heap[b]?=some o->w'.heap[b]?=some o:=fun b o h=>(hb.block b (aag.1 h).1).trans h;exact ⟨by rw [cell_of_row w' X 0 _ _ _ (hl _ _ hX)];rfl,by rw [cell_of_row w' X 1 _ _ _ (hl _ _ hX)];rfl,by rw [cell_of_row w' X 2 _ _ _ (hl _ _ hX)];rfl,by rw [cell_of_row w' Y 0 _ _ _ (hl _ _ hY)];rfl,by rw [cell_of_row w' Y 1 _ _ _ (hl _ _ hY)];rfl⟩
 obtain ⟨k0,k1,k2,k3,k4⟩:=i.out w (Below.refl _ _);replace S:=(id S:Hid _);replace hN:=(id hN:Hid _);replace R:=(id R:Hid _);have s:Hid (Cl M w M w):=Cl.refl hc;clear hX hY hc;revert g;refine eR 139 (fun fr=>FV fr _->Code.wp Tryz.prog _ _ ⟨fr.toArray,[]⟩ _) ?_ fr hlen;simp only [AllL];iterate 139 intro _
 rintro ⟨g2,g3,g4,_⟩;simp only [at_] at g2 g3 g4;subst g2 g3 g4;unfold mk1C;simp [Tryz.f3,bB,sndC,fstC];cases b4 with
 | false =>
  go_wp2_with (first | (go_at_call 4;refine (h4.out _ _ s.out).mono ?_;rintro J w1 ⟨M1,rfl,j,k⟩;have d:Hid _:=s.out.q k j;obtain ⟨H,D,z,F,A⟩:=i.out _ d.out.b;clear k j) | (go_at_call 7;refine (aK3 d.out.c).mono ?_;rintro J U ⟨T,rfl,n,m⟩;have f:Hid _:=d.out.q m n;obtain ⟨G,I,E,C,B⟩:=i.out _ f.out.b;clear m n));exact S.out T U _ rfl f.out ⟨rfl,trivial⟩
 | true =>
  replace R:=R.out rfl;by_cases hl0:l=0;case pos =>
   subst hl0;go_wp2_with (first | (go_at_call 4;refine (h4.out _ _ s.out).mono ?_;rintro J w1 ⟨M1,rfl,j,k⟩;have d:Hid _:=s.out.q k j;obtain ⟨H,D,z,F,A⟩:=i.out _ d.out.b;clear k j) | (go_at_call 7;refine (aK3 d.out.c).mono ?_;rintro J U ⟨T,rfl,n,m⟩;have f:Hid _:=d.out.q m n;obtain ⟨G,I,E,C,B⟩:=i.out _ f.out.b;clear m n));exact S.out T U _ rfl f.out ⟨rfl,trivial⟩
  have hli:¬ (l=0):=by omega
  by_cases hc0:c5=0;case neg =>
   go_wp2_with (first | (go_at_call 4;refine (h4.out _ _ s.out).mono ?_;rintro J w1 ⟨M1,rfl,j,k⟩;have d:Hid _:=s.out.q k j;obtain ⟨H,D,z,F,A⟩:=i.out _ d.out.b;clear k j) | (go_at_call 5;refine (h5.out _ _ d.out).mono ?_;rintro J U ⟨T,rfl,n,m⟩;have f:Hid _:=d.out.q m n;obtain ⟨G,I,E,C,B⟩:=i.out _ f.out.b;clear m n) | (go_at_call 7;refine (aK3 f.out.c).mono ?_;rintro J w3 ⟨M3,rfl,y,x⟩;have t:Hid _:=f.out.q x y;obtain ⟨N,P,L,O,K⟩:=i.out _ t.out.b;clear x y));exact S.out M3 w3 _ rfl t.out ⟨rfl,trivial⟩
  subst hc0;cases k6 with
  | false =>
   go_wp2_with (first | (go_at_call 4;refine (h4.out _ _ s.out).mono ?_;rintro J w1 ⟨M1,rfl,j,k⟩;have d:Hid _:=s.out.q k j;obtain ⟨H,D,z,F,A⟩:=i.out _ d.out.b;clear k j) | (go_at_call 5;refine (h5.out _ _ d.out).mono ?_;rintro J U ⟨T,rfl,n,m⟩;have f:Hid _:=d.out.q m n;obtain ⟨G,I,E,C,B⟩:=i.out _ f.out.b;clear m n) | (go_at_call 6;refine (R.out _ _ f.out).mono ?_;rintro J w3 ⟨M3,rfl,y,x⟩;have t:Hid _:=f.out.q x y;obtain ⟨N,P,L,O,K⟩:=i.out _ t.out.b;clear x y) | (go_at_call 7;refine (aK3 t.out.c).mono ?_;rintro J w4 ⟨M4,rfl,hc4,hq4⟩;have cl4:Hid _:=t.out.q hq4 hc4;obtain ⟨k4_0,k4_1,k4_2,k4_3,k4_4⟩:=i.out _ cl4.out.b;clear hq4 hc4));exact S.out M4 w4 _ rfl cl4.out ⟨rfl,trivial⟩
  | true =>
   go_wp2_with (first | (go_at_call 4;refine (h4.out _ _ s.out).mono ?_;rintro J w1 ⟨M1,rfl,j,k⟩;have d:Hid _:=s.out.q k j;obtain ⟨H,D,z,F,A⟩:=i.out _ d.out.b;clear k j) | (go_at_call 5;refine (h5.out _ _ d.out).mono ?_;rintro J U ⟨T,rfl,n,m⟩;have f:Hid _:=d.out.q m n;obtain ⟨G,I,E,C,B⟩:=i.out _ f.out.b;clear m n) | (go_at_call 6;refine (R.out _ _ f.out).mono ?_;rintro J w3 ⟨M3,rfl,y,x⟩;have t:Hid _:=f.out.q x y;obtain ⟨N,P,L,O,K⟩:=i.out _ t.out.b));exact hN.out (by first | rfl | trivial) hl0 (by first | rfl | trivial) (by first | rfl | trivial) M3 w3 _ rfl t.out ⟨rfl,rfl,rfl,trivial⟩
theorem r3L w e f Y blk off N p q r b oa n cap (d:w.heap[Y]?=some (.cells #[.slice (some ⟨blk,off,none⟩) N p,.slice b q r] 28 (0,0))) (hN:0<N) (k4:w.cell? ⟨blk,off+4,none⟩=some (.slice oa n cap)) Q fr (a:fr.length=139) (g:FV fr [(2,e),(3,f),(4,ptr Y)])
  (c:∀ l',l'.length=139->FV l' [(2,e),(3,f),(4,ptr Y),(7,.slice oa n cap)]->Q .normal ⟨l'.toArray,[]⟩ w) :
  Code.wp Tryz.prog mk2C Q ⟨fr.toArray,[]⟩ w:=by
 have k0:w.cell? ⟨Y,0,none⟩=some (.slice (some ⟨blk,off,none⟩) N p):=by rw [cell_of_row w Y 0 _ _ _ d];rfl
 have hNz  := by omega
 replace c:=(id c:Hid _);clear d;revert g;refine eR 139 (fun fr=>FV fr _->Code.wp Tryz.prog _ _ ⟨fr.toArray,[]⟩ _) ?_ fr a;simp only [AllL];iterate 139 intro _
 rintro ⟨g2,h,g4,_⟩;simp [at_] at g2 h g4;subst g2 h g4;unfold mk2C;simp [Tryz.f3,bB,sndC,fstC];go_wp2;refine c.out _ ?_ ?_;· rfl
 exact ⟨rfl,rfl,rfl,rfl,trivial⟩
theorem g4L {M w} l e3 j oa n cap (hc:Cons M w) Q fr (a:fr.length=139) (g:FV fr [(2,l),(3,e3),(4,j),(7,.slice oa n cap)])
  (h:∀ M' w' l',l'.length=139->Cl M w M' w'->FV l' [(6,.bool true)]->Q .ret ⟨l'.toArray,[]⟩ w')
  (i:n≠0->∀ l',l'.length=139->FV l' [(2,l),(3,e3),(4,j),(7,.slice oa n cap)]->Q .normal ⟨l'.toArray,[]⟩ w) :
  Code.wp Tryz.prog mk3C Q ⟨fr.toArray,[]⟩ w:=by
 replace h:=(id h:Hid _);replace i:=(id i:Hid _);have b:Hid (Cl M w M w):=Cl.refl hc;clear hc;revert g;refine eR 139 (fun fr=>FV fr _->Code.wp Tryz.prog _ _ ⟨fr.toArray,[]⟩ _) ?_ fr a;simp only [AllL];iterate 139 intro _
 rintro ⟨g2,g3,g4,g7,_⟩;simp [at_] at g2 g3 g4 g7;subst g2 g3 g4 g7;unfold mk3C;simp [Tryz.f3,bB,sndC,fstC];by_cases k:n=0;· subst k;go_wp2_with (first | (go_at_call 7;refine (aK3 b.out.c).mono ?_;rintro e' w1 ⟨M1,rfl,d,f⟩;have e:Hid _:=b.out.q f d));exact h.out M1 w1 _ rfl e.out ⟨rfl,trivial⟩
 have hni  := by omega
 go_wp2;refine i.out k _ ?_ ?_;· rfl
 exact ⟨rfl,rfl,rfl,rfl,trivial⟩
theorem modK z (N:Nat) (h:0<N) (f:N<1073741824):∃ k,k<N/\wrap64 ((IntKind.u64.wrap z).tmod N)=k:=by
 have a:0<=IntKind.u64.wrap z:=by
  have:IntKind.u64.wrap z=z % 18446744073709551616:=by simp [IntKind.wrap,IntKind.bits,IntKind.signed]
  omega
 have e:=Int.tmod_eq_emod_of_nonneg (b:=N) a;have d:=Int.emod_nonneg (IntKind.u64.wrap z) (b:=N) (by omega);have c:=Int.emod_lt_of_pos (IntKind.u64.wrap z) (b:=N) (by omega);refine ⟨(IntKind.u64.wrap z % N).toNat,?_,?_⟩;· omega
 unfold wrap64;omega
theorem r6L w e3 e4 at' (B2 O2 n cap k:Nat) (q:k<n) (o:n<1073741824) (u:wrap64 ((IntKind.u64.wrap at').tmod n)=k) y v3 v4 v6 (hx:∀ c v,(lP y v3 v4 v6)[c]?=some v->w.cell? ⟨B2,O2+k*7+c,none⟩=some v) (i3:∃ a n c,v3 = .slice a n c) (i4:∃ a n c,v4 = .slice a n c) (b:∃ a n c,v6 = .slice a n c) Q fr (hlen:fr.length=139) (g:FV fr [(2,.int .i64 at'),(3,e3),(4,e4),(7,.slice (some ⟨B2,O2,none⟩) n cap)])
  (hC:∀ l',l'.length=139->FV l' [(3,e3),(4,e4),(7,.slice (some ⟨B2,O2,none⟩) n cap),(8,ptr w.heap.size)]->Q .normal ⟨l'.toArray,[]⟩ (w.alloc (.cells (lP y v3 v4 v6).toArray 40))) :
  Code.wp Tryz.prog mk4C Q ⟨fr.toArray,[]⟩ w:=by
 obtain ⟨f,n3,c3,rfl⟩:=i3;obtain ⟨h,e,i,rfl⟩:=i4;obtain ⟨s,x,r,rfl⟩:=b;have z:w.cell? ⟨B2,O2+k*7,none⟩=some (.int .i64 y.kind):=hx 0 _ rfl;have A:w.cell? ⟨B2,O2+k*7+1,none⟩=some (.string ⟨y.alias.toArray⟩):=hx 1 _ rfl;have p:w.cell? ⟨B2,O2+k*7+2,none⟩=some (.string ⟨y.name.toArray⟩):=hx 2 _ rfl;have m:w.cell? ⟨B2,O2+k*7+3,none⟩=some (.slice f n3 c3):=hx 3 _ rfl;have l:w.cell? ⟨B2,O2+k*7+4,none⟩=some (.slice h e i):=hx 4 _ rfl;have j:w.cell? ⟨B2,O2+k*7+5,none⟩=some (.string ⟨y.on_.toArray⟩):=hx 5 _ rfl;have t  := hx 6 _ rfl;have d  := by omega
 replace hC:=(id hC:Hid _);clear hx;revert g;refine eR 139 (fun fr=>FV fr _->Code.wp Tryz.prog _ _ ⟨fr.toArray,[]⟩ _) ?_ fr hlen;simp only [AllL];iterate 139 intro _
 rintro ⟨g2,g3,g4,g7,_⟩;simp [at_] at g2 g3 g4 g7;subst g2 g3 g4 g7;unfold mk4C;simp [Tryz.f3,bB,sndC,fstC];go_wp2;refine hC.out _ ?_ ?_;· rfl
 exact ⟨rfl,rfl,rfl,rfl,trivial⟩
theorem r7L {M w} u e7 t Y a b l p q r (c:Str) (hf:c.length<=2097152) (hc:Cons M w) (o:w.heap[Y]?=some (.cells #[.slice a l p,.slice b q r] 28 (0,0)))
  (h8:Hid (∀ M' w',Cl M w M' w'->Calls Tryz.prog 8 #[.agg #[.slice a l p,.slice b q r],e7] w' fun e d=>∃ f,e = .returned (.string ⟨c.toArray⟩)/\Cons f d/\Quiet M' w' f d)) Q fr (h:fr.length=139) (g:FV fr [(3,u),(4,ptr Y),(7,e7),(8,t)])
  (n:∀ M' w' l',l'.length=139->Cl M w M' w'->FV l' [(3,u),(4,ptr Y),(8,t),(9,.string ⟨([107]++c:Str).toArray⟩)]->Q .normal ⟨l'.toArray,[]⟩ w') :
  Code.wp Tryz.prog mk5C Q ⟨fr.toArray,[]⟩ w:=by
 have k0:w.cell? ⟨Y,0,none⟩=some (.slice a l p):=by rw [cell_of_row w Y 0 _ _ _ o];rfl
 have k1:w.cell? ⟨Y,1,none⟩=some (.slice b q r):=by rw [cell_of_row w Y 1 _ _ _ o];rfl
 replace n:=(id n:Hid _);have i:Hid (Cl M w M w):=Cl.refl hc;have hsz:(⟨c.toArray⟩:ByteArray).size=c.length:=rfl;clear o hc;revert g;refine eR 139 (fun fr=>FV fr _->Code.wp Tryz.prog _ _ ⟨fr.toArray,[]⟩ _) ?_ fr h;simp only [AllL];iterate 139 intro _
 rintro ⟨g3,g4,g7,s,_⟩;simp [at_] at g3 g4 g7 s;subst g3 g4 g7 s;unfold mk5C;simp [Tryz.f3,bB,sndC,fstC];go_wp2_with (first | (go_at_call 8;refine (h8.out _ _ i.out).mono ?_;rintro e' w1 ⟨M1,rfl,j,m⟩;have k:Hid _:=i.out.q m j));refine n.out M1 w1 _ ?_ k.out ?_;· rfl
 refine ⟨rfl,rfl,rfl,?_,trivial⟩;simp only [at_];refine congrArg Value.string (ByteArray.ext ?_);simp
theorem copA d {M w} Y G J I a b l p q r (hd:dY d<=1048576) (A:0<d.ops.length) (hc:Cons M w) (L:Rv M noB (.slice (List.map cO d.ops) [] false) (.slice a l p)) (hrb:Rv M noB (.slice (List.map aL d.frags) [] false) (.slice b q r)) (hY:w.heap[Y]?=some (.cells #[.slice a l p,.slice b q r] 28 (0,0))) Q fr (F:fr.length=139) (g:FV fr [(3,G),(4,ptr Y),(8,J),(9,I)])
  (hC:∀ M' w' B E Z z n y vf ys v s j u l',l'.length=139->DB B E M' w' d.ops d.frags Z z n y vf ys v s j u->Cons M' w'->From w.heap.size M w M' w'->w.heap.size<=B->w.heap.size<=Z->FV l' [(3,G),(4,ptr Y),(8,J),(9,I),(10,ptr Z)]->Q .normal ⟨l'.toArray,[]⟩ w') :
  Code.wp Tryz.prog mk6C Q ⟨fr.toArray,[]⟩ w:=by
 have k0:w.cell? ⟨Y,0,none⟩=some (.slice a l p):=by rw [cell_of_row w Y 0 _ _ _ hY];rfl
 have k1:w.cell? ⟨Y,1,none⟩=some (.slice b q r):=by rw [cell_of_row w Y 1 _ _ _ hY];rfl
 have fin:Hid (∀ (H:Mem) (c:World) (D:Option Addr) (n f:Nat) (ys:List Value) (t:Option Addr) (m o:Nat) v s j u l',DQ 0 s j u M w H c d.ops d.frags (.slice D n f) ys (.slice t m o) v->l'.length=139->FV l' [(3,G),(4,ptr Y),(8,J),(9,I),(10,ptr c.heap.size)]->Q .normal ⟨l'.toArray,[]⟩ (c.alloc (.cells #[.slice D n f,.slice t m o] 28))):=by
  intro H c D n f ys t m o v s j u l' e h0 hf;have hD:=e.ds A;obtain ⟨z,n',x,ev,_⟩:=hD.at_;obtain ⟨rfl,rfl,rfl⟩:D=some ⟨z,0,none⟩/\n=n'/\f=x:=by injection ev with e1 e2 G;exact ⟨e1,e2,G⟩
  have K:Below c.heap.size c (c.alloc (.cells #[.slice (some ⟨z,0,none⟩) n f,.slice t m o] 28)):=(Below.refl _ _).alloc (by omega) _;have C:=e.frm.below.size;exact hC H _ w.heap.size c.heap.size c.heap.size z n f (.slice t m o) ys v s j u l' h0 ⟨hD.move (fun _ _ _ h=>h) (fun k _ hk=>K.block k hk) (fun _ _ _ _=>rfl),K.size,heap_alloc_new c _,by omega,fun i=>tU e.cons (by omega) i,⟨_,_,_,rfl⟩⟩ (pY e.cons K) (e.frm.trans (From.of_below ((Below.refl _ _).alloc C _))) (by omega) C hf
 clear hC hY;revert g;refine eR 139 (fun fr=>FV fr _->Code.wp Tryz.prog _ _ ⟨fr.toArray,[]⟩ _) ?_ fr F;simp only [AllL];iterate 139 intro _
 rintro ⟨g3,g4,g8,g9,_⟩;simp [at_] at g3 g4 g8 g9;subst g3 g4 g8 g9;unfold mk6C;simp [Tryz.f3,bB,sndC,fstC];go_wp2_with (refine (aYB 0 d M w (.slice a l p) (.slice b q r) hd hc L hrb).mono ?_;rintro e' c ⟨H,D,f,ys,t,o,v,s,j,u,rfl,e⟩);refine fin.out _ _ _ _ _ _ _ _ _ _ _ _ _ _ e ?_ ?_;· rfl
 exact ⟨rfl,rfl,rfl,rfl,rfl,trivial⟩
theorem copB d {M w} Y H e8 a b l p q r (hd:dY d<=1048576) (z:0<d.ops.length) (hc:Cons M w) (I:Rv M noB (.slice (List.map cO d.ops) [] false) (.slice a l p)) (hrb:Rv M noB (.slice (List.map aL d.frags) [] false) (.slice b q r)) (K:w.heap[Y]?=some (.cells #[.slice a l p,.slice b q r] 28 (0,0))) Q fr (F:fr.length=139) (g:FV fr [(3,H),(4,ptr Y),(8,e8)])
  (hC:∀ M' w' B E Z y n D vf ys v t j o l',l'.length=139->DB B E M' w' d.ops d.frags Z y n D vf ys v t j o->Cons M' w'->From w.heap.size M w M' w'->w.heap.size<=B->w.heap.size<=Z->FV l' [(3,H),(4,ptr Y),(8,e8),(11,ptr Z)]->Q .normal ⟨l'.toArray,[]⟩ w') :
  Code.wp Tryz.prog bIV Q ⟨fr.toArray,[]⟩ w:=by
 have k0:w.cell? ⟨Y,0,none⟩=some (.slice a l p):=by rw [cell_of_row w Y 0 _ _ _ K];rfl
 have k1:w.cell? ⟨Y,1,none⟩=some (.slice b q r):=by rw [cell_of_row w Y 1 _ _ _ K];rfl
 have J:Hid (∀ (G:Mem) (c:World) (C:Option Addr) (n f:Nat) (ys:List Value) (u:Option Addr) (m s:Nat) v t j o l',DQ 0 t j o M w G c d.ops d.frags (.slice C n f) ys (.slice u m s) v->l'.length=139->FV l' [(3,H),(4,ptr Y),(8,e8),(11,ptr c.heap.size)]->Q .normal ⟨l'.toArray,[]⟩ (c.alloc (.cells #[.slice C n f,.slice u m s] 28))):=by
  intro G c C n f ys u m s v t j o l' e h0 hf;have hD:=e.ds z;obtain ⟨y,n',x,ev,_⟩:=hD.at_;obtain ⟨rfl,rfl,rfl⟩:C=some ⟨y,0,none⟩/\n=n'/\f=x:=by injection ev with e1 e2 H;exact ⟨e1,e2,H⟩
  have hb:Below c.heap.size c (c.alloc (.cells #[.slice (some ⟨y,0,none⟩) n f,.slice u m s] 28)):=(Below.refl _ _).alloc (by omega) _;have A:=e.frm.below.size;exact hC G _ w.heap.size c.heap.size c.heap.size y n f (.slice u m s) ys v t j o l' h0 ⟨hD.move (fun _ _ _ h=>h) (fun k _ hk=>hb.block k hk) (fun _ _ _ _=>rfl),hb.size,heap_alloc_new c _,by omega,fun i=>tU e.cons (by omega) i,⟨_,_,_,rfl⟩⟩ (pY e.cons hb) (e.frm.trans (From.of_below ((Below.refl _ _).alloc A _))) (by omega) A hf
 clear hC K;revert g;refine eR 139 (fun fr=>FV fr _->Code.wp Tryz.prog _ _ ⟨fr.toArray,[]⟩ _) ?_ fr F;simp only [AllL];iterate 139 intro _
 rintro ⟨g3,g4,g8,_⟩;simp [at_] at g3 g4 g8;subst g3 g4 g8;unfold bIV;simp [Tryz.f3,bB,sndC,fstC];go_wp2_with (refine (aYB 0 d M w (.slice a l p) (.slice b q r) hd hc I hrb).mono ?_;rintro e' c ⟨G,C,f,ys,u,s,v,t,j,o,rfl,e⟩);refine J.out _ _ _ _ _ _ _ _ _ _ _ _ _ _ e ?_ ?_;· rfl
 exact ⟨rfl,rfl,rfl,rfl,trivial⟩
theorem g13L {M w} X Z z A xs m ps (u o:Str) r x (hc:Cons M w) (j:w.heap[X]?=some (.cells #[.slice xs m ps,.string ⟨u.toArray⟩,.string ⟨o.toArray⟩] 24 (0,0))) (s:w.heap[Z]?=some (.cells #[r,x] 28 (0,0))) (i0:∃ a n c,r = .slice a n c) (i1:∃ a n c,x = .slice a n c)
  (v:Hid (∀ M' w',Cl M w M' w'->Calls Tryz.prog 10 #[.agg #[.slice xs m ps,.string ⟨u.toArray⟩,.string ⟨o.toArray⟩],.agg #[r,x],.int .i64 24] w' fun e d=>∃ f,e = .returned (.bool true)/\Cons f d/\Quiet M' w' f d)) Q fr (h:fr.length=139) (g:FV fr [(3,ptr X),(4,z),(8,A),(10,ptr Z)])
  (t:∀ M' w' l',l'.length=139->Cl M w M' w'->FV l' [(3,ptr X),(4,z),(8,A)]->Q .normal ⟨l'.toArray,[]⟩ w') :
  Code.wp Tryz.prog mk8C Q ⟨fr.toArray,[]⟩ w:=by
 obtain ⟨a0,n0,c0,rfl⟩:=i0;obtain ⟨a1,n1,c1,rfl⟩:=i1;have k0:w.cell? ⟨X,0,none⟩=some (.slice xs m ps):=by rw [cell_of_row w X 0 _ _ _ j];rfl
 have k1:w.cell? ⟨X,1,none⟩=some (.string ⟨u.toArray⟩):=by rw [cell_of_row w X 1 _ _ _ j];rfl
 have k2:w.cell? ⟨X,2,none⟩=some (.string ⟨o.toArray⟩):=by rw [cell_of_row w X 2 _ _ _ j];rfl
 have k3:w.cell? ⟨Z,0,none⟩=some (.slice a0 n0 c0):=by rw [cell_of_row w Z 0 _ _ _ s];rfl
 have k4:w.cell? ⟨Z,1,none⟩=some (.slice a1 n1 c1):=by rw [cell_of_row w Z 1 _ _ _ s];rfl
 have i:Hid (Cl M w M w):=Cl.refl hc;clear j s hc;replace t:=(id t:Hid _);revert g;refine eR 139 (fun fr=>FV fr _->Code.wp Tryz.prog _ _ ⟨fr.toArray,[]⟩ _) ?_ fr h;simp only [AllL];iterate 139 intro _
 rintro ⟨g3,g4,y,b,_⟩;simp [at_] at g3 g4 y b;subst g3 g4 y b;unfold mk8C;simp [Tryz.f3,bB,sndC,fstC];go_wp2_with (first | (go_at_call 10;refine (v.out _ _ i.out).mono ?_;rintro e' w1 ⟨M1,rfl,k,p⟩;have l:Hid _:=i.out.q p k));refine t.out M1 w1 _ ?_ l.out ?_;· rfl
 exact ⟨rfl,rfl,rfl,trivial⟩
theorem enL {M w} X Z xs o ps (v p:Str) s A (hc:Cons M w) (m:w.heap[X]?=some (.cells #[.slice xs o ps,.string ⟨v.toArray⟩,.string ⟨p.toArray⟩] 24 (0,0))) (t:w.heap[Z]?=some (.cells #[s,A] 28 (0,0))) (i0:∃ a n c,s = .slice a n c) (i1:∃ a n c,A = .slice a n c)
  (x:Hid (∀ M' w',Cl M w M' w'->Calls Tryz.prog 10 #[.agg #[.slice xs o ps,.string ⟨v.toArray⟩,.string ⟨p.toArray⟩],.agg #[s,A],.int .i64 24] w' fun e h=>∃ i,e = .returned (.bool false)/\Cons i h/\Quiet M' w' i h)) Q fr (j:fr.length=139) (g:FV fr [(3,ptr X),(11,ptr Z)])
  (y:∀ M' w' l',l'.length=139->Cl M w M' w'->FV l' [(6,.bool true)]->Q .ret ⟨l'.toArray,[]⟩ w') :
  Code.wp Tryz.prog bIW Q ⟨fr.toArray,[]⟩ w:=by
 obtain ⟨a0,n0,c0,rfl⟩:=i0;obtain ⟨a1,n1,c1,rfl⟩:=i1;have k0:w.cell? ⟨X,0,none⟩=some (.slice xs o ps):=by rw [cell_of_row w X 0 _ _ _ m];rfl
 have k1:w.cell? ⟨X,1,none⟩=some (.string ⟨v.toArray⟩):=by rw [cell_of_row w X 1 _ _ _ m];rfl
 have k2:w.cell? ⟨X,2,none⟩=some (.string ⟨p.toArray⟩):=by rw [cell_of_row w X 2 _ _ _ m];rfl
 have k3:w.cell? ⟨Z,0,none⟩=some (.slice a0 n0 c0):=by rw [cell_of_row w Z 0 _ _ _ t];rfl
 have k4:w.cell? ⟨Z,1,none⟩=some (.slice a1 n1 c1):=by rw [cell_of_row w Z 1 _ _ _ t];rfl
 have k:Hid (Cl M w M w):=Cl.refl hc;clear m t hc;replace y:=(id y:Hid _);revert g;refine eR 139 (fun fr=>FV fr _->Code.wp Tryz.prog _ _ ⟨fr.toArray,[]⟩ _) ?_ fr j;simp only [AllL];iterate 139 intro _
 rintro ⟨g3,l,_⟩;simp [at_] at g3 l;subst g3 l;unfold bIW;simp [Tryz.f3,bB,sndC];go_wp2_with (first | (go_at_call 10;refine (x.out _ _ k.out).mono ?_;rintro e' w1 ⟨M1,rfl,b,f⟩;have d:Hid _:=k.out.q f b;clear f b) | (go_at_call 7;refine (aK3 d.out.c).mono ?_;rintro e' w2 ⟨M2,rfl,z,r⟩;have u:Hid _:=d.out.q r z));exact y.out M2 w2 _ rfl u.out ⟨rfl,trivial⟩
theorem g15L {M w} V e3 o y v3 v4 v6 (hc:Cons M w) (l:w.heap[V]?=some (.cells (lP y v3 v4 v6).toArray 40 (0,0))) Q fr (f:fr.length=139) (g:FV fr [(3,e3),(4,o),(8,ptr V)])
  (h:∀ M' w' l',l'.length=139->Cl M w M' w'->FV l' [(6,.bool true)]->Q .ret ⟨l'.toArray,[]⟩ w')
  (m:y.kind=0->y.name≠tnS->∀ l',l'.length=139->FV l' [(3,e3),(4,o),(8,ptr V)]->Q .normal ⟨l'.toArray,[]⟩ w) :
  Code.wp Tryz.prog mk9C Q ⟨fr.toArray,[]⟩ w:=by
 have x0:w.cell? ⟨V,0,none⟩=some (.int .i64 y.kind):=by rw [cell_of_row w V 0 _ _ _ l];rfl
 have x2:w.cell? ⟨V,2,none⟩=some (.string ⟨y.name.toArray⟩):=by rw [cell_of_row w V 2 _ _ _ l];rfl
 have d:Hid (Cl M w M w):=Cl.refl hc;replace h:=(id h:Hid _);replace m:=(id m:Hid _);clear l hc;revert g;refine eR 139 (fun fr=>FV fr _->Code.wp Tryz.prog _ _ ⟨fr.toArray,[]⟩ _) ?_ fr f;simp only [AllL];iterate 139 intro _
 rintro ⟨g3,g4,n,_⟩;simp [at_] at g3 g4 n;subst g3 g4 n;unfold mk9C;simp [Tryz.f3,bB,sndC,fstC];by_cases hk:y.kind=0;case neg =>
  go_wp2_with (first | (go_at_call 7;refine (aK3 d.out.c).mono ?_;rintro e' k ⟨j,rfl,a,b⟩;have e:Hid _:=d.out.q b a;clear b a));exact h.out j k _ rfl e.out ⟨rfl,trivial⟩
 by_cases i:y.name=tnS;case pos =>
  rw [i] at x2;go_wp2_with (first | (go_at_call 7;refine (aK3 d.out.c).mono ?_;rintro e' k ⟨j,rfl,a,b⟩;have e:Hid _:=d.out.q b a));exact h.out j k _ rfl e.out ⟨rfl,trivial⟩
 have hnn  := beq_eq_false_iff_ne.2 i;go_wp2;refine m.out hk i _ ?_ ?_;· rfl
 exact ⟨rfl,rfl,rfl,trivial⟩
def thC:Code->Code | .cond _ a _=>a | c=>c
def elC:Code->Code | .cond _ _ a=>a | c=>c
theorem bD9 {w:World} {a v} o (h:w.cell? a=some v):(w.alloc o).cell? a=some v :=
 (aaA (heap_alloc_old w o (World.block_lt_of_cell? w a h))).trans h
theorem aBf {P w r o a K Q E} (q:o.guard=none) s x t
  (N:o.op = .call {callee := .builtin .append,args := #[s,x],argTypes := #[t,t]})
  base e i z size bytes (I:P.underlying t=some (.slice e)) (J:P.info? e=some i) (F:i.zero=some z)
  (f:i.size=size) (D:i.bytes=bytes) (B:z.cells.size=size) (y:0<size)
  v n xs (R:a.eval s=v) (p:w.ownsRow base e size v n xs)
  A m c b (O:a.eval x = .slice (some A) m c) (M:b.length=m*size) (l:∀ j u,b[j]?=some u->w.cell? (A.add j)=some u) (L:∀ u∈b,u.oneCell'=true)
  (S:0<m) (C:n+m<=maxLen) (d:(n+m)*bytes<=140737488355328) (k:base<=w.heap.size) H (G:w.heap.size=H)
  (h:∀ g cap w',w'.ownsRow base e size (.slice (some ⟨g,0,none⟩) (n+m) cap) (n+m) (xs++b)->w.grownBy w' v.ownBlock->(v.ownBlock=some g∨g=H)->g<w'.heap.size->K (a.put o.dst (.slice (some ⟨g,0,none⟩) (n+m) cap)) w') :
  if Region.wanted o (yielded r a.tmps)=true then Oper.wp P o a w K Q else E :=
 step_append_lies w q s x t N base e i z size bytes I J F f D B y v n xs R p A m c b O M l L S C d k H G h
theorem aBz g:∀ vs o (w:World),(∀ b,b≠g->(w.setCells g o vs).heap[b]?=w.heap[b]?)/\(w.setCells g o vs).os=w.os/\(w.setCells g o vs).tape=w.tape/\(w.setCells g o vs).output=w.output/\(w.setCells g o vs).heap.size=w.heap.size
 | [],_,w=>⟨fun _ _=>rfl,rfl,rfl,rfl,rfl⟩
 | v::r,o,w=>by
  obtain ⟨f,e,d,c,h⟩:=aBz g r (o+1) (w.setCell ⟨g,o,none⟩ v);refine ⟨fun b a=>(f b a).trans (Below.heap_setCell _ _ _ _ a),e,d,c,h.trans ?_⟩;simp
theorem aE3 {B e size g n cap:Nat}:∀ vs o (w:World) p q t,w.ownsRow B e size (.slice (some ⟨g,0,none⟩) n cap) n (p++(q++t))->p.length=o->q.length=vs.length->(w.setCells g o vs).ownsRow B e size (.slice (some ⟨g,0,none⟩) n cap) n (p++(vs++t))
 | [],_,w,p,q,t,h,_,b=>by
  cases q with
  | nil=>exact h
  | cons a q=>simp at b
 | v::r,o,w,p,q,t,h,d,b=>by
  cases q with
  | nil=>simp at b
  | cons a q =>
   have c:=(h.stored o v).1;have e:(p++(a::q++t)).set o v=(p++[v])++(q++t):=by
    subst d;simp
   rw [e] at c;have:=aE3 r (o+1) _ (p++[v]) q t c (by simp [d]) (by simpa using b);simpa [World.setCells] using this
theorem Put.back {B E M M' w b w'} (h:Put B E M b M' w') (a:Below w.heap.size w b):Put B E M w M' w' :=
 ⟨h.mem,fun k f d=>by
  have g:=a.size;obtain ⟨e,c⟩:=h.nx k (by omega) d;exact ⟨e.trans (a.block k f),c⟩,h.os.trans a.os,h.tape.trans a.tape,h.output.trans a.output,aa5 a.size h.size,h.cons⟩
theorem DB.go {B E M w j b frags Z g n a l ys m f e i} (h:DB B E M w b frags Z g n a l ys m f e i) (d:Below w.heap.size w j):DB B E M j b frags Z g n a l ys m f e i :=
 have o:=h.le
 have c:=(aag.1 h.box).1
 ⟨h.ds.move (fun _ _ _ h=>h) (fun k _ p=>d.block k (by omega)) (fun _ _ _ _=>rfl),aa5 o d.size,(d.block Z c).trans h.box,h.out,h.fz,h.vfs⟩
theorem aRX {B E M w w3 w4 wf ops frags Z gA n capA s ys N ys4 a4 p4 A v x} (h:DB B E M w ops frags Z gA n capA s ys N A v (.slice a4 x.sels.length p4)) (m:ops[0]?=some x) (C:Cons M w) (hb3:Below w.heap.size w w3)
  (hcl:∀ i p j c,(List.map aH x.sels)[i]?=some p->p.cells[j]?=some c->∃ u,ys4[i*7+j]?=some u/\Rv M noB c u) (hyl:ys4.length=x.sels.length*7) nm {g cap'}
  (hgrow:w3.grownBy w4 (Value.slice a4 x.sels.length p4).ownBlock) (hat:(Value.slice a4 x.sels.length p4).ownBlock=some g∨g=w3.heap.size) (hgA:g≠gA)
  (own:wf.ownsRow B 40 7 (.slice (some ⟨g,0,none⟩) (x.sels.length+1) cap') (x.sels.length+1) (ys4++iT nm))
  (hwf:∀ b,b≠g->wf.heap[b]?=(w4.setCell ⟨gA,4,none⟩ (.slice (some ⟨g,0,none⟩) (x.sels.length+1) cap')).heap[b]?) (hos:wf.os=w4.os) (f:wf.tape=w4.tape) (hou:wf.output=w4.output) (G:wf.heap.size=w4.heap.size) :
  ∃ M',Put B E M w M' wf/\Rv M' noB (pvD ⟨ops.set 0 ⟨x.kind,x.name,x.vars,x.dirs,x.sels++[rS nm]⟩,frags⟩) (.agg #[.slice (some ⟨gA,0,none⟩) n capA,s]):=by
 obtain ⟨P,hm2⟩:=h.ds.mrk x m;have q:=h.ds.hi gA (.inl rfl);have L:=h.le;have D:=hb3.size;have R:∀ k,(Value.slice a4 x.sels.length p4).ownBlock=some k->B<=k/\k<E:=fun k H=>h.ds.hi k (.inr (.inr H));have K:g<w4.heap.size:=by have:=(own.lt g rfl).2;omega
 obtain ⟨z,O,cap'',eva,J,_⟩:=h.ds.at_;obtain rfl:ops.length=n:=by injection eva with y o e3;omega
 have d:w4.ownsRow B 37 5 (.slice (some ⟨gA,0,none⟩) ops.length capA) _ ys:=kJ h.ds.ownA fun b hb=>by
  have hbl:b<w.heap.size:=by have:=(h.ds.hi b (.inl hb)).2;omega
  exact (hgrow.block b (by omega) (fun e=>(hm2 b e.symm).1 hb)).trans (hb3.block b hbl)
 have t:=h.ds.isx;have F:=h.ds.ownA.1;have I:=aNR d 4 (.slice (some ⟨g,0,none⟩) (x.sels.length+1) cap') (by omega);have a:=kJ (w':=wf) I fun b hb=>hwf b (fun e=>by
  have:b=gA:=by simpa [Value.ownBlock] using hb.symm
  exact hgA (e ▸ this ▸ rfl))
 have Q:=hgrow.size;exact add4 h.ds L m C hcl hyl (rS nm) (iT nm) (bD8 nm) own a (hat.imp id (fun e=>by omega)) (fun b hb y o=>by
  have l:b≠g:=fun e=>by
   rcases hat with r | r;· exact o (e ▸ r)
   omega
  exact (hwf b l).trans ((Below.heap_setCell _ _ _ _ y).trans ((hgrow.block b (by omega) (fun e=>o e.symm)).trans (hb3.block b hb)))) (hos.trans (hgrow.os.trans hb3.os)) (f.trans (hgrow.tape.trans hb3.tape)) (hou.trans (hgrow.output.trans hb3.output)) (by omega)
noncomputable def dr9C:Code:=fstC mk7C
theorem dr9L {M w} i e4 e e9 c (hc:Cons M w) Q fr (b:fr.length=139) (g:FV fr [(3,i),(4,e4),(8,e),(9,e9),(10,c)])
  (d:∀ v w' l',l'.length=139->Cl M w M w'->FV l' [(3,i),(4,e4),(8,e),(9,e9),(10,c),(60,.bool v)]->Q .normal ⟨l'.toArray,[]⟩ w') :
  Code.wp Tryz.prog dr9C Q ⟨fr.toArray,[]⟩ w:=by
 replace d:=(id d:Hid _);have cl:Hid (∀ o,Cl M w M (w.alloc o).drew):=fun o=>⟨((Below.refl _ _).alloc (by omega) o).drew,fun _ _ _ h=>h,fun _ _ _=>rfl,pY hc ((Below.refl _ _).alloc (by omega) o).drew⟩;clear hc;revert g;refine eR 139 (fun fr=>FV fr _->Code.wp Tryz.prog _ _ ⟨fr.toArray,[]⟩ _) ?_ fr b;simp only [AllL];iterate 139 intro _
 rintro ⟨g3,g4,f,g9,a,_⟩;simp [at_] at g3 g4 f g9 a;subst g3 g4 f g9 a;unfold dr9C;simp [mk7C,Tryz.f3,bB,sndC,fstC];go_region_with (fail);all_goals
  exact d.out _ _ _ rfl (cl.out _) ⟨rfl,rfl,rfl,rfl,rfl,rfl,trivial⟩
noncomputable def bKk:Code:=fstC aOT
theorem bKS {M w} d b e11 (i:Cons M w) Q fr (hlen:fr.length=139) (g:FV fr [(3,d),(8,b),(11,e11)])
  (hC:∀ v w' l',l'.length=139->Cl M w M w'->FV l' [(3,d),(8,b),(11,e11),(103,.bool v)]->Q .normal ⟨l'.toArray,[]⟩ w') :
  Code.wp Tryz.prog bKk Q ⟨fr.toArray,[]⟩ w:=by
 replace hC:=(id hC:Hid _);have j:Hid (∀ o,Cl M w M (w.alloc o).drew):=fun o=>⟨((Below.refl _ _).alloc (by omega) o).drew,fun _ _ _ h=>h,fun _ _ _=>rfl,pY i ((Below.refl _ _).alloc (by omega) o).drew⟩;clear i;revert g;refine eR 139 (fun fr=>FV fr _->Code.wp Tryz.prog _ _ ⟨fr.toArray,[]⟩ _) ?_ fr hlen;simp only [AllL];iterate 139 intro _
 rintro ⟨f,c,g11,_⟩;simp [at_] at f c g11;subst f c g11;unfold bKk;simp [aOT,Tryz.f3,bB,sndC,fstC];refine ab5 (Q:=Exit.then (Q .normal) (fun _ _ _=>False)) (fun e a w h=>by cases e<;>first | exact h | exact h.elim) ?_;go_region_with (fail);all_goals
  exact hC.out _ _ _ rfl (j.out _) ⟨rfl,rfl,rfl,rfl,trivial⟩
noncomputable def p12C:Code:=elC (sndC mk7C)
theorem bKT i {B E M w r frags Z k n c vf ys zs u2 u3 u4} (h:DB B E M w r frags Z k n c vf ys zs u2 u3 u4) {x} (R:r[0]?=some x) (hs:x.sels.length<1073741824) (hc:Cons M w) T e4 S Q fr (J:fr.length=139) (g:FV fr [(3,T),(4,e4),(8,S),(9,.string ⟨i.toArray⟩),(10,ptr Z)])
  (hC:∀ M' w' l',l'.length=139->Put B E M w M' w'->Rv M' noB (pvD ⟨r.set 0 ⟨x.kind,x.name,x.vars,x.dirs,x.sels++[rS i]⟩,frags⟩) (.agg #[.slice (some ⟨k,0,none⟩) n c,vf])->FV l' [(3,T),(4,e4),(8,S),(10,ptr Z)]->Q .normal ⟨l'.toArray,[]⟩ w') :
  Code.wp Tryz.prog p12C Q ⟨fr.toArray,[]⟩ w:=by
 obtain ⟨C,H,F,rfl,hn0,L,D,A,h2Z,hBs,l⟩:=h.form R;have hnz:(0:Int)<(n:Int):=by omega
 have aft:Hid (∀ (W m:World),_->_->_):=h.aft A h2Z l;obtain ⟨kz,Y,kf,hZl,hgl,ho2⟩:=l w.drew ((Below.refl _ _).drew);have fin:Hid (∀ (m:World) (g d:Nat) (l':List Value),m.ownsRow B 40 7 (.slice (some ⟨g,0,none⟩) (x.sels.length+1) d) (x.sels.length+1) (F++iT i)->(w.alloc (.cells (iT i).toArray 40)).drew.grownBy m (Value.slice C x.sels.length H).ownBlock->((Value.slice C x.sels.length H).ownBlock=some g∨g=(w.alloc (.cells (iT i).toArray 40)).drew.heap.size)->l'.length=139->FV l' [(3,T),(4,e4),(8,S),(10,ptr Z)]->Q .normal ⟨l'.toArray,[]⟩ (m.setCell ⟨k,4,none⟩ (.slice (some ⟨g,0,none⟩) (x.sels.length+1) d))):=by
  intro m g d l' k1 Y k3 k4 k5;have I:g≠k:=by
   rcases k3 with e | e;· intro e2;exact A (e2 ▸ e)
   have:=(h.ds.hi k (.inl rfl)).2;have hE:=h.le;have:w.heap.size<=(w.alloc (.cells (iT i).toArray 40)).drew.heap.size:=(((Below.refl _ _).alloc (aa1 _) _).drew).size;omega
  obtain ⟨M',p1,p2⟩:=aRX h R hc (((Below.refl _ _).alloc (aa1 _) _).drew) D L i Y k3 I (ownsRow_setCell_other k1 (a:=⟨k,4,none⟩) (by simpa [Value.ownBlock] using I) _) (fun _ _=>rfl) rfl rfl rfl (by simp only [World.setCell,Array.size_modify]);exact hC M' _ l' k4 p1 p2 k5
 obtain ⟨i0,z0,hi,O,V,K,X⟩:=aAq Tryz.i40;have y:Hid (∀ w',_->_):=l;clear hC h D R l;revert g;refine eR 139 (fun fr=>FV fr _->Code.wp Tryz.prog _ _ ⟨fr.toArray,[]⟩ _) ?_ fr J;simp only [AllL];iterate 139 intro _
 rintro ⟨g3,g4,g8,g9,v,_⟩;simp only [at_] at g3 g4 g8 g9 v;subst g3 g4 g8 g9 v;unfold p12C;simp only [mk7C,Tryz.f3,bB,sndC,fstC,elC];refine ab5 (Q:=Exit.then (Q .normal) (fun _ _ _=>False)) (fun e a w h=>by cases e<;>first | exact h | exact h.elim) ?_;refine uI (fun w'=>w'.cell? ⟨Z,0,none⟩=some (.slice (some ⟨k,0,none⟩) n c)/\w'.cell? ⟨k,4,none⟩=some (.slice C x.sels.length H)) (fun j=>j==13) (by kernel_rfl) ?_;have b:w.drew.cell? ⟨Z,0,none⟩=some (.slice (some ⟨k,0,none⟩) n c)/\w.drew.cell? ⟨k,4,none⟩=some (.slice C x.sels.length H):=⟨kz,Y⟩;try simp only [Act.put,aa7,aa8,aab]
 refine tk 0 b ?_;refine tk 1 b ?_;refine tk 2 b ?_;refine tk 3 b ?_;refine tk 4 b ?_;refine tk 5 b ?_;refine tk 6 b ?_;refine tk 7 b ?_;refine tk 8 b ?_;refine on1 9 ?_;intro K9 z;go_simp;refine z.out _ _ ⟨bD9 _ b.1,bD9 _ b.2⟩ (fun hS2 => ?_);clear z K9;try simp only [Act.put,aa7,aa8,aab]
 refine on1 10 ?_;intro N p;show (if Region.wanted {dst:=some 84,op:=Op.call {callee:=Callee.builtin Builtin.append,args:=_,argTypes:=_},type:=_,pos:=_,after:=_,guard:=_} _=true then _ else _);obtain ⟨_,_,_,_,_,P⟩:=y.out _ (((Below.refl w.heap.size w).alloc (aa1 _) (.cells (iT i).toArray 40)).drew);refine aBf rfl (.tmp 80) (.tmp 83) 35 rfl B 40 i0 _ 7 128 Tryz.u35 hi O V K X (by decide) (.slice C x.sels.length H) x.sels.length F rfl P ⟨w.heap.size,0,none⟩ 1 1 (iT i) rfl rfl (abf (cs:=(iT i).toArray) (heap_alloc_new w _)) (by intro u hu;simp only [iT,aa3,abg,or_false] at hu;rcases hu with rfl | rfl | rfl | rfl | rfl | rfl | rfl<;>rfl) (by decide) (by unfold maxLen;omega) (by omega) (by simp;omega) _ rfl ?_;intro g G m s f hat hlt;obtain ⟨n1,n2,n3⟩:=aft.out _ m (((Below.refl w.heap.size w).alloc (aa1 _) _).drew) f;refine p.out _ _ ⟨n1,n2⟩ (fun t => ?_);clear p N;try simp only [Act.put,aa7,aa8,aab]
 refine on1 11 ?_;intro U q;go_simp;refine q.out _ _ t (fun t => ?_);clear q U;try simp only [Act.put,aa7,aa8,aab]
 refine tk 12 t ?_;refine onL 13 ?_;intro K13 o;go_simp;refine o.out _ _ ?_;clear o K13;try simp [Act.put,aa7,aa8]
 refine aAG (by kernel_rfl) ?_ _;refine fin.out m g G _ s f hat ?_ ?_;· rfl
 ·exact ⟨rfl,rfl,rfl,rfl,trivial⟩
abbrev qB:List Value:=[.int .i64 0,.string ⟨#[]⟩,.string ⟨#[]⟩,.slice none 0 0,.slice none 0 0,.string ⟨#[]⟩,.slice none 0 0]
theorem bHa {w:World} {B g n cap ys} (a:w.ownsRow B 40 7 (.slice (some ⟨g,0,none⟩) (n+1) cap) (n+1) (ys++qB)) (b:ys.length=n*7):w.there g (n*7) 7:=fun j c=>by
 refine ⟨?_,a.frozenAt _⟩;rw [a.cellAt _ (by omega),aaJ (by omega),b,Nat.add_sub_cancel_left,aa4 (by omega)];rfl
theorem bKl:∃ d,Tryz.prog.underlying 40=some d/\d.isRow=true:=by
 simp
noncomputable def p11C:Code:=sndC (thC (sndC mk7C))
theorem pt11 {w:World} {B g c a d} n (e:w.ownsRow B 40 7 (.slice (some ⟨g,0,none⟩) (c+1) a) (c+1) (d++qB)) (hyl:d.length=c*7) Q l (f:l.length=139) (m:at_ l 67 = .agg (iT n).toArray) (k:at_ l 68 = .int .i64 c) (j:at_ l 70 = .slice (some ⟨g,0,none⟩) (c+1) a)
  (i:∀ z,Q .normal ⟨(l.set 73 z).toArray,[]⟩ (w.setCells g (c*7) (iT n))):Code.wp Tryz.prog p11C Q ⟨l.toArray,[]⟩ w:=by
 have th:=bHa e hyl;obtain ⟨i0,z0,hi,hz0,h,hz2,hzc⟩:=aAq Tryz.i40;have b:(Tryz.prog.info? 40).map (·.size)=some 7:=by rw [hi,aat,h]
 have hmm  := by omega
 have hmn  := by omega
 clear hi hz0 h hz2 hzc e;replace b:=(id b:Hid _);replace th:=(id th:Hid _);revert m k j i;refine eR 139 (fun l=>at_ l 67=_->at_ l 68=_->at_ l 70=_->(∀ z,Q .normal ⟨(l.set 73 z).toArray,[]⟩ _)->Code.wp Tryz.prog _ _ ⟨l.toArray,[]⟩ _) ?_ l f;simp only [AllL];iterate 139 intro _
 intro m k j i;simp [at_] at m k j;subst m k j;replace i:=(id i:Hid _);unfold p11C;simp [mk7C,Tryz.f3,bB,sndC,fstC,thC];go_wp2_with (refine wpList_store_mid rfl 40 (.tmp 73) (.tmp 67) rfl g (c*7) (iT n).toArray rfl rfl th.out b.out (all_oneCell_toArray (by intro u hu;simp [iT] at hu;rcases hu with rfl | rfl | rfl | rfl | rfl | rfl | rfl<;>rfl)) ?_);exact i.out _
noncomputable def p20C:Code:=sndC (thC (sndC aOT))
theorem pt20 {w:World} {B g c a d} n (e:w.ownsRow B 40 7 (.slice (some ⟨g,0,none⟩) (c+1) a) (c+1) (d++qB)) (hyl:d.length=c*7) Q l (f:l.length=139) (m:at_ l 111 = .agg (iT n).toArray) (k:at_ l 112 = .int .i64 c) (j:at_ l 114 = .slice (some ⟨g,0,none⟩) (c+1) a)
  (i:∀ z,Q .normal ⟨(l.set 117 z).toArray,[]⟩ (w.setCells g (c*7) (iT n))):Code.wp Tryz.prog p20C Q ⟨l.toArray,[]⟩ w:=by
 have th:=bHa e hyl;obtain ⟨i0,z0,hi,hz0,h,hz2,hzc⟩:=aAq Tryz.i40;have b:(Tryz.prog.info? 40).map (·.size)=some 7:=by rw [hi,aat,h]
 have hmm  := by omega
 have hmn  := by omega
 clear hi hz0 h hz2 hzc e;replace b:=(id b:Hid _);replace th:=(id th:Hid _);revert m k j i;refine eR 139 (fun l=>at_ l 111=_->at_ l 112=_->at_ l 114=_->(∀ z,Q .normal ⟨(l.set 117 z).toArray,[]⟩ _)->Code.wp Tryz.prog _ _ ⟨l.toArray,[]⟩ _) ?_ l f;simp only [AllL];iterate 139 intro _
 intro m k j i;simp [at_] at m k j;subst m k j;replace i:=(id i:Hid _);unfold p20C;simp [aOT,Tryz.f3,bB,sndC,fstC,thC];go_wp2_with (refine wpList_store_mid rfl 40 (.tmp 117) (.tmp 111) rfl g (c*7) (iT n).toArray rfl rfl th.out b.out (all_oneCell_toArray (by intro u hu;simp [iT] at hu;rcases hu with rfl | rfl | rfl | rfl | rfl | rfl | rfl<;>rfl)) ?_);exact i.out _
noncomputable def p10C:Code:=fstC (thC (sndC mk7C))
theorem bKU nm {B E M w ops frags Z gA n capA k ys U y m N} (h:DB B E M w ops frags Z gA n capA k ys U y m N) {x} (hx:ops[0]?=some x) (A:x.sels.length<1073741824) (D:Cons M w) e3 e4 e8 Q fr (hlen:fr.length=139) (g:FV fr [(3,e3),(4,e4),(8,e8),(9,.string ⟨nm.toArray⟩),(10,ptr Z)])
  (hC:∀ M' w' l',l'.length=139->Put B E M w M' w'->Rv M' noB (pvD ⟨ops.set 0 ⟨x.kind,x.name,x.vars,x.dirs,x.sels++[rS nm]⟩,frags⟩) (.agg #[.slice (some ⟨gA,0,none⟩) n capA,k])->FV l' [(3,e3),(4,e4),(8,e8),(10,ptr Z)]->Q .normal ⟨l'.toArray,[]⟩ w') :
  Code.wp Tryz.prog (.seq p10C p11C) Q ⟨fr.toArray,[]⟩ w:=by
 obtain ⟨a4,p4,ys4,rfl,o,hyl,hcl,h2g,h2Z,G,all⟩:=h.form hx;have T:(0:Int)<(n:Int):=by omega
 have aft:Hid (∀ (W w4:World),_->_->_):=h.aft h2g h2Z all;obtain ⟨kz,d,kf,t,J,ho2⟩:=all w (Below.refl _ _);have fin:Hid (∀ (W w4:World) g cap',Below w.heap.size w W->w4.ownsRow B 40 7 (.slice (some ⟨g,0,none⟩) (x.sels.length+1) cap') (x.sels.length+1) (ys4++qB)->W.grownBy w4 (Value.slice a4 x.sels.length p4).ownBlock->((Value.slice a4 x.sels.length p4).ownBlock=some g∨g=W.heap.size)->(w4.setCell ⟨gA,4,none⟩ (.slice (some ⟨g,0,none⟩) (x.sels.length+1) cap')).ownsRow B 40 7 (.slice (some ⟨g,0,none⟩) (x.sels.length+1) cap') (x.sels.length+1) (ys4++qB)/\(∀ l',l'.length=139->FV l' [(3,e3),(4,e4),(8,e8),(10,ptr Z)]->Q .normal ⟨l'.toArray,[]⟩ ((w4.setCell ⟨gA,4,none⟩ (.slice (some ⟨g,0,none⟩) (x.sels.length+1) cap')).setCells g (x.sels.length*7) (iT nm)))):=by
  intro W w4 g cap' c F d k3;have hgA:g≠gA:=by
   rcases k3 with e | e;· intro v;exact h2g (v ▸ e)
   have:=(h.ds.hi gA (.inl rfl)).2;have hE:=h.le;have:=c.size;omega
  have oW:=ownsRow_setCell_other F (a:=⟨gA,4,none⟩) (by simpa [Value.ownBlock] using hgA) (.slice (some ⟨g,0,none⟩) (x.sels.length+1) cap');refine ⟨oW,fun l' r R => ?_⟩;obtain ⟨l,P,H,C,s⟩:=aBz g (iT nm) (x.sels.length*7) (w4.setCell ⟨gA,4,none⟩ (.slice (some ⟨g,0,none⟩) (x.sels.length+1) cap'));have S:=aE3 (iT nm) (x.sels.length*7) _ ys4 qB [] (by simpa using oW) hyl rfl;obtain ⟨M',I,q⟩:=aRX h hx D c hcl hyl nm d k3 hgA (by simpa using S) l P H C (s.trans (by simp only [World.setCell,Array.size_modify]));exact hC M' _ l' r I q R
 obtain ⟨L,V,O,hz0,hz1,hz2,hzc⟩:=aAq Tryz.i40;have CB:Below w.heap.size w (w.alloc (.cells qB.toArray 40)):=(Below.refl _ _).alloc (aa1 _) _;obtain ⟨_,_,_,_,_,ho3⟩:=all _ CB;have hBa:B<=(w.alloc (.cells qB.toArray 40)).heap.size:=by have:=CB.size;omega
 have hs0:x.sels.length+1<=maxLen/\(x.sels.length+1)*128<=140737488355328:=⟨by unfold maxLen;omega,by omega⟩;replace CB:=(id CB:Hid _);replace ho3:=(id ho3:Hid _);replace hBa:=(id hBa:Hid _);replace hs0:=(id hs0:Hid _);replace hyl:=(id hyl:Hid _);clear hC h hcl hx all ho2 A;revert g;refine eR 139 (fun fr=>FV fr _->Code.wp Tryz.prog _ _ ⟨fr.toArray,[]⟩ _) ?_ fr hlen;simp only [AllL];iterate 139 intro _
 rintro ⟨g3,b,f,i,g10,_⟩;simp only [at_] at g3 b f i g10;subst g3 b f i g10;refine wp_seq ?_;unfold p10C;simp [mk7C,Tryz.f3,bB,sndC,fstC,thC];go_wp2_with (at_builtin;refine wpList_append_lies _ rfl (.tmp 65) (.tmp 69) 35 rfl B 40 L _ 7 128 Tryz.u35 O hz0 hz1 hz2 hzc (by decide) (.slice a4 x.sels.length p4) x.sels.length ys4 rfl ho3.out ⟨w.heap.size,0,none⟩ 1 1 qB rfl rfl (abf (cs:=qB.toArray) (heap_alloc_new w _)) (by intro u j;simp [qB,aa3,abg] at j;rcases j with rfl | rfl | rfl | rfl | rfl | rfl | rfl<;>rfl) (by decide) hs0.out.1 hs0.out.2 hBa.out _ rfl ?_;intro g cap2 w4 hown4 hgrow hat p;obtain ⟨n1,Y,X⟩:=aft.out _ w4 CB.out hgrow);obtain ⟨oW,K⟩:=fin.out _ w4 g cap2 CB.out hown4 hgrow hat;refine pt11 nm oW hyl.out Q _ rfl rfl rfl rfl (fun z => ?_);refine K _ ?_ ?_;· rfl
 exact ⟨rfl,rfl,rfl,rfl,trivial⟩
noncomputable def p19C:Code:=fstC (thC (sndC aOT))
theorem bKV G {B E M w I frags Z p n k vf ys zs u2 u3 u4} (h:DB B E M w I frags Z p n k vf ys zs u2 u3 u4) {x} (hx:I[0]?=some x) (hs:x.sels.length<1073741824) (hc:Cons M w) V y v3 v4 v6 (hV:w.heap[V]?=some (.cells (lP y v3 v4 v6).toArray 40 (0,0))) (i3:∃ a n c,v3 = .slice a n c) (i4:∃ a n c,v4 = .slice a n c) (i6:∃ a n c,v6 = .slice a n c) (hk:Hid (∀ M' w',Cl M w M' w'->Calls Tryz.prog 11 #[.agg (lP y v3 v4 v6).toArray] w' fun e w''=>∃ M'',e = .returned (.string ⟨G.toArray⟩)/\Cons M'' w''/\Quiet M' w' M'' w'')) e3 Q fr (hlen:fr.length=139) (g:FV fr [(3,e3),(8,ptr V),(11,ptr Z)])
  (hC:∀ M' w' l',l'.length=139->Put B E M w M' w'->Rv M' noB (pvD ⟨I.set 0 ⟨x.kind,x.name,x.vars,x.dirs,x.sels++[rS G]⟩,frags⟩) (.agg #[.slice (some ⟨p,0,none⟩) n k,vf])->FV l' [(3,e3),(11,ptr Z)]->Q .normal ⟨l'.toArray,[]⟩ w') :
  Code.wp Tryz.prog (.seq p19C p20C) Q ⟨fr.toArray,[]⟩ w:=by
 obtain ⟨a3,n3,c3,rfl⟩:=i3;obtain ⟨a5,n5,c5,rfl⟩:=i4;obtain ⟨a6,n6,c6,rfl⟩:=i6;obtain ⟨R,N,t,rfl,hn0,s,Y,h2g,h2Z,hBs,l⟩:=h.form hx;have hnz:(0:Int)<(n:Int):=by omega
 have aft:Hid (∀ (W r:World),_->_->_):=h.aft h2g h2Z l;have hlv:∀ w':World,Below w.heap.size w w'->w'.heap[V]?=some (.cells (lP y (.slice a3 n3 c3) (.slice a5 n5 c5) (.slice a6 n6 c6)).toArray 40 (0,0)):=fun w' H=>(H.block V (aag.1 hV).1).trans hV;have C:=Cl.start hc;have hS:Hid (∀ w':World,Below w.heap.size w w'->w'.cell? ⟨Z,0,none⟩=some (.slice (some ⟨p,0,none⟩) n k)/\w'.cell? ⟨p,4,none⟩=some (.slice R x.sels.length N)/\w'.rangeAt V 0 (lP y (.slice a3 n3 c3) (.slice a5 n5 c5) (.slice a6 n6 c6))):=fun w' H=>⟨(l w' H).1,(l w' H).2.1,fun j v hj=>(cell_of_row w' V (0+j) _ _ _ (hlv w' H)).trans (by rw [aae];simpa using hj)⟩;have fin:Hid (∀ (W r:World) (g f:Nat),Below w.heap.size w W->r.ownsRow B 40 7 (.slice (some ⟨g,0,none⟩) (x.sels.length+1) f) (x.sels.length+1) (t++qB)->W.grownBy r (Value.slice R x.sels.length N).ownBlock->((Value.slice R x.sels.length N).ownBlock=some g∨g=W.heap.size)->(r.setCell ⟨p,4,none⟩ (.slice (some ⟨g,0,none⟩) (x.sels.length+1) f)).ownsRow B 40 7 (.slice (some ⟨g,0,none⟩) (x.sels.length+1) f) (x.sels.length+1) (t++qB)/\(∀ l',l'.length=139->FV l' [(3,e3),(11,ptr Z)]->Q .normal ⟨l'.toArray,[]⟩ ((r.setCell ⟨p,4,none⟩ (.slice (some ⟨g,0,none⟩) (x.sels.length+1) f)).setCells g (x.sels.length*7) (iT G)))):=by
  intro W r g f H k1 k2 k3;have hgA:g≠p:=by
   rcases k3 with e | e;· intro e2;exact h2g (e2 ▸ e)
   ·have:=(h.ds.hi p (.inl rfl)).2;have hE:=h.le;have:=H.size;omega
  have U:=ownsRow_setCell_other k1 (a:=⟨p,4,none⟩) (by simpa [Value.ownBlock] using hgA) (.slice (some ⟨g,0,none⟩) (x.sels.length+1) f);refine ⟨U,fun l' k4 k5 => ?_⟩;obtain ⟨s1,s2,s3,s4,s5⟩:=aBz g (iT G) (x.sels.length*7) (r.setCell ⟨p,4,none⟩ (.slice (some ⟨g,0,none⟩) (x.sels.length+1) f));have oF:=aE3 (iT G) (x.sels.length*7) _ t qB [] (by simpa using U) s rfl;obtain ⟨M',p1,p2⟩:=aRX h hx hc H Y s G k2 k3 hgA (by simpa using oF) s1 s2 s3 s4 (s5.trans (by simp only [World.setCell,Array.size_modify]));exact hC M' _ l' k4 p1 p2 k5
 obtain ⟨i0,z0,hi,hz0,L,X,hzc⟩:=aAq Tryz.i40;obtain ⟨d0,hd1,hd2⟩:=bKl;have hi7:Hid ((Tryz.prog.info? 40).map (·.size)=some 7):=by rw [hi,aat,L];exact rfl
 replace l:=(id l:Hid _);replace s:=(id s:Hid _);clear hC h Y hx hlv hV hc;revert g;refine eR 139 (fun fr=>FV fr _->Code.wp Tryz.prog _ _ ⟨fr.toArray,[]⟩ _) ?_ fr hlen;simp only [AllL];iterate 139 intro _
 rintro ⟨g3,g8,g11,_⟩;simp only [at_] at g3 g8 g11;subst g3 g8 g11;refine wp_seq ?_;unfold p19C;simp only [aOT,Tryz.f3,bB,sndC,fstC,thC,elC];refine ab5 (Q:=Exit.then (fun a w=>Code.wp Tryz.prog p20C Q a w) (fun _ _ _=>False)) (fun e a w h=>by cases e<;>first | exact h | exact h.elim) ?_;refine uI (fun w'=>w'.cell? ⟨Z,0,none⟩=some (.slice (some ⟨p,0,none⟩) n k)/\w'.cell? ⟨p,4,none⟩=some (.slice R x.sels.length N)/\w'.rangeAt V 0 (lP y (.slice a3 n3 c3) (.slice a5 n5 c5) (.slice a6 n6 c6))) (fun j=>9<j) (by kernel_rfl) ?_;have m:w.drew.cell? ⟨Z,0,none⟩=some (.slice (some ⟨p,0,none⟩) n k)/\w.drew.cell? ⟨p,4,none⟩=some (.slice R x.sels.length N)/\w.drew.rangeAt V 0 (lP y (.slice a3 n3 c3) (.slice a5 n5 c5) (.slice a6 n6 c6)):=hS.out _ (Below.refl _ _).drew;try simp only [Act.put,aa7,aa8,aab]
 refine tk 0 m ?_;refine tk 1 m ?_;refine tk 2 m ?_;refine tk 3 m ?_;refine tk 4 m ?_;refine tk 5 m ?_ (hy:=yieldsIf_load_mid (by rfl) 40 (.tmp 8) rfl V 0 rfl _ _ (fun w' h=>h.2.2) hd1 hd2 hi7.out);refine tk 8 m ?_;refine bBV 6 9 (by kernel_rfl) rfl rfl ?_ ?_
 ·intro K d;go_simp;go_at_call 11;refine (hk.out _ _ C).mono ?_;rintro e' w1 ⟨M1,rfl,P,F⟩;have T:=Cl.q C F P;refine d.out _ _ (hS.out _ T.b) (fun S => ?_);clear d K;try simp only [Act.put,aa7,aa8,aab]
  refine tk 7 S ?_;refine on1 9 ?_;intro K d;go_simp;refine d.out _ _ (hS.out _ (T.al _).b) (fun hS2 => ?_);clear d K;try simp only [Act.put,aa7,aa8,aab]
  refine onL 10 ?_;intro K d;show (if Region.wanted {dst:=some 114,op:=Op.call {callee:=Callee.builtin Builtin.append,args:=_,argTypes:=_},type:=_,pos:=_,after:=_,guard:=_} _=true then _ else _);have D:Cl M w M1 (w1.alloc (.cells qB.toArray 40)):=(T.al _);obtain ⟨_,_,_,_,_,J⟩:=l.out _ D.b;refine aBf rfl (.tmp 108) (.tmp 113) 35 rfl B 40 i0 _ 7 128 Tryz.u35 hi hz0 L X hzc (by decide) (.slice R x.sels.length N) x.sels.length t rfl J ⟨w1.heap.size,0,none⟩ 1 1 qB rfl rfl (abf (cs:=(qB).toArray) (heap_alloc_new w1 _)) (by intro u hu;simp only [qB,iT,aa3,abg,or_false] at hu;rcases hu with rfl | rfl | rfl | rfl | rfl | rfl | rfl<;>rfl) (by decide) (by unfold maxLen;omega) (by omega) (aa5 hBs D.b.size) _ rfl ?_;intro g A r o i O hlt;obtain ⟨n1,n2,n3'⟩:=aft.out _ r D.b i;refine d.out _ _ ?_;clear d K;try simp only [Act.put,aa7,aa8,aab]
  refine onL 11 ?_;intro K d;go_simp;refine d.out _ _ ?_;clear d K;try simp only [Act.put,aa7,aa8,aab]
  refine onL 12 ?_;intro K d;go_simp;refine d.out _ _ ?_;clear d K;try simp only [Act.put,aa7,aa8,aab]
  refine onL 13 ?_;intro K d;go_simp;refine d.out _ _ ?_;clear d K;try simp only [Act.put,aa7,aa8,aab]
  refine aAG (by kernel_rfl) ?_ _;obtain ⟨U,fi⟩:=fin.out _ r g A D.b o i O;refine pt20 G U s.out Q _ rfl rfl rfl rfl (fun z => ?_);refine fi _ ?_ ?_;· rfl
  ·exact ⟨rfl,rfl,trivial⟩
 ·intro K d;go_simp;refine d.out _ _ (hS.out _ (C.al _).b) (fun hS2 => ?_);clear d K;try simp only [Act.put,aa7,aa8,aab]
  refine on1 6 ?_;intro K d;go_simp;go_at_call 11;refine (hk.out _ _ (C.al _)).mono ?_;rintro e' w1 ⟨M1,rfl,P,F⟩;have T:=Cl.q (C.al _) F P;refine d.out _ _ (hS.out _ T.b) (fun S => ?_);clear d K;try simp only [Act.put,aa7,aa8,aab]
  refine tk 7 S ?_;refine onL 10 ?_;intro K d;show (if Region.wanted {dst:=some 114,op:=Op.call {callee:=Callee.builtin Builtin.append,args:=_,argTypes:=_},type:=_,pos:=_,after:=_,guard:=_} _=true then _ else _);have D  := T;obtain ⟨_,_,_,_,_,J⟩:=l.out _ D.b;refine aBf rfl (.tmp 108) (.tmp 113) 35 rfl B 40 i0 _ 7 128 Tryz.u35 hi hz0 L X hzc (by decide) (.slice R x.sels.length N) x.sels.length t rfl J ⟨w.heap.size,0,none⟩ 1 1 qB rfl rfl (abf (cs:=(qB).toArray) (at_q F (heap_alloc_new w.drew _))) (by intro u hu;simp only [qB,iT,aa3,abg,or_false] at hu;rcases hu with rfl | rfl | rfl | rfl | rfl | rfl | rfl<;>rfl) (by decide) (by unfold maxLen;omega) (by omega) (aa5 hBs D.b.size) _ rfl ?_;intro g A r o i O hlt;obtain ⟨n1,n2,n3'⟩:=aft.out _ r D.b i;refine d.out _ _ ?_;clear d K;try simp only [Act.put,aa7,aa8,aab]
  refine onL 11 ?_;intro K d;go_simp;refine d.out _ _ ?_;clear d K;try simp only [Act.put,aa7,aa8,aab]
  refine onL 12 ?_;intro K d;go_simp;refine d.out _ _ ?_;clear d K;try simp only [Act.put,aa7,aa8,aab]
  refine onL 13 ?_;intro K d;go_simp;refine d.out _ _ ?_;clear d K;try simp [Act.put,aa7,aa8]
  refine aAG (by kernel_rfl) ?_ _;obtain ⟨U,fi⟩:=fin.out _ r g A D.b o i O;refine pt20 G U s.out Q _ rfl rfl rfl rfl (fun z => ?_);refine fi _ ?_ ?_;· rfl
  exact ⟨rfl,rfl,trivial⟩
noncomputable def p21C:Code:=elC (sndC aOT)
theorem bKW t {B E M w s frags Z o n f vf ys zs u2 u3 u4} (h:DB B E M w s frags Z o n f vf ys zs u2 u3 u4) {x} (hx:s[0]?=some x) (hs:x.sels.length<1073741824) (hc:Cons M w) V y v3 v4 v6 (hV:w.heap[V]?=some (.cells (lP y v3 v4 v6).toArray 40 (0,0))) (i3:∃ a n c,v3 = .slice a n c) (i4:∃ a n c,v4 = .slice a n c) (i6:∃ a n c,v6 = .slice a n c) (hk:Hid (∀ M' w',Cl M w M' w'->Calls Tryz.prog 11 #[.agg (lP y v3 v4 v6).toArray] w' fun e N=>∃ J,e = .returned (.string ⟨t.toArray⟩)/\Cons J N/\Quiet M' w' J N)) e3 Q fr (L:fr.length=139) (g:FV fr [(3,e3),(8,ptr V),(11,ptr Z)])
  (hC:∀ M' w' l',l'.length=139->Put B E M w M' w'->Rv M' noB (pvD ⟨s.set 0 ⟨x.kind,x.name,x.vars,x.dirs,x.sels++[rS t]⟩,frags⟩) (.agg #[.slice (some ⟨o,0,none⟩) n f,vf])->FV l' [(3,e3),(11,ptr Z)]->Q .normal ⟨l'.toArray,[]⟩ w') :
  Code.wp Tryz.prog p21C Q ⟨fr.toArray,[]⟩ w:=by
 obtain ⟨a3,n3,c3,rfl⟩:=i3;obtain ⟨a5,n5,c5,rfl⟩:=i4;obtain ⟨a6,n6,c6,rfl⟩:=i6;obtain ⟨F,D,I,rfl,hn0,v,H,O,h2Z,hBs,m⟩:=h.form hx;have hnz:(0:Int)<(n:Int):=by omega
 have aft:Hid (∀ (W r:World),_->_->_):=h.aft O h2Z m;have k:∀ w':World,Below w.heap.size w w'->w'.heap[V]?=some (.cells (lP y (.slice a3 n3 c3) (.slice a5 n5 c5) (.slice a6 n6 c6)).toArray 40 (0,0)):=fun w' A=>(A.block V (aag.1 hV).1).trans hV;have U:=Cl.start hc;have hS:Hid (∀ w':World,Below w.heap.size w w'->w'.cell? ⟨Z,0,none⟩=some (.slice (some ⟨o,0,none⟩) n f)/\w'.cell? ⟨o,4,none⟩=some (.slice F x.sels.length D)):=fun w' A=>⟨(m w' A).1,(m w' A).2.1⟩;have fin:Hid (∀ (W r:World) (g l:Nat),Below w.heap.size w W->r.ownsRow B 40 7 (.slice (some ⟨g,0,none⟩) (x.sels.length+1) l) (x.sels.length+1) (I++iT t)->W.grownBy r (Value.slice F x.sels.length D).ownBlock->((Value.slice F x.sels.length D).ownBlock=some g∨g=W.heap.size)->(∀ l',l'.length=139->FV l' [(3,e3),(11,ptr Z)]->Q .normal ⟨l'.toArray,[]⟩ (r.setCell ⟨o,4,none⟩ (.slice (some ⟨g,0,none⟩) (x.sels.length+1) l)))):=by
  intro W r g l A k1 k2 k3;have S:g≠o:=by
   rcases k3 with e | e;· intro e2;exact O (e2 ▸ e)
   have:=(h.ds.hi o (.inl rfl)).2;have hE:=h.le;have:=A.size;omega
  have oW:=ownsRow_setCell_other k1 (a:=⟨o,4,none⟩) (by simpa [Value.ownBlock] using S) (.slice (some ⟨g,0,none⟩) (x.sels.length+1) l);intro l' k4 k5;obtain ⟨M',p1,p2⟩:=aRX h hx hc A H v t k2 k3 S oW (fun _ _=>rfl) rfl rfl rfl (by simp only [World.setCell,Array.size_modify]);exact hC M' _ l' k4 p1 p2 k5
 have x0:w.drew.cell? ⟨V,0,none⟩=some (.int .i64 y.kind):=(cell_of_row w.drew V 0 _ _ _ (k _ (Below.refl _ _).drew)).trans rfl;have x1:w.drew.cell? ⟨V,1,none⟩=some (.string ⟨y.alias.toArray⟩):=(cell_of_row w.drew V 1 _ _ _ (k _ (Below.refl _ _).drew)).trans rfl;have x2:w.drew.cell? ⟨V,2,none⟩=some (.string ⟨y.name.toArray⟩):=(cell_of_row w.drew V 2 _ _ _ (k _ (Below.refl _ _).drew)).trans rfl;have x3:w.drew.cell? ⟨V,3,none⟩=some (.slice a3 n3 c3):=(cell_of_row w.drew V 3 _ _ _ (k _ (Below.refl _ _).drew)).trans rfl;have x4:w.drew.cell? ⟨V,4,none⟩=some (.slice a5 n5 c5):=(cell_of_row w.drew V 4 _ _ _ (k _ (Below.refl _ _).drew)).trans rfl;have x5:w.drew.cell? ⟨V,5,none⟩=some (.string ⟨y.on_.toArray⟩):=(cell_of_row w.drew V 5 _ _ _ (k _ (Below.refl _ _).drew)).trans rfl;have x6:w.drew.cell? ⟨V,6,none⟩=some (.slice a6 n6 c6):=(cell_of_row w.drew V 6 _ _ _ (k _ (Below.refl _ _).drew)).trans rfl;obtain ⟨i0,z0,hi,hz0,G,Y,hzc⟩:=aAq Tryz.i40;obtain ⟨d0,hd1,hd2⟩:=bKl;have hi7:Hid ((Tryz.prog.info? 40).map (·.size)=some 7):=by rw [hi,aat,G];exact rfl
 replace m:=(id m:Hid _);replace v:=(id v:Hid _);clear hC h H hx k hV hc hi7 hd1 hd2;revert g;refine eR 139 (fun fr=>FV fr _->Code.wp Tryz.prog _ _ ⟨fr.toArray,[]⟩ _) ?_ fr L;simp only [AllL];iterate 139 intro _
 rintro ⟨g3,g8,P,_⟩;simp only [at_] at g3 g8 P;subst g3 g8 P;unfold p21C;simp only [aOT,Tryz.f3,bB,sndC,fstC,thC,elC];refine ab5 (Q:=Exit.then (Q .normal) (fun _ _ _=>False)) (fun e a w h=>by cases e<;>first | exact h | exact h.elim) ?_;refine uI (fun w'=>w'.cell? ⟨Z,0,none⟩=some (.slice (some ⟨o,0,none⟩) n f)/\w'.cell? ⟨o,4,none⟩=some (.slice F x.sels.length D)) (fun j=>j==14) (by kernel_rfl) ?_;have i:w.drew.cell? ⟨Z,0,none⟩=some (.slice (some ⟨o,0,none⟩) n f)/\w.drew.cell? ⟨o,4,none⟩=some (.slice F x.sels.length D):=hS.out _ (Below.refl _ _).drew;try simp only [Act.put,aa7,aa8,aab]
 refine tk 0 i ?_;refine tk 1 i ?_;refine tk 2 i ?_;refine tk 3 i ?_;refine tk 4 i ?_;refine tk 5 i ?_;refine tk 6 i ?_;refine on1 7 ?_;intro K d;go_simp;refine d.out _ _ i (fun T => ?_);clear d K;try simp only [Act.put,aa7,aa8,aab]
 refine on1 8 ?_;intro K d;go_simp;go_at_call 11;refine (hk.out _ _ U).mono ?_;rintro e' w1 ⟨M1,rfl,hc1,hq1⟩;have C1:=Cl.q U hq1 hc1;refine d.out _ _ (hS.out _ C1.b) (fun T => ?_);clear d K;try simp only [Act.put,aa7,aa8,aab]
 refine tk 9 T ?_;refine on1 10 ?_;intro K d;go_simp;refine d.out _ _ (hS.out _ (C1.al _).b) (fun hS2 => ?_);clear d K;try simp only [Act.put,aa7,aa8,aab]
 refine on1 11 ?_;intro K d;show (if Region.wanted {dst:=some 129,op:=Op.call {callee:=Callee.builtin Builtin.append,args:=_,argTypes:=_},type:=_,pos:=_,after:=_,guard:=_} _=true then _ else _);have X:Cl M w M1 (w1.alloc (.cells (iT t).toArray 40)):=(C1.al _);obtain ⟨_,_,_,_,_,ho3⟩:=m.out _ X.b;refine aBf rfl (.tmp 124) (.tmp 128) 35 rfl B 40 i0 _ 7 128 Tryz.u35 hi hz0 G Y hzc (by decide) (.slice F x.sels.length D) x.sels.length I rfl ho3 ⟨w1.heap.size,0,none⟩ 1 1 (iT t) rfl rfl (abf (cs:=((iT t)).toArray) (heap_alloc_new w1 _)) (by intro u hu;simp only [qB,iT,aa3,abg,or_false] at hu;rcases hu with rfl | rfl | rfl | rfl | rfl | rfl | rfl<;>rfl) (by decide) (by unfold maxLen;omega) (by omega) (aa5 hBs X.b.size) _ rfl ?_;intro g R r z p hat hlt;obtain ⟨n1,n2,n3'⟩:=aft.out _ r X.b p;refine d.out _ _ ⟨n1,n2⟩ (fun C => ?_);clear d K;try simp only [Act.put,aa7,aa8,aab]
 refine on1 12 ?_;intro K d;go_simp;refine d.out _ _ C (fun C => ?_);clear d K;try simp only [Act.put,aa7,aa8,aab]
 refine tk 13 C ?_;refine onL 14 ?_;intro K d;go_simp;refine d.out _ _ ?_;clear d K;try simp [Act.put,aa7,aa8]
 refine aAG (by kernel_rfl) ?_ _;refine fin.out _ r g R X.b z p hat _ ?_ ?_;· rfl
 ·exact ⟨rfl,rfl,trivial⟩
theorem bKm {M y b e d} (h:SCV M y b e d):Rv M noB (aH y) (.agg (lP y b e d).toArray):=by
 rw [iZ];refine .agg _ _ (fun i=>(lP y b e d).toArray.getD i undef) rfl (fun i f => ?_) (fun i c a => ?_);· simp_all
 match i,a with
 | 0,a=>cases a;exact .int _ _
 | 1,a=>cases a;exact .str _
 | 2,a=>cases a;exact .str _
 | 3,a=>cases a;exact h.r3
 | 4,a=>cases a;exact h.r4
 | 5,a=>cases a;exact .str _
 | 6,a=>cases a;exact h.r6
 | n+7,a=>simp at a
theorem p9 o {B E M w d frags Z y n a H ys N K I J} (h:DB B E M w d frags Z y n a H ys N K I J) {x} (C:d[0]?=some x) (G:x.sels.length<1073741824) (L:Cons M w) k i j Q fr (m:fr.length=139) (g:FV fr [(3,k),(4,i),(8,j),(9,.string ⟨o.toArray⟩),(10,ptr Z)])
  (A:∀ M' w' l',l'.length=139->Put B E M w M' w'->Rv M' noB (pvD ⟨d.set 0 ⟨x.kind,x.name,x.vars,x.dirs,x.sels++[rS o]⟩,frags⟩) (.agg #[.slice (some ⟨y,0,none⟩) n a,H])->FV l' [(3,k),(4,i),(8,j),(10,ptr Z)]->Q .normal ⟨l'.toArray,[]⟩ w') :
  Code.wp Tryz.prog mk7C Q ⟨fr.toArray,[]⟩ w:=by
 refine wp_seq ?_;refine dr9L k i j _ _ L _ fr m g (fun v O l z e g => ?_);obtain ⟨D,F,s,u,f,r,_⟩:=g;refine wp_cond (t:=v) (by show l.toArray.getD 60 undef=_;rw [aIM,r]) ?_;cases v;· exact bKT o (h.go e.b) C G e.c k i j Q l z ⟨D,F,s,u,f,trivial⟩ fun M' w' l' q p=>A M' w' l' q (p.back e.b)
 exact bKU o (h.go e.b) C G e.c k i j Q l z ⟨D,F,s,u,f,trivial⟩ fun M' w' l' q p=>A M' w' l' q (p.back e.b)
theorem p18 z {B E M w i frags Z gA n f vf ys zs u2 u3 u4} (h:DB B E M w i frags Z gA n f vf ys zs u2 u3 u4) {x} (hx:i[0]?=some x) (hs:x.sels.length<1073741824) (hc:Cons M w) V y j q k (hV:w.heap[V]?=some (.cells (lP y j q k).toArray 40 (0,0))) (F:∃ a n c,j = .slice a n c) (i4:∃ a n c,q = .slice a n c) (i6:∃ a n c,k = .slice a n c) (hk:Hid (∀ M' w',Cl M w M' w'->Calls Tryz.prog 11 #[.agg (lP y j q k).toArray] w' fun e o=>∃ p,e = .returned (.string ⟨z.toArray⟩)/\Cons p o/\Quiet M' w' p o)) r Q fr (s:fr.length=139) (g:FV fr [(3,r),(8,ptr V),(11,ptr Z)])
  (hC:∀ M' w' l',l'.length=139->Put B E M w M' w'->Rv M' noB (pvD ⟨i.set 0 ⟨x.kind,x.name,x.vars,x.dirs,x.sels++[rS z]⟩,frags⟩) (.agg #[.slice (some ⟨gA,0,none⟩) n f,vf])->FV l' [(3,r),(11,ptr Z)]->Q .normal ⟨l'.toArray,[]⟩ w') :
  Code.wp Tryz.prog aOT Q ⟨fr.toArray,[]⟩ w:=by
 refine wp_seq ?_;refine bKS r _ _ hc _ fr s g (fun v w1 l hl d g => ?_);obtain ⟨g3,D,u,m,_⟩:=g;refine wp_cond (t:=v) (by show l.toArray.getD 103 undef=_;rw [aIM,m]) ?_;cases v;· exact bKW z (h.go d.b) hx hs d.c V y j q k (d.box hV) F i4 i6 (fun M' w' c=>hk.out M' w' (d.trans c)) r Q l hl ⟨g3,D,u,trivial⟩ fun M' w' l' C A=>hC M' w' l' C (A.back d.b)
 exact bKV z (h.go d.b) hx hs d.c V y j q k (d.box hV) F i4 i6 (fun M' w' c=>hk.out M' w' (d.trans c)) r Q l hl ⟨g3,D,u,trivial⟩ fun M' w' l' C A=>hC M' w' l' C (A.back d.b)
structure St (M0:Mem) (w0:World) (n:Nat) (M:Mem) (w:World):Prop where
 c:Cons M w
 f:From w0.heap.size M0 w0 M w
 z:n<=w.heap.size
 l:w0.heap.size<=n
theorem St.go {b M M' a w w' n} (h:St b a n M w) (f:From n M w M' w') (c:Cons M' w'):St b a n M' w' :=
 ⟨c,h.f.trans (f.of_le h.l),aa5 h.z f.below.size,h.l⟩
abbrev LawK (s:GSchema) (d:GDoc) (o:GOp) (b:List GOp):Prop:=(∃ a,oM d o.sels=some a/\a.length<=2097152/\lF s (aRV d o b (rS ([107]++a))) 24=some true)/\∀ x∈o.sels,x.kind=0->x.name≠tnS->lF s (aRV d o b (rS (keyD x))) 24=some false
theorem bGF s d Y b4 c5 k6 {M w} xs H ps a b p q r (hd:dY d<=1048576) (hc:Cons M w)
  (hS:Rv M noB (pvS s) (.agg #[.slice xs H ps,.string ⟨s.query.toArray⟩,.string ⟨s.mutation.toArray⟩])) (hD:Rv M noB (pvD d) (.agg #[.slice a d.ops.length p,.slice b q r])) (hra:Rv M noB (.slice (List.map cO d.ops) [] false) (.slice a d.ops.length p)) (hrb:Rv M noB (.slice (List.map aL d.frags) [] false) (.slice b q r))
  (h4:qZ s d=some b4) (h5:aQU s=some c5) (h6:b4=true->aGO s d 25=some k6)
  (hlaw:b4=true->k6=true->∀ o K,d.ops=o::K->LawK s d o K) :
  Calls Tryz.prog 3 #[.agg #[.slice xs H ps,.string ⟨s.query.toArray⟩,.string ⟨s.mutation.toArray⟩],.agg #[.slice a d.ops.length p,.slice b q r],.int .i64 Y] w fun e w'=>∃ v M',e = .returned v/\Rv M' noB (.bool true) v/\Cons M' w'/\Quiet M w M' w':=by
 have hb1:Below w.heap.size w ((w.alloc (.cells #[.slice xs H ps,.string ⟨s.query.toArray⟩,.string ⟨s.mutation.toArray⟩] 24)).alloc (.cells #[.slice a d.ops.length p,.slice b q r] 28)):=((Below.refl _ _).alloc (aa1 _) _).alloc (by simp) _;have hX:((w.alloc (.cells #[.slice xs H ps,.string ⟨s.query.toArray⟩,.string ⟨s.mutation.toArray⟩] 24)).alloc (.cells #[.slice a d.ops.length p,.slice b q r] 28)).heap[w.heap.size]?=some (.cells #[.slice xs H ps,.string ⟨s.query.toArray⟩,.string ⟨s.mutation.toArray⟩] 24 (0,0)):=bKO _ (heap_alloc_new w _);have hY:((w.alloc (.cells #[.slice xs H ps,.string ⟨s.query.toArray⟩,.string ⟨s.mutation.toArray⟩] 24)).alloc (.cells #[.slice a d.ops.length p,.slice b q r] 28)).heap[w.heap.size+1]?=some (.cells #[.slice a d.ops.length p,.slice b q r] 28 (0,0)):=bIU w _ _;have T1:St M w (w.heap.size+2) M _:=⟨pY hc hb1,From.of_below hb1,by simp,by omega⟩;obtain ⟨oa,cap,ea,_,hoa,R⟩:=aRz hc hra;obtain ⟨rfl,rfl⟩:a=oa/\p=cap:=by injection ea with e1 e2 e3;exact ⟨e1,e3⟩
 refine calls_of_wp Tryz.func3 bKR ?_;simp only [Tryz.ntmps3,List.size_toArray,aaV,aaH,Array.replicate_succ,
   Array.replicate_zero,List.push_toArray,List.append_toArray,aai,aaj]
 generalize hQ:bodyPost Tryz.prog Tryz.f3 _=Q;have N:∀ n u M2 fr,St M w n M2 u->at_ fr 6 = .bool true->Q .ret ⟨fr.toArray,[]⟩ u:=by
  intro n u M2 fr T k3;rw [<- hQ];refine bodyPost_ret (results_tmp (by rfl) _ _ _) rfl ?_;exact ⟨_,M2,rfl,by rw [aIM,k3];exact .bool true,T.c,T.f.mem,fun b hb=>⟨T.f.below.block b hb,fun i=>T.f.old b hb i⟩,T.f.below.size,T.f.below.os,T.f.below.tape,T.f.below.output⟩
 clear hQ;refine wp_seq ?_;refine a0L w xs H ps _ _ a b d.ops.length p q r _ _ _ rfl ⟨rfl,rfl,rfl,trivial⟩ (fun l t g => ?_);show Code.wp _ _ _ _ _;refine wp_seq ?_;refine guL w.heap.size (w.heap.size+1) xs H ps s.query s.mutation a b d.ops.length p q r b4 c5 k6 _ T1.c hX hY (fun M' w' j=>bKh j.c h4 _ _ (hS.mono j.m (fun _ _ _ h=>h)) (hD.mono j.m (fun _ _ _ h=>h))) (fun M' w' j=>bKj j.c h5 _ (hS.mono j.m (fun _ _ _ h=>h))) (fun e M' w' j=>bKP j.c (h6 e) _ _ (hS.mono j.m (fun _ _ _ h=>h)) (hD.mono j.m (fun _ _ _ h=>h))) _ l t g (fun M2 u l t j g=>N _ u M2 l (T1.go (j.frm T1.z) j.c) g.1) (fun e4 e0 e5 e6 M2 u l t j g => ?_);have A:=T1.go (j.frm T1.z) j.c;have hX2:=j.box hX;have L:=j.box hY;clear T1 hX hY j hb1;obtain ⟨o,K,h0⟩:∃ o K,d.ops=o::K:=by
  cases h:d.ops with
  | nil=>rw [h] at e0;exact absurd rfl e0
  | cons o K=>exact ⟨o,K,rfl⟩
 have hx:d.ops[0]?=some o:=by rw [h0];rfl
 obtain ⟨⟨O,f1,f2,f3⟩,hlb⟩:=hlaw e4 e6 o K h0;obtain ⟨blk,off,rfl⟩:=hoa (by rw [h0];exact List.cons_ne_nil _ _);obtain ⟨v2,v3,v4,hO,hoc⟩:=R blk off rfl 0 o hx;obtain ⟨sa,sc,rfl,_,hsa,P⟩:=aUu hc hO.r4;have hsl:o.sels.length<=1048576:=by
  have h1:=(aGt (a:=d)).2 o (by rw [h0];exact List.mem_cons_self ..);have h2:=fQ (f:=cZ) (fun o=>by rw [eN];omega) o.sels;have h3:=bK o.sels;simp [bkSl] at h2 h3;omega
 show Code.wp _ _ _ _ _;refine wp_seq ?_;refine r3L u _ _ _ blk off d.ops.length p q r b sa o.sels.length sc L (by rw [h0];simp) (rQ A.c (A.f.mem _ _ _ (by simpa using hoc 4 _ rfl))) _ l t g (fun l t g => ?_);show Code.wp _ _ _ _ _;refine wp_seq ?_;refine g4L _ _ _ sa o.sels.length sc A.c _ l t g (fun M3 w3 l t j g=>N _ w3 M3 l (A.go (j.frm A.z) j.c) g.1) (fun hne l t g => ?_);obtain ⟨B2,O2,rfl⟩:=hsa (fun e=>hne (by rw [e];rfl));obtain ⟨k,hk,ek⟩:=modK Y o.sels.length (by omega) (by omega);obtain ⟨s3,s4,W,F,U⟩:=P B2 O2 rfl k o.sels[k] (aa4 hk);have hym  := aaK hk;generalize o.sels[k]=y at F U hym;have i3:=pB F.r3;have i4:=pB F.r4;have i6:=pB F.r6;show Code.wp _ _ _ _ _;refine wp_seq ?_;refine r6L u _ _ Y B2 O2 o.sels.length sc k hk (by omega) ek y s3 s4 W (fun c v h=>rQ A.c (A.f.mem _ _ _ (U c v h))) i3 i4 i6 _ l t g (fun l t g => ?_);have G:Below u.heap.size u (u.alloc (.cells (lP y s3 s4 W).toArray 40)):=(Below.refl _ _).alloc (aa1 _) _;have T3:St M w (u.heap.size+1) M2 (u.alloc (.cells (lP y s3 s4 W).toArray 40)):=⟨pY A.c G,A.f.trans ((From.of_below G).of_le (aa5 A.l A.z)),by simp,by have:=A.l;have:=A.z;omega⟩;have hV:=heap_alloc_new u (.cells (lP y s3 s4 W).toArray 40);have hX3:=(G.block _ (aag.1 hX2).1).trans hX2;have X:=(G.block _ (aag.1 L).1).trans L;have hXV  := by have:=A.z;omega
 generalize u.alloc (.cells (lP y s3 s4 W).toArray 40)=w3 at *;generalize u.heap.size=V at *;clear hX2 L A G P U hoc R hoa hsa;show Code.wp _ _ _ _ _;refine wp_seq ?_;refine r7L _ _ _ (w.heap.size+1) _ b d.ops.length p q r O f2 T3.c X (fun M' w' j=>bKQ j.c f1 _ _ (hD.mono (fun b i v h=>j.m b i v (T3.f.mem b i v h)) (fun _ _ _ h=>h)) (hO.r4.mono (fun b i v h=>j.m b i v (T3.f.mem b i v h)) (fun _ _ _ h=>h))) _ l t g (fun M4 w4 l t j g => ?_);have I:=T3.go (j.frm T3.z) j.c;have hX4:=j.box hX3;have hY4:=j.box X;have hV4:=j.box hV;clear T3 hX3 X hV j;show Code.wp _ _ _ _ _;refine wp_seq ?_;refine copA d (w.heap.size+1) _ _ _ _ b d.ops.length p q r hd (by omega) I.c (hra.mono I.f.mem (fun _ _ _ h=>h)) (hrb.mono I.f.mem (fun _ _ _ h=>h)) hY4 _ l t g (fun M5 w5 B E Z gA n capA vf ys zs u2 u3 u4 l t D c5' F5 hB hZ g => ?_);have T5:=I.go (F5.of_le I.z) c5';have hX5:=F5.box hX4 (by have:=I.z;omega);have hY5:=F5.box hY4 (by have:=I.z;omega);have hV5:=F5.box hV4 (by have:=I.z;omega);have hn4:=I.z;clear I hX4 hY4 hV4 F5;show Code.wp _ _ _ _ _;refine wp_seq ?_;refine p9 ([107]++O) D hx (by omega) c5' _ _ _ _ l t g (fun M6 w6 l t S rv g => ?_);have hZ6:=S.box D.box (by have:=D.out;omega);have hv6:=D.vfs;have T6:=T5.go (S.frm (by omega) T5.z) S.cons;have hX6:=S.box hX5 (.inl (by omega));have hY6:=S.box hY5 (.inl (by omega));have hV6:=S.box hV5 (.inl (by omega));clear T5 hX5 hY5 hV5 S D c5';have hdo:∀ x,(⟨d.ops.set 0 ⟨o.kind,o.name,o.vars,o.dirs,o.sels++[x]⟩,d.frags⟩:GDoc)=aRV d o K x:=fun x=>by rw [h0];rfl
 rw [hdo] at rv;show Code.wp _ _ _ _ _;refine wp_seq ?_;refine g13L w.heap.size Z _ _ xs H ps s.query s.mutation _ vf T6.c hX6 hZ6 ⟨_,_,_,rfl⟩ hv6 (fun M' w' j=>bKi j.c f3 _ _ (hS.mono (fun b i v h=>j.m b i v (T6.f.mem b i v h)) (fun _ _ _ h=>h)) (rv.mono j.m (fun _ _ _ h=>h))) _ l t g (fun M7 w7 l t j g => ?_);have C:=T6.go (j.frm T6.z) j.c;have hX7:=j.box hX6;have hY7:=j.box hY6;have hV7:=j.box hV6;clear T6 hX6 hY6 hV6 j hZ6 hv6 rv;show Code.wp _ _ _ _ _;refine wp_seq ?_;refine g15L V _ _ y s3 s4 W C.c hV7 _ l t g (fun M8 w8 l t j g=>N _ w8 M8 l (C.go (j.frm C.z) j.c) g.1) (fun hk0 hn0 l t g => ?_);have hrb':=hlb y hym hk0 hn0;show Code.wp _ _ _ _ _;refine wp_seq ?_;refine copB d (w.heap.size+1) _ _ _ b d.ops.length p q r hd (by omega) C.c (hra.mono C.f.mem (fun _ _ _ h=>h)) (hrb.mono C.f.mem (fun _ _ _ h=>h)) hY7 _ l t g (fun M8 w8 B E Z gA n capA vf ys zs u2 u3 u4 l t J c8 F8 hB hZ g => ?_);have T8:=C.go (F8.of_le C.z) c8;have hX8:=F8.box hX7 (by have:=C.z;omega);have hV8:=F8.box hV7 (by have:=C.z;omega);have hn7:=C.z;clear C hX7 hY7 hV7 F8;show Code.wp _ _ _ _ _;refine wp_seq ?_;refine p18 (keyD y) J hx (by omega) c8 V y s3 s4 W hV8 i3 i4 i6 (fun M' w' j=>keyQ j.c y _ ((bKm F).mono (fun b i v h=>j.m b i v (T8.f.mem b i v h)) (fun _ _ _ h=>h))) _ _ l t ⟨g.1,g.2.2.1,g.2.2.2.1,trivial⟩ (fun M9 w9 l t P9 rv g => ?_);have hZ9:=P9.box J.box (by have:=J.out;omega);have T9:=T8.go (P9.frm (by omega) T8.z) P9.cons;have hX9:=P9.box hX8 (.inl (by omega));rw [hdo] at rv;show Code.wp _ _ _ _ _;exact enL w.heap.size Z xs H ps s.query s.mutation _ vf T9.c hX9 hZ9 ⟨_,_,_,rfl⟩ J.vfs (fun M' w' j=>bKi j.c hrb' _ _ (hS.mono (fun b i v h=>j.m b i v (T9.f.mem b i v h)) (fun _ _ _ h=>h)) (rv.mono j.m (fun _ _ _ h=>h))) _ l t g (fun M' w' l t j g=>N _ w' M' l (T9.go (j.frm T9.z) j.c) g.1)
theorem bKn s d at' (hs:eH s<=1048576) (hd:dY d<=1048576) {M w} S D (g:Cons M w) (a:Rv M noB (pvS s) S) (hD:Rv M noB (pvD d) D) :
  Calls Tryz.prog 3 #[S,D,.int .i64 at'] w fun e w'=>∃ v M',e = .returned v/\Rv M' noB (.bool true) v/\Cons M' w'/\Quiet M w M' w':=by
 obtain ⟨b4,l,hE⟩:=bGt (s:=s) (d:=d) (by omega) (bD3 s hs) (bD4 d hd);obtain ⟨c,hck⟩:=bGA s hs;obtain ⟨k,hkp⟩:∃ k,b4=true->aGO s d 25=some k:=by
  cases b4;· simp
  obtain ⟨k,hk,_⟩:=aJ2 s d hs hd (hE rfl);grind
 have hq1:=a;obtain ⟨A,rfl,hL⟩:=bG3 a;cases hL with | cons n hL =>
 cases hL with | cons t hL =>
 cases hL with | cons u hL =>
 cases hL;have hq2:=hD;obtain ⟨B,rfl,hL⟩:=bG3 hD;cases hL with | cons h hL =>
 cases hL with | cons r1 hL =>
 cases hL;obtain ⟨xs,i,ps,rfl⟩:=pB n;cases t;cases u;obtain ⟨y,cap,rfl,_⟩:=aRz g h;obtain ⟨b,q,r,rfl⟩:=pB r1;exact bGF s d at' _ c k xs i ps y b cap q r hd g hq1 hq2 h r1 l hck hkp fun e1 p o z f=>by
  have hK:=hkp e1;rw [p] at hK;exact ⟨bKM f hs hd (hE e1) hK,fun x m hk j=>bKN f hs hd (hE e1) hK m hk j⟩
theorem bGG:∀ a b,keyA a=keyA b->a=b:=by
 rintro ⟨s,d,b⟩ ⟨s',g,b'⟩ h;have f  := List.head_eq_of_cons_eq h;have e:=List.tail_eq_of_cons_eq h;have c  := List.head_eq_of_cons_eq e;cases aMJ _ _ f;cases bEQ _ _ c;grind
theorem bEa args x r (o:args.map PV.plain=keyA x) (b:∀ p∈args,∀ v,fD p v) (a:∀ p∈args,p.solid=true) (h:keyF x=some r):bBQ Tryz.prog (fun _ _=>none) 3 args (keyR r):=by
 unfold keyF at h;split at h
 ·rename_i g;cases h;refine aF3 b a rfl rfl (fun vals w=>rfl) ?_;intro M w vals m e j;have c  := by have:=congrArg List.length o;simpa using this
  have d:∀ i p,(keyA x)[i]?=some p->Rv M noB p (vals.getD i undef):=by
   grind
  have k:=d 0 _ rfl;have l:=d 1 _ rfl;have f:=d 2 _ rfl;have n:vals.getD 2 undef = .int .i64 x.2.2:=by
   generalize vals.getD 2 undef=u at f;cases f;rfl
  have hv:vals = #[vals.getD 0 undef,vals.getD 1 undef,.int .i64 x.2.2]:=by
   apply Array.ext;· simp [e,c]
   intro i q t;have s:vals[i]=vals.getD i undef:=by simp [q]
   grind
  rw [hv];exact bKn x.1 x.2.1 x.2.2 g.1 g.2 _ _ m k l
 simp at h
theorem aDe s d b (e:eH s<=1048576) (f:dY d<=1048576):aFL s d b=some true:=by
 refine aHH (aG aC) ?_;refine bGO (g:=aSO Tryz.prog (fun _ _=>none) 3 keyA keyR keyF) rfl ?_;have c:keyF (s,d,b)=some true:=by unfold keyF;grind
 refine aX5 bGG (x:=(s,d,b)) rfl c (bEa _ (s,d,b) true rfl ?_ ?_ c);· intro p a v;apply cD;simp at a;rcases a with rfl | rfl | rfl<;>rfl
 intro p a;simp at a;rcases a with rfl | rfl | rfl<;>rfl
end Go.Proofs.YtenmfogokijilaaGreat
