import Derived.Test.YtphmfillajagdaaGreatWa
import Derived.Test.YtphmfillajagdaaGreatEd
import Derived.Test.YtphmfillajagdaaGreatGa
import Derived.KernelRfl
import Derived.Test.YtphmfillajagdaaGreatGd
import Derived.Test.YtphmfillajagdaaGreatRows
import Derived.WalkKit
import Derived.ProofKit
import Derived.OpenShut
import Derived.JoinedCond
set_option maxRecDepth 100000
set_option linter.unusedVariables false
set_option linter.unusedSimpArgs false
set_option linter.unusedSimpArgs false
open Go Go.Ev Go.Ev.PV
namespace Go.Proofs.YtphmfillajagdaaGreat
def TN (t:GType):Prop:=t.name.length<4611686018427387904
theorem bEu (t:GType) (h:TN t):Tt (fun b=>b=true→0≤t.lists∧t.lists≤4) (rO t):=by
 have:Tt (fun b=>b=true→0≤t.lists∧t.lists≤4) (mL t):=by
  unfold mL
  refine Tt.eq (aYG _ h) (Tt.cnd (fun _ => ?_) fun _=>Tt.ret (by simp))
  refine Tt.cnd (fun h1 => ?_) fun _=>Tt.ret (by simp)
  refine Tt.cnd (fun h2 => ?_) fun _=>Tt.ret (by simp)
  refine Tt.cnd (fun h3 => ?_) fun _=>Tt.ret (by simp)
  simp only [decide_eq_true_eq,ge_iff_le] at h1 h2
  have e:IntKind.wrap .u64 t.lists=t.lists:=by rw [wu];omega
  have hs:∃ y,tshl .i64 2 t.lists=some y:=by
   unfold tshl;rw [if_neg (by omega)];exact ⟨_,rfl⟩
  obtain ⟨y,hy⟩:=hs
  rw [e]
  exact Tt.eq hy (Tt.ret fun _=>⟨h1,h2⟩)
 obtain ⟨b,hb,hp⟩:=this
 exact ⟨b,aIk hb,hp⟩
theorem bF3 (t:GType) (h:TN t):Te (bEf t):=by
 have:Te (aO0 t):=Tt.bnd (bEu t h) fun b _=>Tt.cnd (fun _=>Tt.ret trivial) fun _=>Tt.ret trivial
 obtain ⟨b,hb,hp⟩:=this
 exact ⟨b,bAS hb,hp⟩
theorem bEv (t:GType) (h:TN t):Tt (fun r=>TN r.1∧(r.2=true→r.1.lists.toNat<t.lists.toNat)) (aTK t):=by
 have:Tt (fun r:GType×Bool=>TN r.1∧(r.2=true→r.1.lists.toNat<t.lists.toNat)) (aFP t):=by
  refine Tt.bnd (bEu t h) fun b hb=>Tt.cnd (fun _=>Tt.ret ⟨by unfold TN;simp,by simp⟩) fun h1 => ?_
  have h1:b=true:=by cases b<;>simp_all
  have h2:=hb h1
  refine Tt.cnd (fun _=>Tt.ret ⟨by unfold TN;simp,by simp⟩) fun h3=>Tt.ret ⟨h,fun _ => ?_⟩
  have h3:t.lists≠0:=by simpa using h3
  show (IntKind.wrap .i64 (t.lists-1)).toNat<_
  rw [wi (by omega)];omega
 obtain ⟨b,hb,hp⟩:=this
 exact ⟨b,aUu hb,hp⟩
theorem bCx (l:List GParam) (n:Str) (hl:Sm l):Tt (fun r=>r.2=true→r.1∈l) (aOe l n):=by
 have:Tt (fun r:GParam×Bool=>r.2=true→r.1∈l) (zY l n):=by
  unfold zY
  refine Tt.bnd (Q:=fun o=>Ev.elim o (fun _=>True) fun q=>GParam.mk q.1 (GType.mk q.2.1 q.2.2.1 q.2.2.2.1) q.2.2.2.2.1 (GValue.mk q.2.2.2.2.2.1 q.2.2.2.2.2.2.1 q.2.2.2.2.2.2.2.1 q.2.2.2.2.2.2.2.2.1 q.2.2.2.2.2.2.2.2.2)∈l) (Tt.idx l.length hl fun k h0 h1 => ?_) fun o ho=>Tt.elim (fun a e=>Tt.ret (by simp)) fun a e=>Tt.ret fun _=>by subst e;exact ho
  unfold wR
  refine Tt.cnd (fun hc=>Tt.nth ⟨h0,aAr hc⟩ fun x hx e => ?_) fun _=>Tt.ret (Ix.r trivial)
  refine Tt.cnd (fun _=>Tt.nth ⟨h0,aAr hc⟩ fun y hy e'=>Tt.ret (Ix.r ?_)) fun _=>Tt.ret (Ix.l hc)
  obtain ⟨nm,⟨_,_,_⟩,has,⟨_,_,_,_,_⟩⟩:=y;exact hy
 obtain ⟨b,hb,hp⟩:=this
 exact ⟨b,aRX hb,hp⟩
theorem bFE (n:Str) (m:List GMember) (hm:Sm m):Te (aWs n m):=by
 obtain ⟨v,hv⟩:=bA7 n m hm
 exact ⟨_,hv,trivial⟩
theorem SOk.params {s:GSchema} (h:SOk s) {d:GDef} (hd:d∈s.defs):bkSl kH d.params<1073741824:=by
 have:=h.def_bk hd;rw [oT] at this;omega
theorem bEw {α:Type} {bk:α→Nat} {l:List α} (hp:∀ x,1≤bk x) (h:bkSl bk l<1073741824):Sm l:=by
 have:=lM bk hp l;unfold bkSl at h;show l.length<_;omega
theorem aWJ {l:List GParam} (h:bkSl kH l<1073741824) {p:GParam} (hp:p∈l):TN p.t:=by
 have:=gD kH hp;unfold bkSl at h
 rw [qF,mI] at this
 unfold TN;rw [bA,bA] at this;omega
theorem aWK (s:GSchema) (l:List GParam) (m:List GMember) (hl:bkSl kH l<1073741824) (hm:Sm m) (hr:∀ x∈m,∀ t,TN t→Te (wE s t x.v true)):Te (aC8 s l m):=by
 have hsl:=bEw aK8 hl
 have:Te (zW s l m):=by
  unfold zW
  refine Tt.bnd (Q:=fun _=>True) (Tt.idx m.length hm fun i h0 h1 => ?_) fun o _=>Tt.elim (fun _ _=>Tt.bnd (Q:=fun _=>True) (Tt.idx l.length hsl fun i h0 h1 => ?_) fun o _=>Tt.elim (fun _ _=>Tt.ret trivial) fun _ _=>Tt.ret trivial) fun _ _=>Tt.ret trivial
  ·unfold wP
   refine Tt.cnd (fun hc=>Tt.nth ⟨h0,aAr hc⟩ fun x hx e => ?_) fun _=>Tt.ret (Ix.r trivial)
   refine Tt.bnd (bCx l x.name hsl) fun p hp=>Tt.cnd (fun _=>Tt.ret (Ix.r trivial)) fun hp2 => ?_
   refine Tt.nth ⟨h0,aAr hc⟩ fun y hy e=>Tt.bnd (hr y hy _ (aWJ hl (hp (by simpa using hp2)))) fun b _ => ?_
   refine Tt.cnd (fun _=>Tt.ret (Ix.r trivial)) fun _=>Tt.bnd (Q:=fun _=>True) (Tt.idx i.toNat (by have:=hm;unfold Sm at this;omega) fun k k0 k1 => ?_) fun o _=>Tt.elim (fun _ _=>Tt.ret (Ix.l hc)) fun _ _=>Tt.ret (Ix.r trivial)
   unfold wO
   have hi:=aAr hc
   refine Tt.cnd (fun hk => ?_) fun _=>Tt.ret (Ix.r trivial)
   have hk':=aAr hk
   refine Tt.nth ⟨k0,by omega⟩ fun x _ _=>Tt.nth ⟨h0,hi⟩ fun y _ _=>Tt.cnd (fun _=>Tt.ret (Ix.r trivial)) fun _=>Tt.ret (Ix.l (by simpa using (by omega:k<(i.toNat:Int))))
  ·unfold wQ
   refine Tt.cnd (fun hc => ?_) fun _=>Tt.ret (Ix.r trivial)
   have hi:=aAr hc
   refine Tt.nth ⟨h0,hi⟩ fun x _ _=>Tt.bnd (bFE _ m hm) fun g _=>Tt.cnd (fun _=>Tt.nth ⟨h0,hi⟩ fun y hy _=>Tt.bnd (bF3 _ (aWJ hl hy)) fun b _ => ?_) fun _=>Tt.ret (Ix.l hc)
   exact Tt.cnd (fun _=>Tt.nth ⟨h0,hi⟩ fun y hy _=>Tt.cnd (fun _=>Tt.ret (Ix.r trivial)) fun _=>Tt.ret (Ix.l hc)) fun _=>Tt.ret (Ix.l hc)
 obtain ⟨b,hb,hp⟩:=this
 exact ⟨b,aRG hb,hp⟩
theorem bCy (s:GSchema) (h:SOk s):∀ (n:Nat) (v:GValue),cJ v≤n→n<1073741824→∀ (k:Nat) (t:GType) (al:Bool),TN t→t.lists.toNat≤k→Te (wE s t v al):=by
 intro n
 induction n with
 | zero=>intro v hv;rw [cK] at hv;omega
 | succ n ihn =>
  intro v hv hn k
  have hvl:∀ x∈v.l,cJ x≤n:=fun x hx=>by have:=gD cJ hx;rw [cK] at hv;simp only [bkSl] at hv;omega
  have hvm:∀ x∈v.m,cJ x.v≤n:=fun x hx=>by have:=gD aZ hx;rw [cZ] at this;rw [cK] at hv;simp only [bkSl] at hv;omega
  have hpos:∀ x:GValue,1≤cJ x:=fun x=>by rw [cK];omega
  have hsl:Sm v.l:=bEw hpos (by rw [cK] at hv;omega)
  have hsm:Sm v.m:=bEw aSh (by rw [cK] at hv;omega)
  have hin:∀ x:GDef,x∈s.defs→Te (aC8 s x.params v.m):=fun x hx=>aWK s x.params v.m (h.params hx) hsm fun y hy t ht=>ihn y.v (hvm y hy) (by omega) _ t true ht (Nat.le_refl _)
  have hfind:∀ (n:Str),Tt (fun r=>Te (aC8 s r.1.params v.m)∧Sm r.1.parts) (aAx s n):=fun n=>by
   refine ⟨_,aDk s n h.sm,?_,by have:=h.partsF n;show (dD s n).1.parts.length<_;omega⟩
   rcases aCG s n with hx | ⟨_,_,_,e⟩
   ·exact hin _ hx
   ·rw [e];exact aWK s [] v.m (by simp [bkSl,sumL]) hsm fun y hy t ht=>ihn y.v (hvm y hy) (by omega) _ t true ht (Nat.le_refl _)
  have leaf:∀ (n:Str),Te (cnd (n==([73,110,116]:Str)) (cnd (v.kind==2) (cnd (decide (v.n≥(-2147483648))) (some (decide (v.n≤2147483647))) (some false)) (some false)) (cnd (n==([83,116,114,105,110,103]:Str)) (some (v.kind==4)) (cnd (n==([66,111,111,108,101,97,110]:Str)) (some (v.kind==1)) (cnd (n==([73,68]:Str)) (cnd (v.kind==4) (some true) (some (v.kind==2))) (bnd (aAx s n) fun y21=>cnd (y21.1.kind==4) (cnd (v.kind==5) (bnd (aBi y21.1.parts v.s) fun y23=>some y23) (some false)) (cnd (y21.1.kind==5) (cnd (v.kind==7) (bnd (aC8 s y21.1.params v.m) fun y25=>some y25) (some false)) (some false))))))):=fun n=>by
   refine Tt.cnd (fun _=>Tt.cnd (fun _=>Tt.cnd (fun _=>Tt.ret trivial) fun _=>Tt.ret trivial) fun _=>Tt.ret trivial) fun _=>Tt.cnd (fun _=>Tt.ret trivial) fun _=>Tt.cnd (fun _=>Tt.ret trivial) fun _=>Tt.cnd (fun _=>Tt.cnd (fun _=>Tt.ret trivial) fun _=>Tt.ret trivial) fun _=>Tt.bnd (hfind n) fun r hr => ?_
   exact Tt.cnd (fun _=>Tt.cnd (fun _=>Tt.eq (pG _ _ hr.2) (Tt.ret trivial)) fun _=>Tt.ret trivial) fun _=>Tt.cnd (fun _=>Tt.cnd (fun _=>Tt.bnd hr.1 fun _ _=>Tt.ret trivial) fun _=>Tt.ret trivial) fun _=>Tt.ret trivial
  have list1:∀ y4:GType×Bool,TN y4.1→Te (aY (rS s v y4) 0):=fun y4 ht=>by
   refine Tt.idx v.l.length hsl fun i h0 h1 => ?_
   unfold rS
   refine Tt.cnd (fun hc=>Tt.nth ⟨h0,aAr hc⟩ fun x hx _=>Tt.bnd (ihn x (hvl x hx) (by omega) _ y4.1 false ht (Nat.le_refl _)) fun b _=>Tt.cnd (fun _=>Tt.ret (Ix.r trivial)) fun _=>Tt.ret (Ix.l hc)) fun _=>Tt.ret (Ix.r trivial)
  have main:∀ (t:GType) (al:Bool),TN t→(∀ t':GType,TN t'→t'.lists.toNat<t.lists.toNat→Te (wE s t' v true))→Te (wE s t v al):=fun t al ht hrec=>by
   have:Te (zJ s t v al):=by
    unfold zJ
    refine Tt.bnd (bEu t ht) fun b _=>Tt.cnd (fun _=>Tt.ret trivial) fun _=>Tt.cnd (fun _=>Tt.ret trivial) fun _=>Tt.cnd (fun _=>Tt.ret trivial) fun _=>Tt.bnd (bEv t ht) fun y4 hy => ?_
    refine Tt.jn (fun k=>∀ t,Te (k t)) (fun _ => ?_) fun k hk => ?_
    ·exact Tt.cnd (fun _=>Tt.bnd (list1 _ hy.1) fun o _=>Tt.elim (fun _ _=>Tt.ret trivial) fun _ _=>Tt.ret trivial) fun _=>leaf _
    ·exact Tt.cnd (fun hl=>Tt.cnd (fun _=>Tt.cnd (fun _=>Tt.bnd (hrec _ hy.1 (hy.2 hl)) fun _ _=>Tt.ret trivial) fun _=>Tt.ret trivial) fun _=>hk _) fun _=>hk _
   obtain ⟨b,hb,hp⟩:=this
   exact ⟨b,aRd hb,hp⟩
  induction k with
  | zero=>exact fun t al ht hk=>main t al ht fun t' _ h'=>by omega
  | succ k ihk=>exact fun t al ht hk=>main t al ht fun t' ht' h'=>ihk t' true ht' (by omega)
theorem bCz:Ds 192 aWF:=by
 intro args hA hc
 obtain ⟨v0,r0,rfl,h0,hA⟩:=nI hA
 obtain ⟨v1,r1,rfl,h1,hA⟩:=nI hA
 obtain ⟨v2,r2,rfl,h2,hA⟩:=nI hA
 obtain ⟨v3,r3,rfl,h3,hA⟩:=nI hA
 cases aH4 hA
 obtain ⟨s,rfl⟩:=aLe h0
 obtain ⟨t,rfl⟩:=bEp h1
 obtain ⟨v,rfl⟩:=aJa h2
 obtain ⟨b,rfl⟩:=bEs h3
 have ps:=sT hc rfl (v:=fG s) (by simp)
 have pt:=sT hc rfl (v:=kQ t) (by simp)
 have pv:=sT hc rfl (v:=aI v) (by simp)
 have qs:=aGe s;have qt:=aWH t;have qv:=aPy v
 unfold Nr at qs qt qv
 obtain ⟨r,hr,_⟩:=bCy s ⟨by omega⟩ _ v (Nat.le_refl _) (by omega) _ t b (by rw [mI,bA] at qt;unfold TN;omega) (Nat.le_refl _)
 exact ⟨.bool r,by simp only [tys];exact bN (enc:=fun r=>(PV.bool r,[])) hr,.one (.bool r)⟩
open Go Go.Ev Go.Ev.PV
theorem bEx {s:Str} {i n:Int} (h:decide (n>IntKind.wrap .i64 ((List.length s:Int)-i))=false) (hs:s.length≤1073741824) (h0:0≤i) (h1:i<s.length) {F:Int→UInt8→Int} {p q:UInt8→Bool} {b:Int×Int→Option ((Int×Int)⊕(Int⊕Unit))}
  (hb:∀ c k,b (c,k)=cnd (decide (k<n)) (bnd (nthI s (IntKind.wrap .i64 (i+k))) fun y=>cnd (p y) (some (.inr (.inr ()))) (cnd (q y) (some (.inr (.inr ()))) (some (.inl (F c y,IntKind.wrap .i64 (k+1)))))) (some (.inr (.inl c)))) (c:Int):Te (aY b (c,1)):=by
 rw [wi (by omega)] at h
 have hn:n≤s.length-i:=by simpa using h
 refine Tt.loop (fun st:Int×Int=>1≤st.2) (fun st:Int×Int=>(n-st.2).toNat) (fun st hst => ?_) (by simp)
 obtain ⟨c,k⟩:=st
 simp only at hst
 rw [hb]
 refine Tt.cnd (fun hc => ?_) fun _=>Tt.ret (Nx.r trivial)
 have hk:=aAr hc
 rw [wi (n:=i+k) (by omega)]
 refine Tt.nth (by omega) fun y _ _=>Tt.cnd (fun _=>Tt.ret (Nx.r trivial)) fun _=>Tt.cnd (fun _=>Tt.ret (Nx.r trivial)) fun _=>Tt.ret (Nx.l ?_ ?_)
 ·show 1≤IntKind.wrap .i64 (k+1);rw [wi (by omega)];omega
 ·show (n-IntKind.wrap .i64 (k+1)).toNat<(n-k).toNat;rw [wi (by omega)];omega
theorem bEy (s:Str) (hs:s.length≤1073741824) (i:Int):Tt (fun r=>0≤r.2∧r.2≤4) (aTL s i):=by
 have:Tt (fun r:Int×Int=>0≤r.2∧r.2≤4) (aCm s i):=by
  unfold aCm
  refine Tt.cnd (fun _=>Tt.ret (by decide)) fun h1=>Tt.cnd (fun _=>Tt.ret (by decide)) fun h2 => ?_
  have h1:0≤i:=by simpa using h1
  have h2:i<s.length:=by simpa using h2
  refine Tt.nth ⟨h1,h2⟩ fun y _ _=>Tt.cnd (fun _=>Tt.ret (show 0≤(1:Int)∧(1:Int)≤4 by decide)) fun _ => ?_
  refine Tt.jn (fun k=>∀ c n low t t' t'',0≤n→n≤4→Tt (fun r:Int×Int=>0≤r.2∧r.2≤4) (k c n low t t' t'')) (fun c n low _ _ _ n0 n4 => ?_) fun k hk => ?_
  ·refine Tt.cnd (fun _=>Tt.ret (by decide)) fun hc=>Tt.bnd (bEx hc hs h1 h2 (fun _ _=>rfl) _) fun o _=>Tt.elim (fun _ _ => ?_) fun _ _=>Tt.ret (by decide)
   repeat' first
    | exact Tt.ret ⟨n0,n4⟩
    | exact Tt.ret (by decide)
    | (refine Tt.cnd (fun _ => ?_) (fun _ => ?_))
  ·repeat' first
    | exact Tt.ret (by decide)
    | exact hk _ _ _ _ _ _ (by decide) (by decide)
    | (refine Tt.cnd (fun _ => ?_) (fun _ => ?_))
 obtain ⟨b,hb,hp⟩:=this
 exact ⟨b,aUD hb,hp⟩
theorem bCA (s:Str) (hs:s.length≤1073741824):Tt (fun r=>r.1.length≤1073741824) (aWq s):=by
 have:Tt (fun r:List Int×Bool=>r.1.length≤1073741824) (zP s):=by
  unfold zP
  refine Tt.bnd (Q:=fun o=>Ev.elim o (fun l=>l.length≤1073741824) fun _=>True) (Tt.loop (fun st:List Int×Int=>0≤st.2∧st.1.length≤st.2∧st.2≤s.length+4∧st.1.length≤s.length) (fun st:List Int×Int=>((s.length:Int)+4-st.2).toNat) (fun st hst => ?_) (by simp;omega)) fun o ho=>Tt.elim (fun a e=>Tt.ret (by subst e;exact ho)) fun _ _=>Tt.ret (by simp)
  obtain ⟨out,i⟩:=st
  obtain ⟨a1,a2,a3,a4⟩:=hst
  simp only at a1 a2 a3 a4
  unfold wL
  refine Tt.cnd (fun hc => ?_) fun _=>Tt.ret (Nx.r (show out.length≤1073741824 by omega))
  have hi:=aAr hc
  refine Tt.bnd (bEy s hs i) fun y hy=>Tt.cnd (fun _=>Tt.ret (Nx.r trivial)) fun h0 => ?_
  have h0:y.2≠0:=by simpa using h0
  refine Tt.app (by simp;omega) (Tt.ret ?_)
  rw [wi (n:=i+y.2) (by omega)]
  refine Nx.l (by simp;omega) ?_
  show ((s.length:Int)+4-(i+y.2)).toNat<((s.length:Int)+4-i).toNat
  omega
 obtain ⟨b,hb,hp⟩:=this
 exact ⟨b,aRh hb,hp⟩
theorem bEz {l:List Int}:∀ e,e∈l.map (PV.int .i64)→ElOk tτ (elOf tτ 1) e:=by
 intro e he
 obtain ⟨x,_,rfl⟩:=List.mem_map.1 he
 exact .one (.int _ _)
theorem aSs (s:Str) (hs:s.length≤1073741824) (i:Int) (h:0≤i∧i≤s.length):Tt (fun n=>0≤n∧i+n≤s.length) (aB4 s i):=by
 have:Tt (fun n=>0≤n∧i+n≤s.length) (aFR s i):=by
  unfold aFR
  refine Tt.bnd (Q:=fun n=>0≤n∧i+n≤s.length) (Tt.loop (fun n:Int=>0≤n∧i+n≤s.length) (fun n:Int=>((s.length:Int)-n).toNat) (fun n hn => ?_) (by omega)) fun n hn=>Tt.ret hn
  unfold aDf
  dsimp only
  rw [wi (n:=i+n) (by omega)]
  refine Tt.cnd (fun hc => ?_) fun _=>Tt.ret (Nx.r hn)
  have hi:=aAr hc
  refine Tt.nth (by omega) fun y _ _=>Tt.eq (aK5 _) (Tt.cnd (fun _=>Tt.ret ?_) fun _=>Tt.ret (Nx.r hn))
  rw [wi (n:=n+1) (by omega)]
  exact Nx.l (by omega) (by omega)
 obtain ⟨b,hb,hp⟩:=this
 exact ⟨b,aYl hb,hp⟩
theorem aYO (s:Str) (hs:s.length≤1073741824):Te (aM8 s):=by
 have kloop:∀ (k:Int) (z:Option (Int×Int)),0≤k→k≤s.length→Te z→Te (bnd (aB4 s k) fun y39=>cnd (decide (y39>0)) (bnd (aB4 s k) fun y41=>some ((IntKind.wrap .i64 (k+y41)),(4:Int))) z):=fun k z h0 h1 hz =>
  Tt.bnd (aSs s hs k ⟨h0,h1⟩) fun _ _=>Tt.cnd (fun _=>Tt.bnd (aSs s hs k ⟨h0,h1⟩) fun _ _=>Tt.ret trivial) fun _=>hz
 have:Te (rT s):=by
  unfold rT
  refine Tt.jn (fun k=>∀ i t t',0≤i→i≤(s.length:Int)→Te (k i t t')) (fun i t t' h0 h1 => ?_) fun k1 hk1 => ?_
  ·refine Tt.bnd (aSs s hs i ⟨h0,h1⟩) fun y8 h8=>Tt.cnd (fun _=>Tt.ret trivial) fun hne => ?_
   have hne:y8≠0:=by simpa using hne
   refine Tt.jn (fun k=>∀ n t,0≤n→i+n≤(s.length:Int)→Te (k n t)) (fun n t n0 n1 => ?_) fun k10 hk10=>Tt.nth (by omega) fun y _ _=>Tt.cnd (fun _=>hk10 _ _ (by omega) (by omega)) fun _=>hk10 _ _ h8.1 h8.2
   refine Tt.jn (fun k=>∀ j kd t t' t'' t3,0≤j→j≤(s.length:Int)→Te (k j kd t t' t'' t3)) (fun j kd _ _ _ _ j0 j1 => ?_) fun k15 hk15 => ?_
   ·refine Tt.cnd (fun hc => ?_) fun _=>Tt.ret trivial
    have hj:=aAr hc
    have e1:IntKind.wrap .i64 (j+1)=j+1:=wi (by omega)
    have e2:IntKind.wrap .i64 (j+1+1)=j+1+1:=wi (by omega)
    simp only [e1,e2]
    refine Tt.nth (by omega) fun y _ _=>Tt.cnd (fun _ => ?_) fun _=>Tt.nth (by omega) fun y _ _=>Tt.cnd (fun _ => ?_) fun _=>Tt.ret trivial
    all_goals
     refine Tt.jn (fun k=>∀ q t t',0≤q→q≤(s.length:Int)→Te (k q t t')) (fun q _ _ q0 q1=>kloop q _ q0 q1 (Tt.ret trivial)) fun k30 hk=>Tt.cnd (fun hc => ?_) fun _=>hk _ _ _ (by omega) (by omega)
     have hq:=aAr hc
     exact Tt.nth (by omega) fun y _ _=>Tt.cnd (fun _=>hk _ _ _ (by omega) (by omega)) fun _=>Tt.nth (by omega) fun y _ _=>Tt.cnd (fun _=>hk _ _ _ (by omega) (by omega)) fun _=>hk _ _ _ (by omega) (by omega)
   ·have e1:IntKind.wrap .i64 (i+n)=i+n:=wi (by omega)
    have e2:IntKind.wrap .i64 (i+n+1)=i+n+1:=wi (by omega)
    simp only [e1,e2]
    refine Tt.cnd (fun hc => ?_) fun _=>hk15 _ _ _ _ _ _ (by omega) n1
    have hq:=aAr hc
    refine Tt.nth (by omega) fun y _ _=>Tt.cnd (fun _ => ?_) fun _=>hk15 _ _ _ _ _ _ (by omega) n1
    refine Tt.bnd (aSs s hs _ ⟨by omega,by omega⟩) fun y19 _=>Tt.cnd (fun _=>Tt.bnd (aSs s hs _ ⟨by omega,by omega⟩) fun y21 h21 => ?_) fun _=>hk15 _ _ _ _ _ _ (by omega) n1
    rw [wi (n:=i+n+1+y21) (by omega)]
    exact hk15 _ _ _ _ _ _ (by omega) (by omega)
  ·refine Tt.cnd (fun hc => ?_) fun _=>hk1 _ _ _ (by omega) (by omega)
   have:=aAr hc
   exact Tt.nth (by omega) fun y _ _=>Tt.cnd (fun _=>hk1 _ _ _ (by omega) (by omega)) fun _=>hk1 _ _ _ (by omega) (by omega)
 obtain ⟨b,hb,hp⟩:=this
 exact ⟨b,aLP hb,hp⟩
theorem bCB:Ds 239 aWE:=by
 intro args hA hc
 obtain ⟨v0,r0,rfl,h0,hA⟩:=nI hA
 cases aH4 hA
 obtain ⟨s,rfl,hs⟩:=bDE h0
 obtain ⟨r,hr,hl⟩:=bCA s hs
 refine ⟨_,bN (enc:=fun r=>(uM r,[])) hr,_,rfl,.cons (.one (.sl bEz (by simpa using hl))) (.cons (.one (.bool _)) .nil)⟩
theorem aYP:Ds 238 aNg:=by
 intro args hA hc
 obtain ⟨v0,r0,rfl,h0,hA⟩:=nI hA
 cases aH4 hA
 obtain ⟨s,rfl,hs⟩:=bDE h0
 obtain ⟨r,hr,hl⟩:=aYO s hs
 exact ⟨_,bN (enc:=fun r=>(jM r,[])) hr,_,rfl,.cons (.one (.int _ _)) (.cons (.one (.int _ _)) .nil)⟩
mutual
theorem aPz:∀ v:GValue,∀ x∈varN v,x.length<cJ v
 | ⟨k,n,s,l,m⟩=>by
  have h1:=aSt l
  have h2:=aGf m
  rw [aAA] at h1;rw [gY] at h2
  intro x hx
  rw [cK]
  simp only [varN] at hx
  simp only [bkSl,bA]
  revert hx
  cases k==8<;>cases k==6<;>cases k==7<;>simp only [cond_true,cond_false,List.mem_singleton,List.not_mem_nil]<;>intro hx
  all_goals first
   | exact hx.elim
   | (subst hx;omega)
   | (have:=h1 x hx;omega)
   | (have:=h2 x hx;omega)
theorem aSt:∀ l:List GValue,∀ x∈aE6 l,x.length<tE l
 | [],x,hx=>by simp [aE6] at hx
 | y::l,x,hx=>by
  simp only [aE6,List.mem_append] at hx
  simp only [tE]
  rcases hx with h | h
  ·have:=aPz y x h;omega
  ·have:=aSt l x h;omega
theorem bBa:∀ y:GMember,∀ x∈aVl y,x.length<aZ y
 | ⟨n,v⟩=>by intro x hx;have:=aPz v x (by simpa only [aVl] using hx);rw [cZ];show x.length<dW n+(cJ v+0)+1;omega
theorem aGf:∀ l:List GMember,∀ x∈gF l,x.length<oS l
 | [],x,hx=>by simp [gF] at hx
 | y::l,x,hx=>by
  simp only [gF,List.mem_append] at hx
  simp only [oS]
  rcases hx with h | h
  ·have:=bBa y x h;omega
  ·have:=aGf l x h;omega
end
theorem aVr {l:List Str} (h:∀ x∈l,x.length≤topL):∀ e,e∈l.map PV.str→ElOk tτ (elOf tτ 0) e:=by
 intro e he
 obtain ⟨x,hx,rfl⟩:=List.mem_map.1 he
 exact .one (.str (h x hx))
theorem aSu (l:List Str):l.length≤sumL dW l:=lM dW (fun s=>by rw [bA];omega) l
theorem bEA:Ds 236 bA5:=by
 intro args hA hc
 obtain ⟨v0,r0,rfl,h0,hA⟩:=nI hA
 obtain ⟨v1,r1,rfl,h1,hA⟩:=nI hA
 cases aH4 hA
 obtain ⟨v,rfl⟩:=aJa h0
 obtain ⟨es,rfl,he,hn⟩:=bEt h1
 obtain ⟨l,rfl⟩:=cC (f:=PV.str) (fun e h=>bA2 (he e h))
 have pv:=sT hc rfl (v:=aI v) (by simp)
 have pl:=sT hc rfl (v := .slice (l.map PV.str) [] true) (by simp)
 have qv:=aPy v
 have ql:=bA8 l
 unfold Nr at qv
 simp only [bR] at pl
 have hll:=aSu l
 have hz:=bAU v
 have hr:=aLa (szV v) v l (Nat.le_refl _) (by omega)
 have hlen:=gC (varN v) l
 have hzv:=aA7 v
 refine ⟨_,by simp only [tys];exact bN (enc:=fun r=>(eZ r,[])) hr,.one (.sl (aVr fun x hx => ?_) (by simp only [List.length_map];omega))⟩
 show x.length≤1073741824
 rcases (cX _ _ _).1 hx with hx | hx
 ·have:=gD dW hx;rw [bA] at this;omega
 ·have:=aPz v x hx;omega
theorem aWL:Ds 114 aPx:=by
 intro args hA hc
 obtain ⟨v0,r0,rfl,h0,hA⟩:=nI hA
 obtain ⟨v1,r1,rfl,h1,hA⟩:=nI hA
 cases aH4 hA
 obtain ⟨d,rfl⟩:=bA4 h0
 obtain ⟨es,rfl,he,hn⟩:=bEt h1
 obtain ⟨l,rfl⟩:=cC (f:=aG) (fun e h=>aWD (he e h))
 have pd:=sT hc rfl (v:=sW d) (by simp)
 have pl:=sT hc rfl (v := .slice (l.map aG) [] false) (by simp)
 have qd:=bCw d
 have ql:=psl (l:=l) (fun x _=>bCv x)
 unfold Nr at qd
 simp only [bR] at pl
 obtain ⟨r,l',hr,hnd,_,hiff,_⟩:=aLd d l (by rw [dH];omega)
 have hin:∀ n∈r,∃ f∈d.frags,f.name=n:=fun n hx=>⟨_,mO ((hiff n).1 hx).2⟩
 have hlen:r.length≤d.frags.length:=by
  have:=oP r (d.frags.map (·.name)) hnd (fun n hx=>by obtain ⟨f,hf,e⟩:=hin n hx;exact List.mem_map.2 ⟨f,hf,e⟩)
  simpa using this
 have hfl:=vK d
 refine ⟨_,by simp only [tys];exact bN (enc:=fun r=>(cO r,[])) hr,.one (.sl (aVr fun x hx => ?_) (by simp only [List.length_map];omega))⟩
 obtain ⟨f,hf,rfl⟩:=hin x hx
 have h1:=gD iK hf
 have h2:=iJ d
 rw [mJ,bA] at h1
 show f.name.length≤1073741824
 omega
def isIn (s:GSchema) (x:Str):Prop:=x∈s.defs.map (·.name)
theorem bCC {s:GSchema} {n:Str} (h:tN s n [5,5,5]=true):isIn s n:=by
 unfold tN dD at h
 cases hs:aA4 n
 ·rw [hs] at h
  simp only [cond_false] at h
  cases hf:s.defs.find? (fun d=>d.name==n) with
  | none=>rw [hf] at h;simp at h
  | some d=>exact List.mem_map.2 ⟨d,List.mem_of_find?_eq_some hf,by simpa using List.find?_some hf⟩
 ·rw [hs] at h;simp at h
theorem aWM (s:GSchema) (h:SOk s) (n:Str):Tt (fun l=>l.length<1073741824∧∀ x∈l,isIn s x) (aI0 s n):=by
 have hp:(dD s n).1.params.length<1073741824:=by
  rcases aCG s n with hx | ⟨_,_,_,e⟩
  ·have:=h.def_bk hx;rw [oT] at this;have:=lM kH aK8 (dD s n).1.params;unfold bkSl at *;omega
  ·rw [e];simp
 have:Tt (fun l=>l.length<1073741824∧∀ x∈l,isIn s x) (zU s n):=by
  unfold zU
  refine Tt.eq (aDk s n h.sm) (Tt.bnd (Q:=fun l:List Str=>l.length<1073741824∧∀ x∈l,isIn s x) (Tt.loop (fun st:List Str×Int=>0≤st.2∧st.2≤(dD s n).1.params.length∧st.1.length≤st.2∧∀ x∈st.1,isIn s x) (fun st:List Str×Int=>((dD s n).1.params.length-st.2:Int).toNat) (fun st hst => ?_) (by simp)) fun l hl=>Tt.ret hl)
  obtain ⟨out,i⟩:=st
  obtain ⟨a1,a2,a3,a4⟩:=hst
  simp only at a1 a2 a3 a4
  have stop:Tt (Nx (fun st:List Str×Int=>0≤st.2∧st.2≤(dD s n).1.params.length∧st.1.length≤st.2∧∀ x∈st.1,isIn s x) (fun st:List Str×Int=>((dD s n).1.params.length-st.2:Int).toNat) (out,i) (fun l:List Str=>l.length<1073741824∧∀ x∈l,isIn s x)) (some (.inr out)):=Tt.ret (Nx.r ⟨by omega,a4⟩)
  unfold wM
  refine Tt.cnd (fun hc => ?_) fun _=>stop
  have hi:=aAr hc
  have e:IntKind.wrap .i64 (i+1)=i+1:=wi (by omega)
  rw [e]
  have next:∀ o:List Str,o.length≤out.length+1→(∀ x∈o,isIn s x)→Tt (Nx (fun st:List Str×Int=>0≤st.2∧st.2≤(dD s n).1.params.length∧st.1.length≤st.2∧∀ x∈st.1,isIn s x) (fun st:List Str×Int=>((dD s n).1.params.length-st.2:Int).toNat) (out,i) (fun l:List Str=>l.length<1073741824∧∀ x∈l,isIn s x)) (some (.inl (o,i+1))):=fun o ho hs=>Tt.ret (Nx.l ⟨by simp only;omega,by simp only;omega,by simp only;omega,hs⟩ (by simp only;omega))
  refine Tt.cnd (fun _=>Tt.nth ⟨a1,hi⟩ fun p hp _=>Tt.cnd (fun _=>Tt.cnd (fun _=>Tt.eq (aPo s _ 5 5 5 h.sm) (Tt.cnd (fun hk=>Tt.app (by simp;omega) (next _ (by simp) fun x hx => ?_)) fun _=>next _ (by omega) a4)) fun _=>next _ (by omega) a4) fun _=>next _ (by omega) a4) fun _=>stop
  rcases List.mem_append.1 hx with hx | hx
  ·exact a4 x hx
  ·rw [List.mem_singleton.1 hx];exact bCC hk
 obtain ⟨b,hb,hp⟩:=this
 exact ⟨b,aRz hb,hp⟩
def More (s:GSchema) (y l:List Str):Prop:=∃ a,l=y++a∧a.Nodup∧∀ x∈a,isIn s x
theorem More.len {s:GSchema} {y l:List Str} (h:More s y l):l.length≤y.length+s.defs.length:=by
 obtain ⟨a,rfl,h1,h2⟩:=h
 have:=oP a (s.defs.map fun d:GDef=>d.name) h1 h2
 simp only [List.length_append,List.length_map] at this ⊢
 omega
theorem bCD (s:GSchema) (h:SOk s):Te (aWp s):=by
 have hd:=h.defs
 have inner:∀ (y l m:List Str),More s y l→y.length<2147483648→m.length<1073741824→(∀ x∈m,isIn s x)→Tt (More s y) (aY (rQ m) (l,0)):=fun y l m hl hy hm hmi=>by
  refine Tt.loop (fun st:List Str×Int=>0≤st.2∧st.2≤m.length∧More s y st.1) (fun st:List Str×Int=>((m.length:Int)-st.2).toNat) (fun st hst => ?_) ⟨by simp,by simp,hl⟩
  obtain ⟨o,j⟩:=st
  obtain ⟨a1,a2,a3⟩:=hst
  simp only at a1 a2 a3
  have hlo:=a3.len
  unfold rQ
  refine Tt.cnd (fun hc => ?_) fun _=>Tt.ret (Nx.r a3)
  have hj:=aAr hc
  have e:IntKind.wrap .i64 (j+1)=j+1:=wi (by omega)
  rw [e]
  refine Tt.nth ⟨a1,hj⟩ fun x hx ex=>Tt.eq (pG o x (by show o.length<_;omega)) (Tt.cnd (fun hn=>Tt.nth ⟨a1,hj⟩ fun x' hx' ex'=>Tt.app (by simp;omega) (Tt.ret (Nx.l ⟨by simp only;omega,by simp only;omega,?_⟩ (by simp only;omega)))) fun _=>Tt.ret (Nx.l ⟨by simp only;omega,by simp only;omega,a3⟩ (by simp only;omega)))
  rw [ex] at ex';cases ex'
  obtain ⟨a,rfl,b1,b2⟩:=a3
  refine ⟨a++[x],by simp,?_,fun z hz => ?_⟩
  ·have hn:x∉a:=fun hxa=>by
    have:(y++a).contains x=true:=List.contains_iff_mem.2 (List.mem_append_right y hxa)
    rw [this] at hn;simp at hn
   rw [List.nodup_append]
   exact ⟨b1,by simp,fun u hu w hw=>by rw [List.mem_singleton.1 hw];intro e;subst e;exact hn hu⟩
  ·rcases List.mem_append.1 hz with hz | hz
   ·exact b2 z hz
   ·rw [List.mem_singleton.1 hz];exact hmi x hx
 have mid:∀ (y:List Str),y.length<1073741824→Tt (fun l:List Str=>l.length<2147483648) (aY (rR s) (y,0)):=fun y hy=>by
  refine Tt.loop (fun st:List Str×Int=>0≤st.2∧st.2≤st.1.length∧More s y st.1) (fun st:List Str×Int=>((y.length:Int)+s.defs.length-st.2).toNat) (fun st hst => ?_) ⟨by simp,by simp,[],by simp⟩
  obtain ⟨o,k⟩:=st
  obtain ⟨a1,a2,a3⟩:=hst
  simp only at a1 a2 a3
  have hlo:=a3.len
  unfold rR
  refine Tt.cnd (fun hc => ?_) fun _=>Tt.ret (Nx.r (by omega))
  have hk:=aAr hc
  have e:IntKind.wrap .i64 (k+1)=k+1:=wi (by omega)
  refine Tt.nth ⟨a1,hk⟩ fun x hx _=>Tt.bnd (aWM s h x) fun m hm=>Tt.bnd (Q:=fun l':List Str=>More s y l'∧o.length≤l'.length) ?_ fun l' hl'=>Tt.ret ?_
  ·obtain ⟨l',h1,h2⟩:=inner y o m a3 (by omega) hm.1 hm.2
   refine ⟨l',h1,h2,?_⟩
   obtain ⟨l'',h1',h2'⟩:=inner o o m ⟨[],by simp⟩ (by omega) hm.1 hm.2
   rw [h1] at h1';cases h1'
   obtain ⟨a,rfl,_⟩:=h2'
   simp
  ·rw [e]
   have:=hl'.1.len
   exact Nx.l ⟨by simp only;omega,by simp only;omega,hl'.1⟩ (by simp only;omega)
 have:Te (zD s):=by
  unfold zD
  refine Tt.bnd (Q:=fun _=>True) (Tt.idx s.defs.length (by omega) fun i h0 h1 => ?_) fun o _=>Tt.elim (fun _ _=>Tt.ret trivial) fun _ _=>Tt.ret trivial
  unfold wK
  refine Tt.cnd (fun hc => ?_) fun _=>Tt.ret (Ix.r trivial)
  have hi:=aAr hc
  exact Tt.nth ⟨h0,hi⟩ fun x _ _=>Tt.bnd (aWM s h _) fun y hy=>Tt.bnd (mid y hy.1) fun l hl=>Tt.nth ⟨h0,hi⟩ fun x _ _=>Tt.eq (pG l _ (by show l.length<_;omega)) (Tt.cnd (fun _=>Tt.ret (Ix.r trivial)) fun _=>Tt.ret (Ix.l hc))
 obtain ⟨b,hb,hp⟩:=this
 exact ⟨b,aQ4 hb,hp⟩
theorem bCE:Ds 96 aWG:=by
 intro args hA hc
 obtain ⟨v0,r0,rfl,h0,hA⟩:=nI hA
 cases aH4 hA
 obtain ⟨s,rfl⟩:=aLe h0
 have ps:=sT hc rfl (v:=fG s) (by simp)
 have qs:=aGe s
 unfold Nr at qs
 obtain ⟨r,hr,_⟩:=bCD s ⟨by omega⟩
 exact ⟨.bool r,by simp only [tys];exact bN (enc:=fun r=>(PV.bool r,[])) hr,.one (.bool r)⟩
def aCK (s:GSchema) (typ:Str) (x:GSel):Str:=bif x.kind==0 then (aH3 s typ x.name).1.t.name else bif x.kind==2 then (bif x.on_==([]:Str) then typ else x.on_) else []
def aHv (s:GSchema) (o:GOp):Str:=bif o.kind==1 then s.mutation else s.query
theorem aSv (s:GSchema) (typ:Str) (x:GSel) (h:SOk s):aJ3 s typ x=some (aCK s typ x):=by
 apply aOO
 simp only [aAQ,aVj s _ _ h,aV,aCK]
 cases x.kind==0<;>cases x.kind==2<;>cases x.on_==([]:Str)<;>rfl
theorem aYQ (s:GSchema) (o:GOp):aTJ s o=some (aHv s o):=by
 apply aUc
 simp only [aFM,aHv]
 cases o.kind==1<;>rfl
mutual
def aSw (s:GSchema) (typ:Str):GSel→List GSeineref13Spot
 | ⟨k,a,n,ar,ds,on,sels⟩=>⟨typ,⟨k,a,n,ar,ds,on,sels⟩⟩::sD s (aCK s typ ⟨k,a,n,ar,ds,on,sels⟩) sels
def sD (s:GSchema) (typ:Str):List GSel→List GSeineref13Spot
 | []=>[]
 | x::l=>aSw s typ x++sD s typ l
end
theorem bCF (s:GSchema) (typ:Str) (x:GSel):aSw s typ x=⟨typ,x⟩::sD s (aCK s typ x) x.sels:=by cases x;simp only [aSw]
mutual
theorem aWN (s:GSchema):∀ (x:GSel) (typ:Str),(aSw s typ x).length≤iF x
 | ⟨k,a,n,ar,ds,on,sels⟩,typ=>by
  have:=aDm s sels (aCK s typ ⟨k,a,n,ar,ds,on,sels⟩)
  rw [dH] at this
  rw [gZ]
  simp only [aSw,List.length_cons,bkSl]
  omega
theorem aDm (s:GSchema):∀ (l:List GSel) (typ:Str),(sD s typ l).length≤bJ l
 | [],_=>by simp [sD]
 | x::l,typ=>by have:=aWN s x typ;have:=aDm s l typ;simp only [sD,bJ,List.length_append];omega
end
theorem aSx (s : GSchema) (h : SOk s) : ∀ (n : Nat) (sels : List GSel) (typ : Str) (l : List GSeineref13Spot), bJ sels ≤ n → l.length + bJ sels < 1073741824 → aFH s typ sels l = some (l ++ sD s typ sels) := by
 intro n
 induction n with
 | zero =>
  intro sels typ l hb hl
  have := iV sels
  have hs : sels = [] := List.length_eq_zero_iff.1 (by omega)
  subst hs
  apply aHX
  unfold zS
  rw [cP (r := l) (by simp [lB])]
  simp [sD]
 | succ n ih =>
  intro sels typ l hb hl
  apply aHX
  unfold zS
  have hlen := iV sels
  have key := cN (b := lB s typ sels) sels (fun k (a : List GSeineref13Spot) => (a, (k : Int))) (fun r a => a ++ sD s typ r) (fun k a => a.length + bJ (sels.drop k) < 1073741824) (by show sels.length < _; omega)
   (by intro a _; simp [lB, sD])
   (by
    intro k x r a hm hk hd h1 h2 h3 hI
    rw [hd] at hI
    simp only [bJ] at hI
    have hdr : sels.drop (k + 1) = r := by rw [← List.tail_drop, hd]; rfl
    have hx := tX hm
    have hx2 := tY x
    have hb1 := aWN s x typ
    have ht : tapp a [GSeineref13Spot.mk typ x] = some (a ++ [⟨typ, x⟩]) := xG (by simp [sI]; omega)
    refine .inr ⟨a ++ aSw s typ x, ?_, ?_, ?_⟩
    ·simp only [lB, h1, cT, h2, aV, h3, ht, aSv s typ x h, ih x.sels (aCK s typ x) (a ++ [⟨typ, x⟩]) (by omega) (by simp; omega)]
     rw [bCF]; simp
    ·rw [hdr]; simp only [List.length_append]; omega
    ·simp only [sD, List.append_assoc]) (s := (l, 0)) (a := l) rfl (by simpa using hl)
  rw [key]; rfl
def aSy (s:GSchema) (d:GDoc):List GSeineref13Spot:=(d.ops.flatMap fun o=>sD s (aHv s o) o.sels)++d.frags.flatMap fun f=>sD s f.on_ f.sels
theorem aPA (s:GSchema):∀ l:List GOp,(l.flatMap fun o=>sD s (aHv s o) o.sels).length≤sumL bkOp l
 | []=>by simp
 | o::l=>by
  have h1:=aPA s l
  have h2:=aDm s o.sels (aHv s o)
  have h3:=aCe o
  rw [dH] at h2
  simp only [bkSl] at h3
  simp only [List.flatMap_cons,List.length_append,sumL];omega
theorem aNh (s:GSchema):∀ l:List GFrag,(l.flatMap fun f=>sD s f.on_ f.sels).length≤sumL iK l
 | []=>by simp
 | f::l=>by
  have h1:=aNh s l
  have h2:=aDm s f.sels f.on_
  have h3:=nZ f
  simp only [List.flatMap_cons,List.length_append,sumL];omega
theorem aLf (d:GDoc):mK d=sumL bkOp d.ops+sumL iK d.frags+3:=by rw [aFJ];simp only [bkSl];omega
theorem aYR (s:GSchema) (d:GDoc):(aSy s d).length≤mK d:=by
 have h1:=aPA s d.ops
 have h2:=aNh s d.frags
 rw [aLf];simp only [aSy,List.length_append];omega
theorem aWO (o:GOp):1≤bkOp o:=by rw [aCe];omega
theorem aNi (o:GOp):bJ o.sels+1≤bkOp o:=by rw [aCe,dH];simp only [bkSl];omega
theorem aVs (s : GSchema) (d : GDoc) (h : SOk s) (hd : mK d < 500000000) : aWo s d = some (aSy s d) := by
 apply aQY
 unfold aDb
 rw [aLf] at hd
 have hol := lM bkOp aWO d.ops
 have hfl := lM iK aNe d.frags
 have k1 := rI (b := nQ s d) d.ops (fun k (a : List GSeineref13Spot) => (a, (k : Int))) (fun a o => a ++ sD s (aHv s o) o.sels) (fun a => a) (fun k a => a.length + sumL bkOp (d.ops.drop k) ≤ sumL bkOp d.ops) (by show d.ops.length < _; omega)
  (by intro a _; simp [nQ])
  (by
   intro k x a hm hk h1 h2 h3 hI
   have hb := aNi x
   have hs := aDm s x.sels (aHv s x)
   have hdr : d.ops.drop k = x :: d.ops.drop (k + 1) := by
    rw [List.drop_eq_getElem_cons hk]
    rw [mT, List.getElem?_eq_getElem hk] at h2
    cases h2; rfl
   rw [hdr] at hI
   simp only [sumL] at hI
   refine ⟨?_, ?_⟩
   ·simp only [nQ, h1, cT, h2, aV, h3, aYQ, aSx s h _ x.sels (aHv s x) a (Nat.le_refl _) (by omega)]
   ·simp only [List.length_append]; omega) (s := ([], 0)) (a := []) rfl (by simp)
 rw [k1]
 simp only [aV]
 have hops : ∀ (l : List GOp) (a : List GSeineref13Spot), l.foldl (fun a o => a ++ sD s (aHv s o) o.sels) a = a ++ l.flatMap fun o => sD s (aHv s o) o.sels := fun l => by
  induction l with
  | nil => intro a; simp
  | cons o l ih => intro a; simp only [List.foldl_cons, ih, List.flatMap_cons, List.append_assoc]
 have hfr : ∀ (l : List GFrag) (a : List GSeineref13Spot), l.foldl (fun a f => a ++ sD s f.on_ f.sels) a = a ++ l.flatMap fun f => sD s f.on_ f.sels := fun l => by
  induction l with
  | nil => intro a; simp
  | cons o l ih => intro a; simp only [List.foldl_cons, ih, List.flatMap_cons, List.append_assoc]
 rw [hops]
 have hlo := aPA s d.ops
 have k2 := rI (b := nR s d) d.frags (fun k (a : List GSeineref13Spot) => (a, (k : Int))) (fun a f => a ++ sD s f.on_ f.sels) (fun a => a) (fun k a => a.length + sumL iK (d.frags.drop k) ≤ sumL bkOp d.ops + sumL iK d.frags) (by show d.frags.length < _; omega)
  (by intro a _; simp [nR])
  (by
   intro k x a hm hk h1 h2 h3 hI
   have hb := nZ x
   have hs := aDm s x.sels x.on_
   have hdr : d.frags.drop k = x :: d.frags.drop (k + 1) := by
    rw [List.drop_eq_getElem_cons hk]
    rw [mT, List.getElem?_eq_getElem hk] at h2
    cases h2; rfl
   rw [hdr] at hI
   simp only [sumL] at hI
   refine ⟨?_, ?_⟩
   ·simp only [nR, h1, cT, h2, aV, h3, aSx s h _ x.sels x.on_ a (Nat.le_refl _) (by omega)]
   ·simp only [List.length_append]; omega) (s := ([] ++ d.ops.flatMap fun o => sD s (aHv s o) o.sels, 0)) (a := [] ++ d.ops.flatMap fun o => sD s (aHv s o) o.sels) rfl (by simp only [List.nil_append, List.drop_zero]; omega)
 rw [k2, hfr]
 simp only [aV, List.nil_append, aSy]
theorem aYS (s:GSchema) (typ name:Str):(aH3 s typ name).1=tnF∨(aH3 s typ name).1=zF∨∃ d∈s.defs,(aH3 s typ name).1∈d.fields:=by
 unfold aH3
 cases name==tnS&&tN s typ [1,2,3]
 ·cases (dD s typ).1.kind==1||(dD s typ).1.kind==2
  ·exact .inr (.inl rfl)
  ·simp only [cond_true,cond_false]
   cases hf:(dD s typ).1.fields.find? (fun f=>f.name==name) with
   | none=>exact .inr (.inl rfl)
   | some f =>
    have hm:=List.mem_of_find?_eq_some hf
    rcases aCG s typ with hx | ⟨_,e,_⟩
    ·exact .inr (.inr ⟨_,hx,hm⟩)
    ·rw [e] at hm;simp at hm
 ·exact .inl rfl
theorem SOk.field_bk {s:GSchema} (h:SOk s) {d:GDef} (hd:d∈s.defs) {f:GFieldDef} (hf:f∈d.fields):iP f<1073741824:=by
 have h1:=h.def_bk hd
 have h2:=gD iP hf
 rw [oT] at h1;simp only [bkSl] at h1;omega
theorem aVt {s:GSchema} (h:SOk s) (typ name:Str):(aH3 s typ name).1.t.name.length≤topL:=by
 unfold topL
 rcases aYS s typ name with e | e | ⟨d,hd,hf⟩
 ·rw [e];simp [tnF]
 ·rw [e];simp [zF]
 ·have:=h.field_bk hd hf;rw [lR,mI,bA,bA] at this;omega
theorem aSz {τ:Tb} {n ub:Nat} {o o':Bool} {α:Type} {f:α→PV} {l:List α} (h:LfOk τ (.sl n ub o) (.slice (l.map f) [] o')):∀ y∈l,ElOk τ (elOf τ n) (f y):=by
 obtain ⟨es,e,he,_⟩:=pS h
 cases e
 exact fun y hy=>he _ (List.mem_map.2 ⟨y,hy,rfl⟩)
theorem bBb {τ:Tb} {s:Str} (h:LfOk τ .str (.str s)):s.length≤topL:=by obtain ⟨_,e,hl⟩:=jZ h;cases e;exact hl
def OkS (x:GSel):Prop:=ElOk tτ (elOf tτ 12) (aG x)
theorem OkS.cells {x:GSel} (h:OkS x):CsOk tτ [(.int .i64),.str,.str,(.sl 7 1048576 false),(.sl 8 1048576 false),.str,(.sl 12 1048576 false)] [.int .i64 x.kind,.str x.alias,.str x.name,.slice (List.map aE x.args) [] false,.slice (List.map aK x.dirs) [] false,.str x.on_,.slice (List.map aG x.sels) [] false]:=by
 unfold OkS at h
 rw [rL] at h
 change ElOk tτ ⟨true,_⟩ _ at h
 cases h with | ag hs=>exact hs
theorem OkS.parts {x:GSel} (h:OkS x):x.on_.length≤topL∧∀ y∈x.sels,OkS y:=by
 obtain ⟨_,_,e,_,h⟩:=aP h.cells;cases e
 obtain ⟨_,_,e,_,h⟩:=aP h;cases e
 obtain ⟨_,_,e,_,h⟩:=aP h;cases e
 obtain ⟨_,_,e,_,h⟩:=aP h;cases e
 obtain ⟨_,_,e,_,h⟩:=aP h;cases e
 obtain ⟨_,_,e,h1,h⟩:=aP h;cases e
 obtain ⟨_,_,e,h2,h⟩:=aP h;cases e
 exact ⟨bBb h1,aSz h2⟩
theorem aVu {s:GSchema} (h:SOk s) {typ:Str} {x:GSel} (ht:typ.length≤topL) (hx:OkS x):(aCK s typ x).length≤topL:=by
 have h1:=aVt h typ x.name
 have h2:=hx.parts.1
 unfold aCK
 cases x.kind==0<;>cases x.kind==2<;>cases x.on_==([]:Str)<;>first | exact h1 | exact h2 | exact ht | simp
theorem bEB {typ:Str} {x:GSel} (ht:typ.length≤topL) (hx:OkS x):ElOk tτ (elOf tτ 16) (aL ⟨typ,x⟩):=by
 rw [dM]
 exact .ag (.cons (.str ht) hx.cells)
mutual
theorem bCG {s:GSchema} (h:SOk s):∀ (x:GSel) (typ:Str),typ.length≤topL→OkS x→∀ p∈aSw s typ x,ElOk tτ (elOf tτ 16) (aL p)
 | ⟨k,a,n,ar,ds,on,sels⟩,typ,ht,hx,p,hp=>by
  simp only [aSw,List.mem_cons] at hp
  rcases hp with rfl | hp
  ·exact bEB ht hx
  ·exact aJb h sels _ (aVu h ht hx) hx.parts.2 p hp
theorem aJb {s:GSchema} (h:SOk s):∀ (l:List GSel) (typ:Str),typ.length≤topL→(∀ x∈l,OkS x)→∀ p∈sD s typ l,ElOk tτ (elOf tτ 16) (aL p)
 | [],_,_,_,p,hp=>by simp [sD] at hp
 | x::l,typ,ht,hx,p,hp=>by
  simp only [sD,List.mem_append] at hp
  rcases hp with hp | hp
  ·exact bCG h x typ ht (hx x (by simp)) p hp
  ·exact aJb h l typ ht (fun y hy=>hx y (by simp [hy])) p hp
end
theorem aYT {o:GOp} (h:ElOk tτ (elOf tτ 10) (aT o)):∀ x∈o.sels,OkS x:=by
 rw [wD] at h
 change ElOk tτ ⟨true,[(.int .i64),.str,(.sl 11 1048576 false),(.sl 8 1048576 false),(.sl 12 1048576 false)]⟩ _ at h
 cases h with
 | ag h =>
  obtain ⟨_,_,e,_,h⟩:=aP h;cases e
  obtain ⟨_,_,e,_,h⟩:=aP h;cases e
  obtain ⟨_,_,e,_,h⟩:=aP h;cases e
  obtain ⟨_,_,e,_,h⟩:=aP h;cases e
  obtain ⟨_,_,e,h2,h⟩:=aP h;cases e
  exact aSz h2
theorem aH5 {o:GFrag} (h:ElOk tτ (elOf tτ 13) (aH o)):o.on_.length≤topL∧∀ x∈o.sels,OkS x:=by
 rw [lN] at h
 change ElOk tτ ⟨true,[.str,.str,(.sl 8 1048576 false),(.sl 12 1048576 false)]⟩ _ at h
 cases h with
 | ag h =>
  obtain ⟨_,_,e,_,h⟩:=aP h;cases e
  obtain ⟨_,_,e,h1,h⟩:=aP h;cases e
  obtain ⟨_,_,e,_,h⟩:=aP h;cases e
  obtain ⟨_,_,e,h2,h⟩:=aP h;cases e
  exact ⟨bBb h1,aSz h2⟩
theorem aSA {d:GDoc} (h:ElOk tτ (elOf tτ 9) (sW d)):(∀ o∈d.ops,ElOk tτ (elOf tτ 10) (aT o))∧∀ f∈d.frags,ElOk tτ (elOf tτ 13) (aH f):=by
 rw [rM] at h
 change ElOk tτ ⟨true,[(.sl 10 1048576 false),(.sl 13 1048576 false)]⟩ _ at h
 cases h with
 | ag h =>
  obtain ⟨_,_,e,h1,h⟩:=aP h;cases e
  obtain ⟨_,_,e,h2,h⟩:=aP h;cases e
  exact ⟨aSz h1,aSz h2⟩
theorem aGg:Ds 58 aDl:=by
 intro args hA hc
 obtain ⟨v0,r0,rfl,h0,hA⟩:=nI hA
 obtain ⟨v1,r1,rfl,h1,hA⟩:=nI hA
 cases aH4 hA
 obtain ⟨s,rfl⟩:=aLe h0
 obtain ⟨d,rfl⟩:=bA4 h1
 have ps:=sT hc rfl (v:=fG s) (by simp)
 have pd:=sT hc rfl (v:=sW d) (by simp)
 have qs:=aGe s
 have qd:=bCw d
 unfold Nr at qs qd
 have hs:SOk s:=⟨by omega⟩
 have hr:=aVs s d hs (by omega)
 have hl:(aSy s d).length≤4194304:=by
  have h1:=aYR s d
  omega
 obtain ⟨k1,k2⟩:=aSA h1
 refine ⟨_,by simp only [tys];exact bN (enc:=fun r=>(yR r,[])) hr,.one (.sl (fun e he => ?_) (by simpa using hl))⟩
 obtain ⟨p,hp,rfl⟩:=List.mem_map.1 he
 rcases List.mem_append.1 hp with hp | hp
 ·obtain ⟨o,ho,hp⟩:=List.mem_flatMap.1 hp
  refine aJb hs _ _ ?_ (aYT (k1 o ho)) p hp
  have:=qG s
  rw [bA,bA] at this
  have h3:=hs.bk
  unfold aHv topL
  cases o.kind==1<;>simp only [cond_true,cond_false]<;>omega
 ·obtain ⟨f,hf,hp⟩:=List.mem_flatMap.1 hp
  exact aJb hs _ _ (aH5 (k2 f hf)).1 (aH5 (k2 f hf)).2 p hp
open Go Go.Ev
def idxG {α:Type} (p:α→Bool):List α→Nat→Unit⊕Int
 | [],_ => .inl ()
 | x::r,k=>bif p x then .inr (k:Int) else idxG p r (k+1)
theorem bBc {α:Type} (p:α→Bool):∀ (l:List α) (k:Nat),(l.any p=false∧idxG p l k = .inl ())∨(l.any p=true∧∃ j x,idxG p l k = .inr ((k+j:Nat):Int)∧l[j]?=some x)
 | [],k => .inl ⟨rfl,rfl⟩
 | x::r,k=>by
  simp only [List.any_cons,idxG]
  cases hp:p x
  ·rcases bBc p r (k+1) with ⟨h1,h2⟩ | ⟨h1,j,y,h2,h3⟩
   ·exact .inl ⟨by simpa using h1,by simpa using h2⟩
   ·exact .inr ⟨by simpa using h1,j+1,y,by simp only [cond_false];rw [h2];congr 2;omega,by simpa using h3⟩
  ·exact .inr ⟨rfl,0,x,rfl,rfl⟩
theorem aDn {α:Type} (l:List α) (p:α→Bool) (hl:Sm l) (b:Int→Option (Int⊕(Unit⊕Int))) (h0:b (l.length:Int)=some (.inr (.inl ())))
  (hb:∀ (k:Nat) x,x∈l→decide ((k:Int)<(l.length:Int))=true→nthI l (k:Int)=some x→IntKind.wrap .i64 ((k:Int)+1)=((k+1:Nat):Int)→b k=cnd (p x) (some (.inr (.inr (k:Int)))) (some (.inl ((k+1:Nat):Int)))) :
  aY b 0=some (idxG p l 0) :=
 cN (b:=b) l (fun k (_:Nat)=>(k:Int)) (fun r k=>idxG p r k) (fun k a=>a=k) hl (fun a ha=>h0) (fun k x r a hm hk hd h1 h2 h3 ha=>by
  subst ha
  rw [hb a x hm h1 h2 h3]
  simp only [idxG]
  cases p x
  ·exact .inr ⟨a+1,rfl,rfl,rfl⟩
  ·exact .inl rfl) (s:=0) (a:=0) rfl rfl
theorem aHw {α:Type} (p:α→Bool) (l:List α):∃ i:Int,Ev.elim (idxG p l 0) (fun _=>(-1:Int)) (fun t=>t)=i∧decide (i≥0)=l.any p∧(l.any p=true→∃ x,nthI l i=some x):=by
 rcases bBc p l 0 with ⟨h1,h2⟩ | ⟨h1,j,x,h2,h3⟩
 ·exact ⟨-1,by rw [h2];rfl,by rw [h1];rfl,by rw [h1];simp⟩
 ·refine ⟨((0+j:Nat):Int),by rw [h2];rfl,by rw [h1];simp,fun _=>⟨x,?_⟩⟩
  rw [mT];simpa using h3
theorem aAg {α β γ:Type} (o:α⊕β) (f:α→γ) (g:β→γ):Ev.elim o (fun a=>some (f a)) (fun b=>some (g b))=some (Ev.elim o f g):=by cases o<;>rfl
def eQ (l:List GVarDef):List Str:=l.map (·.name)
theorem bFF (o:GOp) (n:Str) (h:Sm o.vars):∃ v,aOh o n=some (v,(eQ o.vars).contains n):=by
 have h1:∀ v:GVarDef,aGL v [] [] 0 0 false 0 0 [] n o=some (v.name==n):=fun v=>aMn (by simp only [wT])
 have hl:=aDn o.vars (fun v=>v.name==n) h (gP o.vars [] [] 0 0 false 0 0 [] n o) (by simp only [gP,yM,iW]) (fun k x hm e1 e2 e3=>by
  simp only [gP,e1,cT,e2,aV,e3,h1])
 obtain ⟨i,hi,hd,hx⟩:=aHw (fun v:GVarDef=>v.name==n) o.vars
 have hc:(o.vars.any fun v=>v.name==n)=(eQ o.vars).contains n:=by
  unfold eQ
  rw [Bool.eq_iff_iff]
  simp only [List.any_eq_true,beq_iff_eq,List.contains_iff_mem,List.mem_map]
 have hidx:aB9 o.vars [] [] 0 0 false 0 0 [] n o=some i:=aIE (by
  simp only [rA,hl,aV]
  rw [aAg (idxG (fun v:GVarDef=>v.name==n) o.vars 0) (fun _=>(-1:Int)) (fun t=>t),hi])
 rw [hc] at hd hx
 cases hb:(eQ o.vars).contains n
 ·rw [hb] at hd
  have hneg:decide (i<0)=true:=by simp at hd ⊢;omega
  exact ⟨_,aH1 (r:=(_,_)) (by simp only [zZ,hidx,aV,hneg,cT];rfl)⟩
 ·rw [hb] at hd
  obtain ⟨x,hx⟩:=hx hb
  have hneg:decide (i<0)=false:=by simp at hd ⊢;omega
  exact ⟨x,aH1 (r:=(_,_)) (by simp only [zZ,hidx,aV,hneg,iW,hx])⟩
theorem bEC (l:List GVarDef) (o:GOp) (d:GDoc) (s:GSchema) (hl:Sm l) (hs:Sm s.defs):gI l o d s=some (l.any fun v => !tN s v.t.name [0,4,5]):=by
 have h1:∀ v:GVarDef,aEd v o d s=some (!tN s v.t.name [0,4,5]):=fun v=>aKu (by simp only [tI,aVh s _ hs,aV])
 have hk:=aDn l (fun v => !tN s v.t.name [0,4,5]) hl (lW l o d s) (by simp only [lW,yM,iW]) (fun k x hm e1 e2 e3=>by
  simp only [lW,e1,cT,e2,aV,e3,h1])
 obtain ⟨i,hi,hd,_⟩:=aHw (fun v:GVarDef => !tN s v.t.name [0,4,5]) l
 have:=aOK (s:=l) (u0_6:=o) (u0_5:=d) (u0_4:=s) (r:=i) (by simp only [aAO,hk,aV];rw [aAg (idxG (fun v:GVarDef => !tN s v.t.name [0,4,5]) l 0) (fun _=>(-1:Int)) (fun t=>t),hi])
 exact rW (by simp only [dC,this,aV,hd])
theorem bED (l:List GVarDef) (u:List Str) (o:GOp) (d:GDoc) (s:GSchema) (hl:Sm l) (hu:Sm u):fB l u o d s=some (l.any fun v => !u.contains v.name):=by
 have h1:∀ v:GVarDef,aEf v u o d s=some (!u.contains v.name):=fun v=>aKz (by simp only [tK,cW u _ hu,aV])
 have hk:=aDn l (fun v => !u.contains v.name) hl (gN l u o d s) (by simp only [gN,yM,iW]) (fun k x hm e1 e2 e3=>by
  simp only [gN,e1,cT,e2,aV,e3,h1])
 obtain ⟨i,hi,hd,_⟩:=aHw (fun v:GVarDef => !u.contains v.name) l
 have:=aIt (s:=l) (u0_9:=u) (u0_6:=o) (u0_5:=d) (u0_4:=s) (r:=i) (by simp only [qY,hk,aV];rw [aAg (idxG (fun v:GVarDef => !u.contains v.name) l 0) (fun _=>(-1:Int)) (fun t=>t),hi])
 exact oV (by simp only [cQ,this,aV,hd])
theorem bEE (l:List GVarDef) (v:GVarDef) (o:GOp) (hl:Sm l):fC l v o=some (l.any fun x=>x.name==v.name):=by
 have h1:∀ x:GVarDef,aEg x v o=some (x.name==v.name):=fun x=>aKU (by simp only [tM])
 have hk:=aDn l (fun x=>x.name==v.name) hl (gO l v o) (by simp only [gO,yM,iW]) (fun k x hm e1 e2 e3=>by
  simp only [gO,e1,cT,e2,aV,e3,h1])
 obtain ⟨i,hi,hd,_⟩:=aHw (fun x:GVarDef=>x.name==v.name) l
 have:=aIA (s:=l) (u0_4:=v) (u0_1:=o) (r:=i) (by simp only [qZ,hk,aV];rw [aAg (idxG (fun x:GVarDef=>x.name==v.name) l 0) (fun _=>(-1:Int)) (fun t=>t),hi])
 exact pC (by simp only [cR,this,aV,hd])
theorem bEF (l:List Str) (o:GOp) (d:GDoc) (s:GSchema) (hl:Sm l) (ho:Sm o.vars):dG l o d s=some (l.any fun n => !(eQ o.vars).contains n):=by
 have h1:∀ n:Str,aEe n o d s=some (!(eQ o.vars).contains n):=fun n=>by
  obtain ⟨v,hv⟩:=bFF o n ho
  exact aKx (by simp only [tJ,hv,aV])
 have hk:=aDn l (fun n => !(eQ o.vars).contains n) hl (dN l o d s) (by simp only [dN,yM,iW]) (fun k x hm e1 e2 e3=>by
  simp only [dN,e1,cT,e2,aV,e3,h1])
 obtain ⟨i,hi,hd,_⟩:=aHw (fun n:Str => !(eQ o.vars).contains n) l
 have:=aDx (s:=l) (u0_6:=o) (u0_5:=d) (u0_4:=s) (r:=i) (by simp only [kJ,hk,aV];rw [aAg (idxG (fun n:Str => !(eQ o.vars).contains n) l 0) (fun _=>(-1:Int)) (fun t=>t),hi])
 exact mC (by simp only [bZ,this,aV,hd])
def dupA:List Str→List Str→Bool
 | _,[]=>false
 | a,x::r=>a.contains x||dupA (a++[x]) r
theorem aNj {α:Type} {l:List α} {k:Nat} {x:α} {r:List α} (h:l.drop k=x::r) (hk:k<l.length):l.take k++[x]=l.take (k+1):=by
 rw [List.take_succ_eq_append_getElem hk]
 rw [List.drop_eq_getElem_cons hk] at h
 rw [(List.cons.inj h).1]
theorem aYU {α:Type} (l:List α) (k:Nat) (h:k≤l.length):tslc l 0 (k:Int)=some (l.take k):=by
 unfold tslc
 simp;omega
theorem bEG (o : GOp) (h : Sm o.vars) : aJ6 o = some (!dupA [] (eQ o.vars)) := by
 apply aO9
 have hk := cN (b := lX o) o.vars (fun k (_ : List Str) => (k : Int)) (fun r a => bif dupA a (eQ r) then (.inr () : Unit ⊕ Unit) else .inl ()) (fun k a => a = eQ (o.vars.take k)) h
  (fun a ha => by simp only [lX, yM, iW]; rfl)
  (fun k x r a hx hk hd h1 h2 h3 ha => by
   subst ha
   have hc : ((o.vars.take k).any fun y => y.name == x.name) = (eQ (o.vars.take k)).contains x.name := by
    unfold eQ
    rw [Bool.eq_iff_iff]
    simp only [List.any_eq_true, beq_iff_eq, List.contains_iff_mem, List.mem_map]
   simp only [lX, h1, h2, h3, aV, cT, aYU o.vars k (by omega), bEE (o.vars.take k) x o (by have := h; unfold Sm at *; simp; omega), hc]
   simp only [eQ, List.map_cons, dupA]
   cases hq : (List.map (fun v : GVarDef => v.name) (o.vars.take k)).contains x.name
   ·right; exact ⟨_, rfl, rfl, by rw [← aNj hd hk, List.map_append]; rfl⟩
   ·left; rfl) (s := 0) (a := []) rfl rfl
 simp only [aAV, hk, aV]
 cases dupA [] (eQ o.vars) <;> rfl
theorem bCH (l : List Str) (h : Sm l) : aOb l = some (dupA [] l) := by
 apply aRs
 have inner : ∀ (i : Nat) (x : Str), i < l.length → nthI l (i : Int) = some x → aY (lD l (i : Int)) 0 = some (bif (l.take i).contains x then (.inr () : Unit ⊕ Unit) else .inl ()) := fun i x hi hx => by
  have hlen : (l.take i).length = i := by simp; omega
  exact aCZ (b := lD l (i : Int)) (l.take i) (fun r => bif r.contains x then (.inr () : Unit ⊕ Unit) else .inl ()) (by have := h; unfold Sm at *; simp; omega)
   (by simp only [lD, hlen, yM, iW]; rfl)
   (fun k y r hy h1 h2 h3 => by
    rw [hlen] at h1
    have hk : k < i := by simpa using h1
    have h2' : nthI l (k : Int) = some y := by
     rw [mT] at h2 ⊢
     rw [List.getElem?_take, if_pos hk] at h2; exact h2
    simp only [lD, h1, h2', h3, hx, aV, cT, List.contains_cons]
    cases x == y
    ·right; exact ⟨rfl, by simp⟩
    ·left; rfl)
 have hk := cN (b := nX l) l (fun k (_ : List Str) => (k : Int)) (fun r a => bif dupA a r then (.inr () : Unit ⊕ Unit) else .inl ()) (fun k a => a = l.take k) h
  (fun a ha => by simp only [nX, yM, iW]; rfl)
  (fun k x r a hx hk hd h1 h2 h3 ha => by
   subst ha
   simp only [nX, h1, h3, aV, cT, inner k x hk h2, dupA, aNj hd hk]
   cases (l.take k).contains x
   ·right; exact ⟨_, rfl, rfl, rfl⟩
   ·left; rfl) (s := 0) (a := []) rfl rfl
 simp only [aDd, hk, aV]
 cases dupA [] l <;> rfl
theorem aWP (a b : List Str) (ha : Sm a) (hb : Sm b) : aHP a b = some (a.all fun x => b.contains x) := by
 apply aX7
 have hk := aCZ (b := tT a b) a (fun r => bif r.all fun x => b.contains x then (.inl () : Unit ⊕ Unit) else .inr ()) ha (by simp only [tT, yM, iW]; rfl)
  (fun k x r hx h1 h2 h3 => by
   simp only [tT, h1, h2, h3, aV, cT, pG b x hb, List.all_cons]
   cases b.contains x
   ·left; rfl
   ·right; exact ⟨rfl, rfl⟩)
 simp only [aI4, hk, aV]
 cases a.all fun x => b.contains x <;> rfl
theorem aVv (l : List GVarDef) (h : l.length < 1073741824) : aEc l = some (eQ l) := by
 apply aKg
 have hk := cN (b := iQ l) l (fun k (a : List Str) => (a, (k : Int))) (fun r a => a ++ eQ r) (fun k a => a.length = k) (by show l.length < _; omega)
  (fun a _ => by simp [iQ, eQ])
  (fun k x r a hx hk hd h1 h2 h3 ha => by
   refine .inr ⟨a ++ [x.name], ?_, by simp [ha], by simp [eQ]⟩
   simp only [iQ, h1, h2, h3, aV, cT, xG (show a.length + [x.name].length ≤ lim by simp [sI]; omega)]) (s := ([], 0)) (a := []) rfl rfl
 simp only [tH, hk, aV, List.nil_append]
theorem aSB (d:GDoc) (l:List GSel) (h:mK d+bJ l<200000000):∃ u,yT d l=some u∧aGH d l=some u∧u.length≤mK d+bJ l∧∀ x∈u,x∈allU d l:=by
 obtain ⟨r1,l1,hr1,_,hl1,hm1,hin1,hcl1,hmin1⟩:=aMx d l (by omega)
 obtain ⟨r2,l2,hr2,_,hl2,hm2,hin2,hcl2,hmin2⟩:=aLd d l (by omega)
 obtain ⟨u1,hu1,hR1,hlu,hx1⟩:=aSr d l r1 hr1 hl1 (fun n hn=>((hm1 n).1 hn).2) (by omega)
 obtain ⟨u2,hu2,hR2,hx2⟩:=aYL d l r2 hr2 hl2 (fun n hn=>((hm2 n).1 hn).2) (by omega)
 have hr:∀ n,n∈r1↔n∈r2:=by
  intro n
  rw [hm1,hm2]
  exact ⟨fun h=>⟨hmin1 (· ∈ l2) hin2 hcl2 n h.1,h.2⟩,fun h=>⟨hmin2 (· ∈ l1) hin1 hcl1 n h.1,h.2⟩⟩
 have hu:u1=u2:=aVn _ _ hR1 hR2 fun x=>by
  rw [hx1,hx2]
  constructor
  ·rintro (h | ⟨n,hn,h⟩)
   ·exact .inl h
   ·exact .inr ⟨n,(hr n).1 hn,h⟩
  ·rintro (h | ⟨n,hn,h⟩)
   ·exact .inl h
   ·exact .inr ⟨n,(hr n).2 hn,h⟩
 subst hu
 refine ⟨u1,hu1,hu2,hlu,fun x hx => ?_⟩
 rcases (hx1 x).1 hx with h | ⟨n,hn,h⟩
 ·exact List.mem_append_left _ h
 ·exact List.mem_append_right _ (List.mem_flatMap.2 ⟨_,(mO ((hm1 n).1 hn).2).1,h⟩)
theorem aSC:∀ (l:List GDir),∀ x∈sB l,x.length<sumL iX l
 | [],x,hx=>by simp [sB] at hx
 | y::l,x,hx=>by
  simp only [sB,List.mem_append] at hx
  simp only [sumL]
  rcases hx with h | h
  ·have:=aGf y.args x h;rw [gY] at this;rw [lQ];simp only [bkSl];omega
  ·have:=aSC l x h;omega
mutual
theorem bBd:∀ (y:GSel),∀ x∈aHs y,x.length<iF y
 | ⟨k,a,n,ar,ds,on,sels⟩,x,hx=>by
  rw [gZ]
  simp only [aHs,List.mem_append] at hx
  simp only [bkSl]
  rcases hx with h | h | h
  ·have:=aGf ar x h;rw [gY] at this;omega
  ·have:=aSC ds x h;omega
  ·have:=aJc sels x h;rw [dH] at this;omega
theorem aJc:∀ (l:List GSel),∀ x∈useS l,x.length<bJ l
 | [],x,hx=>by simp [useS] at hx
 | y::l,x,hx=>by
  simp only [useS,List.mem_append] at hx
  simp only [bJ]
  rcases hx with h | h
  ·have:=bBd y x h;omega
  ·have:=aJc l x h;omega
end
theorem bCI (d:GDoc) (l:List GSel):∀ x∈allU d l,x.length<mK d+bJ l:=by
 intro x hx
 rcases List.mem_append.1 hx with h | h
 ·have:=aJc l x h;omega
 ·obtain ⟨f,hf,h⟩:=List.mem_flatMap.1 h
  have h1:=aJc f.sels x h
  have h2:=nZ f
  have h3:=gD iK hf
  have h4:=iJ d
  omega
theorem bEH:Ds 127 bA6:=by
 intro args hA hc
 obtain ⟨v0,r0,rfl,h0,hA⟩:=nI hA
 obtain ⟨v1,r1,rfl,h1,hA⟩:=nI hA
 cases aH4 hA
 obtain ⟨d,rfl⟩:=bA4 h0
 obtain ⟨es,rfl,he,hn⟩:=bEt h1
 obtain ⟨l,rfl⟩:=cC (f:=aG) (fun e h=>aWD (he e h))
 have pd:=sT hc rfl (v:=sW d) (by simp)
 have pl:=sT hc rfl (v := .slice (l.map aG) [] false) (by simp)
 have qd:=bCw d
 have ql:=psl (l:=l) (fun x _=>bCv x)
 unfold Nr at qd
 simp only [bR] at pl
 have hbl:=dH l
 obtain ⟨u,_,hu,hlen,hin⟩:=aSB d l (by omega)
 refine ⟨_,by simp only [tys];exact bN (enc:=fun r=>(cO r,[])) hu,.one (.sl (aVr fun x hx => ?_) (by simp only [List.length_map];omega))⟩
 have:=bCI d l x (hin x hx)
 show x.length≤1073741824
 omega
noncomputable def vS (d:GDoc) (l:List GSel):List Str:=(aGH d l).getD []
theorem aWQ (d:GDoc) (l:List GSel) (h:mK d+bJ l<200000000):yT d l=some (vS d l)∧aGH d l=some (vS d l)∧(vS d l).length<200000000:=by
 obtain ⟨u,h1,h2,h3,_⟩:=aSB d l h
 have:vS d l=u:=by unfold vS;rw [h2];rfl
 rw [this];exact ⟨h1,h2,by omega⟩
noncomputable def opOk (s:GSchema) (d:GDoc) (n:Int) (o:GOp):Bool :=
 bif n==18 then !dupA [] (eQ o.vars) else bif n==19 then o.vars.all fun v=>tN s v.t.name [0,4,5] else bif n==20 then (vS d o.sels).all fun x=>(eQ o.vars).contains x else (eQ o.vars).all fun x=>(vS d o.sels).contains x
theorem aPB {α:Type} (p:α→Bool) (l:List α):(!l.any fun x => !p x)=l.all p:=by
 induction l with
 | nil=>rfl
 | cons x l ih=>simp only [List.any_cons,List.all_cons,← ih];cases p x<;>simp
theorem bBe (p:Str→Bool) (l:List GVarDef):(l.all fun v=>p v.name)=(eQ l).all p:=by
 induction l with
 | nil=>rfl
 | cons x l ih=>simp only [List.all_cons,eQ,List.map_cons] at ih ⊢;rw [ih]
structure OOk (s:GSchema) (d:GDoc) (o:GOp):Prop where
 s:SOk s
 u:mK d+bJ o.sels<200000000
 v:o.vars.length<1073741824
theorem bEI (s:GSchema) (d:GDoc) (o:GOp) (n:Int) (h:OOk s d o):aJ2 s d o n=some (opOk s d n o):=by
 obtain ⟨u1,u2,u3⟩:=aWQ d o.sels h.u
 have hv:Sm o.vars:=by have:=h.v;show o.vars.length<_;omega
 apply aOM
 simp only [aAP,bEG o hv,bEC o.vars o d s hv h.s.sm,u1,bEF (vS d o.sels) o d s (by show (vS d o.sels).length<_;omega) hv,bED o.vars (vS d o.sels) o d s hv (by show (vS d o.sels).length<_;omega),aV,opOk]
 rw [aPB (fun v:GVarDef=>tN s v.t.name [0,4,5]) o.vars,aPB (fun x=>(eQ o.vars).contains x) (vS d o.sels),aPB (fun v:GVarDef=>(vS d o.sels).contains v.name) o.vars,bBe (fun x=>(vS d o.sels).contains x) o.vars]
 cases n==18<;>cases n==19<;>cases n==20<;>rfl
theorem aSD (s:GSchema) (d:GDoc) (n:Int) (hn:18≤n∧n≤21) (h:∀ o∈d.ops,OOk s d o) (hl:Sm d.ops):yS s d n=some (d.ops.all (opOk s d n)):=by
 have hk:=aDn d.ops (fun o => !opOk s d n o) hl (zQ d.ops n d s) (by simp only [zQ,yM,iW]) (fun k o hm e1 e2 e3=>by
  have h1:aEb o n d s=some (!opOk s d n o):=aKc (by simp only [tG,bEI s d o n (h o hm),aV])
  simp only [zQ,e1,cT,e2,aV,e3,h1])
 obtain ⟨i,hi,hd,_⟩:=aHw (fun o => !opOk s d n o) d.ops
 have h2:=bAG (s:=d.ops) (u0_5:=n) (u0_4:=d) (u0_3:=s) (r:=i) (by simp only [aOt,hk,aV];rw [aAg (idxG (fun o => !opOk s d n o) d.ops 0) (fun _=>(-1:Int)) (fun t=>t),hi])
 have h3:=vO (s:=d.ops) (u0_5:=n) (u0_4:=d) (u0_3:=s) (r:=d.ops.any fun o => !opOk s d n o) (by simp only [fA,h2,aV,hd])
 apply aFL
 simp only [qH,decide_eq_true hn.2,show decide (n≥18)=true from decide_eq_true hn.1,cT,h3,aV]
 rw [aPB]
theorem aGh (s:GSchema) (d:GDoc) (n:Int) (h:n<18∨21<n):yS s d n=some false:=by
 apply aFL
 rcases h with h | h
 ·simp only [qH,show decide (n≥18)=false from decide_eq_false (by omega),iW]
 ·simp only [qH,show decide (n≤21)=false from decide_eq_false (by omega),iW,aAq]
theorem aYV (s:GSchema) (d:GDoc) (n:Int) (hn:18≤n∧n≤21) (h:∀ o∈d.ops,OOk s d o) (hl:Sm d.ops):aGG s d n=some (d.ops.all (opOk s d n)):=by
 have in19:∀ o∈d.ops,aY (fN s n o) 0=some (bif n==19 then (bif o.vars.all fun v=>tN s v.t.name [0,4,5] then (.inl ():Unit⊕Unit) else .inr ()) else .inl ()):=fun o ho=>by
  have hv:Sm o.vars:=by have:=(h o ho).v;show o.vars.length<_;omega
  cases h19:n==19
  ·refine cP ?_
   simp only [fN,h19,iW]
   cases decide ((0:Int)<(o.vars.length:Int))<;>rfl
  ·exact aCZ (b:=fN s n o) o.vars (fun r=>bif r.all fun v=>tN s v.t.name [0,4,5] then (.inl ():Unit⊕Unit) else .inr ()) hv (by simp only [fN,yM,iW];rfl) (fun k x r hm h1 h2 h3=>by
    simp only [fN,h1,h2,h3,h19,aV,cT,aVi s _ (h o ho).s.sm,List.all_cons]
    cases tN s x.t.name [0,4,5]
    ·exact .inl rfl
    ·exact .inr ⟨rfl,rfl⟩)
 have key:=aCZ (b:=kD s d n) d.ops (fun r=>bif r.all (opOk s d n) then (.inl ():Unit⊕Unit) else .inr ()) hl (by simp only [kD,yM,iW];rfl) (fun k o r hm h1 h2 h3=>by
  obtain ⟨u1,u2,u3⟩:=aWQ d o.sels (h o hm).u
  have hv:=(h o hm).v
  have hvn:Sm (eQ o.vars):=by show (eQ o.vars).length<_;unfold eQ;simp;omega
  simp only [kD,h1,h2,h3,aV,cT,aVv o.vars hv,u2,bCH _ hvn,aWP _ _ (show Sm (vS d o.sels) by show (vS d o.sels).length<_;omega) hvn,aWP _ _ hvn (show Sm (vS d o.sels) by show (vS d o.sels).length<_;omega),Ev.jn,in19 o hm,List.all_cons]
  rcases (by omega:n=18∨n=19∨n=20∨n=21) with rfl | rfl | rfl | rfl
  ·have e:opOk s d 18 o = !dupA [] (eQ o.vars):=rfl
   rw [e]
   cases dupA [] (eQ o.vars)
   ·exact .inr ⟨rfl,rfl⟩
   ·exact .inl rfl
  ·have e:opOk s d 19 o=o.vars.all fun v=>tN s v.t.name [0,4,5]:=rfl
   rw [e]
   cases o.vars.all fun v=>tN s v.t.name [0,4,5]
   ·exact .inl rfl
   ·exact .inr ⟨rfl,rfl⟩
  ·have e:opOk s d 20 o=(vS d o.sels).all fun x=>(eQ o.vars).contains x:=rfl
   rw [e]
   cases (vS d o.sels).all fun x=>(eQ o.vars).contains x
   ·exact .inl rfl
   ·exact .inr ⟨rfl,rfl⟩
  ·have e:opOk s d 21 o=(eQ o.vars).all fun x=>(vS d o.sels).contains x:=rfl
   rw [e]
   cases (eQ o.vars).all fun x=>(vS d o.sels).contains x
   ·exact .inl rfl
   ·exact .inr ⟨rfl,rfl⟩)
 apply aLH
 simp only [wI,key,aV]
 cases d.ops.all (opOk s d n)<;>rfl
def aWR:Summ:=sv1 [⟨false,[(.int .u8)]⟩] [E2']
theorem bCJ:Ds 169 aWR:=aJ (C:=cf [] [] 0 false []) Tryz.func169 rfl rfl sn' (by kernel_rfl)
def aWS:Summ:=sv1 [⟨false,[(.int .u8)]⟩] [E2']
theorem bCK:Ds 170 aWS:=aJ (C:=cf [] [] 0 false []) Tryz.func170 rfl rfl sn' (by kernel_rfl)
def qS:Summ:=sv1 [E11'] [E2']
theorem sU:Ds 98 qS:=aJ (C:=cf [(169,aWR),(170,aWS)] [] 0 false [lh 4 [.same,.same,.lf (.int .i64)] 2 1073741824 [some 0,none]]) Tryz.func98 rfl rfl (sc' bCJ (sc' bCK sn')) (by kernel_rfl)
def jB:Summ:=sv1 [E5'] [E2']
theorem lH:Ds 101 jB:=aJ (C:=cf [(98,qS)] [] 0 false []) Tryz.func101 rfl rfl (sc' sU sn') (by kernel_rfl)
def bF4:Summ:=sv1 [E5'] [E5']
def aDo:Summ:=sv1 [E1'] [E8']
def bCL:Cfg:=cf [] [(213,aDo,0)] 0 true [lh 4 (.same :: .lf (.int .i64) :: .lf (.int .i64)::sa 5 []) 2 1048576 [some 0],lh 10 (.same :: .lf (.int .i64) :: .lf (.int .i64)::sa 5 []) 2 1048576 [some 2]]
theorem bCM:∀ x,x∈([(213,aDo,0)]:List (FuncId×Summ×Nat))→Ds x.1 x.2.1 :=
 aAt (fun x=>bCL) (all_cons ⟨rfl,rfl,rfl,sn',rfl,_,Tryz.func213,by kernel_rfl⟩ (aD8))
theorem aWT:Ds 213 aDo:=bCM (213,aDo,0) (by simp)
def bDF:Summ:=sv1 [E11',E16'] [E1',E2']
theorem bFG:Ds 219 bDF:=aJ (C:=cf [] [] 0 false [(2,{hv:=(sa 4 (.lf (.int .i64)::sa 5 [])),cnt:=4,top:=16777216,ex:=[(some 0,(sa 4 (.lf (.int .i64)::sa 5 []))),(none,[.same,.same,.same,.lf .bool,.lf (.int .i64),.lf (.int .i64),.lf (.int .i64),.lf .str,.lf (.sl 6 1048576 false),.lf (.sl 7 1048576 false)])]})]) Tryz.func219 rfl rfl sn' (by kernel_rfl)
def bBf:Summ:=sv1 [E11'] [E2']
theorem bEJ:Ds 223 bBf:=aJ (C:=cf [(239,aWE)] [] 0 false []) Tryz.func223 rfl rfl (sc' bCB sn') (by kernel_rfl)
def aSE:Summ:=sv1 [E11'] [E8']
theorem bBg:Ds 221 aSE:=aJ (C:=cf [(238,aNg)] [] 0 false []) Tryz.func221 rfl rfl (sc' aYP sn') (by kernel_rfl)
def aWU:Summ:=sv1 [E11'] [E8',E2']
theorem bCN:Ds 222 aWU:=aJ (C:=cf [] [] 0 false [lh 5 (sa 3 (.lf (.int .i64) :: .same::[.lf (.int .i64)])) 3 1073741824 [some 0,none]]) Tryz.func222 rfl rfl sn' (by kernel_rfl)
def oB:Summ:=sv1 [E1'] [E2']
def aSF:Cfg:=cf [(221,aSE),(222,aWU),(223,bBf),(98,qS)] [(191,oB,0)] 0 true [lh 25 (sa 2 (.lf (.int .i64)::sa 5 [])) 2 1048576 [some 1,none],lh 32 (sa 2 (.lf (.int .i64)::sa 5 [])) 2 1048576 [some 3,none]]
theorem aSG:∀ x,x∈([(191,oB,0)]:List (FuncId×Summ×Nat))→Ds x.1 x.2.1 :=
 aAt (fun x=>aSF) (all_cons ⟨rfl,rfl,rfl,(sc' bBg (sc' bCN (sc' bEJ (sc' sU sn')))),rfl,_,Tryz.func191,by kernel_rfl⟩ (aD8))
theorem aH6:Ds 191 oB:=aSG (191,oB,0) (by simp)
def aGi:Summ:=sv1 [E9',E11'] [E2']
theorem aH7:Ds 29 aGi:=aJ (C:=cf [] [] 0 false [(2,{hv:=[.same,.same,.same,.lf (.int .i64)],cnt:=3,top:=16777216,ex:=[(some 0,[.same,.same,.same,.lf (.int .i64)]),(none,[.same,.same,.lf .bool,.lf (.int .i64)])]})]) Tryz.func29 rfl rfl sn' (by kernel_rfl)
def bEK:Summ:=sv1 [E5'] [E2']
theorem bFH:Ds 195 bEK:=aJ (C:=cf [(101,jB)] [] 0 false []) Tryz.func195 rfl rfl (sc' lH sn') (by kernel_rfl)
def bF5:Summ:=sv1 [E5'] [E5',E2']
def aHx:Summ:=sv1 [E1',E1'] [E2']
def aHy:Summ:=sv1 [E16',E16'] [E2']
def bEL:Cfg:=cf [] [(174,aHx,0),(215,aHy,0)] 0 true [lh 4 (sa 3 (.lf (.int .i64)::sa 10 [])) 3 16777216 [some 0,none]]
def aYW:Cfg:=cf [] [(174,aHx,0),(215,aHy,0)] 0 false [lh 4 [.same,.same,.same,.lf (.int .i64)] 3 16777216 [some 0,none]]
theorem bEM:∀ x,x∈([(174,aHx,0),(215,aHy,0)]:List (FuncId×Summ×Nat))→Ds x.1 x.2.1 :=
 aAt (fun x=>if x.1=174 then bEL else aYW) (all_cons ⟨rfl,rfl,rfl,sn',rfl,_,Tryz.func174,by kernel_rfl⟩ (all_cons ⟨rfl,rfl,rfl,sn',rfl,_,Tryz.func215,by kernel_rfl⟩ (aD8)))
theorem bEN:Ds 174 aHx:=bEM (174,aHx,0) (by simp)
def aGj:Summ:=sv1 [E1'] [E2']
def bCO:Cfg:=cf [(98,qS)] [(235,aGj,0)] 0 true [lh 2 (sa 2 (.lf (.int .i64)::sa 5 [])) 2 1048576 [some 0,none],lh 7 (sa 2 (.lf (.int .i64)::sa 5 [])) 2 1048576 [some 2,none]]
theorem bCP:∀ x,x∈([(235,aGj,0)]:List (FuncId×Summ×Nat))→Ds x.1 x.2.1 :=
 aAt (fun x=>bCO) (all_cons ⟨rfl,rfl,rfl,(sc' sU sn'),rfl,_,Tryz.func235,by kernel_rfl⟩ (aD8))
theorem bCQ:Ds 235 aGj:=bCP (235,aGj,0) (by simp)
def aWV:Summ:=sv1 [E1'] [E2']
theorem bCR:Ds 212 aWV:=aJ (C:=cf [(191,oB),(213,aDo),(235,aGj)] [] 0 false []) Tryz.func212 rfl rfl (sc' aH6 (sc' aWT (sc' bCQ sn'))) (by kernel_rfl)
def aNk:Summ:=sv1 [E5',E5'] [E2']
theorem aYX:Ds 197 aNk:=aJ (C:=cf [(101,jB)] [] 0 false []) Tryz.func197 rfl rfl (sc' lH sn') (by kernel_rfl)
def bBh:Summ:=sv2 [E1'] [E9']
theorem bEO:Ds 214 bBh:=aJ (C:=cg [(236,bA5)] [] 0 false [] 1) Tryz.func214 rfl rfl (sc' bEA sn') (by kernel_rfl)
def bFL:Summ:=sv1 [E16',E16'] [E2']
def bEZ:Summ:=sv1 [E4',E5',E2'] [E2']
def aE9:Summ:=sv1 [E11'] [E4',E2']
theorem aLg:Ds 121 aE9:=aJ (C:=cf [] [] 0 false []) Tryz.func121 rfl rfl sn' (by kernel_rfl)
def aVw:Summ:=sv1 [E3',E11'] [E15',E2']
theorem bBi:Ds 113 aVw:=aJ (C:=cf [] [] 0 false [(2,{hv:=(sa 4 (.lf (.int .i64)::sa 6 [])),cnt:=4,top:=1048576,ex:=[(some 0,(sa 4 (.lf (.int .i64)::sa 6 []))),(none,(sa 3 (.lf .bool :: .lf (.int .i64) :: .lf .str :: .lf .str :: .lf (.sl 8 1048576 false) :: .lf (.sl 12 1048576 false)::sa 2 [])))]})]) Tryz.func113 rfl rfl sn' (by kernel_rfl)
def bF8:Summ:=sv1 [E6'] [E11']
def aPC:Summ:=sv1 [E13',E11'] [E4',E2']
theorem aWW:Ds 193 aPC:=aJ (C:=cf [] [] 0 false [(2,{hv:=(sa 4 (.lf (.int .i64)::sa 10 [])),cnt:=4,top:=16777216,ex:=[(some 0,(sa 4 (.lf (.int .i64)::sa 10 []))),(none,[.same,.same,.same,.lf .bool,.lf (.int .i64),.lf .str,.lf .str,.lf (.int .i64),.lf (.int .i64),.lf .bool,.lf (.int .i64),.lf (.int .i64),.lf .str,.lf (.sl 6 1048576 false),.lf (.sl 7 1048576 false)])]})]) Tryz.func193 rfl rfl sn' (by kernel_rfl)
def aWX:Summ:=sv1 [E13',E16'] [E2']
theorem bCS:Ds 186 aWX:=aJ (C:=cf [(193,aPC)] [] 0 false [lh 2 [.same,.same,.same,.lf (.int .i64)] 3 16777216 [some 0,none]]) Tryz.func186 rfl rfl (sc' aWW sn') (by kernel_rfl)
def aSH:Summ:=sv1 [E13',E16'] [E2']
theorem bBj:Ds 188 aSH:=aJ (C:=cf [(219,bDF),(195,bEK)] [] 0 false [lh 2 [.same,.same,.same,.lf (.int .i64)] 3 16777216 [some 0,none]]) Tryz.func188 rfl rfl (sc' bFG (sc' bFH sn')) (by kernel_rfl)
def bBk:Summ:=sv1 [E16'] [E2']
theorem bEP:Ds 187 bBk:=aJ (C:=cf [] [] 0 false [lh 5 [.same,.same,.same,.lf (.int .i64)] 3 16777216 [some 2,none],lh 2 [.same,.same,.lf (.int .i64)] 2 16777216 [some 0,none]]) Tryz.func187 rfl rfl sn' (by kernel_rfl)
def bF6:Summ:=sv1 [E0',E12'] [E11']
def aLh:Summ:=sv1 [E11'] [E2']
theorem aSI:Ds 156 aLh:=aJ (C:=cf [] [] 0 false []) Tryz.func156 rfl rfl sn' (by kernel_rfl)
def aFa:Summ:=sv1 [E0',E11'] [E7',E2']
theorem aHz:Ds 164 aFa:=aJ (C:=cf [(156,aLh)] [] 0 false [(4,{hv:=(sa 4 (.lf (.int .i64)::sa 9 [])),cnt:=4,top:=1048576,ex:=[(some 0,(sa 4 (.lf (.int .i64)::sa 9 []))),(none,(sa 3 (.lf .bool :: .lf (.int .i64) :: .lf (.int .i64) :: .lf .str :: .lf (.sl 0 1048576 false) :: .lf (.sl 4 1048576 false) :: .lf (.sl 0 1048576 false) :: .lf (.sl 5 1048576 false)::sa 3 [])))]})]) Tryz.func164 rfl rfl (sc' aSI sn') (by kernel_rfl)
def bBl:Summ:=sv1 [E0',E11',E8',E8',E8'] [E2']
theorem bCT:Ds 159 bBl:=aJ (C:=cf [(164,aFa)] [] 0 false []) Tryz.func159 rfl rfl (sc' aHz sn') (by kernel_rfl)
def aPD:Summ:=sv1 [E0',E11'] [E2']
theorem aVx:Ds 118 aPD:=aJ (C:=cf [(159,bBl)] [] 0 false []) Tryz.func118 rfl rfl (sc' bCT sn') (by kernel_rfl)
def sE:Summ:=sv1 [E0',E11'] [E2']
theorem wX:Ds 112 sE:=aJ (C:=cf [(159,bBl)] [] 0 false []) Tryz.func112 rfl rfl (sc' bCT sn') (by kernel_rfl)
def bFM:Summ:=sv1 [E0',E5',E5'] [E2']
def aJd:Summ:=sv1 [E0',E11',E11'] [E10',E2']
theorem aPE:Ds 117 aJd:=aJ (C:=cf [(112,sE),(164,aFa)] [] 0 false [(7,{hv:=(sa 4 (.lf (.int .i64)::sa 15 [])),cnt:=4,top:=1048576,ex:=[(some 0,(sa 4 (.lf (.int .i64)::sa 15 []))),(none,(sa 2 (.lf .bool :: .same :: .lf (.int .i64)::sa 6 (.lf .str :: .lf (.sl 5 1048576 false) :: .lf .str :: .lf (.int .i64) :: .lf (.int .i64) :: .lf (.sl 8 1048576 false)::sa 3 []))))]})]) Tryz.func117 rfl rfl (sc' wX (sc' aHz sn')) (by kernel_rfl)
def bFI:Summ:=sv1 [E0',E11',E6'] [E11']
def bDG:Summ:=sv1 [E9',E9'] [E2']
theorem bFJ:Ds 128 bDG:=aJ (C:=cf [(29,aGi)] [] 0 false [lh 2 [.same,.same,.same,.lf (.int .i64)] 3 16777216 [some 0,none]]) Tryz.func128 rfl rfl (sc' aH7 sn') (by kernel_rfl)
def aSJ:Summ:=sv1 [E0',⟨true,[.str,(.int .i64),.str,.str,(.sl 7 1048576 false),(.sl 8 1048576 false),.str,(.sl 12 1048576 false)]⟩] [E13']
theorem bBm:Ds 124 aSJ:=aJ (C:=cf [(117,aJd)] [] 0 false []) Tryz.func124 rfl rfl (sc' aPE sn') (by kernel_rfl)
def aLi:Summ:=sv1 [E13',E16',E8'] [E2']
theorem aVy:Ds 123 aLi:=aJ (C:=cf [(186,aWX),(187,bBk),(188,aSH)] [] 0 false []) Tryz.func123 rfl rfl (sc' bCS (sc' bEP (sc' bBj sn'))) (by kernel_rfl)
def aH8:Summ:=sv1 [⟨true,[.str,(.sl 7 1048576 false)]⟩] [E13']
theorem aSK:Ds 125 aH8:=aJ (C:=cf [(121,aE9)] [] 0 false []) Tryz.func125 rfl rfl (sc' aLg sn') (by kernel_rfl)
def aNl:Summ:=sv2 [E0',E3',E8'] [E2']
theorem aYY:Ds 61 aNl:=aJ (C:=cg [(58,aDl),(124,aSJ),(123,aLi),(125,aH8)] [] 0 false [lh 8 (sa 5 (.lf (.int .i64)::sa 5 [])) 5 16777216 [some 2,none],lh 3 (sa 4 (.lf (.int .i64)::sa 5 [])) 4 16777216 [some 0,none]] 3) Tryz.func61 rfl rfl (sc' aGg (sc' bBm (sc' aVy (sc' aSK sn')))) (by kernel_rfl)
def aLj:Summ:=sv1 [⟨false,[.sl 8 16777216 false]⟩] [E9']
theorem aVz:Ds 122 aLj:=aJ (C:=cf [] [] 0 false [lh 3 [.same,.acc 0 0 1,.lf (.int .i64)] 2 16777216 [some 0]]) Tryz.func122 rfl rfl sn' (by kernel_rfl)
def aLk:Summ:=sv2 [E0',E3'] [⟨false,[.sl 14 16777216 false]⟩]
theorem aVA:Ds 120 aLk:=aJ (C:=cg [(58,aDl)] [] 0 false [lh 3 (sa 2 (.acc 14 0 1 :: .lf (.int .i64)::sa 5 [])) 3 4194304 [some 0],lh 7 (sa 2 (.acc 14 4194304 1 :: .lf (.int .i64)::sa 5 [])) 3 4194304 [some 2],lh 12 (.acc 14 8388608 1 :: .same :: .lf (.int .i64)::sa 5 []) 2 4194304 [some 4]] 2) Tryz.func120 rfl rfl (sc' aGg sn') (by kernel_rfl)
def aJe:Summ:=sv1 [E9'] [E2']
theorem aPF:Ds 50 aJe:=aJ (C:=cf [] [] 0 false [(5,{hv:=[.same,.same,.same,.lf (.int .i64)],cnt:=3,top:=16777216,ex:=[(some 2,[.same,.same,.same,.lf (.int .i64)]),(none,[.same,.lf .bool,.same,.lf (.int .i64)])]}),(2,{hv:=[.same,.same,.lf (.int .i64)],cnt:=2,top:=16777216,ex:=[(some 0,[.same,.same,.lf (.int .i64)]),(none,[.same,.lf .bool,.lf (.int .i64)])]})]) Tryz.func50 rfl rfl sn' (by kernel_rfl)
def aNm:Summ:=sv2 [E0',E3',E8'] [E2']
theorem aYZ:Ds 60 aNm:=aJ (C:=cg [(120,aLk),(121,aE9),(122,aLj),(50,aJe)] [] 0 false [lh 6 (sa 5 (.lf (.int .i64)::sa 5 [])) 5 16777216 [some 2,none],lh 3 (sa 4 (.lf (.int .i64)::sa 5 [])) 4 16777216 [some 0,none]] 3) Tryz.func60 rfl rfl (sc' aVA (sc' aLg (sc' aVz (sc' aPF sn')))) (by kernel_rfl)
def aGk:Summ:=sv1 [E0',E11'] [E2']
theorem aLl:Ds 90 aGk:=aJ (C:=cf [(159,bBl)] [] 0 false []) Tryz.func90 rfl rfl (sc' bCT sn') (by kernel_rfl)
def aFb:Summ:=sv1 [E0',E11'] [E9']
theorem aLm:Ds 185 aFb:=aJ (C:=cf [(164,aFa),(29,aGi),(90,aGk)] [] 0 false [lh 8 (sa 2 (.acc 0 0 1 :: .lf (.int .i64)::sa 9 [])) 3 1048576 [some 1],lh 15 (sa 2 (.acc 0 0 1 :: .lf (.int .i64)::sa 9 [])) 3 1048576 [some 3]]) Tryz.func185 rfl rfl (sc' aHz (sc' aH7 (sc' aLl sn'))) (by kernel_rfl)
def aWY:Summ:=sv1 [E0',E11',E11'] [E2']
theorem bCU:Ds 119 aWY:=aJ (C:=cf [(185,aFb),(29,aGi)] [] 0 false [(3,{hv:=(sa 3 (.lf (.int .i64)::sa 3 [])),cnt:=3,top:=16777216,ex:=[(some 0,(sa 3 (.lf (.int .i64)::sa 3 []))),(none,(.lf .bool::sa 2 (.lf (.int .i64)::sa 3 [])))]})]) Tryz.func119 rfl rfl (sc' aLm (sc' aH7 sn')) (by kernel_rfl)
def aH9:Summ:=sv1 [E0',E3',⟨true,[.str,(.int .i64),.str,.str,(.sl 7 1048576 false),(.sl 8 1048576 false),.str,(.sl 12 1048576 false)]⟩,E8'] [E2']
theorem aSL:Ds 59 aH9:=aJ (C:=cf [(117,aJd),(118,aPD),(112,sE),(119,aWY),(113,aVw)] [] 0 false []) Tryz.func59 rfl rfl (sc' aPE (sc' aVx (sc' wX (sc' bCU (sc' bBi sn'))))) (by kernel_rfl)
def aWZ:Summ:=sv1 [E0',E3'] [E2']
theorem bCV:Ds 52 aWZ:=aJ (C:=cf [] [] 0 false [lh 2 (sa 3 (.lf (.int .i64)::sa 5 [])) 3 1048576 [some 0,none]]) Tryz.func52 rfl rfl sn' (by kernel_rfl)
def aLn:Summ:=sv1 [⟨false,[.sl 11 16777216 false]⟩] [E9']
theorem aVB:Ds 126 aLn:=aJ (C:=cf [] [] 0 false [lh 3 [.same,.acc 0 0 1,.lf (.int .i64)] 2 16777216 [some 0]]) Tryz.func126 rfl rfl sn' (by kernel_rfl)
def aPG:Summ:=sv1 [E0',E11'] [E2']
theorem aW0:Ds 129 aPG:=aJ (C:=cf [(159,bBl)] [] 0 false []) Tryz.func129 rfl rfl (sc' bCT sn') (by kernel_rfl)
def aNn:Summ:=sv2 [E0',E3',E8'] [E2']
theorem aY0:Ds 62 aNn:=aJ (C:=cg [(126,aLn),(127,bA6),(50,aJe),(128,bDG),(129,aPG)] [] 0 false [lh 9 (sa 6 (.lf (.int .i64)::sa 10 [])) 6 1048576 [some 2,none],lh 2 (sa 4 (.lf (.int .i64)::sa 5 [])) 4 1048576 [some 0,none]] 3) Tryz.func62 rfl rfl (sc' aVB (sc' bEH (sc' aPF (sc' bFJ (sc' aW0 sn'))))) (by kernel_rfl)
def bEQ:Summ:=sv1 [⟨false,[.sl 11 16777216 false]⟩,E11'] [E4']
def aA9:Summ:=sv2 [E1',E8',E2'] [E2']
theorem aGl:Ds 173 aA9:=aJ (C:=cg [(212,aWV),(213,aDo),(214,bBh)] [] 0 false [] 3) Tryz.func173 rfl rfl (sc' bCR (sc' aWT (sc' bEO sn'))) (by kernel_rfl)
def vL:Summ:=sv2 [E16',E8',E2'] [E2']
theorem aCL:Ds 171 vL:=aJ (C:=cg [(98,qS),(173,aA9)] [] 0 false [lh 2 (sa 4 ([.lf (.int .i64)])) 4 16777216 [some 0,none]] 3) Tryz.func171 rfl rfl (sc' sU (sc' aGl sn')) (by kernel_rfl)
def wY:Summ:=sv2 [⟨false,[.sl 8 16777216 false]⟩,E8',E2'] [E2']
theorem aCM:Ds 99 wY:=aJ (C:=cg [(98,qS),(171,vL)] [] 0 false [lh 2 (sa 4 ([.lf (.int .i64)])) 4 16777216 [some 0,none]] 3) Tryz.func99 rfl rfl (sc' sU (sc' aCL sn')) (by kernel_rfl)
def oC:Summ:=sv2 [⟨false,[.sl 12 16777216 false]⟩,E8'] [E2']
def aFc:Summ:=sv2 [E6',E8'] [E2']
def aSM:Cfg:=cg [] [(100,oC,0),(172,aFc,0)] 0 false [lh 4 [.same,.same,.same,.lf (.int .i64)] 3 16777216 [some 0,none]] 2
def aVC:Cfg:=cg [(99,wY),(98,qS),(171,vL)] [(100,oC,0),(172,aFc,0)] 0 true [] 2
theorem aSN:∀ x,x∈([(100,oC,0),(172,aFc,0)]:List (FuncId×Summ×Nat))→Ds x.1 x.2.1 :=
 aAt (fun x=>if x.1=100 then aSM else aVC) (all_cons ⟨rfl,rfl,rfl,sn',rfl,_,Tryz.func100,by kernel_rfl⟩ (all_cons ⟨rfl,rfl,rfl,(sc' aCM (sc' sU (sc' aCL sn'))),rfl,_,Tryz.func172,by kernel_rfl⟩ (aD8)))
theorem aSO:Ds 100 oC:=aSN (100,oC,0) (by simp)
def vM:Summ:=sv2 [E2',E1'] [E2']
theorem aCN:Ds 102 vM:=aJ (C:=cg [(173,aA9),(174,aHx)] [] 0 false [] 2) Tryz.func102 rfl rfl (sc' aGl (sc' bEN sn')) (by kernel_rfl)
def aW1:Summ:=sv2 [E3'] [E2']
theorem bCW:Ds 33 aW1:=aJ (C:=cg [(98,qS),(99,wY),(100,oC),(101,jB),(102,vM)] [] 0 false [lh 8 (sa 4 (.lf (.int .i64)::sa 7 [])) 4 1048576 [some 2,none],lh 2 (sa 2 (.lf (.int .i64)::sa 2 [])) 2 1048576 [some 0,none],lh 13 (sa 2 (.lf (.int .i64)::sa 2 [])) 2 1048576 [some 4,none]] 1) Tryz.func33 rfl rfl (sc' sU (sc' aCM (sc' aSO (sc' lH (sc' aCN sn'))))) (by kernel_rfl)
def aGm:Summ:=sv1 [E9'] [E2']
theorem aPH:Ds 232 aGm:=aJ (C:=cf [(98,qS)] [] 0 false [lh 2 [.same,.same,.lf (.int .i64)] 2 16777216 [some 0,none]]) Tryz.func232 rfl rfl (sc' sU sn') (by kernel_rfl)
def yB:Summ:=sv2 [E13'] [E2']
theorem aDP:Ds 234 yB:=aJ (C:=cg [(98,qS),(101,jB),(102,vM)] [] 0 false [lh 2 [.same,.same,.lf (.int .i64)] 2 16777216 [some 0,none]] 1) Tryz.func234 rfl rfl (sc' sU (sc' lH (sc' aCN sn'))) (by kernel_rfl)
def aDQ:Summ:=sv2 [⟨false,[.sl 4 16777216 false]⟩] [E2']
theorem aMB:Ds 233 aDQ:=aJ (C:=cg [(98,qS),(234,yB),(101,jB),(99,wY)] [] 0 false [lh 2 [.same,.same,.lf (.int .i64)] 2 16777216 [some 0,none]] 1) Tryz.func233 rfl rfl (sc' sU (sc' aDP (sc' lH (sc' aCM sn')))) (by kernel_rfl)
def aLo:Summ:=sv2 [E7'] [E2']
theorem aVD:Ds 209 aLo:=aJ (C:=cg [(98,qS),(232,aGm),(233,aDQ),(234,yB),(29,aGi)] [] 0 false [] 1) Tryz.func209 rfl rfl (sc' sU (sc' aPH (sc' aMB (sc' aDP (sc' aH7 sn'))))) (by kernel_rfl)
def aDR:Summ:=sv2 [E0'] [E2']
theorem aMC:Ds 157 aDR:=aJ (C:=cg [(209,aLo),(98,qS)] [] 0 false [lh 2 (sa 2 (.lf (.int .i64)::sa 3 [])) 2 1048576 [some 0,none]] 1) Tryz.func157 rfl rfl (sc' aVD (sc' sU sn')) (by kernel_rfl)
def bDH:Summ:=sv1 [E0',E5',E5'] [E2']
theorem bFK:Ds 211 bDH:=aJ (C:=cf [(101,jB),(197,aNk),(164,aFa),(185,aFb),(29,aGi)] [] 0 false []) Tryz.func211 rfl rfl (sc' lH (sc' aYX (sc' aHz (sc' aLm (sc' aH7 sn'))))) (by kernel_rfl)
def aW2:Summ:=sv1 [E0',E10',E10'] [E2']
theorem bCX:Ds 165 aW2:=aJ (C:=cf [(211,bDH),(193,aPC),(195,bEK)] [] 0 false [lh 4 (sa 3 (.lf (.int .i64)::sa 15 [])) 3 1048576 [some 0,none],lh 10 (sa 3 (.lf (.int .i64)::sa 15 [])) 3 1048576 [some 2,none]]) Tryz.func165 rfl rfl (sc' bFK (sc' aWW (sc' bFH sn'))) (by kernel_rfl)
def aLp:Summ:=sv1 [E0'] [E9']
theorem aVE:Ds 155 aLp:=aJ (C:=cf [] [] 0 false [lh 3 (.same :: .acc 0 0 1 :: .lf (.int .i64)::sa 3 []) 2 1048576 [some 0]]) Tryz.func155 rfl rfl sn' (by kernel_rfl)
def aNo:Summ:=sv1 [E0',E13'] [E2']
theorem aY1:Ds 163 aNo:=aJ (C:=cf [(129,aPG)] [] 0 false [lh 2 (sa 3 (.lf (.int .i64)::sa 3 [])) 3 16777216 [some 0,none]]) Tryz.func163 rfl rfl (sc' aW0 sn') (by kernel_rfl)
def aGn:Summ:=sv1 [⟨false,[.sl 4 16777216 false]⟩] [E9']
theorem aPI:Ds 160 aGn:=aJ (C:=cf [] [] 0 false [lh 3 [.same,.acc 0 0 1,.lf (.int .i64)] 2 16777216 [some 0]]) Tryz.func160 rfl rfl sn' (by kernel_rfl)
def aW3:Summ:=sv1 [E11'] [E2']
theorem bCY:Ds 210 aW3:=aJ (C:=cf [] [] 0 false []) Tryz.func210 rfl rfl sn' (by kernel_rfl)
def aCO:Summ:=sv1 [E0',E13'] [E2']
theorem aLq:Ds 168 aCO:=aJ (C:=cf [(118,aPD)] [] 0 false [lh 2 (sa 3 (.lf (.int .i64)::sa 3 [])) 3 16777216 [some 0,none]]) Tryz.func168 rfl rfl (sc' aVx sn') (by kernel_rfl)
def aPJ:Summ:=sv1 [E9'] [E2']
theorem aW4:Ds 162 aPJ:=aJ (C:=cf [] [] 0 false [(5,{hv:=[.same,.same,.same,.lf (.int .i64)],cnt:=3,top:=16777216,ex:=[(some 2,[.same,.same,.same,.lf (.int .i64)]),(none,[.same,.lf .bool,.same,.lf (.int .i64)])]}),(2,{hv:=[.same,.same,.lf (.int .i64)],cnt:=2,top:=16777216,ex:=[(some 0,[.same,.same,.lf (.int .i64)]),(none,[.same,.lf .bool,.lf (.int .i64)])]})]) Tryz.func162 rfl rfl sn' (by kernel_rfl)
def bBn:Summ:=sv1 [E9'] [E2']
theorem bDI:Ds 158 bBn:=aJ (C:=cf [(210,aW3),(162,aPJ)] [] 0 false [lh 2 [.same,.same,.lf (.int .i64)] 2 16777216 [some 0,none]]) Tryz.func158 rfl rfl (sc' bCY (sc' aW4 sn')) (by kernel_rfl)
def aGo:Summ:=sv1 [E13'] [E9']
theorem aPK:Ds 161 aGo:=aJ (C:=cf [] [] 0 false [lh 3 [.same,.acc 0 0 1,.lf (.int .i64)] 2 16777216 [some 0]]) Tryz.func161 rfl rfl sn' (by kernel_rfl)
def aW5:Summ:=sv2 [E0'] [E2']
theorem bCZ:Ds 89 aW5:=aJ (C:=cg [(155,aLp),(156,aLh),(157,aDR),(158,bBn)] [] 0 false [lh 3 (sa 3 (.lf (.int .i64)::sa 3 [])) 3 16777216 [some 0,none]] 1) Tryz.func89 rfl rfl (sc' aVE (sc' aSI (sc' aMC (sc' bDI sn')))) (by kernel_rfl)
def aW6:Summ:=sv1 [E0'] [E2']
theorem bC0:Ds 91 aW6:=aJ (C:=cf [(160,aGn),(158,bBn),(161,aGo),(162,aPJ)] [] 0 false [lh 8 (sa 4 (.lf (.int .i64)::sa 9 [])) 4 1048576 [some 2,none],lh 2 (sa 2 (.lf (.int .i64)::sa 3 [])) 2 1048576 [some 0,none]]) Tryz.func91 rfl rfl (sc' aPI (sc' bDI (sc' aPK (sc' aW4 sn')))) (by kernel_rfl)
def aW7:Summ:=sv1 [E0'] [E2']
theorem bC1:Ds 92 aW7:=aJ (C:=cf [(163,aNo),(118,aPD),(112,sE)] [] 0 false [lh 8 (sa 4 (.lf (.int .i64)::sa 9 [])) 4 1048576 [some 2,none],lh 2 (sa 2 (.lf (.int .i64)::sa 3 [])) 2 1048576 [some 0,none]]) Tryz.func92 rfl rfl (sc' aY1 (sc' aVx (sc' wX sn'))) (by kernel_rfl)
def aW8:Summ:=sv1 [E0'] [E2']
theorem bC2:Ds 93 aW8:=aJ (C:=cf [(164,aFa),(29,aGi)] [] 0 false [lh 12 (sa 6 (.lf (.int .i64)::sa 15 [])) 6 1048576 [some 4,none],lh 6 (sa 4 (.lf (.int .i64)::sa 9 [])) 4 1048576 [some 2,none],lh 2 (sa 2 (.lf (.int .i64)::sa 3 [])) 2 1048576 [some 0,none]]) Tryz.func93 rfl rfl (sc' aHz (sc' aH7 sn')) (by kernel_rfl)
def aW9:Summ:=sv1 [E0'] [E2']
theorem bC3:Ds 94 aW9:=aJ (C:=cf [(164,aFa),(117,aJd),(165,aW2)] [] 0 false [lh 10 (sa 6 (.lf (.int .i64)::sa 15 [])) 6 1048576 [some 4,none],lh 6 (sa 4 (.lf (.int .i64)::sa 9 [])) 4 1048576 [some 2,none],lh 2 (sa 2 (.lf (.int .i64)::sa 3 [])) 2 1048576 [some 0,none]]) Tryz.func94 rfl rfl (sc' aHz (sc' aPE (sc' bCX sn'))) (by kernel_rfl)
def aXa:Summ:=sv1 [E0'] [E2']
theorem bC4:Ds 95 aXa:=aJ (C:=cf [(90,aGk)] [] 0 false [lh 5 (sa 3 (.lf (.int .i64)::sa 3 [])) 3 1048576 [some 2,none],lh 2 (sa 2 (.lf (.int .i64)::sa 3 [])) 2 1048576 [some 0,none]]) Tryz.func95 rfl rfl (sc' aLl sn') (by kernel_rfl)
def aXb:Summ:=sv2 [E0',E5',E1'] [E2']
theorem bC5:Ds 130 aXb:=aJ (C:=cg [(101,jB),(191,oB),(192,aWF)] [] 0 false [] 3) Tryz.func130 rfl rfl (sc' lH (sc' aH6 (sc' bCz sn'))) (by kernel_rfl)
def aLr:Summ:=sv2 [E0',E13'] [E2']
theorem aVF:Ds 167 aLr:=aJ (C:=cg [(130,aXb)] [] 0 false [lh 2 (sa 3 (.lf (.int .i64)::sa 3 [])) 3 16777216 [some 0,none]] 2) Tryz.func167 rfl rfl (sc' bC5 sn') (by kernel_rfl)
def aXc:Summ:=sv2 [E0'] [E2']
theorem bC6:Ds 97 aXc:=aJ (C:=cg [(167,aLr),(168,aCO)] [] 0 false [lh 7 (sa 3 (.lf (.int .i64)::sa 3 [])) 3 1048576 [some 2,none],lh 2 (sa 2 (.lf (.int .i64)::sa 3 [])) 2 1048576 [some 0,none]] 1) Tryz.func97 rfl rfl (sc' aVF (sc' aLq sn')) (by kernel_rfl)
def bFN:Summ:=sv1 [E0',E11'] [⟨false,[.sl 0 16777216 true]⟩]
def bBo:Summ:=sv2 [E0',E8'] [E2']
theorem bER:Ds 32 bBo:=aJ (C:=cg [(89,aW5),(90,aGk),(91,aW6),(92,aW7),(93,aW8),(94,aW9),(95,aXa),(96,aWG),(97,aXc)] [] 0 false [] 2) Tryz.func32 rfl rfl (sc' bCZ (sc' aLl (sc' bC0 (sc' bC1 (sc' bC2 (sc' bC3 (sc' bC4 (sc' bCE (sc' bC6 sn'))))))))) (by kernel_rfl)
def bC7:Summ:=sv2 [E0'] [E8']
theorem bC8:Ds 10 bC7:=aJ (C:=cg [(32,bBo)] [] 0 false [(2,{hv:=(sa 2 (.lf (.int .i64)::sa 3 [])),cnt:=2,top:=1048576,ex:=[(some 0,(sa 2 (.lf (.int .i64)::sa 3 []))),(none,(.same :: .lf (.int .i64) :: .lf (.int .i64)::sa 3 []))]})] 1) Tryz.func10 rfl rfl (sc' bER sn') (by kernel_rfl)
def aXd:Summ:=sv1 [E3'] [E9']
theorem bC9:Ds 51 aXd:=aJ (C:=cf [] [] 0 false [lh 3 [.same,.acc 0 0 1,.lf (.int .i64),.same,.same] 2 1048576 [some 0]]) Tryz.func51 rfl rfl sn' (by kernel_rfl)
def aIa:Summ:=sv1 [E3'] [E9']
theorem aSP:Ds 53 aIa:=aJ (C:=cf [] [] 0 false [lh 3 [.same,.acc 0 0 1,.lf (.int .i64),.same,.same] 2 1048576 [some 0]]) Tryz.func53 rfl rfl sn' (by kernel_rfl)
def aXe:Summ:=sv2 [E0',E3'] [E2']
theorem bDa:Ds 54 aXe:=aJ (C:=cg [(112,sE),(58,aDl)] [] 0 false [lh 2 (sa 3 (.lf (.int .i64)::sa 5 [])) 3 16777216 [some 0,none],lh 8 (sa 3 (.lf (.int .i64)::sa 5 [])) 3 16777216 [some 2,none]] 2) Tryz.func54 rfl rfl (sc' wX (sc' aGg sn')) (by kernel_rfl)
def aXf:Summ:=sv2 [E0',E3'] [E2']
theorem bDb:Ds 55 aXf:=aJ (C:=cg [(58,aDl),(113,aVw)] [] 0 false [lh 3 (sa 3 (.lf (.int .i64)::sa 5 [])) 3 16777216 [some 0,none]] 2) Tryz.func55 rfl rfl (sc' aGg (sc' bBi sn')) (by kernel_rfl)
def aXg:Summ:=sv2 [E3'] [E2']
theorem bDc:Ds 56 aXg:=aJ (C:=cg [(114,aPx),(29,aGi)] [] 0 false [(2,{hv:=(sa 2 (.lf (.int .i64)::sa 2 [])),cnt:=2,top:=1048576,ex:=[(some 0,(sa 2 (.lf (.int .i64)::sa 2 []))),(none,[.same,.lf .bool,.lf (.int .i64),.same,.same])]})] 1) Tryz.func56 rfl rfl (sc' aWL (sc' aH7 sn')) (by kernel_rfl)
def aXh:Summ:=sv2 [E3'] [E2']
theorem bDd:Ds 57 aXh:=aJ (C:=cg [(114,aPx),(29,aGi)] [] 0 false [lh 6 (sa 2 (.lf .bool :: .lf (.int .i64)::sa 2 [])) 3 1048576 [some 2],(2,{hv:=[.same,.any,.lf (.int .i64),.same,.same],cnt:=2,top:=1048576,ex:=[(some 0,[.same,.any,.lf (.int .i64),.same,.same]),(none,(sa 2 (.lf (.int .i64)::sa 2 [])))]})] 1) Tryz.func57 rfl rfl (sc' aWL (sc' aH7 sn')) (by kernel_rfl)
def bBp:Summ:=sv2 [E0',E3',⟨false,[.rng .i64 0 20]⟩] [E2']
theorem bES:Ds 20 bBp:=aJ (C:=cg [(51,aXd),(50,aJe),(52,aWZ),(53,aIa),(54,aXe),(55,aXf),(56,aXg),(57,aXh),(58,aDl),(59,aH9),(60,aNm),(61,aNl),(62,aNn)] [] 0 false [lh 23 (sa 5 (.lf (.int .i64)::sa 5 [])) 5 16777216 [some 1,none]] 3) Tryz.func20 rfl rfl (sc' bC9 (sc' aPF (sc' bCV (sc' aSP (sc' bDa (sc' bDb (sc' bDc (sc' bDd (sc' aGg (sc' aSL (sc' aYZ (sc' aYY (sc' aY0 sn'))))))))))))) (by kernel_rfl)
def bET:Summ:=sv2 [E0',E3',⟨false,[.rng .i64 0 21]⟩] [E2']
theorem bEU:Ds 11 bET:=aJ (C:=cg [(33,aW1),(20,bBp)] [] 0 false [lh 4 (sa 4 (.lf (.int .i64)::sa 5 [])) 4 1048576 [some 0,none]] 3) Tryz.func11 rfl rfl (sc' bCW (sc' bES sn')) (by kernel_rfl)
def aBa:Summ:=sv1 [E1'] [E8']
def bEV:Cfg:=cf [] [(88,aBa,0)] 0 true [lh 3 (.same :: .lf (.int .i64) :: .lf (.int .i64)::sa 5 []) 2 1048576 [some 0],lh 7 (.same :: .lf (.int .i64) :: .lf (.int .i64)::sa 5 []) 2 1048576 [some 2]]
theorem bEW:∀ x,x∈([(88,aBa,0)]:List (FuncId×Summ×Nat))→Ds x.1 x.2.1 :=
 aAt (fun x=>bEV) (all_cons ⟨rfl,rfl,rfl,sn',rfl,_,Tryz.func88,by kernel_rfl⟩ (aD8))
theorem aLs:Ds 88 aBa:=bEW (88,aBa,0) (by simp)
def aCP:Summ:=sv1 [⟨false,[.sl 8 16777216 false]⟩] [E8']
theorem aIb:Ds 86 aCP:=aJ (C:=cf [(88,aBa)] [] 0 false [lh 3 [.same,.lf (.int .i64),.lf (.int .i64)] 2 16777216 [some 0]]) Tryz.func86 rfl rfl (sc' aLs sn') (by kernel_rfl)
def sF:Summ:=sv1 [⟨false,[.sl 12 16777216 false]⟩] [E8']
def aSQ:Cfg:=cf [(88,aBa),(86,aCP)] [(87,sF,0)] 0 false [lh 3 [.same,.lf (.int .i64),.lf (.int .i64)] 2 16777216 [some 0]]
theorem aSR:∀ x,x∈([(87,sF,0)]:List (FuncId×Summ×Nat))→Ds x.1 x.2.1 :=
 aAt (fun x=>aSQ) (all_cons ⟨rfl,rfl,rfl,(sc' aLs (sc' aIb sn')),rfl,_,Tryz.func87,by kernel_rfl⟩ (aD8))
theorem aSS:Ds 87 sF:=aSR (87,sF,0) (by simp)
def bDe:Summ:=sv1 [E3'] [E2']
theorem bDf:Ds 31 bDe:=aJ (C:=cf [(86,aCP),(87,sF),(88,aBa)] [] 0 false [lh 7 [.same,.lf (.int .i64),.same,.lf (.int .i64),.same,.same] 3 1048576 [some 2],lh 3 [.same,.lf (.int .i64),.lf (.int .i64),.same,.same] 2 1048576 [some 0],lh 11 [.same,.lf (.int .i64),.lf (.int .i64),.same,.same] 2 1048576 [some 4]]) Tryz.func31 rfl rfl (sc' aIb (sc' aSS (sc' aLs sn'))) (by kernel_rfl)
def aGp:Summ:=sv1 [E9'] [E8']
theorem aPL:Ds 83 aGp:=aJ (C:=cf [] [] 0 false [lh 3 [.same,.lf (.int .i64),.lf (.int .i64)] 2 16777216 [some 0]]) Tryz.func83 rfl rfl sn' (by kernel_rfl)
def aDS:Summ:=sv1 [E13'] [E8']
theorem aMD:Ds 84 aDS:=aJ (C:=cf [(88,aBa)] [] 0 false [lh 3 [.same,.lf (.int .i64),.lf (.int .i64)] 2 16777216 [some 0]]) Tryz.func84 rfl rfl (sc' aLs sn') (by kernel_rfl)
def aIc:Summ:=sv1 [⟨false,[.sl 8 16777216 false]⟩] [E8']
theorem aST:Ds 85 aIc:=aJ (C:=cf [(88,aBa)] [] 0 false [lh 3 [.same,.lf (.int .i64),.lf (.int .i64)] 2 16777216 [some 0]]) Tryz.func85 rfl rfl (sc' aLs sn') (by kernel_rfl)
def bDg:Summ:=sv1 [E0'] [E2']
theorem bDh:Ds 30 bDg:=aJ (C:=cf [(83,aGp),(84,aDS),(85,aIc)] [] 0 false [lh 8 (.same :: .lf (.int .i64)::sa 2 (.lf (.int .i64)::sa 9 [])) 4 1048576 [some 2],lh 3 (.same :: .lf (.int .i64) :: .lf (.int .i64)::sa 3 []) 2 1048576 [some 0]]) Tryz.func30 rfl rfl (sc' aPL (sc' aMD (sc' aST sn'))) (by kernel_rfl)
inductive W4 where
 | a | b | c | d
def nV:W4→Int
 | .a=>18
 | .b=>19
 | .c=>20
 | .d=>21
theorem bEX (w:W4) (O:Orc) (LP:LBs) (s:GSchema) (d:GDoc):yL Tryz.prog (MT 20) {decs:=[(113,.bool)],ups:=[],loops:=[]} Tryz.f20.ntmps O LP Tryz.f20 [(eS s),(eD d),(i6 (nV w))] []=aQ O 62 [(eS s),(eD d),(i6 (nV w))] fun x=>cnd (chk .bool x) (some ((.bool (bC x)),[])) none:=by cases w<;>kernel_rfl
theorem aY2 (w:W4) (s:GSchema) (d:GDoc) (b:Bool) (h:aGG s d (nV w)=some b):bAt s d (nV w)=some b:=by
 have h2:=bN (enc:=fun r=>(aA r,[])) h
 refine aQu (aAp aD) (aZK {decs:=[(113,.bool)],ups:=[],loops:=[]} rfl rfl Tryz.func20 ((bEX w _ _ s d).trans ?_))
 unfold aQ
 rw [show ([(eS s),(eD d),(i6 (nV w))]:List PV).all free=true from rfl]
 simp only [cT]
 rw [show OL Tryz.prog MT XT 62 _ []=_ from h2]
 rfl
theorem aVG {τ:Tb} {v:PV} (h:RsOk τ [⟨false,[.bool]⟩] v):∃ b,v = .bool b:=by
 unfold RsOk at h;cases h with | one h=>exact aPw h
theorem bBq (s:GSchema) (h:qW s≤1048576):∃ b,aB5 s=some b:=by
 obtain ⟨r,hr,ho⟩:=bDh [fG s] (.cons (aPv s h) .nil) (.inl rfl)
 obtain ⟨b,rfl⟩:=aVG ho
 simp only [tys] at hr
 exact ⟨b,aQu (aAp aD) hr⟩
theorem bBr (d:GDoc) (h:mK d≤1048576):∃ b,aB6 d=some b:=by
 obtain ⟨r,hr,ho⟩:=bDf [sW d] (.cons (bFz d h) .nil) (.inl rfl)
 obtain ⟨b,rfl⟩:=aVG ho
 simp only [tys] at hr
 exact ⟨b,aQu (aAp aD) hr⟩
theorem bDi (s:GSchema) (h:qW s≤1048576):∃ b,aWr s=some b:=by
 have hp:=aGe s
 unfold Nr at hp
 obtain ⟨r,hr,ho⟩:=bC8 [fG s] (.cons (aPv s h) .nil) (.inr fun v hv=>by rw [List.mem_singleton.1 hv];show _≤2097152;omega)
 have:∃ n,r = .int .i64 n:=by
  have ho:RsOk tτ [⟨false,[.int .i64]⟩] r:=ho
  unfold RsOk at ho;cases ho with | one h=>exact oA h
 obtain ⟨n,rfl⟩:=this
 simp only [tys] at hr
 exact ⟨n,aQu (aAp uN) hr⟩
theorem bEY (s:GSchema) (d:GDoc) (n:Int) (hs:qW s≤1048576) (hd:mK d≤1048576) (hn:0≤n∧n≤21):∃ b,bAs s d n=some b:=by
 have hp:=aGe s
 have hq:=bCw d
 unfold Nr at hp hq
 obtain ⟨r,hr,ho⟩:=bEU [fG s,sW d,.int .i64 n] (.cons (aPv s hs) (.cons (bFz d hd) (.cons (.one (.rng hn)) .nil))) (.inr fun v hv=>by
  show _≤2097152
  rcases List.mem_cons.1 hv with rfl | hv
  ·omega
  ·rcases List.mem_cons.1 hv with rfl | hv
   ·omega
   ·rw [List.mem_singleton.1 hv];simp [bR])
 obtain ⟨b,rfl⟩:=aVG ho
 simp only [tys] at hr
 exact ⟨b,aQu (aAp aD) hr⟩
theorem aBb (s:GSchema) (d:GDoc) (n:Int) (hs:qW s≤1048576) (hd:mK d≤1048576):sX s d n=some true:=by
 obtain ⟨b8,h8⟩:=bBq s hs
 obtain ⟨b7,h7⟩:=bBr d hd
 have hl:sJ s d=some (bif b8 then b7 else false):=by
  apply aDs
  simp only [kI,h8,h7,aV]
  cases b8<;>rfl
 have hdd:=aLf d
 have hO:∀ o∈d.ops,OOk s d o:=fun o ho=>by
  have h1:=gD bkOp ho
  have h2:=aNi o
  have h3:=lM tF (fun v=>by rw [uO];omega) o.vars
  have h4:=aCe o
  simp only [bkSl] at h4
  exact ⟨⟨by omega⟩,by omega,by omega⟩
 have hops:=lM bkOp aWO d.ops
 have hol:Sm d.ops:=by show d.ops.length<_;omega
 apply yZ
 simp only [gE,hl,aV,aE8]
 cases (bif b8 then b7 else false)
 ·rfl
 by_cases h15:n<18
 ·simp only [aGh s d n (.inl h15),aV,decide_eq_true h15];rfl
 by_cases h17:21<n
 ·simp only [aGh s d n (.inr h17),aV,decide_eq_false h15,show decide (n>21)=true from decide_eq_true h17];rfl
 obtain ⟨c,hc⟩:=bDi s hs
 obtain ⟨k,hk⟩:=bEY s d n hs hd (by omega)
 have hn:18≤n∧n≤21:=by omega
 have hw:∃ w:W4,n=nV w:=by
  rcases (by omega:n=18∨n=19∨n=20∨n=21) with rfl | rfl | rfl | rfl
  ·exact ⟨.a,rfl⟩
  ·exact ⟨.b,rfl⟩
  ·exact ⟨.c,rfl⟩
  ·exact ⟨.d,rfl⟩
 obtain ⟨w,rfl⟩:=hw
 have hr:=aSD s d (nV w) hn hO hol
 have hR:=aY2 w s d _ (aYV s d (nV w) hn hO hol)
 simp only [decide_eq_false h15,show decide (nV w>21)=false from decide_eq_false h17,hc,hk,hr,hR,aV,iW]
 cases c != 0
 ·cases k
  ·rfl
  ·simp
 ·rfl
open Go.ChangeShapes Go.WideShapes Go.ChangeAt Go.RowKit
theorem mixed:Tryz.prog.follows .mixedOrders=true:=by kernel_rfl
theorem bF7 : (Tryz.prog.funcs.toList.all fun fn => !fn.body.isSome || !(fn.name == "runtime.NumGoroutine")) = true := by kernel_rfl
theorem laid:laidOutB Tryz.prog=true:=by kernel_rfl
theorem pok:POk Tryz.prog:=by
 refine ⟨mixed,fun f fn hf hb => ?_⟩
 have hm:fn∈Tryz.prog.funcs.toList:=by
  have:=Array.mem_of_getElem? hf
  simpa using this
 have:=List.all_eq_true.1 bF7 fn hm
 rw [hb] at this
 simpa using this
theorem blOk {H:Type}:BlOk (H:=H) Rows.uptoBulk Rows.uptoBulkAll:=by
 refine ⟨fun l => ?_,fun s => ?_,?_,fun es sp => ?_,fun ps => ?_,fun d r => ?_⟩
 ·cases l<;>simp [Rows.uptoBulk]
 ·simp [Rows.uptoBulk]
 ·simp [Rows.uptoBulk]
 ·simp only [Rows.uptoBulk];omega
 ·simp only [Rows.uptoBulk];omega
 ·simp [Rows.uptoBulkAll]
theorem own:ownKnob Tryz.prog.godebug=none:=by kernel_rfl
end Go.Proofs.YtphmfillajagdaaGreat
