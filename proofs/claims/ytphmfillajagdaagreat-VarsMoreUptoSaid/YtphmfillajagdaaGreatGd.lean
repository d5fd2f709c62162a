import Derived.Test.YtphmfillajagdaaGreatGa
import Derived.Test.YtphmfillajagdaaGreatEd
import Derived.LoopTactic
import Derived.Test.YtphmfillajagdaaGreatEx
import Derived.WalkKit
import Derived.KernelRfl
import Derived.Test.YtphmfillajagdaaGreatGc
import Derived.Test.YtphmfillajagdaaGreatGb
noncomputable section
set_option maxRecDepth 100000
set_option linter.unusedVariables false
set_option linter.unusedSimpArgs false
set_option linter.unusedSimpArgs false
open Go Go.Ev Go.Ev.PV
namespace Go.Proofs.YtphmfillajagdaaGreat
def aH6 (O:Orc) (d:LBs) (s:GSchema) (b:Str) (a:List Int):Option (PV×UP) :=
 aQ O 178 [(eS s),(.str b)] fun c=>cnd (chk (.tup [vS,.bool]) c)
 (cnd (bM (tv c 1))
 (aQ O 228 [(.slice (List.map (PV.int .i64) a) [] false),(zn (tg c 0) 0)] fun x3=>cnd (chk .bool x3)
 (some ((.bool (bM x3)),[])) none)
 (some ((.bool false),[]))) none
def aGP (s:GSchema) (b:Str) (a:List Int):Option Bool :=
 bnd (aVP s b) fun c =>
 cnd c.2
 (bnd (jX a c.1.kind) fun d =>
 some d)
 (some false)
def bA2:Decs:={decs:=[(12,(.tup [vS,.bool])),(20,.bool)]}
theorem bA3 O c s (b:Str) a:eW 201 bA2 Tryz.f201 O c [(eS s),(.str b),(.slice (List.map (PV.int .i64) a) [] false)] []=aH6 O c s b a:=by kernel_rfl
theorem aXb s b a:Imp (aGP s b a) (aH6 O aG s b a) (Ri aA):=by
 simp only [aGP,aH6,zd,zr];try simp only [evs,tys]
 refine zC rfl fun d _ => ?_;try simp only [zes,evs,tys]
 apply Imp.cnd
 ·refine zC rfl fun c _ => ?_;try simp only [zes,evs,tys]
  exact zR
 ·exact zR
theorem aXc {s b a r} (h:aGP s b a=some r):aVN s b a=some r:=zV aE (aXb s b a) Tryz.func201 (bA3 _ _ s b a) h
abbrev bE:List Sh:=[sf,.str,n6,n6,n6]
def fI (O:Orc) (d:LBs):bO:=fun a b=>cnd (chkL bE a) (cnd (chkU [] b)
 (cnd (decide ((iv a 4)<(iv a 3)))
 (bnd (ix 1 (zs a 0) (zn a 4)) fun c=>cnd (chk (.ref .str) c)
 (cnd ((sv a 1)==(strV (refV c)))
 (some (.ret,[(zs a 0),(zt a 1),(zn a 4),(zn a 3),(zn a 4)],[]))
 (some (.nrm,[(zs a 0),(zt a 1),(zn a 2),(zn a 3),(i6 (w6 ((iv a 4)+1)))],[]))) none)
 (some (.brk 0,(rb bE a),[]))) none) none
def fJ (O:Orc) (b:LBs) (s:List Str) (v0:Str):Option (PV×UP) :=
 bnd (b (fI O b) [(zq PV.str s),(.str v0),(i6 0),(i6 (List.length (List.map PV.str s):Int)),(i6 0)] []) fun a =>
 exIs a.1 (some 0) (cnd (chkL bE a.2.1) (cnd (chkU [] a.2.2)
 (some ((i6 (-1)),[])) none) none)
 (exIs a.1 none (cnd (chkL bE a.2.1) (cnd (chkU [] a.2.2)
 (some ((zn a.2.1 2),[])) none) none)
 (none))
def bR (s:List Str) (v0:Str):Int->Option (Int⊕(Unit⊕Int))
 | a =>
 cnd (decide (a<(List.length s:Int)))
  (bnd (nthI s a) fun b =>
  cnd (v0==b)
  (some (.inr (.inr a)))
  (some (.inl (IntKind.wrap .i64 (a+1)))))
  (some (.inr (.inl ())))
abbrev sW (s:List Str) (v0:Str) (st:Int) (l:List PV) (u:UP):Prop:=l=[(zq PV.str s),(.str v0),(i6 0),(i6 (List.length s:Int)),(i6 st)]/\u=[]
abbrev sX (s:List Str) (v0:Str) (p:Unit⊕Int) (r:EU):Prop:=elim p (fun (p:Unit)=>∃ (b:Int),r=(Ex.brk 0,[(zq PV.str s),(.str v0),(i6 0),(i6 (List.length s:Int)),(i6 b)],[])) (fun c=>(fun (p:Int)=>∃ (a:Int),r=(Ex.ret,[(zq PV.str s),(.str v0),(i6 p),(i6 (List.length s:Int)),(i6 a)],[])) c)
def cP (s:List Str) (v0:Str):Option Int :=
 bnd (aX (bR s v0) 0) fun a=>elim a
 (fun c =>
 some (-1))
 (fun b =>
 some b)
def tS:Decs:={decs:=[(14,(.ref .str))],loops:=[(2,[],⟨bE,[],[(some 0,bE,[]),(none,bE,[])]⟩)]}
theorem tT O a (s:List Str) (v0:Str):eW 200 tS Tryz.f200 O a [(zq PV.str s),(.str v0)] []=fJ O a s v0:=by kernel_rfl
theorem qP s v0:Lok (sW s v0) (bR s v0) (fI O aG) (sX s v0):=by
 rintro a l u ⟨rfl,rfl⟩;simp only [bR,fI,zd,zr];refine zG ?_;try simp only [evs,tys]
 apply Imp.cnd
 ·refine zX PV.str (fun _=>rfl) fun b _ => ?_;try simp only [evs,tys]
  apply Imp.cnd;·exact zT ⟨a,zE⟩
  ·exact zN
 ·exact zB ⟨a,zE⟩
theorem sY s v0:Imp (cP s v0) (fJ O aG s v0) (Ri aZ):=by
 simp only [cP,fJ,zd,zr];try simp only [evs,tys]
 refine zL (qP s v0) ?_;rintro (p | d) b a
 ·try simp only [aO,aP]
  obtain ⟨e,rfl⟩:=a;refine zH ?_;try simp only [evs,tys]
  exact zR
 ·try simp only [aO,aP]
  obtain ⟨c,rfl⟩:=a;refine Imp.exMiss rfl ?_;refine zH ?_;try simp only [evs,tys]
  exact zR
theorem sZ {s v0 r} (h:cP s v0=some r):eA s v0=some r:=zV iZ (sY s v0) Tryz.func200 (tT _ _ s v0) h
abbrev eM:List Sh:=[st',sf,n6,n6,n6,n6,.str,sf,sf]
def aBd (O:Orc) (e:LBs):bO:=fun b d=>cnd (chkL eM b) (cnd (chkU [] d)
 (cnd (decide ((iv b 3)<(iv b 2)))
 (bnd (ix 5 (zs b 1) (zn b 3)) fun a=>cnd (chk (.ref mM) a)
 (aQ O 230 [(zo b 0),(.agg [(zn (rf a) 0),(zn (rf a) 1),(zt (rf a) 2),(zs (rf a) 3),(zs (rf a) 4)])] fun c=>cnd (chk st' c)
 (some (.nrm,(pu (pu (rb eM b) 0 (.slice (esV c) [] true)) 3 (i6 (w6 ((iv b 3)+1)))),[])) none) none)
 (some (.brk 1,(rb eM b),[]))) none) none
abbrev yY:List Sh:=[st',sf,n6,n6,n6,n6,.str,sf,sf]
def aBe (O:Orc) (e:LBs):bO:=fun a c=>cnd (chkL yY a) (cnd (chkU [] c)
 (cnd (decide ((iv a 3)<(iv a 2)))
 (bnd (ix 6 (zs a 1) (zn a 3)) fun b=>cnd (chk (.ref dA) b)
 (aQ O 230 [(zo a 0),(.agg [(zn (rf b) 1),(zn (rf b) 2),(zt (rf b) 3),(zs (rf b) 4),(zs (rf b) 5)])] fun d=>cnd (chk st' d)
 (some (.nrm,(pu (pu (rb yY a) 0 (.slice (esV d) [] true)) 3 (i6 (w6 ((iv a 3)+1)))),[])) none) none)
 (some (.brk 3,(rb yY a),[]))) none) none
def aBf (O:Orc) (d:LBs) (c:List Str) (v0:GValue):Option (PV×UP) :=
 cnd (v0.kind==8)
 (aQ O 136 [(zq PV.str c),(.str v0.s)] fun e=>cnd (chk .bool e)
 (cnd (!(bM e))
 (bnd (apd 1 (zp PV.str c) (.slice [(.str v0.s)] [] true)) fun x3=>cnd (chk st' x3)
 (some ((.slice (esV x3) [] true),[])) none)
 (some ((zp PV.str c),[]))) none)
 (cnd (v0.kind==6)
 (bnd (d (aBd O d) [(zp PV.str c),(zq aJ v0.l),(i6 (List.length (List.map aJ v0.l):Int)),(i6 0),(i6 v0.kind),(i6 v0.n),(.str v0.s),(zq aJ v0.l),(zq aD v0.m)] []) fun a =>
 exIs a.1 (some 1) (cnd (chkL eM a.2.1) (cnd (chkU [] a.2.2)
 (some ((zo a.2.1 0),[])) none) none)
 (none))
 (cnd (v0.kind==7)
 (bnd (d (aBe O d) [(zp PV.str c),(zq aD v0.m),(i6 (List.length (List.map aD v0.m):Int)),(i6 0),(i6 v0.kind),(i6 v0.n),(.str v0.s),(zq aJ v0.l),(zq aD v0.m)] []) fun b =>
 exIs b.1 (some 3) (cnd (chkL eM b.2.1) (cnd (chkU [] b.2.2)
 (some ((zo b.2.1 0),[])) none) none)
 (none))
 (some ((zp PV.str c),[]))))
def kR (v0:GValue):((List Str)×Int)->Option (((List Str)×Int)⊕((List Str)))
 | (b,a) =>
 cnd (decide (a<(List.length v0.l:Int)))
  (bnd (nthI v0.l a) fun d =>
  bnd (aAi b d) fun c =>
  some (.inl (c,(IntKind.wrap .i64 (a+1)))))
  (some (.inr b))
abbrev aEt (v0:GValue) (a b:PV):List PV:=[a,(zq aJ v0.l),(i6 (List.length v0.l:Int)),b,(i6 v0.kind),(i6 v0.n),(.str v0.s),(zq aJ v0.l),(zq aD v0.m)]
abbrev aNO (v0:GValue) (st:(List Str)×Int) (l:List PV) (u:UP):Prop:=l=(aEt v0 (zp PV.str st.1) (i6 st.2))/\u=[]
abbrev aNP (v0:GValue) (p:(List Str)) (r:EU):Prop:=∃ (a:Int),r=(Ex.brk 1,(aEt v0 (zp PV.str p) (i6 a)),[])
def kS (v0:GValue):((List Str)×Int)->Option (((List Str)×Int)⊕((List Str)))
 | (b,a) =>
 cnd (decide (a<(List.length v0.m:Int)))
  (bnd (nthI v0.m a) fun d =>
  bnd (aAi b d.v) fun c =>
  some (.inl (c,(IntKind.wrap .i64 (a+1)))))
  (some (.inr b))
abbrev aEu (v0:GValue) (a b:PV):List PV:=[a,(zq aD v0.m),(i6 (List.length v0.m:Int)),b,(i6 v0.kind),(i6 v0.n),(.str v0.s),(zq aJ v0.l),(zq aD v0.m)]
abbrev aNQ (v0:GValue) (st:(List Str)×Int) (l:List PV) (u:UP):Prop:=l=(aEu v0 (zp PV.str st.1) (i6 st.2))/\u=[]
abbrev aNR (v0:GValue) (p:(List Str)) (r:EU):Prop:=∃ (a:Int),r=(Ex.brk 3,(aEu v0 (zp PV.str p) (i6 a)),[])
def xV (a:List Str) (v0:GValue):Option (List Str) :=
 cnd (v0.kind==8)
 (bnd (bJ a v0.s) fun e =>
 cnd (!e)
 (bnd (tapp a [v0.s]) fun d =>
 some d)
 (some a))
 (cnd (v0.kind==6)
 (bnd (aX (kR v0) (a,0)) fun b =>
 some b)
 (cnd (v0.kind==7)
 (bnd (aX (kS v0) (a,0)) fun c =>
 some c)
 (some a)))
def aQQ:Decs:={decs:=[(16,.bool),(22,st'),(30,(.ref mM)),(34,st'),(43,(.ref dA)),(48,st')],loops:=[(7,[(3,5)],⟨eM,[],[(some 1,eM,[])]⟩),(13,[(3,5)],⟨eM,[],[(some 3,eM,[])]⟩)]}
theorem aQR O a (b:List Str) v0:eW 230 aQQ Tryz.f230 O a [(zp PV.str b),(eV v0)] []=aBf O a b v0:=by kernel_rfl
theorem aJI v0:Lok (aNO v0) (kR v0) (aBd O aG) (aNP v0):=by
 rintro ⟨b,a⟩ l u ⟨rfl,rfl⟩;simp only [kR,aBd,zd,zr];refine zG ?_;try simp only [evs,tys]
 apply Imp.cnd
 ·refine zX aJ aAc fun d _ => ?_;try simp only [evs,tys]
  refine zC rfl fun c _ => ?_;try simp only [zes,evs,tys]
  exact zN
 ·exact zB ⟨a,zE⟩
theorem aJJ v0:Lok (aNQ v0) (kS v0) (aBe O aG) (aNR v0):=by
 rintro ⟨b,a⟩ l u ⟨rfl,rfl⟩;simp only [kS,aBe,zd,zr];refine zG ?_;try simp only [evs,tys]
 apply Imp.cnd
 ·refine zX aD eE fun d _ => ?_;try simp only [evs,tys]
  refine zC rfl fun c _ => ?_;try simp only [zes,evs,tys]
  exact zN
 ·exact zB ⟨a,zE⟩
theorem aNS g v0:Imp (xV g v0) (aBf O aG g v0) (Ri fA):=by
 simp only [xV,aBf,zd,zr];try simp only [evs,tys]
 apply Imp.cnd
 ·refine zC rfl fun k _ => ?_;try simp only [zes,evs,tys]
  apply Imp.cnd
  ·refine Imp.op (f:=fun a => .slice (List.map PV.str a) [] true) (fun a h=>uA (enc:=PV.str) zI zI (fun a=>by first | rfl | simp only [evs,tys,evc]) h) (fun a=>rfl) fun j i => ?_;try simp only [evs,tys]
   exact zR
  ·exact zR
 ·apply Imp.cnd
  ·refine zL (aJI v0) ?_;rintro c _ ⟨e,rfl⟩;refine zH ?_;try simp only [evs,tys]
   exact zR
  ·apply Imp.cnd
   ·refine zL (aJJ v0) ?_;rintro d _ ⟨b,rfl⟩;refine zH ?_;try simp only [evs,tys]
    exact zR
   ·exact zR
theorem aNT {a v0 r} (h:xV a v0=some r):aAi a v0=some r:=zV sN (aNS a v0) Tryz.func230 (aQR _ _ a v0) h
abbrev jE:List Sh:=[st',sf,n6,n6]
def tU (O:Orc) (i:LBs):bO:=fun a h=>cnd (chkL jE a) (cnd (chkU [] h)
 (cnd (decide ((iv a 3)<(iv a 2)))
 (bnd (ix 7 (zs a 1) (zn a 3)) fun b=>cnd (chk (.ref mB) b)
 (cnd ((iv (rf b) 0)==1)
 (aQ O 136 [(zs a 0),(zt (rf b) 2)] fun d=>cnd (chk .bool d)
 (cnd (!(bM d))
 (bnd (apd 1 (zo a 0) (.slice [(zt (rf b) 2)] [] true)) fun e=>cnd (chk st' e)
 (aQ O 69 [(.slice (esV e) [] true),(zs (rf b) 6)] fun g=>cnd (chk st' g)
 (some (.nrm,[(.slice (esV g) [] true),(zs a 1),(zn a 2),(i6 (w6 ((iv a 3)+1)))],[])) none) none)
 (aQ O 69 [(zo a 0),(zs (rf b) 6)] fun c=>cnd (chk st' c)
 (some (.nrm,[(.slice (esV c) [] true),(zs a 1),(zn a 2),(i6 (w6 ((iv a 3)+1)))],[])) none)) none)
 (aQ O 69 [(zo a 0),(zs (rf b) 6)] fun f=>cnd (chk st' f)
 (some (.nrm,[(.slice (esV f) [] true),(zs a 1),(zn a 2),(i6 (w6 ((iv a 3)+1)))],[])) none)) none)
 (some (.brk 0,(rb jE a),[]))) none) none
def tV (O:Orc) (c:LBs) (d:List Str) (b:List GSel):Option (PV×UP) :=
 bnd (c (tU O c) [(zp PV.str d),(zq aF b),(i6 (List.length (List.map aF b):Int)),(i6 0)] []) fun a =>
 exIs a.1 (some 0) (cnd (chkL jE a.2.1) (cnd (chkU [] a.2.2)
 (some ((zo a.2.1 0),[])) none) none)
 (none)
def eH (d:List GSel):((List Str)×Int)->Option (((List Str)×Int)⊕((List Str)))
 | (b,a) =>
 cnd (decide (a<(List.length d:Int)))
  (bnd (nthI d a) fun c =>
  cnd (c.kind==1)
  (bnd (bJ b c.name) fun f =>
  cnd (!f)
   (bnd (tapp b [c.name]) fun g =>
   bnd (eK g c.sels) fun i =>
   some (.inl (i,(IntKind.wrap .i64 (a+1)))))
   (bnd (eK b c.sels) fun e =>
   some (.inl (e,(IntKind.wrap .i64 (a+1))))))
  (bnd (eK b c.sels) fun h =>
  some (.inl (h,(IntKind.wrap .i64 (a+1))))))
  (some (.inr b))
abbrev aH7 (a:List GSel) (st:(List Str)×Int) (l:List PV) (u:UP):Prop:=l=[(zp PV.str st.1),(zq aF a),(i6 (List.length a:Int)),(i6 st.2)]/\u=[]
abbrev aH8 (a:List GSel) (p:(List Str)) (r:EU):Prop:=(fun (p:(List Str))=>∃ (b:Int),r=(Ex.brk 0,[(zp PV.str p),(zq aF a),(i6 (List.length a:Int)),(i6 b)],[])) p
def lU (c:List Str) (a:List GSel):Option (List Str) :=
 bnd (aX (eH a) (c,0)) fun b =>
 some b
def aJK:Decs:={decs:=[(11,(.ref mB)),(20,.bool),(27,st'),(31,st')],loops:=[(2,[],⟨jE,[],[(some 0,jE,[])]⟩)]}
theorem aJL O b (c:List Str) a:eW 69 aJK Tryz.f69 O b [(zp PV.str c),(zq aF a)] []=tV O b c a:=by kernel_rfl
theorem aFP b:Lok (aH7 b) (eH b) (tU O aG) (aH8 b):=by
 rintro ⟨d,c⟩ l u ⟨rfl,rfl⟩;simp only [eH,tU,zd,zr];refine zG ?_;try simp only [evs,tys]
 apply Imp.cnd
 ·refine zX aF gN fun n _ => ?_;try simp only [evs,tys]
  apply Imp.cnd
  ·refine zC rfl fun i _ => ?_;try simp only [zes,evs,tys]
   apply Imp.cnd
   ·refine Imp.op (f:=fun a => .slice (List.map PV.str a) [] true) (fun a h=>uA (enc:=PV.str) zI zI (fun a=>by first | rfl | simp only [evs,tys,evc]) h) (fun a=>rfl) fun j e => ?_;try simp only [evs,tys]
    refine zC rfl fun m _ => ?_;try simp only [zes,evs,tys]
    exact zN
   ·refine zC rfl fun g _ => ?_;try simp only [zes,evs,tys]
    exact zN
  ·refine zC rfl fun k _ => ?_;try simp only [zes,evs,tys]
   exact zN
 ·exact zB ⟨c,zE⟩
theorem aH9 d a:Imp (lU d a) (tV O aG d a) (Ri fA):=by
 simp only [lU,tV,zd,zr];try simp only [evs,tys]
 refine zL (aFP a) ?_;rintro c _ ⟨b,rfl⟩;refine zH ?_;try simp only [evs,tys]
 exact zR
theorem aAp {b a r} (h:lU b a=some r):eK b a=some r:=zV sN (aH9 b a) Tryz.func69 (aJL _ _ b a) h
abbrev wP:List Sh:=[sf,st',n6,sf,n6]
def aIa (O:Orc) (g:LBs):bO:=fun a e=>cnd (chkL wP a) (cnd (chkU [] e)
 (cnd (decide ((iv a 4)<(List.length (ev a 3):Int)))
 (bnd (ix 1 (zs a 3) (zn a 4)) fun f=>cnd (chk (.ref .str) f)
 (aQ O 29 [(zs a 1),(.str (strV (refV f)))] fun b=>cnd (chk .bool b)
 (cnd (!(bM b))
 (bnd (ix 1 (zs a 3) (zn a 4)) fun d=>cnd (chk (.ref .str) d)
 (bnd (apd 1 (zo a 1) (.slice [(.str (strV (refV d)))] [] true)) fun c=>cnd (chk st' c)
 (some (.nrm,[(zs a 0),(.slice (esV c) [] true),(zn a 2),(zs a 3),(i6 (w6 ((iv a 4)+1)))],[])) none) none)
 (some (.nrm,(pu (rb wP a) 4 (i6 (w6 ((iv a 4)+1)))),[]))) none) none)
 (some (.brk 2,(rb wP a),[]))) none) none
def aIb (O:Orc) (f:LBs):bO:=fun c e=>cnd (chkL [sf,st',n6] c) (cnd (chkU [] e)
 (cnd (decide ((iv c 2)<(List.length (ev c 0):Int)))
 (bnd (ix 6 (zs c 0) (zn c 2)) fun a=>cnd (chk (.ref dA) a)
 (aQ O 214 [(.agg [(zn (rf a) 1),(zn (rf a) 2),(zt (rf a) 3),(zs (rf a) 4),(zs (rf a) 5)])] fun d=>cnd (chk sf d)
 (bnd (f (aIa O f) [(zs c 0),(zo c 1),(zn c 2),(.slice (esV d) [] false),(i6 0)] []) fun b =>
 exIs b.1 (some 2) (cnd (chkL [sf,st',n6,sf,n6] b.2.1) (cnd (chkU [] b.2.2)
 (some (.nrm,[(zs b.2.1 0),(zo b.2.1 1),(i6 (w6 ((iv b.2.1 2)+1)))],[])) none) none)
 (none)) none) none)
 (some (.brk 0,[(zs c 0),(zo c 1),(zn c 2)],[]))) none) none
def aIc (O:Orc) (c:LBs) (m:List GMember) (b:List Str):Option (PV×UP) :=
 bnd (c (aIb O c) [(zq aD m),(zp PV.str b),(i6 0)] []) fun a =>
 exIs a.1 (some 0) (cnd (chkL [sf,st',n6] a.2.1) (cnd (chkU [] a.2.2)
 (some ((zo a.2.1 1),[])) none) none)
 (none)
def nW (c:List Str):((List Str)×Int)->Option (((List Str)×Int)⊕((List Str)))
 | (a,b) =>
 cnd (decide (b<(List.length c:Int)))
  (bnd (nthI c b) fun d =>
  bnd (xJ a d) fun e =>
  cnd (!e)
  (bnd (nthI c b) fun g =>
  bnd (tapp a [g]) fun f =>
  some (.inl (f,(IntKind.wrap .i64 (b+1)))))
  (some (.inl (a,(IntKind.wrap .i64 (b+1))))))
  (some (.inr a))
abbrev aMd (m:List GMember) (a:Int) (b:List Str) (st:(List Str)×Int) (l:List PV) (u:UP):Prop:=l=[(zq aD m),(zp PV.str st.1),(i6 a),(zq PV.str b),(i6 st.2)]/\u=[]
abbrev aXd (m:List GMember) (b:Int) (c:List Str) (p:(List Str)) (r:EU):Prop:=(fun (p:(List Str))=>∃ (a:Int),r=(Ex.brk 2,[(zq aD m),(zp PV.str p),(i6 b),(zq PV.str c),(i6 a)],[])) p
def rO (m:List GMember):((List Str)×Int)->Option (((List Str)×Int)⊕((List Str)))
 | (a,b) =>
 cnd (decide (b<(List.length m:Int)))
  (bnd (nthI m b) fun d =>
  bnd (aVO d.v) fun e =>
  bnd (aX (nW e) (a,0)) fun c =>
  some (.inl (c,(IntKind.wrap .i64 (b+1)))))
  (some (.inr a))
abbrev aXe (m:List GMember) (st:(List Str)×Int) (l:List PV) (u:UP):Prop:=l=[(zq aD m),(zp PV.str st.1),(i6 st.2)]/\u=[]
abbrev aXf (m:List GMember) (p:(List Str)) (r:EU):Prop:=(fun (p:(List Str))=>∃ (a:Int),r=(Ex.brk 0,[(zq aD m),(zp PV.str p),(i6 a)],[])) p
def aGQ (m:List GMember) (b:List Str):Option (List Str) :=
 bnd (aX (rO m) (b,0)) fun a =>
 some a
def bA4:Decs:={decs:=[(16,(.ref dA)),(19,sf),(29,(.ref .str)),(31,.bool),(36,(.ref .str)),(39,st')],loops:=[(2,[],⟨[sf,st',n6],[],[(some 0,[sf,st',n6],[])]⟩),(6,[],⟨wP,[],[(some 2,wP,[])]⟩)]}
theorem bA5 O b m (a:List Str):eW 220 bA4 Tryz.f220 O b [(zq aD m),(zp PV.str a)] []=aIc O b m a:=by kernel_rfl
theorem aQS m b c:∀ st l u,aMd m b c st l u->Imp (nW c st) (aIa O aG l u) (oY (aMd m b c) (aXd m b c)):=by
 rintro ⟨e,d⟩ l u ⟨rfl,rfl⟩;simp only [nW,aIa,zd,zr];refine zG ?_;try simp only [evs,tys]
 apply Imp.cnd
 ·refine zX PV.str (fun _=>rfl) fun i _ => ?_;try simp only [evs,tys]
  refine zC rfl fun j _ => ?_;try simp only [zes,evs,tys]
  apply Imp.cnd
  ·refine zX PV.str (fun _=>rfl) fun n _ => ?_;try simp only [evs,tys]
   refine Imp.op (f:=fun a => .slice (List.map PV.str a) [] true) (fun a h=>uA (enc:=PV.str) zI zI (fun a=>by first | rfl | simp only [evs,tys,evc]) h) (fun a=>rfl) fun k g => ?_;try simp only [evs,tys]
   exact zN
  ·exact zN
 ·exact zB ⟨d,zE⟩
theorem aQT m:Lok (aXe m) (rO m) (aIb O aG) (aXf m):=by
 rintro ⟨b,a⟩ l u ⟨rfl,rfl⟩;simp only [rO,aIb,zd,zr];refine zG ?_;try simp only [evs,tys]
 apply Imp.cnd
 ·refine zX aD eE fun f _ => ?_;try simp only [evs,tys]
  refine zC rfl fun d _ => ?_;try simp only [zes,evs,tys]
  refine zL (aQS m a d) ?_;rintro c _ ⟨e,rfl⟩;refine zH ?_;try simp only [evs,tys]
  exact zN
 ·exact zB ⟨a,zE⟩
theorem aXg m a:Imp (aGQ m a) (aIc O aG m a) (Ri fA):=by
 simp only [aGQ,aIc,zd,zr];try simp only [evs,tys]
 refine zL (aQT m) ?_;rintro b _ ⟨c,rfl⟩;refine zH ?_;try simp only [evs,tys]
 exact zR
theorem aXh {m a r} (h:aGQ m a=some r):aPS m a=some r:=zV sN (aXg m a) Tryz.func220 (bA5 _ _ m a) h
def aId (O:Orc) (b:LBs) (v0:GValue):Option (PV×UP) :=
 aQ O 236 [(eV v0),(.slice [] [] true)] fun a=>cnd (chk st' a)
 (some ((.slice (esV a) [] false),[])) none
def aGR (v0:GValue):Option (List Str) :=
 bnd (aLb v0 ([]:List Str)) fun a =>
 some a
def bA6:Decs:={decs:=[(4,st')]}
theorem bA7 O a v0:eW 214 bA6 Tryz.f214 O a [(eV v0)] []=aId O a v0:=by kernel_rfl
theorem aXi v0:Imp (aGR v0) (aId O aG v0) (Ri bU):=by
 simp only [aGR,aId,zd,zr];try simp only [evs,tys]
 refine zC rfl fun a _ => ?_;try simp only [zes,evs,tys]
 exact zR
theorem aXj {v0 r} (h:aGR v0=some r):aVO v0=some r:=zV jU (aXi v0) Tryz.func214 (bA7 _ _ v0) h
abbrev nX:List Sh:=[.str,(.ptr 0 4 0),.bool,sf,n6,n6,n6,.str,st',st',st',st',sf,.str,.str]
def aIe (O:Orc) (d:LBs):bO:=fun a c=>cnd (chkL nX a) (cnd (chkU [] c)
 (cnd (decide ((iv a 5)<(iv a 4)))
 (bnd (ix 6 (zs a 3) (zn a 5)) fun b=>cnd (chk (.ref vS) b)
 (cnd ((sv (rf b) 1)==(sv a 0))
 (some (.ret,(pu (pu (pu (pu (pu (pu (pu (rb nX a) 2 (.bool true)) 6 (zn (rf b) 0)) 7 (zt (rf b) 1)) 8 (zs (rf b) 2)) 9 (zs (rf b) 3)) 10 (zs (rf b) 4)) 11 (zs (rf b) 5)),[]))
 (some (.nrm,(pu (rb nX a) 5 (i6 (w6 ((iv a 5)+1)))),[]))) none)
 (some (.brk 0,(rb nX a),[]))) none) none
def aIf (O:Orc) (d:LBs) (s:GSchema) (b:Str):Option (PV×UP) :=
 aQ O 216 [(.str b)] fun c=>cnd (chk .bool c)
 (cnd (bM c)
 (some ((.tuple [(.agg [(i6 0),(.str b),(.slice [] [] false),(.slice [] [] false),(.slice [] [] false),(.slice [] [] false)]),(.bool true)]),[]))
 (bnd (d (aIe O d) [(.str b),(.ptr 0 4 0),(.bool false),(zq aL s.defs),(i6 (List.length (List.map aL s.defs):Int)),(i6 0),(i6 0),(.str []),(.slice [] [] true),(.slice [] [] true),(.slice [] [] true),(.slice [] [] true),(zq aL s.defs),(.str s.query),(.str s.mutation)] []) fun a =>
 exIs a.1 (some 0) (cnd (chkL nX a.2.1) (cnd (chkU [] a.2.2)
 (some ((.tuple [(.agg [(i6 0),(.str []),(.slice [] [] false),(.slice [] [] false),(.slice [] [] false),(.slice [] [] false)]),(.bool false)]),[])) none) none)
 (exIs a.1 none (cnd (chkL [.str,(.ptr 0 4 0),.bool,sf,n6,n6,n6,.str,sf,sf,sf,sf,sf,.str,.str] a.2.1) (cnd (chkU [] a.2.2)
 (some ((.tuple [(.agg [(zn a.2.1 6),(zt a.2.1 7),(zs a.2.1 8),(zs a.2.1 9),(zs a.2.1 10),(zs a.2.1 11)]),(zb a.2.1 2)]),[])) none) none)
 (none)))) none
def rP (s:GSchema) (c:Str):Int->Option (Int⊕(Unit⊕(Int×Str×(List Str)×(List GFieldDef)×(List Str)×(List GParam))))
 | b =>
 cnd (decide (b<(List.length s.defs:Int)))
  (bnd (nthI s.defs b) fun a =>
  cnd (a.name==c)
  (some (.inr (.inr (a.kind,a.name,a.faces,a.fields,a.parts,a.params))))
  (some (.inl (IntKind.wrap .i64 (b+1)))))
  (some (.inr (.inl ())))
abbrev aFQ (s:GSchema) (a:Str) (d f g e i c b h:PV):List PV:=[(.str a),(.ptr 0 4 0),d,(zq aL s.defs),(i6 (List.length s.defs:Int)),f,g,e,i,c,b,h,(zq aL s.defs),(.str s.query),(.str s.mutation)]
abbrev aXk (s:GSchema) (a:Str) (st:Int) (l:List PV) (u:UP):Prop:=l=(aFQ s a (.bool false) (i6 st) (i6 0) (.str []) (.slice [] [] true) (.slice [] [] true) (.slice [] [] true) (.slice [] [] true))/\u=[]
abbrev aXl (s:GSchema) (a:Str) (p:Unit⊕(Int×Str×(List Str)×(List GFieldDef)×(List Str)×(List GParam))) (r:EU):Prop:=elim p (fun (p:Unit)=>∃ (c:Int),r=(Ex.brk 0,(aFQ s a (.bool false) (i6 c) (i6 0) (.str []) (.slice [] [] true) (.slice [] [] true) (.slice [] [] true) (.slice [] [] true)),[])) (fun (p:Int×Str×(List Str)×(List GFieldDef)×(List Str)×(List GParam))=>∃ (b:Int),r=(Ex.ret,(aFQ s a (.bool true) (i6 b) (i6 p.1) (.str p.2.1) (zq PV.str p.2.2.1) (zq bL p.2.2.2.1) (zq PV.str p.2.2.2.2.1) (zq bB p.2.2.2.2.2)),[]))
def aGS (s:GSchema) (b:Str):Option (GDef×Bool) :=
 bnd (aLh b) fun d =>
 cnd d
 (some ((GDef.mk 0 b ([]:List Str) ([]:List GFieldDef) ([]:List Str) ([]:List GParam)),true))
 (bnd (aX (rP s b) 0) fun c=>elim c
 (fun a =>
 some ((GDef.mk 0 [] ([]:List Str) ([]:List GFieldDef) ([]:List Str) ([]:List GParam)),false))
 (fun a =>
 some ((GDef.mk a.1 a.2.1 a.2.2.1 a.2.2.2.1 a.2.2.2.2.1 a.2.2.2.2.2),true)))
def bA8:Decs:={decs:=[(9,.bool),(17,(.ref vS))],loops:=[(4,[(4,6),(2,3)],⟨nX,[],[(some 0,nX,[]),(none,[.str,(.ptr 0 4 0),.bool,sf,n6,n6,n6,.str,sf,sf,sf,sf,sf,.str,.str],[])]⟩)]}
theorem bA9 O b s (a:Str):eW 178 bA8 Tryz.f178 O b [(eS s),(.str a)] []=aIf O b s a:=by kernel_rfl
theorem aQU s a:Lok (aXk s a) (rP s a) (aIe O aG) (aXl s a):=by
 rintro b l u ⟨rfl,rfl⟩;simp only [rP,aIe,zd,zr];refine zG ?_;try simp only [evs,tys]
 apply Imp.cnd
 ·refine zX aL aDy fun c _ => ?_;try simp only [evs,tys]
  apply Imp.cnd;·exact zT ⟨b,zE⟩
  ·exact zN
 ·exact zB ⟨b,zE⟩
theorem aXm s a:Imp (aGS s a) (aIf O aG s a) (Ri xM):=by
 simp only [aGS,aIf,zd,zr];try simp only [evs,tys]
 refine zC rfl fun l _ => ?_;try simp only [zes,evs,tys]
 apply Imp.cnd;·exact zR
 ·refine zL (aQU s a) ?_;rintro (p | ⟨i,g,f,e,j,h⟩) d b
  ·try simp only [aO,aP]
   obtain ⟨k,rfl⟩:=b;refine zH ?_;try simp only [evs,tys]
   exact zR
  ·try simp only [aO,aP]
   obtain ⟨c,rfl⟩:=b;refine Imp.exMiss rfl ?_;refine zH ?_;try simp only [evs,tys]
   exact zR
theorem aXn {s a r} (h:aGS s a=some r):aVP s a=some r:=zV aSx (aXm s a) Tryz.func178 (bA9 _ _ s a) h
def gS (O:Orc) (b:LBs) (s:List Int) (v0:Int):Option (PV×UP) :=
 aQ O 245 [(.slice (List.map (PV.int .i64) s) [] false),(i6 v0)] fun a=>cnd (chk n6 a)
 (some ((.bool (decide ((intV a)≥0))),[])) none
def eN (s:List Int) (v0:Int):Option Bool :=
 bnd (iU s v0) fun a =>
 some (decide (a≥0))
def wX:Decs:={decs:=[(7,n6)]}
theorem wY O a s v0:eW 228 wX Tryz.f228 O a [(.slice (List.map (PV.int .i64) s) [] false),(i6 v0)] []=gS O a s v0:=by kernel_rfl
theorem wQ s v0:Imp (eN s v0) (gS O aG s v0) (Ri aA):=by
 simp only [eN,gS,zd,zr];try simp only [evs,tys]
 refine zC rfl fun a _ => ?_;try simp only [zes,evs,tys]
 exact zR
theorem wR {s v0 r} (h:eN s v0=some r):jX s v0=some r:=zV aE (wQ s v0) Tryz.func228 (wY _ _ s v0) h
def aC4 (O:Orc) (b:LBs) (a:Str):Option (PV×UP) :=
 cnd (a==([73,110,116]:Str))
 (some ((.bool true),[]))
 (cnd (a==([83,116,114,105,110,103]:Str))
 (some ((.bool true),[]))
 (cnd (a==([66,111,111,108,101,97,110]:Str))
 (some ((.bool true),[]))
 (some ((.bool (a==([73,68]:Str))),[]))))
def aBg (a:Str):Option Bool :=
 cnd (a==([73,110,116]:Str))
 (some true)
 (cnd (a==([83,116,114,105,110,103]:Str))
 (some true)
 (cnd (a==([66,111,111,108,101,97,110]:Str))
 (some true)
 (some (a==([73,68]:Str)))))
def aTU:Decs:={}
theorem aTV O b (a:Str):eW 216 aTU Tryz.f216 O b [(.str a)] []=aC4 O b a:=by kernel_rfl
theorem aQV a:Imp (aBg a) (aC4 O aG a) (Ri aA):=by
 simp only [aBg,aC4,zd,zr];try simp only [evs,tys]
 apply Imp.cnd;·exact zR
 ·apply Imp.cnd;·exact zR
  ·apply Imp.cnd;·exact zR
   ·exact zR
theorem aQW {a r} (h:aBg a=some r):aLh a=some r:=zV aE (aQV a) Tryz.func216 (aTV _ _ a) h
open Go Go.Ev Go.Ev.PV
abbrev bH:List Sh:=[sf,n6,n6,n6,n6]
def kC (O:Orc) (d:LBs):bO:=fun a b=>cnd (chkL bH a) (cnd (chkU [] b)
 (cnd (decide ((iv a 4)<(iv a 3)))
 (bnd (ix 1 (zs a 0) (zn a 4)) fun c=>cnd (chk (.ref n6) c)
 (cnd ((iv a 1)==(intV (refV c)))
 (some (.ret,(pu (rb bH a) 2 (zn a 4)),[]))
 (some (.nrm,(pu (rb bH a) 4 (i6 (w6 ((iv a 4)+1)))),[]))) none)
 (some (.brk 0,(rb bH a),[]))) none) none
def kD (O:Orc) (b:LBs) (s:List Int) (v0:Int):Option (PV×UP) :=
 bnd (b (kC O b) [(.slice (List.map (PV.int .i64) s) [] false),(i6 v0),(i6 0),(i6 (List.length (List.map (PV.int .i64) s):Int)),(i6 0)] []) fun a =>
 exIs a.1 (some 0) (cnd (chkL bH a.2.1) (cnd (chkU [] a.2.2)
 (some ((i6 (-1)),[])) none) none)
 (exIs a.1 none (cnd (chkL bH a.2.1) (cnd (chkU [] a.2.2)
 (some ((zn a.2.1 2),[])) none) none)
 (none))
def cS (s:List Int) (v0:Int):Int->Option (Int⊕(Unit⊕Int))
 | a =>
 cnd (decide (a<(List.length s:Int)))
  (bnd (nthI s a) fun b =>
  cnd (v0==b)
  (some (.inr (.inr a)))
  (some (.inl (IntKind.wrap .i64 (a+1)))))
  (some (.inr (.inl ())))
abbrev jF (s:List Int) (v0:Int) (a b:PV):List PV:=[(.slice (List.map (PV.int .i64) s) [] false),(i6 v0),a,(i6 (List.length s:Int)),b]
abbrev aAq (s:List Int) (v0:Int) (st:Int) (l:List PV) (u:UP):Prop:=l=(jF s v0 (i6 0) (i6 st))/\u=[]
abbrev aAr (s:List Int) (v0:Int) (p:Unit⊕Int) (r:EU):Prop:=elim p (fun (p:Unit)=>∃ (b:Int),r=(Ex.brk 0,(jF s v0 (i6 0) (i6 b)),[])) (fun (p:Int)=>∃ (a:Int),r=(Ex.ret,(jF s v0 (i6 p) (i6 a)),[]))
def eB (s:List Int) (v0:Int):Option Int :=
 bnd (aX (cS s v0) 0) fun a=>elim a
 (fun c =>
 some (-1))
 (fun b =>
 some b)
def aBh:Decs:={decs:=[(14,(.ref n6))],loops:=[(2,[],⟨bH,[],[(some 0,bH,[]),(none,bH,[])]⟩)]}
theorem aBi O a s v0:eW 245 aBh Tryz.f245 O a [(.slice (List.map (PV.int .i64) s) [] false),(i6 v0)] []=kD O a s v0:=by kernel_rfl
theorem wZ s v0:Lok (aAq s v0) (cS s v0) (kC O aG) (aAr s v0):=by
 rintro b l u ⟨rfl,rfl⟩;simp only [cS,kC,zd,zr];refine zG ?_;try simp only [evs,tys]
 apply Imp.cnd
 ·refine Imp.op (f:=fun a => .ref ((PV.int .i64) a)) (fun a h=>bIP (enc:=(PV.int .i64)) zI ⟨zA,by decide⟩ h) (fun a=>rfl) fun d c => ?_;try simp only [evs,tys]
  apply Imp.cnd;·exact zT ⟨b,zE⟩
  ·exact zN
 ·exact zB ⟨b,zE⟩
theorem aAs s v0:Imp (eB s v0) (kD O aG s v0) (Ri aZ):=by
 simp only [eB,kD,zd,zr];try simp only [evs,tys]
 refine zL (wZ s v0) ?_;rintro (p | d) b a
 ·try simp only [aO,aP]
  obtain ⟨e,rfl⟩:=a;refine zH ?_;try simp only [evs,tys]
  exact zR
 ·try simp only [aO,aP]
  obtain ⟨c,rfl⟩:=a;refine Imp.exMiss rfl ?_;refine zH ?_;try simp only [evs,tys]
  exact zR
theorem aAt {s v0 r} (h:eB s v0=some r):iU s v0=some r:=zV iZ (aAs s v0) Tryz.func245 (aBi _ _ s v0) h
open Go.Shelf Go.RowKit
def GM:Mem:=fun _ _=>none
def Tryz.laysIns_ren:Go.Shelf.Ren:=⟨fun | 22=>231 | 29=>246 | 30=>247 | 36=>253 | 17=>254 | n=>n,fun | 24=>46 | 9=>9 | 3=>3 | 4=>4 | 0=>0 | n=>n,fun | n=>n⟩
theorem Tryz.laysIns:Go.Proofs.Lays2.n22 Tryz.prog Tryz.laysIns_ren:={
 mixed:=by kernel_rfl
 f17:=Tryz.func254.trans (congrArg some (by kernel_rfl))
 f22:=Tryz.func231.trans (congrArg some (by kernel_rfl))
 f29:=Tryz.func246.trans (congrArg some (by kernel_rfl))
 f30:=Tryz.func247.trans (congrArg some (by kernel_rfl))
 f36:=Tryz.func253.trans (congrArg some (by kernel_rfl))
 t0:=Tryz.underlying0
 a0:=Tryz.isAgg0
 z0:=Tryz.sizeOf0
 v0:=Tryz.zeroValue0
 t3:=Tryz.underlying3
 a3:=Tryz.isAgg3
 z3:=Tryz.sizeOf3
 v3:=Tryz.zeroValue3
 t4:=Tryz.underlying4
 a4:=Tryz.isAgg4
 z4:=Tryz.sizeOf4
 v4:=Tryz.zeroValue4
 t9:=Tryz.underlying9
 a9:=Tryz.isAgg9
 z9:=Tryz.sizeOf9
 v9:=Tryz.zeroValue9
 t24:=Tryz.underlying46
 a24:=Tryz.isAgg46
 z24:=Tryz.sizeOf46
 v24:=Tryz.zeroValue46
 i9:=by kernel_rfl}
theorem aOA (s:Str):∀ (l:List Str) m,m<=l.length->(∀ j x,j<m->l[j]?=some x->Op.bytesLess x s=true) ->
  (m=l.length->insS l s=insL l m s)/\∀ x,l[m]?=some x->Op.bytesLess x s=false->insS l s=if x=s then l else insL l m s
 | [],m,c,_=>by
  have:m=0:=by simpa using c
  subst this;exact ⟨fun _=>rfl,fun x b=>by simp at b⟩
 | y::l,0,_,_=>by
  refine ⟨fun h=>by simp at h,fun x b a => ?_⟩;simp at b;subst b;simp only [insS,a,Bool.false_eq_true,if_false];rfl
 | y::l,m+1,c,h=>by
  have d:=h 0 y (by omega) rfl;obtain ⟨g,f⟩:=aOA s l m (by simpa using c) (fun j x k b=>h (j+1) x (by omega) (by simpa using b));have e:∀ z,insL (y::l) (m+1) z=y::insL l m z:=fun z=>rfl;simp only [insS,d,if_true];refine ⟨fun i=>by rw [g (by simpa using i),e],fun x b a => ?_⟩;rw [f x (by simpa using b) a];split;·rfl
  ·rw [e]
theorem aYK {α β} (f:α->β) l i x:(insL l i x).map f=insL (l.map f) i (f x):=by
 unfold insL;rw [List.map_append,List.map_cons,List.map_take,List.map_drop]
set_option maxHeartbeats 4000000 in
theorem aXo b c l s w (hne:l≠[]) (hn:l.length<lim) (hc:l.length<=c) (B:c<=9223372036854775807)
  (q:∃ arr T fz,w.heap[b]?=some (.cells arr T fz)/\c<=arr.size/\(∀ i,i<c->¬ (fz.1<=i/\i<fz.2))/\∀ (j:Nat) v,(l.map sVal)[j]?=some v->arr[j]?=some v) :
  Calls Tryz.prog 208 #[.slice (some ⟨b,0,none⟩) l.length c,sVal s] w fun e w'=>∃ C,e = .returned C/\vQ w b ((insS l s).map sVal) C w':=by
 obtain ⟨n,A⟩:∃ n,l.length=n:=⟨_,rfl⟩;have hn':n<274877906944:=by have:l.length<274877906944:=hn;omega
 have hpos:0<n:=by rw [<- A];exact List.length_pos_iff.2 hne
 rw [A] at hc ⊢;have z:∀ m,m<=n->Calls Tryz.prog 231 #[.slice (some ⟨b,0,none⟩) n c,.int .i64 m,.slice (some ⟨w.heap.size,0,none⟩) 1 1] (w.alloc (.cells #[sVal s] 9)) fun e w'=>∃ C,e = .returned C/\vQ w b (insL (l.map sVal) m (sVal s)) C w':=by
  intro m E;exact aZ8 Tryz.laysIns b n c m (l.map sVal) (sVal s) 9 w E (by rw [List.length_map];exact A) hc (by omega) B hpos q (by
   intro v hv;obtain ⟨x,_,rfl⟩:=List.mem_map.1 hv;rfl) rfl
 have o:∀ (j:Nat) (x:Str),l[j]?=some x->w.cell? ⟨b,j,none⟩=some (sVal x):=by
  obtain ⟨arr,T,fz,h1,h2,h3,h4⟩:=q;intro j x F;have:=h4 j (sVal x) (by rw [List.getElem?_map,F];rfl);simp [World.cell?,h1,this]
 have d:=fun m (E:m<=n) h=>aOA s l m (by omega) h;have D:vQ w b (l.map sVal) (.slice (some ⟨b,0,none⟩) n c) w:=by
  obtain ⟨arr,T,fz,h1,h2,h3,h4⟩:=q;exact ⟨⟨b,c,by rw [List.length_map,A],by rw [List.length_map];omega,B,.inl rfl,arr,T,fz,h1,h2,h3,h4⟩,fun _ _ _=>rfl,Nat.le_refl _,rfl,rfl,rfl⟩
 clear q;unfold sVal at z o ⊢;go_enter Tryz.func208,Tryz.ntmps208;go_wp2;go_step3;go_wp2;go_step3;go_wp2;go_loop [5,6,7,10] (fun a i t k=>∃ m:Nat,m<=n/\a = .int .i64 m/\k = .int .i64 m/\∀ (j:Nat) (x:Str),j<m->l[j]?=some x->Op.bytesLess x s=true) (fun _ _ _ k=>n-(RowKit.intOf k).toNat);case atStart=>exact ⟨0,Nat.zero_le _,rfl,rfl,fun j x hj=>absurd hj (Nat.not_lt_zero _)⟩
 case round =>
  obtain ⟨m,E,rfl,rfl,f⟩:=hrel;obtain ⟨x,F⟩:∃ x,m<n->l[m]?=some x:=by
   by_cases h:m<n;·exact ⟨l[m]'(by omega),fun _=>List.getElem?_eq_getElem (by omega)⟩
   ·exact ⟨[],fun h'=>absurd h' h⟩
  have hcell':m<n->w.cell? ⟨b,m,none⟩=some (.string ⟨x.toArray⟩):=fun h=>o m x (F h);have r:=z m E;clear z o;go_wp2_with (go_at_fn 231;fail)
  ·go_round;case rel =>
    have u:m<n:=by assumption
    have G:Op.bytesLess x s=true:=by assumption
    refine ⟨m+1,by omega,by go_num,by go_num,fun j y hj hy => ?_⟩;rcases Nat.lt_or_ge j m with h | h;·exact f j y h hy
    ·obtain rfl:j=m:=by omega
     rw [F u] at hy;cases hy;exact G
   case measure=>simp [RowKit.intOf];omega
  ·have u:m<n:=by assumption
   have G:Op.bytesLess x s=false:=by assumption
   have he:(x==s)=true:=by assumption
   go_ret;refine ⟨_,rfl,?_⟩;have:=(d m E f).2 x (F u) G;rw [if_pos (eq_of_beq he)] at this;rw [this];exact D
  ·have u:m<n:=by assumption
   have G:Op.bytesLess x s=false:=by assumption
   have he:(x==s)=false:=by assumption
   have p:=(d m E f).2 x (F u) G;rw [if_neg (by simpa using he)] at p;refine r.mono ?_;rintro e w' ⟨C,rfl,g⟩;go_wp2;rw [Exit.noGoto_ret];go_ret;refine ⟨_,rfl,?_⟩;rw [p,aYK];exact g
  ·have hge:¬ m<n:=by assumption
   have p:=(d m E f).1 (by omega);refine r.mono ?_;rintro e w' ⟨C,rfl,g⟩;go_wp2;rw [Exit.noGoto_ret];go_ret;refine ⟨_,rfl,?_⟩;rw [p,aYK];exact g
set_option maxHeartbeats 4000000 in
theorem aTW f b s w :
  Calls Tryz.prog 208 #[.slice f 0 0,sVal s] w fun e w'=>∃ d,e = .returned d/\vQ w b [sVal s] d w':=by
 have a:=aZ9 Tryz.laysIns f b (sVal s) 9 w rfl;have a:Calls Tryz.prog 231 #[.slice f 0 0,.int .i64 0,.slice (some ⟨w.heap.size,0,none⟩) 1 1] (w.alloc (.cells #[sVal s] 9)) fun e w'=>∃ d,e = .returned d/\vQ w b [sVal s] d w':=a;unfold sVal at a ⊢;go_enter Tryz.func208,Tryz.ntmps208;go_wp2;go_step3;go_wp2;go_step3;go_wp2;refine wp_loop_rounds 1 ?_;rw [rounds_succ];go_wp2_with (go_at_fn 231;fail);refine a.mono ?_;rintro e w' ⟨d,rfl,c⟩;go_wp2;rw [Exit.noGoto_ret];go_ret;exact ⟨_,rfl,c⟩
theorem bBa:∀ args b r a,aER args b=some (r,a)->∀ n w M B vals,CallPre ⟨n,GM⟩ M B args b vals w->tJ Tryz.prog 208 vals w (gM ⟨n,GM⟩ M B args b vals w r a) :=
 bAb (fun _ _=>enters_of Tryz.func208 (by kernel_rfl) rfl _ _) aTW aXo
theorem xok:aVh Tryz.prog GM XT:=by
 intro f g h;unfold XT at h;simp only [Go.Ev.look] at h;split at h;·rename_i e;subst e;cases h;exact bE3
 split at h;·rename_i e;subst e;cases h;exact bBa
 simp at h
theorem bI7:Tryz.prog.follows .mixedOrders=true:=by kernel_rfl
theorem bI8 : (Tryz.prog.funcs.toList.all fun a => !a.body.isSome || !(a.name == "runtime.NumGoroutine")) = true := by kernel_rfl
theorem pokX:POk Tryz.prog:=by
 refine ⟨bI7,fun f a c b => ?_⟩;have d:a∈Tryz.prog.funcs.toList:=by
  have:=Array.mem_of_getElem? c;simpa using this
 have:=List.all_eq_true.1 bI8 a d;rw [b] at this;simpa using this
end Go.Proofs.YtphmfillajagdaaGreat
