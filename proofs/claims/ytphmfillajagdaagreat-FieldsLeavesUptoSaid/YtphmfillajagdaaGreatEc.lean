import Derived.Test.YtphmfillajagdaaGreatEb
import Derived.Orders
set_option linter.unusedVariables false
set_option linter.unusedSimpArgs false
set_option linter.unusedSimpArgs false
namespace Go.Ev
open PV
section
variable {P : Program} {mt : Hints} {O : Orc} {base : Base} {M : Mem} {B : BM} {st : St} {w : World} {next : Act → World → Prop} {Q : Exit → Act → World → Prop}
theorem aVh {o a op t x y u e} (j:o.op = .binOp op t x y u) (h:SR base M B st a.tmps w)
  (he:qO P a.tmps.size o op t (opd st.fr x) (opd st.fr y) some=some e) (l:∀ tm' w',Aft base M B st a.tmps w e tm' w'→next ⟨tm',a.defers⟩ w') :
  o.upon P a next Q ((execOp a.eval o).run P w):=by
 have hx:=h.opd a.defers x;have hy:=h.opd a.defers y;have plainCase:∀ r,bin op (opd st.fr x) (opd st.fr y)=some r→e={ws:=dstW a.tmps.size o.dst r}→o.upon P a next Q ((execOp a.eval o).run P w):=by
  intro r hr he;subst he;obtain ⟨v,hv,G,J,K,F⟩:=bAd (P:=P) w t hr hx hy;refine upon_value (v:=v) (w':=w) ?_ (jG h (G M B) (J.no v)) l;simp [execOp,j];simp [tT (P:=P) w op t x y K F,hv]
 have boolCase:∀ (neg:Bool) b,op=(if neg then .neq else .eql)→eqB (opd st.fr x) (opd st.fr y)=some b→P.underlying t=some .bool→e={ws:=dstW a.tmps.size o.dst (.bool (if neg then !b else b))}→o.upon P a next Q ((execOp a.eval o).run P w):=by
  intro neg b hop hb hu he;subst he;unfold eqB at hb;split at hb
  ·rename_i p q m z;cases hb;rw [m] at hx;rw [z] at hy;have C:=hx.bool_inv;have E:=hy.bool_inv;refine upon_value (v := .bool (if neg then !(p==q) else (p==q))) (w':=w) ?_ (jG h (.bool _) (Flat.no (.inl ⟨_,rfl⟩) _)) l;simp [execOp,j];rw [C,E];have hg:=tT (P:=P) w op t x y (a := .bool p) (b := .bool q) (by simp) (by simp);have heq  := run_equal_bool w t p q hu;cases neg;· simp [Bool.false_eq_true,if_false] at hop;subst hop;simp [hg,binOp,heq]
   simp [if_true] at hop;subst hop;simp [hg,binOp,heq]
  simp at hb
 have structCase:∀ (neg:Bool) b fs ls n,op=(if neg then .neq else .eql)→P.underlying t=some (.struct fs)→szOf P t=some n→aBa P 20 t 0=some ls→P.eqGuardType P.depth t=false→eqs n ls (opd st.fr x) (opd st.fr y)=some b→e={ws:=dstW a.tmps.size o.dst (.bool (if neg then !b else b))}→o.upon P a next Q ((execOp a.eval o).run P w):=by
  intro neg b fs ls n hop hu hsz hls hgt hb he;subst he;unfold eqs at hb;split at hb
  ·rename_i X Y m z;split at hb
   ·rename_i A;rw [m] at hx;rw [z] at hy;obtain ⟨xs,g,D⟩:∃ xs,(Act.mk a.tmps a.defers).eval x = .agg xs∧(xs.size=X.length∧∀ (i:Nat) c,X[i]?=some c→∃ v,xs[i]?=some v∧Rv M B c v):=by
     generalize (Act.mk a.tmps a.defers).eval x=N at hx;cases hx with
     | agg _ xs f s L hr=>exact ⟨xs,rfl,s,fun i c k=>⟨f i,by grind,hr i c k⟩⟩
    obtain ⟨ys,d,I⟩:∃ ys,(Act.mk a.tmps a.defers).eval y = .agg ys∧(ys.size=Y.length∧∀ (i:Nat) c,Y[i]?=some c→∃ v,ys[i]?=some v∧Rv M B c v):=by
     generalize (Act.mk a.tmps a.defers).eval y=R at hy;cases hy with
     | agg _ ys f s L hr=>exact ⟨ys,rfl,s,fun i c k=>⟨f i,by grind,hr i c k⟩⟩
    have O:∀ zs,zs.size=n→aGm t true n 0 zs (.agg zs):=by
     intro zs H;refine ⟨?_,by omega⟩;rw [Nat.zero_add,← H,Array.extract_size]
    have heq:(Op.equalIn 10000 t (.agg xs) (.agg ys)).run P w = .ok b w :=
     aGo (P:=P) w D.2 I.2 20 10000 t 0 n true ls b _ _ hls hb hsz (by simp [agOf,hu]) (by grind) (by grind) (by omega)
    refine upon_value (v := .bool (if neg then !b else b)) (w':=w) ?_ (jG h (.bool _) (Flat.no (.inl ⟨_,rfl⟩) _)) l;have hg:=run_eqGuard_agg (P:=P) w op t x y xs ys hgt;simp only [execOp,j];change (do pure (Next.value (← (do eqGuard op t x y ((Act.mk a.tmps a.defers).eval x) ((Act.mk a.tmps a.defers).eval y);binOp op t ((Act.mk a.tmps a.defers).eval x) ((Act.mk a.tmps a.defers).eval y)))):Sem Next).run P w=_;rw [g,d];cases neg;· simp at hop;subst hop;simp [hg,run_eql_struct,heq]
    simp at hop;subst hop;simp [hg,run_neq_struct,heq]
   simp at hb
  simp at hb
 unfold qO at he;split at he
 ·split at he;· obtain ⟨r,hr,he⟩:=aB he;exact by grind
  ·obtain ⟨r,hr,he⟩:=aB he;exact by grind
  ·rename_i hu;obtain ⟨b,hb,he⟩:=aB he;exact boolCase false b rfl hb hu (Option.some.inj he).symm
  ·rename_i fs hu;split at he;· rename_i n ls hsz hls hgt;obtain ⟨b,hb,he⟩:=aB he;exact structCase false b fs ls n rfl hu hsz hls hgt hb (Option.some.inj he).symm
   simp at he
  simp at he
 ·split at he;· obtain ⟨r,hr,he⟩:=aB he;exact by grind
  ·obtain ⟨r,hr,he⟩:=aB he;exact by grind
  ·rename_i hu;obtain ⟨b,hb,he⟩:=aB he;exact boolCase true b rfl hb hu (Option.some.inj he).symm
  ·rename_i fs hu;split at he;· rename_i n ls hsz hls hgt;obtain ⟨b,hb,he⟩:=aB he;exact structCase true b fs ls n rfl hu hsz hls hgt hb (Option.some.inj he).symm
   simp at he
  simp at he
 obtain ⟨r,hr,he⟩:=aB he;exact by grind
end
section
variable {P : Program} {mt : Hints} {O : Orc} {base : Base} {M : Mem} {B : BM} {st : St} {tm : Array Value} {w : World} {next : Act → World → Prop} {Q : Exit → Act → World → Prop}
theorem upon_skip {o a w w' e} (f:o.dst=none) (b:(execOp a.eval o).run P w = .ok .skip w')
  (d:Aft base M B st a.tmps w e a.tmps w') (g:∀ c w',Aft base M B st a.tmps w e c w'→next ⟨c,a.defers⟩ w') :
  o.upon P a next Q ((execOp a.eval o).run P w):=by
 rw [b,Oper.upon_skip,aJK,f];exact g _ _ d
theorem aOM p v:own1 (aA9 p) v=own1 p v:=by cases p<;>first | rfl | (cases v<;>rfl)
theorem aVi {M w base B} p v:h1 M w base B (aA9 p) v↔h1 M w base B p v:=by cases p<;>first | exact Iff.rfl | (cases v<;>exact Iff.rfl)
theorem aFT {α β} f (g:α→β):∀ l,sumL f (l.map g)=sumL (fun x=>f (g x)) l
 | []=>rfl
 | a::l=>by simp [sumL,aFT f g l]
theorem xI {α β γ:Type} (f:α→γ):∀ (l:List α) (m:List β),(l.map f).zip m=(l.zip m).map fun x=>(f x.1,x.2)
 | [],_=>by simp
 | _::_,[]=>by simp
 | a::l,b::m=>by simp [xI f l m]
theorem aGv p v (j:∀ cs,p ≠ .tuple cs):(∃ g,atoms (shift p) v=g.map (fun x=>(aA9 x.1,x.2))∧atoms p v=g)∨(dU (shift p) v∧dU p v):=by
 cases p with
 | agg cs =>
  cases v with
  | agg vs=>left;exact ⟨cs.zip vs.toList,by simp [shift];exact xI _ _ _,rfl⟩
  | _ =>
   right;constructor;· intro x c;simp [shift,atoms,zipA] at c;subst c;exact rX _ _
   intro x c;simp [atoms,zipA] at c;subst c;exact rX _ _
 | tuple cs=>grind
 | func f a b=>right;exact ⟨qC _ _ _ _,qC _ _ _ _⟩
 | ptr d i o=>right;exact ⟨mD _ _ _ _,mD _ _ _ _⟩
 | slice es h o=>left;exact ⟨[(.slice es h o,v)],by cases v<;>rfl,by cases v<;>rfl⟩
 | mk0 sz=>left;exact ⟨[(.mk0 sz,v)],by cases v<;>rfl,by cases v<;>rfl⟩
 | bot=>left;exact ⟨[(.bot,v)],by cases v<;>rfl,by cases v<;>rfl⟩
 | und=>left;exact ⟨[(.und,v)],by cases v<;>rfl,by cases v<;>rfl⟩
 | bool b=>left;exact ⟨[(.bool b,v)],by cases v<;>rfl,by cases v<;>rfl⟩
 | int k n=>left;exact ⟨[(.int k n,v)],by cases v<;>rfl,by cases v<;>rfl⟩
 | str s=>left;exact ⟨[(.str s,v)],by cases v<;>rfl,by cases v<;>rfl⟩
 | ref e=>left;exact ⟨[(.ref e,v)],by cases v<;>rfl,by cases v<;>rfl⟩
 | nilptr=>left;exact ⟨[(.nilptr,v)],by cases v<;>rfl,by cases v<;>rfl⟩
 | rsl d i n z=>left;exact ⟨[(.rsl d i n z,v)],by cases v<;>rfl,by cases v<;>rfl⟩
 | vec z E=>left;exact ⟨[(.vec z E,v)],by cases v<;>rfl,by cases v<;>rfl⟩
 | nilFunc=>left;exact ⟨[(.nilFunc,v)],by cases v<;>rfl,by cases v<;>rfl⟩
theorem aVj {p} (h:shOk p=true):∀ cs,p ≠ .tuple cs:=by
 intro cs e;subst e;simp [shOk,sh0,PV.solid,PV.solid1] at h
theorem aXu {p} (e:shOk p=true) v b:cV (shift p) v b=cV p v b:=by
 rcases aGv p v (aVj e) with ⟨g,d,a⟩ | ⟨d,a⟩;· simp [cV,d,a,aFT,c1,aOM]
 rw [d.c,a.c]
theorem aXv {M w base B p} (d:shOk p=true) v (h:hV M w base B p v):hV M w base B (shift p) v:=by
 rcases aGv p v (aVj d) with ⟨g,a,c⟩ | ⟨a,c⟩;· intro x b;rw [a] at b;obtain ⟨y,e,rfl⟩:=List.mem_map.1 b;exact (aVi _ _).2 (h y (by grind))
 exact a.h M w base B
theorem Rv.shift0 {p v} (h:Rv M B p v) (t:sh0 p=true):Rv M (nG B) (aA9 p) v:=by
 cases h with
 | ptr d id off b A=>exact .ptr (d+1) id off b (by simpa [nG] using A)
 | rsl d id n sz b cap A q=>exact .rsl (d+1) id n sz b cap (by simpa [nG] using A) q
 | rslNil d id sz I=>exact .rslNil (d+1) id sz I
 | bot v=>exact .bot v
 | und=>exact .und
 | nilptr=>exact .nilptr
 | vec=>simp [sh0,PV.solid,PV.solid1] at t
 | vecNil=>simp [sh0,PV.solid,PV.solid1] at t
 | nilFunc=>exact .nilFunc
 | ref e a s f u i D m=>exact .ref e a s f u i D (fun j c q=>(m j c q).anyB1 _ (i.cell q))
 | func F l r J K f g L w x C y G z=>exact (Rv.func F l r J K f g L w x C y G z).anyBfree _ (by simpa [PV.free,sh0] using t)
 | bool b=>exact .bool b
 | int k n=>exact .int k n
 | str s=>exact .str s
 | agg cs vs f w x m=>exact (Rv.agg cs vs f w x m).anyB _ (by simpa [sh0] using t)
 | tuple cs vs f w x m=>simp [sh0,PV.solid,PV.solid1] at t
 | nil o=>exact .nil o
 | slice es H o a cap s f u q E i D m=>exact (Rv.slice es H o a cap s f u q E i D m).anyB _ rfl
 | mk0 sz a cap u=>exact .mk0 sz a cap u
theorem aLU {c} (h:c.plain=c):(aA9 c).plain=aA9 c:=by cases c<;>first | rfl | exact h
theorem Rv.shift {p v} (h:Rv M B p v) (r:shOk p=true):Rv M (nG B) (Ev.shift p) v:=by
 cases h with
 | func H A F L N f g O u w D y I z =>
  simp [shOk] at r;refine .func H _ _ L N f g ?_ (by simpa using u) (by simpa using w) ?_ (by simpa using y) (by simpa using I) ?_;· intro c j;rw [← List.map_append] at j;obtain ⟨x,l,rfl⟩:=List.mem_map.1 j;exact aLU (O x l)
  ·intro i c j;rw [List.getElem?_map,Option.map_eq_some_iff] at j;obtain ⟨x,l,rfl⟩:=j;exact (D i x l).shift0 (by grind)
  intro i c j;rw [List.getElem?_map,Option.map_eq_some_iff] at j;obtain ⟨x,l,rfl⟩:=j;exact (z i x l).shift0 (by grind)
 | agg cs vs f u w q =>
  simp [shOk] at r;refine .agg _ vs f (by simpa using u) (by simpa using w) ?_;intro i c j;rw [List.getElem?_map,Option.map_eq_some_iff] at j;obtain ⟨x,l,rfl⟩:=j;exact (q i x l).shift0 (by grind)
 | ptr d id off b C=>exact (Rv.ptr d id off b C).shift0 rfl
 | rsl d id n sz b cap C j=>exact (Rv.rsl d id n sz b cap C j).shift0 rfl
 | rslNil d id sz K=>exact (Rv.rslNil (M:=M) (B:=B) d id sz K).shift0 rfl
 | bot v=>exact .bot v
 | und=>exact .und
 | nilptr=>exact .nilptr
 | vec=>simp [shOk,sh0,PV.solid,PV.solid1] at r
 | vecNil=>simp [shOk,sh0,PV.solid,PV.solid1] at r
 | nilFunc=>exact .nilFunc
 | ref e a s f t m E q=>exact (Rv.ref e a s f t m E q).shift0 rfl
 | bool b=>exact .bool b
 | int k n=>exact .int k n
 | str s=>exact .str s
 | tuple cs vs f u w q=>simp [shOk,sh0,PV.solid,PV.solid1] at r
 | nil o=>exact .nil o
 | slice es J o a cap s f t j G m E q=>exact (Rv.slice es J o a cap s f t j G m E q).shift0 rfl
 | mk0 sz a cap t=>exact .mk0 sz a cap t
theorem vB {o a f vals R} (b:(execOp a.eval o).run P w=(callFunc f vals).run P w)
  (e:tD P f vals w R) (h:∀ v w',R v w'→next ⟨putT a.tmps o.dst v,a.defers⟩ w'):o.upon P a next Q ((execOp a.eval o).run P w):=by
 rcases e with ⟨g,gs,c,d⟩ | ⟨v,w',c,d⟩;· rw [b,c,Oper.upon_enter];refine d.mono ?_;simp [aJK];grind
 rw [b,c,Oper.upon_value,aJK];grind
theorem aTg {o a c e} (hO:aJR P base.g O) (ho:o.op = .call c) (h:SR base M B st a.tmps w)
  (j:gM P mt a.tmps.size O o c st some=some e) (hn:∀ tm' w',Aft base M B st a.tmps w e tm' w'→next ⟨tm',a.defers⟩ w') :
  o.upon P a next Q ((execOp a.eval o).run P w):=by
 have T:∀ x,Rv M B (opd st.fr x) (a.eval x):=fun x=>h.opd a.defers x;have bi:∀ {b} {v} {w'},c.callee = .builtin b→(builtin b c.argTypes o.type (c.args.map fun | .const _=>true | _=>false) (c.args.map a.eval)).run P w = .ok (.value v) w' →
   (execOp a.eval o).run P w = .ok (.value v) w':=by
  intro b v w' U hb;simp only [execOp,ho];simp [resolve,U,Sem.run_bind,Sem.run_pure,Result.andThen_ok,invoke];exact hb
 have A:∀ {l},c.args.toList=l→c.args=l.toArray:=by
  intro l h;subst h;simp
 have K:∀ {l},c.argTypes.toList=l→c.argTypes=l.toArray:=by
  intro l h;subst h;simp
 unfold gM at j;dsimp at j;split at j
 ·-- a function
  rename_i f U;split at j
  ·rename_i g m C hf;have hfr:=T f;rw [hf] at hfr;obtain ⟨Y,V,hev,hsz,J,hcnt⟩:=bBp h a.defers hfr (hasO mt.takes o.dst) c.args.toList;have D:(execOp a.eval o).run P w=(callFunc g (Y++(c.args.toList.map a.eval).toArray++V)).run P w:=by
    have e1:(Y++c.args.map a.eval++V)=(Y++(c.args.toList.map a.eval).toArray++V):=by congr 2;apply Array.ext';simp
    simp only [execOp,ho,resolve,U,Deferred.ofValue,hev,Sem.run_bind,Sem.run_pure,Result.andThen_ok,invoke];rw [e1]
   have hlv:∀ lvb:Bool,((!(hasO mt.takes o.dst))||rW (nC c.args.toList))=true →
     SR base M B {st with fr:=c.args.toList.flatMap (left st.fr (hasO mt.takes o.dst))++st.fr} a.tmps w ∧
     ∀ b,tot (c.args.toList.flatMap (left st.fr (hasO mt.takes o.dst))++st.fr) a.tmps w B st.bx b+cA (m++c.args.toList.map (opv st.fr (hasO mt.takes o.dst))++C) (Y++(c.args.toList.map a.eval).toArray++V) b≤tot st.fr a.tmps w B st.bx b:=by
    intro _ hd;have N:∀ b,cA (m++c.args.toList.map (opv st.fr (hasO mt.takes o.dst))++C) (Y++(c.args.toList.map a.eval).toArray++V) b=_:=hcnt;generalize htk:hasO mt.takes o.dst=tk at *;cases tk with
    | true =>
     obtain ⟨t1,t2⟩:=aLR h a.defers c.args.toList (by simpa using hd);exact ⟨t1,fun b=>by rw [N b];exact by grind⟩
    | false =>
     obtain ⟨t1,t2⟩:=aZK h a.defers c.args.toList;rw [t1];exact ⟨h,fun b=>by rw [N b,t2 b];simp⟩
   split at j;· simp at j
   ·rename_i hd hg;obtain ⟨hl1,S⟩:=hlv true hd;rcases bA j with ⟨hsh,j⟩ | ⟨_,j⟩
    ·obtain ⟨⟨r,u⟩,R,j⟩:=aB j;cases j;rw [List.all_eq_true] at hsh;have hcA:∀ b,cA ((m++c.args.toList.map (opv st.fr (hasO mt.takes o.dst))++C).map Ev.shift) (Y++(c.args.toList.map a.eval).toArray++V) b=cA (m++c.args.toList.map (opv st.fr (hasO mt.takes o.dst))++C) (Y++(c.args.toList.map a.eval).toArray++V) b:=by
      intro b;unfold cA;rw [List.length_map];apply eK;intro i hi;have e1:((m++c.args.toList.map (opv st.fr (hasO mt.takes o.dst))++C).map Ev.shift).getD i .bot=Ev.shift ((m++c.args.toList.map (opv st.fr (hasO mt.takes o.dst))++C).getD i .bot):=by
       simp only [List.getD_eq_getElem?_getD,List.getElem?_map,List.getElem?_eq_getElem hi,Option.map_some,Option.getD_some]
      rw [e1];apply aXu;apply hsh;simp only [List.getD_eq_getElem?_getD,List.getElem?_eq_getElem hi,Option.getD_some];exact by simp
     have H:CallPre base M B ((m++c.args.toList.map (opv st.fr (hasO mt.takes o.dst))++C).map Ev.shift) st.bx (Y++(c.args.toList.map a.eval).toArray++V) w:=by
      refine ⟨h.cons,by rw [List.length_map];exact hsz,?_,h.box,?_,h.glob,h.base⟩;· intro i p Z;rw [List.getElem?_map,Option.map_eq_some_iff] at Z;obtain ⟨q,hq,rfl⟩:=Z;obtain ⟨W,r2⟩:=J i q hq;have:=hsh q (List.mem_of_getElem? hq);exact ⟨W.shift this,aXv this _ r2⟩
      ·intro b;rw [hcA b];have e1:=S b;have e2:=h.one b;simp only [tot] at e1 e2;omega
     refine vB D (hO _ _ _ _ _ R base.n w M B _ H) fun v w' F=>hn _ _ ?_;refine aOL (args:=(m++c.args.toList.map (opv st.fr (hasO mt.takes o.dst))++C).map Ev.shift) (vals:=Y++(c.args.toList.map a.eval).toArray++V) h hl1 (fun i p Z=>(H.rel i p Z).2) (fun b=>by rw [hcA b];exact S b) F
    ·simp at j
   ·rename_i hd hg;obtain ⟨hl1,S⟩:=hlv true hd;split at j
    ·-- rows are read
     rcases bA j with ⟨hbo,j⟩ | ⟨_,j⟩;rotate_left;· simp at j
     unfold aM at j;rcases bA j with ⟨G,j⟩ | ⟨_,j⟩;rotate_left;· simp at j
     obtain ⟨⟨r,u⟩,R,j⟩:=aB j;split at j
     ·rename_i X;simp at X;subst X;rcases bA j with ⟨hsc,j⟩ | ⟨_,j⟩;rotate_left;· simp at j
      cases j;rw [List.all_eq_true] at G hbo;obtain ⟨H,hle⟩:=bAi h hsz J (fun b=>Nat.le_trans (Nat.le_trans (Nat.le_add_left _ _) (S b)) (h.one b)) hbo G;refine vB D (hO _ _ _ _ _ R base.n w _ noB _ H) fun v w' F=>hn _ _ ?_;exact bAh h hl1 (fun i p Z=>(J i p Z).2) hle S xH F hsc
     ·simp at j
    ·simp at j
    ·-- a row that may be written
     rename_i hbrw sz hvec htk;unfold aM at j;rcases bA j with ⟨G,j⟩ | ⟨_,j⟩
     ·obtain ⟨⟨r,u⟩,R,j⟩:=aB j;split at j
      ·rename_i X;simp at X;subst X;obtain ⟨E,hE,j⟩:=aB j;rw [List.all_eq_true] at G;have H:CallPre base M noB (m++c.args.toList.map (opv st.fr (hasO mt.takes o.dst))++C) [] (Y++(c.args.toList.map a.eval).toArray++V) w:=by
        refine ⟨h.cons,hsz,?_,⟨by simp,fun _ _ _=>rfl,by simp [qQ],by simp [noB]⟩,?_,h.glob,h.base⟩;· intro i p Z;obtain ⟨W,r2⟩:=J i p Z;refine ⟨W.anyBfree _ (by grind),?_⟩;exact aJS r2 (fun _ _ _ T=>T) fun b _ _=>⟨rfl,fun _=>rfl,fun d id hb=>by simp [noB] at hb⟩
        ·intro b;have e1:=S b;have e2:=h.one b;have e3:cBx w noB [] b=0:=rfl;omega
       refine vB D (hO _ _ _ _ _ R base.n w M noB _ H) fun v w' F=>hn _ _ ?_;have hz:∀ b,cA (m++c.args.toList.map (opv st.fr (hasO mt.takes o.dst))++C) (Y++(c.args.toList.map a.eval).toArray++V) b=0:=by
        intro b;have N  := hcnt;rw [N b];obtain ⟨t1,t2⟩:=aZK h a.defers c.args.toList;rw [htk];exact t2 b
       exact aXr h hl1 (fun i p Z=>(J i p Z).2) S hz F hE j
      ·simp at j
     ·simp at j
    ·-- any other call
     unfold aM at j;rcases bA j with ⟨G,j⟩ | ⟨_,j⟩
     ·obtain ⟨⟨r,u⟩,R,j⟩:=aB j;split at j
      ·rename_i X;simp at X;subst X;cases j;rw [List.all_eq_true] at G;have H:CallPre base M noB (m++c.args.toList.map (opv st.fr (hasO mt.takes o.dst))++C) [] (Y++(c.args.toList.map a.eval).toArray++V) w:=by
        refine ⟨h.cons,hsz,?_,⟨by simp,fun _ _ _=>rfl,by simp [qQ],by simp [noB]⟩,?_,h.glob,h.base⟩;· intro i p Z;obtain ⟨W,r2⟩:=J i p Z;refine ⟨W.anyBfree _ (by grind),?_⟩;exact aJS r2 (fun _ _ _ T=>T) fun b _ _=>⟨rfl,fun _=>rfl,fun d id hb=>by simp [noB] at hb⟩
        ·intro b;have e1:=S b;have e2:=h.one b;have e3:cBx w noB [] b=0:=rfl;omega
       refine vB D (hO _ _ _ _ _ R base.n w M noB _ H) fun v w' F=>hn _ _ ?_;exact aLS h hl1 hsz J S F
      ·simp at j
     ·simp at j
  ·simp at j
 ·-- len
  rename_i U;split at j
  ·rename_i x t z L;split at j;· rename_i X;obtain ⟨r,R,j⟩:=aB j;cases j;obtain ⟨v,hv,rv,rf⟩:=aXl (P:=P) (w:=w) (ty:=o.type) R (T x) X;refine upon_value (v:=v) (bi U ?_) (jG h (rv M B) (rf.no v)) hn;rw [A z,K L];simp [builtin,hv]
   ·rename_i el' X;obtain ⟨r,R,j⟩:=aB j;cases j;obtain ⟨v,hv,rv,rf⟩:=aXm (P:=P) (w:=w) (ty:=o.type) R (T x) X;refine upon_value (v:=v) (bi U ?_) (jG h (rv M B) (rf.no v)) hn;rw [A z,K L];simp [builtin,hv]
   simp at j
  simp at j
 ·-- append
  rename_i U;split at j
  ·rename_i x y t u z L;have hap:opv st.fr true x=opd st.fr x:=by cases x<;>rfl
   split at j
   ·rename_i e1 e2 hut huu;split at j
    ·rename_i i hi;split at j
     ·rename_i s;obtain ⟨W,r2,r3,r4⟩:=h.opvT a.defers true x;rw [hap] at W r2 r4;split at j;· obtain ⟨E,hE,j⟩:=aB j;obtain ⟨v',w',D,k⟩:=aXq (P:=P) (ty:=o.type) (o:=o) h r3 W (fun b=>by have:=r4 b;omega) (T y) hut huu hi s.1 s.2.1 s.2.2 hE j;refine upon_value (v:=v') (w':=w') (bi U ?_) k hn;rw [A z,K L];have I  := D;simp [builtin,I]
      obtain ⟨r,R,j⟩:=aB j;cases j;obtain ⟨v',w',D,k⟩:=bAf (P:=P) (ty:=o.type) (dst:=o.dst) h r3 W r2 (fun b=>by grind) (T y) hut huu hi s.1 s.2.1 s.2.2 R;refine upon_value (v:=v') (w':=w') (bi U ?_) k hn;rw [A z,K L];have I  := D;simp [builtin,I]
     simp at j
    simp at j
   ·rename_i e1 hut huu;split at j
    ·rename_i i hi;split at j;· rename_i s;obtain ⟨r,R,j⟩:=aB j;cases j;obtain ⟨W,r2,r3,r4⟩:=h.opvT a.defers true x;rw [hap] at W r2 r4;obtain ⟨v',w',D,k⟩:=aTe (P:=P) (ty:=o.type) (dst:=o.dst) h r3 W r2 (fun b=>by grind) (T y) hut huu hi s.1 s.2.1 s.2.2 R;refine upon_value (v:=v') (w':=w') (bi U ?_) k hn;rw [A z,K L];have I  := D;simp [builtin,I]
     simp at j
    simp at j
   simp at j
  simp at j
 ·rename_i U;split at j;· rename_i x y z;obtain ⟨r,R,j⟩:=aB j;cases j;obtain ⟨v,hv,rv,rf⟩:=(aIT (P:=P) (w:=w) (T x) (T y)).1 R;refine upon_value (v:=v) (bi U ?_) (jG h (rv M B) (rf.no v)) hn;rw [A z];simp [builtin,Builtin.min_,hv]
  simp at j
 ·rename_i U;split at j;· rename_i x y z;obtain ⟨r,R,j⟩:=aB j;cases j;obtain ⟨v,hv,rv,rf⟩:=(aIT (P:=P) (w:=w) (T x) (T y)).2 R;refine upon_value (v:=v) (bi U ?_) (jG h (rv M B) (rf.no v)) hn;rw [A z];simp [builtin,Builtin.max_,hv]
  simp at j
 ·simp at j
theorem aON {o a t x lo g m e} (G:o.op = .slice t x lo g m) (h:SR base M B st a.tmps w)
  (he:qN P a.tmps.size o t x lo g m st some=some e) (R:∀ j w',Aft base M B st a.tmps w e j w'→next ⟨j,a.defers⟩ w') :
  o.upon P a next Q ((execOp a.eval o).run P w):=by
 have p:∀ x,Rv M B (opd st.fr x) (a.eval x):=fun x=>h.opd a.defers x;have fin:∀ {r} {v},(Instr.sliceAt t (a.eval x) (lo.map a.eval) (g.map a.eval) (m.map a.eval)).run P w = .ok v w→Rv M B r v→dU r v→some ({ws:=dstW a.tmps.size o.dst r}:Eff)=some e→o.upon P a next Q ((execOp a.eval o).run P w):=by
  intro r v hrun hr A he;cases he;exact upon_value (v:=v) (w':=w) (by simp [execOp,G];simp [hrun]) (jG h hr A) R
 have nat:∀ {y} {n},aBp (opd st.fr y)=some n→∃ (k:IntKind) (z:Int),a.eval y = .int k z∧0≤z∧n=z.toNat:=by
  intro y n H;obtain ⟨k,z,e1,e2,I⟩:=aTc H;exact ⟨k,z,(p y).int_of e1,e2,I⟩
 unfold qN at he;dsimp at he;split at he
 ·rename_i u;have str:∀ {l h'} {r},aGe 0 (opd st.fr x) l h'=some r→(∀ len,lenN 0 (opd st.fr x)=some len→h'≤len→l≤h'→(Instr.sliceBounds false len len (lo.map a.eval) (g.map a.eval) none).run P w = .ok (l,h',len) w) →
    m=none→some ({ws:=dstW a.tmps.size o.dst r}:Eff)=some e→o.upon P a next Q ((execOp a.eval o).run P w):=by
   intro l h' r C b q i;obtain ⟨v,hv,D,E⟩:=aTd (P:=P) (w:=w) u C (p x) b;rw [q] at fin;exact fin hv (D M B) (E.no v) i
  split at he;· obtain ⟨r,hr,he⟩:=aB he;obtain ⟨n,hn',hr⟩:=aB hr;exact str hr (fun len hlen _ _=>by rw [hn'] at hlen;cases hlen;exact aLF false _ _) rfl he
  ·rename_i l;obtain ⟨r,hr,he⟩:=aB he;obtain ⟨n,hn',hr⟩:=aB hr;obtain ⟨l',hl',hr⟩:=aB hr;obtain ⟨k,z,e1,e2,rfl⟩:=nat hl';exact str hr (fun len hlen _ h2=>by rw [hn'] at hlen;cases hlen;simp [Option.map_some,Option.map_none,e1];exact aLG false _ _ k z e2 h2) rfl he
  ·rename_i h';obtain ⟨r,hr,he⟩:=aB he;obtain ⟨l',hl',hr⟩:=aB hr;obtain ⟨k,z,e1,e2,rfl⟩:=nat hl';exact str hr (fun len hlen h1 h2=>by simp [Option.map_some,Option.map_none,e1];exact aLH false _ _ k z e2 h1) rfl he
  ·rename_i l h';obtain ⟨r,hr,he⟩:=aB he;obtain ⟨l',hl',hr⟩:=aB hr;obtain ⟨n',hn',hr⟩:=aB hr;obtain ⟨k,z,e1,e2,rfl⟩:=nat hl';obtain ⟨k',z',e1',e2',rfl⟩:=nat hn';exact str hr (fun len hlen h1 h2=>by simp [Option.map_some,e1,e1'];exact aLI false _ _ k k' z z' e2 h2 e2' h1) rfl he
  simp at he
 ·rename_i F u;split at he;· simp at he
  ·rename_i n S d;obtain ⟨n,rfl⟩:∃ n',n=n'+1:=by
    cases n with
    | zero=>exact by grind
    | succ n=>exact ⟨n,rfl⟩
   have lst:∀ {l h'} {r},aGe (n+1) (opd st.fr x) l h'=some r→(∀ len cap,lenN (n+1) (opd st.fr x)=some len→h'≤cap→l≤h'→len≤cap→(Instr.sliceBounds true len cap (lo.map a.eval) (g.map a.eval) none).run P w = .ok (l,h',cap) w) →
     m=none→some ({ws:=dstW a.tmps.size o.dst r}:Eff)=some e→o.upon P a next Q ((execOp a.eval o).run P w):=by
    intro l h' r C b q i;obtain ⟨v,hv,D,E⟩:=aU4 (P:=P) (w:=w) u d C (p x) b;rw [q] at fin;exact by grind
   split at he;· obtain ⟨r,hr,he⟩:=aB he;obtain ⟨n',hn',hr⟩:=aB hr;exact lst hr (fun len cap hlen _ _ _=>by rw [hn'] at hlen;cases hlen;exact aLF true _ _) rfl he
   ·rename_i l;obtain ⟨r,hr,he⟩:=aB he;obtain ⟨n',hn',hr⟩:=aB hr;obtain ⟨l',hl',hr⟩:=aB hr;obtain ⟨k,z,e1,e2,rfl⟩:=nat hl';exact lst hr (fun len cap hlen _ h2 _=>by rw [hn'] at hlen;cases hlen;simp [Option.map_some,Option.map_none,e1];exact aLG true _ _ k z e2 h2) rfl he
   ·rename_i h';obtain ⟨r,hr,he⟩:=aB he;obtain ⟨l',hl',hr⟩:=aB hr;obtain ⟨k,z,e1,e2,rfl⟩:=nat hl';exact lst hr (fun len cap hlen h1 h2 _=>by simp [Option.map_some,e1];exact aLH true _ _ k z e2 h1) rfl he
   ·rename_i l h';obtain ⟨r,hr,he⟩:=aB he;obtain ⟨l',hl',hr⟩:=aB hr;obtain ⟨n',hn',hr⟩:=aB hr;obtain ⟨k,z,e1,e2,rfl⟩:=nat hl';obtain ⟨k',z',e1',e2',rfl⟩:=nat hn';exact lst hr (fun len cap hlen h1 h2 _=>by simp [e1,e1'];exact aLI true _ _ k k' z z' e2 h2 e2' h1) rfl he
   ·-- s[:0:0]
    obtain ⟨r,hr,he⟩:=aB he;have run0:∀ ad len cap,a.eval x = .slice ad len cap→(Instr.sliceAt t (a.eval x) none (some (.int .i64 0)) (some (.int .i64 0))).run P w = .ok (.slice ad 0 0) w:=by
     intro ad len cap hev;have b:∀ code c,(Instr.sliceBound (.int .i64 0) c code).run P w = .ok 0 w:=by
      intro code c;simp [Instr.sliceBound,asIntOf]
     simp [Instr.sliceAt,Instr.slice,hev,run_underlying u,Instr.sliceBounds,b,dE w d]
    have hp:=p x;unfold aZG at hr;split at hr
    ·rename_i es T U hv;cases hr;rw [hv] at hp;obtain ⟨v,hev⟩:∃ v,a.eval x=v:=⟨_,rfl⟩;rw [hev] at hp;cases hp with
     | nil _=>exact fin (run0 none 0 0 hev) (.nil true) (aBv _ _ _) he
     | slice _ _ _ ad cap s f K O N L q hr =>
      exact fin (run0 _ _ _ hev) (.slice [] [] true ad 0 1 (fun _ _=>undef) (fun J=>by omega) (by simp) (by simp) (by simp) (by simp) (by simp)) (aBv _ _ _) he
    ·rename_i sz hv;cases hr;rw [hv] at hp;obtain ⟨v,hev⟩:∃ v,a.eval x=v:=⟨_,rfl⟩;rw [hev] at hp;cases hp with
     | mk0 _ ad cap K =>
      exact fin (run0 _ _ _ hev) (.slice [] [] true ad 0 1 (fun _ _=>undef) (fun J=>by omega) (by simp) (by simp) (by simp) (by simp) (by simp)) (aBv _ _ _) he
    simp at hr
   simp at he
  simp at he
 simp at he
theorem aOO {o:Oper} {a t ps cs} (m:o.op = .build t ps) (h:SR base M B st a.tmps w)
  {cells} (e:(Instr.build t (ps.map fun (i,x)=>(i,a.eval x))).run P w = .ok (.agg cells) w) (d:AggRel M w base B cs cells)
  (g:∀ b,bT cs.length (fun j=>c1 (cs.getD j .bot) (cells.getD j undef) b)=0)
  (k:∀ c w',Aft base M B st a.tmps w {ws:=dstW a.tmps.size o.dst (.agg cs)} c w'→next ⟨c,a.defers⟩ w') :
  o.upon P a next Q ((execOp a.eval o).run P w):=by
 refine upon_value (v := .agg cells) (w':=w) ?_ ?_ k;· simp [execOp];simp_all
 obtain ⟨l,f⟩:=d.done;have:=aJL (dst:=o.dst) (lv:=[]) h h l f (fun b=>by
  rw [aUZ _ _ _ d.size,g b];simp)
 grind
theorem aGw:∀ (fs:List Field),fs.all (fun f=>(P.info? f.type).isSome)=true→∃ a,fs.mapM (fun f=>(P.info? f.type).map fun i=>(f.offset,i.size))=some a ∧
  ∀ (i:Nat) f n,fs[i]?=some f→szOf P f.type=some n→a[i]?=some (f.offset,n)
 | [],_=>⟨[],rfl,by simp⟩
 | f::fs,h=>by
  simp only [List.all_cons,Bool.and_eq_true] at h;obtain ⟨a,j,d⟩:=aGw fs h.2;obtain ⟨b,e⟩:=Option.isSome_iff_exists.1 h.1;refine ⟨(f.offset,b.size)::a,?_,?_⟩;· simp_all
  intro i g n k c;cases i with
  | zero=>simp [szOf] at c;grind
  | succ i=>grind
theorem opsF (h:SR base M B st tm w) d (ps:List (Nat×Operand)) :
  (∀ (k:Nat) x y,(ps.map fun p=>(p.1,opv st.fr false p.2))[k]?=some x→(ps.map fun p=>(p.1,(Act.mk tm d).eval p.2))[k]?=some y→x.1=y.1∧Rv M B x.2 y.2∧hV M w base B x.2 y.2) ∧
  ∀ b,sumL (fun x:(Nat×PV)×(Nat×Value)=>cV x.1.2 x.2.2 b) ((ps.map fun p=>(p.1,opv st.fr false p.2)).zip (ps.map fun p=>(p.1,(Act.mk tm d).eval p.2)))=0:=by
 constructor;· intro k x y e g;rw [List.getElem?_map,Option.map_eq_some_iff] at e g;obtain ⟨p,f,rfl⟩:=e;obtain ⟨q,a,rfl⟩:=g;rw [f] at a;cases a;obtain ⟨r,n⟩:=h.opvF d p.2;exact ⟨rfl,r,n.h M w base B⟩
 intro b;apply aCO;intro x e;obtain ⟨k,l⟩:=List.mem_iff_getElem?.1 e;rw [List.getElem?_zip_eq_some] at l;obtain ⟨j,i⟩:=l;rw [List.getElem?_map,Option.map_eq_some_iff] at j i;obtain ⟨p,f,o⟩:=j;obtain ⟨q,a,m⟩:=i;rw [f] at a;cases a;rw [← o,← m];exact (h.opvF d p.2).2.c b
theorem xJ {o a e} (hO:aJR P base.g O) (h:SR base M B st a.tmps w)
  (j:aR P mt a.tmps.size O o st some=some e) (Y:∀ tm' w',Aft base M B st a.tmps w e tm' w'→next ⟨tm',a.defers⟩ w') :
  o.upon P a next Q ((execOp a.eval o).run P w):=by
 have L:∀ x,Rv M B (opd st.fr x) (a.eval x):=fun x=>h.opd a.defers x;have F:∀ {r:PV} {v:Value},(execOp a.eval o).run P w = .ok (.value v) w→Rv M B r v→dU r v→some ({ws:=dstW a.tmps.size o.dst r}:Eff)=some e→o.upon P a next Q ((execOp a.eval o).run P w):=by
  intro r v q I hno j;cases j;exact upon_value q (jG h I hno) Y
 unfold aR at j;dsimp only at j;split at j
 ·-- move
  rename_i x A;cases j;obtain ⟨r1,r2,r3,r4⟩:=h.opvT a.defers (hasO mt.takes o.dst) x;exact upon_value (v:=a.eval x) (w':=w) (by simp [execOp,A]) (aJL h r3 r1 r2 (fun b=>Nat.le_of_eq (r4 b))) Y
 ·rename_i x A;cases j;obtain ⟨r1,r2,r3,r4⟩:=h.opvT a.defers true x;exact upon_value (v:=a.eval x) (w':=w) (by simp [execOp,A]) (aJL h r3 r1 r2 (fun b=>Nat.le_of_eq (r4 b))) Y
 ·-- pick
  rename_i c x y A;obtain ⟨t,ht,j⟩:=aB j;have S:=L c;unfold wS at ht;split at ht
  ·rename_i b hb;cases ht;rw [hb] at S;have S:=S.bool_inv;rcases bA j with ⟨hb',j⟩ | ⟨hb',j⟩;· subst hb';obtain ⟨r1,r2⟩:=h.opvF a.defers x;exact F (v:=a.eval x) (by simp [execOp,A,S,asBool]) r1 r2 j
   ·subst hb';obtain ⟨r1,r2⟩:=h.opvF a.defers y;exact F (v:=a.eval y) (by simp [execOp,A,S,asBool]) r1 r2 j
  ·simp at ht
 ·-- alloc
  rename_i t A;split at j;· rename_i n ag z C W hz;obtain ⟨v,hv,rfl,_⟩:=pQ (P:=P) w hz;have hk:=aU8 (T:=t) h (o:=o) (lv:=[]) j h (Rv.ofValue v) ((gO v).h M w base B) (fun b=>by rw [(gO v).c];simp);refine upon_value (v := .pointer (some ⟨w.heap.size,0,none⟩)) ?_ hk Y;simp only [execOp,A];simp [Instr.alloc,hv,newVar,newRow,newObj,Sem.run_bind,Sem.run_pure];rfl
  ·simp at j
 ·-- box
  rename_i t x A;split at j;· rename_i n ag C W;obtain ⟨r1,r2,r3,r4⟩:=h.opvT a.defers true x;have hk:=aU8 (T:=t) h (o:=o) j r3 r1 r2 (fun b=>by grind);refine upon_value (v := .pointer (some ⟨w.heap.size,0,none⟩)) ?_ hk Y;simp only [execOp,A];simp [Instr.box,newVar,newRow,newObj,Sem.run_bind,Sem.run_pure];rfl
  ·simp at j
 ·-- build
  rename_i t ps A;have hpsl:(ps.map fun (i,x)=>(i,a.eval x)).toList=ps.toList.map fun p=>(p.1,a.eval p.2):=by simp
  obtain ⟨o1,o2⟩:=opsF h a.defers ps.toList;have go:∀ {place:Nat→Option (Nat×Nat×Bool)} {place':Nat→Option (Nat×Nat)} {z:Array Value} {G:List PV},
    (∀ i off n ag,place i=some (off,n,ag)→place' i=some (off,n)) →
    aBq place (ps.toList.map fun p=>(p.1,opv st.fr false p.2)) (z.toList.map ofAtom) some=some G →
    (∀ xs,Instr.fill place' z (ps.toList.map fun p=>(p.1,a.eval p.2))=some xs→P.built t (ps.map fun (i,x)=>(i,a.eval x)).toList=some xs) →
    e={ws:=dstW a.tmps.size o.dst (.agg G)}→o.upon P a next Q ((execOp a.eval o).run P w):=by
   intro place place' z G hpl R hb j;obtain ⟨z1,z2⟩:=aOJ (M:=M) (w:=w) (base:=base) (B:=B) (z:=z);obtain ⟨xs,hxs,hrel,hcnt⟩:=aLQ hpl _ (ps.toList.map fun p=>(p.1,a.eval p.2)) _ G z (by simp) o1 R z1;subst j;refine aOO A h (run_build w t _ xs (hb xs hxs)) hrel (fun b => ?_) Y;have:=hcnt b;rw [z2 b] at this;have h0:=o2 b;have h0':sumL (fun x:(Nat×PV)×(Nat×Value)=>cV x.1.2 x.2.2 b) ((ps.toList.map fun p=>(p.1,opv st.fr false p.2)).zip (ps.toList.map fun p=>(p.1,a.eval p.2)))=0:=h0;omega
  have cpsP:∀ (place:Nat→Option (Nat×Nat×Bool)) (K:List PV→Option Eff) l cs,aBq place l cs K=bnd (aBq place l cs some) K:=by
   intro place K l;induction l with
   | nil=>intro cs;rfl
   | cons x l ih =>
    intro cs;obtain ⟨i,v⟩:=x;simp only [aBq];split
    ·rename_i off size ag H;cases S:mB size ag v with
     | none=>rfl
     | some vs =>
      simp only [bnd];split;· rw [ih];rfl
      ·rfl
    ·rfl
  split at j
  ·rename_i fs z U hz;split at j
   ·rename_i hall;rw [cpsP] at j;obtain ⟨G,R,he2⟩:=aB j;obtain ⟨zv,hzr,J,i,hi,hiz⟩:=pQ (P:=P) w hz;obtain ⟨pl,hpl,hpl2⟩:=aGw (P:=P) fs.toList hall;obtain ⟨za,rfl,rfl⟩:∃ za,zv = .agg za∧z=za.toList.map ofAtom:=by
     unfold ofValue at J;split at J;· rename_i za;exact ⟨za,rfl,by simpa using J⟩
     ·rename_i hna;exfalso;unfold ofAtom at J;split at J<;>simp at J
    refine go (place':=fun i=>pl.toArray[i]?) ?_ R ?_ (Option.some.inj he2).symm;· intro i off n ag H;obtain ⟨f,R,rfl,hs,hg⟩:=uZ H;have:=hpl2 i f n (by simpa using R) hs;simpa using this
    ·intro xs hxs;rw [hpsl];simp only [Program.built,hi,U,hiz,hpl];exact hxs
   ·simp at j
  ·rename_i len el z U hz;split at j
   ·rename_i n ag C W;rw [cpsP] at j;obtain ⟨G,R,he2⟩:=aB j;obtain ⟨zv,hzr,J,i,hi,hiz⟩:=pQ (P:=P) w hz;obtain ⟨za,rfl,rfl⟩:∃ za,zv = .agg za∧z=za.toList.map ofAtom:=by
     unfold ofValue at J;split at J;· rename_i za;exact ⟨za,rfl,by simpa using J⟩
     ·rename_i hna;exfalso;unfold ofAtom at J;split at J<;>simp at J
    obtain ⟨ie,hie,hien⟩:∃ ie,P.info? el=some ie∧ie.size=n:=by
     simpa [szOf] using C
    refine go (place':=fun i=>some (i*n,n)) ?_ R ?_ (Option.some.inj he2).symm;· intro i off n' ag' H;simp only [Option.some.injEq,Prod.mk.injEq] at H;obtain ⟨h1,h2,h3⟩:=H;rw [h1,h2]
    ·intro xs hxs;rw [hpsl];simp only [Program.built,hi,U,hiz,hie,hien];exact hxs
   ·simp at j
  ·simp at j
 ·-- buildSlice
  rename_i t n ps A;split at j
  ·rename_i V U;split at j
   ·rename_i sz z C hz;split at j
    ·rename_i S;obtain ⟨z',hz',j⟩:=aB j;have cpsE:∀ (K:List PV→Option Eff) l es,wV sz l es K=bnd (wV sz l es some) K:=by
      intro K l;induction l with
      | nil=>intro cs;rfl
      | cons x l ih =>
       intro cs;obtain ⟨i,v⟩:=x;simp only [wV];cases S:el sz v with
       | none=>rfl
       | some vs =>
        simp only [bnd];split;· rw [ih];rfl
        ·rfl
     rw [cpsE] at j;obtain ⟨es,R,j⟩:=aB j;obtain ⟨arr,q,h0,h1⟩:=aH1 (ps:=ps) a rfl h U C hz S.1 S.2 z' (by
      cases n with
      | zero=>exact .inl rfl
      | succ n=>exact .inr hz') R
     have j:=Option.some.inj j;subst j;refine upon_value (v := .slice (some ⟨w.heap.size,0,none⟩) n n) (w':={w with heap:=w.heap.push (.cells arr V (0,0))}) (by simp only [execOp,A];simp [q]) ?_ Y;have key:∀ s,RowRel M B s es arr→es.length=n→n*s≤arr.size→Aft base M B st a.tmps w {ws:=dstW a.tmps.size o.dst (.slice es [] true)} (putT a.tmps o.dst (.slice (some ⟨w.heap.size,0,none⟩) n n)) {w with heap:=w.heap.push (.cells arr V (0,0))}:=by
      intro s hrow hlen hs;have:=aJO (dst:=o.dst) (lv:=[]) h h (fun b=>Nat.le_refl _) (cap:=n) (T:=V) (fz:=(0,0)) (w':={w with heap:=w.heap.push (.cells arr V (0,0))}) hrow (by omega) hs (by intro i _;simp) rfl rfl rfl rfl
       (.inl ⟨rfl,fun j=>by subst j;simpa using hlen.symm⟩)
      simpa [hlen] using this
     cases n with
     | zero =>
      have hes:=h0 rfl;exact key 1 ⟨by omega,by simp [hes],by simp [hes],by simp [hes]⟩ (by simp [hes]) (by simp)
     | succ n =>
      obtain ⟨k1,k2,k3⟩:=h1 (by omega);exact by grind
    ·simp at j
   ·simp at j
  ·simp at j
 ·-- load
  rename_i t p A;split at j
  ·rename_i n ag C W;have H:=L p;split at j
   ·rename_i d id off hptr;rw [hptr] at H;split at j
    ·rename_i hn1;obtain ⟨cs,hcs,j⟩:=aB j;split at j
     ·rename_i sz E;obtain ⟨v,hv,j⟩:=aB j;obtain ⟨x,q,k1⟩:=aOF (P:=P) h (dst:=o.dst) C W (fun R=>by simpa [R] using hn1.2) H hcs hv;have D:(execOp a.eval o).run P w = .ok (.value x) w:=by simp only [execOp,A];simp [q]
      cases j;exact upon_value D k1 Y
     ·rename_i hnv;obtain ⟨v,hv,j⟩:=aB j;have hnv':uV cs=false:=by
       unfold uV;split;· exact by grind
       ·rfl
      obtain ⟨x,q,k1,k2⟩:=aXn (P:=P) h (e:=e) (dst:=o.dst) C W (fun R=>by simpa [R] using hn1.2) H hcs hnv' hv;have D:(execOp a.eval o).run P w = .ok (.value x) w:=by simp only [execOp,A];simp [q]
      split at j;· cases j;exact upon_value D k2 Y
      ·cases j;exact upon_value D k1 Y
    ·simp at j
   ·rename_i v hptr;rw [hptr] at H;obtain ⟨v',hv,j⟩:=aB j;obtain ⟨y,q,k⟩:=aOD (P:=P) h (dst:=o.dst) C W H hv;cases j;exact upon_value (v:=y) (w':=w) (by simp only [execOp,A];simp [q]) k Y
   ·simp at j
  ·simp at j
 ·-- store
  rename_i t p x A;split at j
  ·rename_i n ag C W;have H:=L p;split at j
   ·rename_i d id off hptr hd;rw [hptr] at H;obtain ⟨cs,hcs,j⟩:=aB j;obtain ⟨vs,hvs,j⟩:=aB j;obtain ⟨r1,r2,r3,r4⟩:=h.opvT a.defers true x;split at j
    ·rename_i sz E;split at j;· rename_i hn0;obtain ⟨E',hE',j⟩:=aB j;cases j;obtain ⟨w',q,k⟩:=aLM (P:=P) h C H hcs hvs hn0 hE' r3 r1 r2 (fun b=>by grind);refine upon_skip hd ?_ k Y;have D  := q;simp only [execOp,A];simp [D]
     ·simp at j
    ·rename_i hnv;have hnv':uV cs=false:=by
      unfold uV;split;· exact by grind
      ·rfl
     rcases bA j with ⟨R,j⟩ | ⟨_,j⟩
     ·split at j;· rename_i S;cases j;obtain ⟨w',q,k⟩:=aVa (P:=P) h C H hcs hnv' hvs R S.1 r3 r1 r2 (fun b=>by grind);refine upon_skip hd ?_ k Y;have D  := q;simp only [execOp,A];simp [D]
      ·simp at j
     ·simp at j
   ·simp at j
  ·simp at j
 ·-- nilCheck
  rename_i x A;have H:=L x;split at j
  ·rename_i d id off hv;rw [hv] at H;obtain ⟨v,N⟩:∃ v,a.eval x=v:=⟨_,rfl⟩;rw [N] at H;cases H with
   | ptr d id off b hb=>exact F (by simp only [execOp,A,N];rfl) (by grind) (mD _ _ _ _) j
  ·rename_i u hv;rw [hv] at H;obtain ⟨v,N⟩:∃ v,a.eval x=v:=⟨_,rfl⟩;rw [N] at H;cases H with
   | ref _ ad s f ha hel hm I=>exact F (by simp only [execOp,A,N];rfl) (by grind) (aGq _ _) j
  ·rename_i fn a1 b1 hv;rw [hv] at H;obtain ⟨v,N⟩:∃ v,a.eval x=v:=⟨_,rfl⟩;rw [N] at H;cases H with
   | func _ X caps vf vc f g hp' hl R hrf hl' hg hrg=>exact F (by simp only [execOp,A,N];rfl) (by grind) (qC _ _ _ _) j
  ·simp at j
 ·-- binOp
  rename_i op t x y u A;exact aVh A h j Y
 ·-- unOp
  rename_i op u x A;obtain ⟨r,I,j⟩:=aB j;obtain ⟨v,hv,Z,rf⟩:=bBo (P:=P) (w:=w) I (L x);exact F (v:=v) (by simp only [execOp,A];simp [hv]) (Z M B) (rf.no v) j
 ·-- convert
  rename_i s d x A;unfold aCJ at j;split at j;· rename_i k0 k hs hd;obtain ⟨r,I,j⟩:=aB j;obtain ⟨v,hv,Z,rf⟩:=aU5 (P:=P) (w:=w) hs hd I (L x);exact F (v:=v) (by simp only [execOp,A];simp [hv]) (Z M B) (rf.no v) j
  ·rename_i V hs hd;split at j;· rename_i hel;obtain ⟨r,I,j⟩:=aB j;obtain ⟨v,hv,Z,rf⟩:=aU6 (P:=P) hs hel hd h.cons I (L x);exact F (v:=v) (by simp only [execOp,A];simp [hv]) (Z M B) (rf.no v) j
   ·simp at j
  ·rename_i V hs hd;split at j;· rename_i hel;obtain ⟨r,I,j⟩:=aB j;obtain ⟨v',w',q,k⟩:=aOK (P:=P) h (dst:=o.dst) hs hd hel (L x) I;cases j;exact upon_value (v:=v') (w':=w') (by simp only [execOp,A];simp [q]) k Y
   ·simp at j
  ·simp at j
 ·-- makeSlice
  rename_i t l c A;split at j
  ·rename_i e' U;split at j
   ·rename_i i hi;split at j
    ·rename_i hcond;obtain ⟨h0,hby,hz⟩:=hcond;obtain ⟨z,hz1,hz2⟩:=vA hz;split at j;· obtain ⟨E,hE,j⟩:=aB j;obtain ⟨v',w',q,k⟩:=aVf (P:=P) h (o:=o) U hi h0 hby hz (L l) (L c) hE j;refine upon_value (v:=v') (w':=w') ?_ k Y;simp only [execOp,A];simp [q]
     split at j
     ·obtain ⟨r0,hr0,j⟩:=aB j;unfold mkSl at hr0;obtain ⟨nn,hcn,hr0⟩:=aB hr0;split at hr0;rotate_left;· simp at hr0
      rename_i hlim;cases hr0;cases j;obtain ⟨w',q,k⟩:=aJQ (P:=P) h (dst:=o.dst) U hi hz1 hz2 h0 hby hlim hcn (L c);refine upon_value (w':=w') ?_ k Y;simp only [execOp,A];have:a.eval (.const (.int .i64 0)) = .int .i64 0:=rfl;rw [this];simp [q]
     ·simp at j
    ·simp at j
   ·simp at j
  ·simp at j
 ·-- makeFunc
  rename_i fn X caps A;refine F (v := .func fn (X.map a.eval) (caps.map a.eval)) (by simp only [execOp,A];rfl) ?_ (qC _ _ _ _) j;refine .func fn _ _ _ _ (fun i=>(X.map a.eval).getD i undef) (fun i=>(caps.map a.eval).getD i undef) ?_ (by simp) ?_ ?_ (by simp) ?_ ?_;· intro c S;rw [← List.map_append] at S;obtain ⟨x,_,rfl⟩:=List.mem_map.1 S;exact aIO _
  ·intro i hi;simp at hi;simp [hi]
  ·intro i c S;rw [List.getElem?_map,Option.map_eq_some_iff] at S;obtain ⟨x,hx',rfl⟩:=S;have:(X.map a.eval).getD i undef=a.eval x:=by
    simp only [Array.getElem?_toList] at hx';simp [Array.getD_eq_getD_getElem?,hx']
   rw [this];exact (L x).plain
  ·intro i hi;simp at hi;simp [hi]
  ·intro i c S;rw [List.getElem?_map,Option.map_eq_some_iff] at S;obtain ⟨x,hx',rfl⟩:=S;have:(caps.map a.eval).getD i undef=a.eval x:=by
    simp only [Array.getElem?_toList] at hx';simp [Array.getD_eq_getD_getElem?,hx']
   rw [this];exact (L x).plain
 ·-- slice
  rename_i t x lo hi m A;exact aON A h j Y
 ·-- fieldAddr
  rename_i s x f A;split at j
  ·rename_i fs U;split at j
   ·rename_i off n ag R;split at j
    ·rename_i hpos;obtain ⟨r,I,j⟩:=aB j;obtain ⟨v,hv,Z,hno⟩:=aOA (P:=P) (w:=w) U R hpos I (L x);refine F (v:=v) (by simp only [execOp,A];simp [hv]) Z ?_ j;rcases hno with ⟨d,i,o',rfl⟩ | ⟨e',rfl⟩;· exact mD _ _ _ _
     ·exact aGq _ _
    ·simp at j
   ·simp at j
  ·simp at j
 ·-- field
  rename_i s x f A;split at j
  ·rename_i fs U;split at j;· rename_i off n ag R;obtain ⟨r,I,j⟩:=aB j;obtain ⟨v,hv,Z⟩:=aU3 (P:=P) (w:=w) U R I (L x);exact F (v:=v) (by simp only [execOp,A];simp [hv]) Z.plain (bS _ _) j
   ·simp at j
  ·simp at j
 ·-- indexAddr
  rename_i t x i A;split at j
  ·rename_i V U;split at j
   ·rename_i n C;obtain ⟨r,I,j⟩:=aB j;obtain ⟨v,hv,Z,⟨e',rfl⟩ | ⟨d',i',o',rfl⟩⟩:=aOB (P:=P) (w:=w) U C I (L x) (L i);· exact F (v:=v) (by simp [execOp,A];simp [hv]) Z (aGq _ _) j
    exact F (v:=v) (by simp [execOp,A];simp [hv]) Z (mD _ _ _ _) j
   ·simp at j
  ·rename_i len V U;split at j
   ·rename_i n C;split at j;· obtain ⟨r,I,j⟩:=aB j;obtain ⟨v,hv,Z,d,i',o',rfl⟩:=aLC (P:=P) (w:=w) U C I (L x) (L i);exact F (v:=v) (by simp [execOp,A];simp [hv]) Z (mD _ _ _ _) j
    simp at j
   simp at j
  ·simp at j
 ·-- index
  rename_i t x i A;split at j;· rename_i U;obtain ⟨r,I,j⟩:=aB j;obtain ⟨v,hv,Z,rf⟩:=aLD (P:=P) (w:=w) U I (L x) (L i);exact F (v:=v) (by simp [execOp,A];simp [hv]) (Z M B) (rf.no v) j
  ·rename_i len V U;split at j;· rename_i n ag C W;obtain ⟨r,I,j⟩:=aB j;obtain ⟨v,hv,Z⟩:=aLE (P:=P) (w:=w) U C W I (L x) (L i);exact F (v:=v) (by simp [execOp,A];simp [hv]) Z.plain (bS _ _) j
   simp at j
  simp at j
 ·-- extract
  rename_i x i A;obtain ⟨r,I,j⟩:=aB j;unfold ext at I;split at I
  ·rename_i vs hv;have H:=L x;rw [hv] at H;obtain ⟨v,N⟩:∃ v,a.eval x=v:=⟨_,rfl⟩;rw [N] at H;cases H with
   | tuple _ xs f hl R hrr =>
    rw [jS] at I;have hlt:=(List.getElem?_eq_some_iff.1 I).1;exact F (v:=f i) (by simp [execOp,A,N];simp [Instr.extract,R i hlt]) (hrr i r I).plain (bS _ _) j
  simp at I
 ·rename_i c A;exact aTg hO A h j Y
 ·simp at j
end
structure Eqv (s t:St):Prop where
 fr:∀ i,gets s.fr i=gets t.fr i
 bx:∀ d id,bB s.bx d id=bB t.bx d id
 len:s.bx.length=t.bx.length
def Nd (bx:List fM):Prop:=∀ (d:Nat) f,bx[d]?=some f→(f.map (·.1)).Nodup
theorem Eqv.refl s:Eqv s s:=⟨fun _=>rfl,fun _ _=>rfl,rfl⟩
theorem Eqv.symm {s t} (h:Eqv s t):Eqv t s:=⟨fun i=>(h.fr i).symm,fun d i=>(h.bx d i).symm,h.len.symm⟩
theorem Eqv.trans {s t u} (h:Eqv s t) (k:Eqv t u):Eqv s u:=⟨fun i=>(h.fr i).trans (k.fr i),fun d i=>(h.bx d i).trans (k.bx d i),h.len.trans k.len⟩
theorem aTh {g a b} (h:a.Perm b):dT g a=dT g b:=by
 induction h with
 | nil=>rfl
 | cons x _ c=>simp [dT,c]
 | swap x y l=>simp [dT];omega
 | trans _ _ e d=>omega
theorem pR {α:Type}:∀ {l:List (Nat×α)},(l.map (·.1)).Nodup→l.Nodup
 | [],_=>List.nodup_nil
 | (i,x)::l,h=>by
  simp at h;rw [List.nodup_cons];exact ⟨fun a=>by grind,pR h.2⟩
theorem aTi {g} {a b:fM} (f:(a.map (·.1)).Nodup) (e:(b.map (·.1)).Nodup) (h:∀ i,look a i=look b i):dT g a=dT g b:=by
 apply aTh;rw [List.perm_ext_iff_of_nodup (pR f) (pR e)];rintro ⟨i,c⟩;constructor;· intro d;have:=gN f d;rw [h i] at this;exact kD this
 intro d;have:=gN e d;rw [← h i] at this;exact kD this
theorem aIY {g}:∀ a b d0,Nd a→Nd b→a.length=b.length→(∀ d id,bB a d id=bB b d id)→fW g d0 a=fW g d0 b
 | [],[],_,_,_,_,_=>rfl
 | [],_::_,_,_,_,h,_=>by grind
 | _::_,[],_,_,_,h,_=>by grind
 | f::a,f'::b,d0,e,c,k,h=>by
  simp [fW];rw [aTi (e 0 f rfl) (c 0 f' rfl) (fun i=>by simpa [bF] using h 0 i),
   aIY a b (d0+1) (fun d g j=>e (d+1) g (by grind)) (fun d g j=>c (d+1) g (by grind)) (by grind) (fun d id=>by simpa [fX] using h (d+1) id)]
section
variable {base : Base} {M : Mem} {B : BM} {st t : St} {tm : Array Value} {w : World}
theorem aOP (a:Eqv st t) (f:Nd st.bx) (c:Nd t.bx) b:tot t.fr tm w B t.bx b=tot st.fr tm w B st.bx b:=by
 have g:cF t.fr tm b=cF st.fr tm b:=eK _ fun i _=>by rw [a.fr i]
 have e:cBx w B t.bx b=cBx w B st.bx b:=aIY _ _ _ c f a.len.symm (fun d id=>(a.bx d id).symm);simp [tot,g,e]
theorem SR.eqv (h:SR base M B st tm w) (a:Eqv st t) (c:Nd t.bx):SR base M B t tm w:=by
 refine ⟨h.cons,fun i=>by rw [← a.fr i];exact h.slot i,fun i=>by rw [← a.fr i];exact h.slotH i,⟨c,?_,?_,h.box.inj⟩,fun b=>by rw [aOP a h.box.nodup c];exact h.one b,h.glob,h.base⟩;· intro d id f;exact h.box.dom d id (by rw [a.bx];exact f)
 intro d id cs e;exact h.box.ok d id cs (by rw [a.bx];exact e)
end
structure Shp (e:Eff):Prop where
 up:e.up=none
 cw:e.cw=[]∨∃ c,e.cw=[c]
 nw:e.nw=[]∨∃ x,e.nw=[x]
def NeOk (e:Eff) (s:St):Prop:=e.nw≠[]→s.bx.length≠0
theorem NeOk.ne {e s} (h:NeOk e s):e.nw≠[]→s.bx≠[]:=fun a b=>h a (by grind)
def qS (cw:List (Nat×Nat×Nat×List PV)) (d id:Nat) (x:Option (List PV)):Option (List PV) :=
 match cw with
 | []=>x
 | c::_=>if d=c.1∧id=c.2.1 then x.map fun cs=>putAt cs c.2.2.1 c.2.2.2 else x
def aA3 (nw:List (Nat×List PV)) (d id:Nat) (x:Option (List PV)):Option (List PV) :=
 match nw with
 | []=>x
 | c::_=>if d=0∧id=c.1 then some c.2 else x
theorem Eff.bx_app {e} (h:Shp e) st (m:NeOk e st) d id:bB (e.app st).bx d id=aA3 e.nw d id (qS e.cw d id (bB st.bx d id)):=by
 have i:bB (cP st.bx e.cw) d id=qS e.cw d id (bB st.bx d id):=by
  rcases h.cw with a | ⟨⟨c,g,o,vs⟩,a⟩;· rw [a];rfl
  rw [a];simp [cP,qS];cases j:bB st.bx c g with
  | none =>
   grind
  | some cs =>
   rw [xD _ _ _ _ _ _ _ j];grind
 have l:e.nw≠[]→cP st.bx e.cw≠[]:=by
  intro k;have:=m.ne k;rcases h.cw with a | ⟨⟨c,g,o,vs⟩,a⟩;· rw [a];exact this
  rw [a];simp [cP];cases j:bB st.bx c g with
  | none=>omega
  | some cs =>
   cases b:st.bx with
   | nil=>grind
   | cons f r=>cases c<;>simp [bW]
 simp [Eff.app,h.up];rcases h.nw with a | ⟨⟨g,cs⟩,a⟩;· rw [a,qD];exact i
 rw [a];cases b:cP st.bx e.cw with
 | nil=>grind
 | cons f r =>
  rw [b] at i;simp [wT,aA3];cases d with
  | zero =>
   rw [bF] at i ⊢;simp [look];grind
  | succ d =>
   rw [fX] at i ⊢;grind
theorem aE1:∀ bx d id cs,(bW bx d id cs).length=bx.length
 | [],_,_,_=>rfl
 | _::_,0,_,_=>rfl
 | _::r,d+1,id,cs=>by simp [bW,aE1 r]
theorem sA:∀ l bx,(cP bx l).length=bx.length
 | [],_=>rfl
 | (d,id,o,vs)::l,bx=>by
  simp [cP];split;· rw [sA,aE1]
  exact sA l bx
theorem aTj bx a (h:a≠[]→bx≠[]):(wT bx a).length=bx.length:=by
 cases a with
 | nil=>rw [qD]
 | cons x l =>
  cases bx with
  | nil=>grind
  | cons b r=>rfl
theorem Eff.len_app {e} (h:Shp e) st (b:NeOk e st):(e.app st).bx.length=st.bx.length:=by
 simp [Eff.app,h.up];rw [aTj,sA];intro a c;have:=sA e.cw st.bx;exact b.ne a (by grind)
theorem Eff.fr_app (e:Eff) st i:gets (e.app st).fr i=match look e.ws i with | some v=>v | none=>gets st.fr i:=by
 exact aXj _ _ _
theorem Eqv.app {s t} (h:Eqv s t) {e} (b:Shp e) (c:NeOk e s):Eqv (e.app s) (e.app t):=by
 have a:NeOk e t:=fun f=>by rw [← h.len];exact c f
 refine ⟨fun i=>by rw [Eff.fr_app,Eff.fr_app,h.fr i],fun d id => ?_,?_⟩;· rw [Eff.bx_app b s c,Eff.bx_app b t a,h.bx]
 rw [Eff.len_app b s c,Eff.len_app b t a,h.len]
section
variable {P : Program} {mt : Hints} {nt : Nat} {O : Orc}
structure EffOk (mt:Hints) (st:St) (o:Oper) (e:Eff):Prop where
 shp:Shp e
 ws:∀ x∈e.ws,x.1∈aGf mt o
 nw:∀ x∈e.nw,o.dst=some x.1∧bB st.bx 0 x.1=none∧st.bx≠[]
theorem xK {d v}:∀ x∈dstW nt d v,d=some x.1:=by
 intro x a;unfold dstW at a;grind
theorem tV {fr a y}:∀ x∈left fr a y,a=true∧y = .tmp x.1:=by
 intro x b;unfold left at b;grind
theorem fO {o:Oper} {i:Nat} (h:o.dst=some i):i∈aGf mt o:=by simp [aGf,h]
theorem bX {st o e v cr} (h:({cr:=cr,ws:=dstW nt o.dst v}:Eff)=e):EffOk mt st o e:=by
 subst h;exact ⟨⟨rfl,.inl rfl,.inl rfl⟩,fun x a=>fO (xK x a),by simp⟩
theorem aAq {st o e v b} {y:Operand} (c:∀ t,b=true→y = .tmp t→t∈eH mt o) (h:({ws:=dstW nt o.dst v++left st.fr b y}:Eff)=e):EffOk mt st o e:=by
 subst h;refine ⟨⟨rfl,.inl rfl,.inl rfl⟩,?_,by simp⟩;intro x a;rcases List.mem_append.1 a with a | a;· exact fO (xK x a)
 obtain ⟨f,d⟩:=tV x a;exact List.mem_append.2 (.inr (c _ f d))
theorem aLV {st o e n f v lv} (k:∀ x∈lv,x.1∈eH mt o) (h:newBox nt o n f v lv st some=some e):EffOk mt st o e:=by
 unfold newBox at h;split at h
 ·rename_i id b;obtain ⟨c,d,l,r,g,j⟩:=lC b;obtain ⟨cs,i,h⟩:=aB h;rcases bA h with ⟨_,h⟩ | ⟨_,h⟩
  ·cases h;refine ⟨⟨rfl,.inl rfl,by simp⟩,?_,?_⟩
   ·intro x a;rcases List.mem_cons.1 a with rfl | a;· exact fO c
    exact List.mem_append.2 (.inr (k x a))
   intro x a;simp at a;subst a;exact ⟨c,by rw [g,bF];omega,by grind⟩
  grind
 grind
theorem aGx {st o e sz E lv} (i:∀ x∈lv,x.1∈eH mt o) (h:mC nt o sz E lv st some=some e):EffOk mt st o e:=by
 unfold mC at h;split at h
 ·rename_i id b;obtain ⟨c,d,j,r,f,g⟩:=lC b;cases h;refine ⟨⟨rfl,.inl rfl,by simp⟩,?_,?_⟩
  ·intro x a;rcases List.mem_cons.1 a with rfl | a;· exact fO c
   exact List.mem_append.2 (.inr (i x a))
  intro x a;simp at a;subst a;exact ⟨c,by rw [f,bF];omega,by grind⟩
 grind
theorem qT {place R} (K:List PV→Option R):∀ l cs,aBq place l cs K=bnd (aBq place l cs some) K
 | [],cs=>rfl
 | (i,v)::l,cs=>by
  simp [aBq];split
  ·rename_i off size a c;cases b:mB size a v with
   | none=>rfl
   | some vs =>
    simp [bnd];split;· rw [qT K l];rfl
    rfl
  rfl
theorem aCU {sz R} (K:List PV→Option R):∀ l es,wV sz l es K=bnd (wV sz l es some) K
 | [],es=>rfl
 | (i,v)::l,es=>by
  simp [wV];cases a:el sz v with
  | none=>rfl
  | some vs =>
   simp [bnd];split;· rw [aCU K l];rfl
   rfl
theorem aVk {o st e} (h:aR P mt nt O o st some=some e) (w:e.up=none):EffOk mt st o e:=by
 unfold aR at h;dsimp at h;split at h;· rename_i x b;refine aAq ?_ (Option.some.inj h);intro t l a;simp [eH,b,l,a]
 ·rename_i x b;refine aAq ?_ (Option.some.inj h);intro t l a;simp [eH,b,l,a]
 ·obtain ⟨t,l,h⟩:=aB h;rcases bA h with ⟨_,h⟩ | ⟨_,h⟩<;>exact bX (Option.some.inj h)
 ·split at h;· exact aLV (by simp) h
  ·simp at h
 ·rename_i t x b;split at h;· refine aLV ?_ h;intro y d;obtain ⟨_,g⟩:=tV y d;simp [eH,b,g]
  ·simp at h
 ·split at h
  ·split at h;· rw [qT] at h;obtain ⟨cs,_,h⟩:=aB h;exact bX (Option.some.inj h)
   ·simp at h
  ·split at h;· rw [qT] at h;obtain ⟨cs,_,h⟩:=aB h;exact bX (Option.some.inj h)
   ·simp at h
  ·simp at h
 ·split at h
  ·split at h
   ·split at h;· obtain ⟨z,_,h⟩:=aB h;rw [aCU] at h;obtain ⟨cs,_,h⟩:=aB h;exact bX (Option.some.inj h)
    ·simp at h
   ·simp at h
  ·simp at h
 ·-- load
  split at h
  ·split at h
   ·split at h
    ·obtain ⟨cs,_,h⟩:=aB h;split at h;· obtain ⟨v,_,h⟩:=aB h;exact bX (Option.some.inj h)
     ·obtain ⟨v,_,h⟩:=aB h;split at h;· cases h;exact ⟨⟨rfl,by simp,.inl rfl⟩,fun x a=>fO (xK x a),by simp⟩
      ·exact bX (Option.some.inj h)
    ·simp at h
   ·obtain ⟨v,_,h⟩:=aB h;exact bX (Option.some.inj h)
   ·simp at h
  ·simp at h
 ·-- store
  rename_i t p x b;split at h
  ·split at h
   ·obtain ⟨cs,_,h⟩:=aB h;obtain ⟨v,_,h⟩:=aB h;split at h
    ·split at h;· obtain ⟨B,_,h⟩:=aB h;cases h;refine ⟨⟨rfl,by simp,.inl rfl⟩,?_,by simp⟩;intro y d;obtain ⟨_,g⟩:=tV y (show y∈left st.fr true x from d);exact List.mem_append.2 (.inr (by simp [eH,b,g]))
     ·simp at h
    rcases bA h with ⟨_,h⟩ | ⟨_,h⟩
    ·split at h;· cases h;refine ⟨⟨rfl,by simp,.inl rfl⟩,?_,by simp⟩;intro y d;obtain ⟨_,g⟩:=tV y (show y∈left st.fr true x from d);exact List.mem_append.2 (.inr (by simp [eH,b,g]))
     ·simp at h
    ·simp at h
   ·simp at h
  ·simp at h
 ·split at h<;>first | exact bX (Option.some.inj h) | simp at h
 ·-- binOp
  unfold qO at h;dsimp at h;split at h<;>(try split at h)<;>(try split at h)<;>first
   | (obtain ⟨r,_,h⟩:=aB h;exact bX (Option.some.inj h))
   | (simp at h;done)
 ·obtain ⟨r,_,h⟩:=aB h;exact bX (Option.some.inj h)
 ·unfold aCJ at h;dsimp at h;split at h<;>(try split at h)<;>first
   | (obtain ⟨r,_,h⟩:=aB h;exact bX (Option.some.inj h))
   | (simp at h;done)
 ·split at h
  ·split at h
   ·split at h
    ·split at h;· obtain ⟨r,_,h⟩:=aB h;exact aGx (by simp) h
     ·split at h;· obtain ⟨r,_,h⟩:=aB h;exact bX (Option.some.inj h)
      ·simp at h
    ·simp at h
   ·simp at h
  ·simp at h
 ·exact bX (Option.some.inj h)
 ·unfold qN at h;dsimp at h;split at h<;>(try split at h)<;>(try split at h)<;>first
   | (obtain ⟨r,_,h⟩:=aB h;exact bX (Option.some.inj h))
   | (simp at h;done)
 ·split at h
  ·split at h
   ·split at h;· obtain ⟨r,_,h⟩:=aB h;exact bX (Option.some.inj h)
    ·simp at h
   ·simp at h
  ·simp at h
 ·split at h
  ·split at h;· obtain ⟨r,_,h⟩:=aB h;exact bX (Option.some.inj h)
   ·simp at h
  ·simp at h
 ·split at h
  ·split at h;· obtain ⟨r,_,h⟩:=aB h;exact bX (Option.some.inj h)
   ·simp at h
  ·split at h
   ·split at h;· obtain ⟨r,_,h⟩:=aB h;exact bX (Option.some.inj h)
    ·simp at h
   ·simp at h
  ·simp at h
 ·split at h;· obtain ⟨r,_,h⟩:=aB h;exact bX (Option.some.inj h)
  ·split at h;· obtain ⟨r,_,h⟩:=aB h;exact bX (Option.some.inj h)
   ·simp at h
  ·simp at h
 ·obtain ⟨r,_,h⟩:=aB h;exact bX (Option.some.inj h)
 ·-- call
  rename_i c b;unfold gM at h;dsimp at h;split at h
  ·rename_i f q;split at h
   ·split at h;· simp at h
    ·rcases bA h with ⟨_,h⟩ | ⟨_,h⟩;· obtain ⟨r,_,h⟩:=aB h;cases h;simp at w
     ·simp at h
    ·have k:∀ x∈c.args.toList.flatMap (left st.fr (hasO mt.takes o.dst)),x.1∈eH mt o:=by
      intro x a;obtain ⟨y,d,a⟩:=List.mem_flatMap.1 a;obtain ⟨A,g⟩:=tV x a;subst g;simp [eH];exact by grind
     have j:∀ v,∀ x∈dstW nt o.dst v++c.args.toList.flatMap (left st.fr (hasO mt.takes o.dst)),x.1∈aGf mt o:=by
      intro v x a;rcases List.mem_append.1 a with a | a;· exact fO (xK x a)
      ·exact List.mem_append.2 (.inr (k x a))
     split at h
     ·rcases bA h with ⟨_,h⟩ | ⟨_,h⟩
      ·unfold aM at h;rcases bA h with ⟨_,h⟩ | ⟨_,h⟩
       ·obtain ⟨r,_,h⟩:=aB h;split at h
        ·rcases bA h with ⟨_,h⟩ | ⟨_,h⟩;· cases h;exact ⟨⟨rfl,.inl rfl,.inl rfl⟩,j _,by simp⟩
         simp at h
        simp at h
       simp at h
      ·simp at h
     ·simp at h
     ·unfold aM at h;rcases bA h with ⟨_,h⟩ | ⟨_,h⟩
      ·obtain ⟨r,_,h⟩:=aB h;split at h;· obtain ⟨E,_,h⟩:=aB h;exact aGx k h
       simp at h
      simp at h
     ·unfold aM at h;rcases bA h with ⟨_,h⟩ | ⟨_,h⟩
      ·obtain ⟨r,_,h⟩:=aB h;split at h;· cases h;exact ⟨⟨rfl,.inl rfl,.inl rfl⟩,j _,by simp⟩
       simp at h
      simp at h
   ·simp at h
  ·split at h
   ·split at h<;>first
     | (obtain ⟨r,_,h⟩:=aB h;exact bX (Option.some.inj h))
     | (simp at h;done)
   simp at h
  ·rename_i q;split at h
   ·rename_i x y t u i n;have d:∀ m,true=true→x = .tmp m→m∈eH mt o:=by
     intro m _ a;simp [eH,b,q,i,a]
    split at h
    ·split at h
     ·split at h
      ·split at h;· obtain ⟨r,_,h⟩:=aB h;exact aGx (fun z s=>by obtain ⟨_,g⟩:=tV z s;exact by grind) h
       obtain ⟨r,_,h⟩:=aB h;exact aAq d (Option.some.inj h)
      simp at h
     simp at h
    ·split at h
     ·split at h;· obtain ⟨r,_,h⟩:=aB h;exact aAq d (Option.some.inj h)
      simp at h
     simp at h
    simp at h
   simp at h
  ·split at h;· obtain ⟨r,_,h⟩:=aB h;exact bX (Option.some.inj h)
   simp at h
  ·split at h;· obtain ⟨r,_,h⟩:=aB h;exact bX (Option.some.inj h)
   simp at h
  ·simp at h
 ·simp at h
end
def AgrO (lo n:Nat):Option (List PV)→Option (List PV)→Prop
 | some a,some b=>a.length=b.length∧∀ k,lo≤k→k<lo+n→a[k]?=b[k]?
 | none,none=>True
 | _,_=>False
theorem AgrO.refl {b n} a:AgrO b n a a:=by cases a<;>simp [AgrO]
theorem AgrO.symm {c n a b} (h:AgrO c n a b):AgrO c n b a:=by
 cases a<;>cases b<;>simp [AgrO] at h ⊢;grind
def mG (x:Nat×Nat×Nat×Nat) (s t:List fM):Prop:=AgrO x.2.2.1 x.2.2.2 (bB s x.1 x.2.1) (bB t x.1 x.2.1)
structure Agr (R:List Nat) (F:Foot) (s t:St):Prop where
 fr:∀ i∈R,gets s.fr i=gets t.fr i
 acc:∀ x∈F.rd++F.wr,mG x s.bx t.bx
 nw:∀ i∈F.nw,(bB s.bx 0 i=none↔bB t.bx 0 i=none)
 len:s.bx.length=t.bx.length
theorem mG.some {x s t a} (h:mG x s t) (d:bB s x.1 x.2.1 = .some a) :
  ∃ b,bB t x.1 x.2.1 = .some b∧a.length=b.length∧∀ k,x.2.2.1≤k→k<x.2.2.1+x.2.2.2→a[k]?=b[k]?:=by
 unfold mG at h;rw [d] at h;cases c:bB t x.1 x.2.1 with
 | none=>rw [c] at h;simp [AgrO] at h
 | some b=>rw [c] at h;exact ⟨b,rfl,h⟩
theorem aTk {off n d a b v} (e:a.length=b.length) (f:∀ k,off≤k→k<off+n→a[k]?=b[k]?) (g:0<n) (h:part off n d a=some v):part off n d b=some v:=by
 unfold part at h ⊢;cases d with
 | true =>
  simp only at h ⊢;rw [← e];split at h;· rename_i c;rw [if_pos c,← h];congr 2;apply List.ext_getElem?;grind
  grind
 | false =>
  simp [jS] at h ⊢;grind
section
variable {P : Program} {mt : Hints} {nt : Nat} {O : Orc}
def aCV (fr fr':List (Nat×PV)) (x:Operand):Prop:=opd fr x=opd fr' x∧∀ tk,opv fr tk x=opv fr' tk x∧left fr tk x=left fr' tk x
theorem bBq {fr fr'} {x:Operand} (h:∀ t,x = .tmp t→gets fr t=gets fr' t):aCV fr fr' x:=by
 cases x with
 | tmp t =>
  have:=h t rfl;refine ⟨this,fun a => ?_⟩;cases a<;>simp [opv,left,this]
 | const v=>exact ⟨rfl,fun a=>⟨rfl,rfl⟩⟩
 | global g=>exact ⟨rfl,fun a=>⟨rfl,rfl⟩⟩
 | func f=>exact ⟨rfl,fun a=>⟨rfl,rfl⟩⟩
theorem aVl {o fr fr' bx} (h:∀ x∈o.op.operands.toList,aCV fr fr' x) :
  aR P mt nt O o ⟨fr,bx⟩ some=aR P mt nt O o ⟨fr',bx⟩ some:=by
 have mapv:∀ (l:List Operand) tk,(∀ x∈l,aCV fr fr' x)→l.map (opv fr tk)=l.map (opv fr' tk):=by
  intro l tk hl;exact List.map_congr_left fun x hx=>((hl x hx).2 tk).1
 have mapp:∀ (l:List (Nat×Operand)) tk,(∀ x∈l.map (·.2),aCV fr fr' x)→l.map (fun p=>(p.1,opv fr tk p.2))=l.map (fun p=>(p.1,opv fr' tk p.2)):=by
  intro l tk hl;exact List.map_congr_left fun p hp=>by rw [((hl p.2 (List.mem_map.2 ⟨p,hp,rfl⟩)).2 tk).1]
 have mapl:∀ (l:List Operand) tk,(∀ x∈l,aCV fr fr' x)→l.flatMap (left fr tk)=l.flatMap (left fr' tk):=by
  intro l tk;induction l with
  | nil=>intro _;rfl
  | cons x l ih=>intro hl;simp only [List.flatMap_cons];rw [((hl x (by simp)).2 tk).2,ih fun y hy=>hl y (by simp [hy])]
 cases ho:o.op with
 | move x =>
  have hx:=h x (by simp [ho,Op.operands]);simp only [aR,ho,(hx.2 _).1,(hx.2 _).2]
 | assign x =>
  have hx:=h x (by simp [ho,Op.operands]);simp only [aR,ho,(hx.2 _).1,(hx.2 _).2]
 | pick c a b =>
  have h1:=h c (by simp [ho,Op.operands]);have h2:=h a (by simp [ho,Op.operands]);have h3:=h b (by simp [ho,Op.operands]);simp only [aR,ho,h1.1,(h2.2 _).1,(h3.2 _).1]
 | alloc t=>simp only [aR,ho,newBox,kJ]
 | box t x =>
  have hx:=h x (by simp [ho,Op.operands]);simp only [aR,ho,newBox,kJ,(hx.2 _).1,(hx.2 _).2]
 | build t ps =>
  have hp:=mapp ps.toList false (fun x hx=>h x (by simpa [ho,Op.operands] using hx));simp only [aR,ho,hp]
 | buildSlice t n ps =>
  have hp:=mapp ps.toList false (fun x hx=>h x (by simpa [ho,Op.operands] using hx));simp only [aR,ho,hp]
 | load t p =>
  have hx:=h p (by simp [ho,Op.operands]);simp only [aR,ho,hx.1]
 | store t p x =>
  have h1:=h p (by simp [ho,Op.operands]);have h2:=h x (by simp [ho,Op.operands]);simp only [aR,ho,h1.1,(h2.2 _).1,(h2.2 _).2]
 | nilCheck x =>
  have hx:=h x (by simp [ho,Op.operands]);simp only [aR,ho,hx.1]
 | binOp op t x y u =>
  have h1:=h x (by simp [ho,Op.operands]);have h2:=h y (by simp [ho,Op.operands]);simp only [aR,ho,h1.1,h2.1]
 | unOp op u x =>
  have hx:=h x (by simp [ho,Op.operands]);simp only [aR,ho,hx.1]
 | convert s d x =>
  have hx:=h x (by simp [ho,Op.operands]);simp only [aR,ho,hx.1]
 | makeSlice t l c =>
  have h1:=h l (by simp [ho,Op.operands]);have h2:=h c (by simp [ho,Op.operands]);simp only [aR,ho,h1.1,h2.1,mC,kJ]
 | makeFunc fn first caps =>
  have e1:first.toList.map (fun x=>(opd fr x).plain)=first.toList.map (fun x=>(opd fr' x).plain):=List.map_congr_left fun x hx=>by rw [(h x (by simp [ho,Op.operands];left;simpa using hx)).1]
  have e2:caps.toList.map (fun x=>(opd fr x).plain)=caps.toList.map (fun x=>(opd fr' x).plain):=List.map_congr_left fun x hx=>by rw [(h x (by simp [ho,Op.operands];right;simpa using hx)).1]
  simp only [aR,ho,e1,e2]
 | slice t x l hh m =>
  have hx:=h x (by simp [ho,Op.operands]);have hl:∀ y,l=some y→opd fr y=opd fr' y:=fun y hy=>(h y (by simp [ho,Op.operands,hy])).1;have hhh:∀ y,hh=some y→opd fr y=opd fr' y:=fun y hy=>(h y (by simp [ho,Op.operands,hy])).1;simp only [aR,ho,qN,hx.1];cases l<;>cases hh<;>cases m<;>(try have e1:=hl _ rfl)<;>(try have e2:=hhh _ rfl)<;>(try simp only [e1])<;>(try simp only [e2])<;>(try rfl)<;>(repeat' split)<;>first | rfl | (exfalso;simp_all;done)
 | fieldAddr s x f =>
  have hx:=h x (by simp [ho,Op.operands]);simp only [aR,ho,hx.1]
 | field s x f =>
  have hx:=h x (by simp [ho,Op.operands]);simp only [aR,ho,hx.1]
 | indexAddr t x i =>
  have h1:=h x (by simp [ho,Op.operands]);have h2:=h i (by simp [ho,Op.operands]);simp only [aR,ho,h1.1,h2.1]
 | index t x i =>
  have h1:=h x (by simp [ho,Op.operands]);have h2:=h i (by simp [ho,Op.operands]);simp only [aR,ho,h1.1,h2.1]
 | extract x i =>
  have hx:=h x (by simp [ho,Op.operands]);simp only [aR,ho,hx.1]
 | call c =>
  have hargs:∀ x∈c.args.toList,aCV fr fr' x:=fun x hx=>h x (by simp [ho,Op.operands,Call.operands];right;simpa using hx);have hv:=fun tk=>mapv c.args.toList tk hargs;have hl:=fun tk=>mapl c.args.toList tk hargs;simp only [aR,ho,gM];cases hc:c.callee with
  | value f =>
   have hf:=h f (by simp [ho,Op.operands,Call.operands,hc]);simp only [hf.1,hv,hl,mC,kJ]
  | invoke r n=>rfl
  | builtin b =>
   have two:∀ {x y},c.args.toList=[x,y]→aCV fr fr' x∧aCV fr fr' y:=fun hxy=>⟨by grind,by grind⟩;have one:∀ {x},c.args.toList=[x]→aCV fr fr' x:=fun hxy=>by grind
   cases b with
   | len =>
    simp;split;· rename_i hxy hty;have h1:=one hxy;rw [h1.1]
    rfl
   | append =>
    simp;split;· rename_i hxy hty;obtain ⟨h1,h2⟩:=two hxy;rw [h1.1,h2.1,(h1.2 _).2];simp [mC,kJ]
    rfl
   | min =>
    simp;split;· rename_i hxy;obtain ⟨h1,h2⟩:=two hxy;rw [h1.1,h2.1]
    rfl
   | max =>
    simp;split;· rename_i hxy;obtain ⟨h1,h2⟩:=two hxy;rw [h1.1,h2.1]
    rfl
   | _=>rfl
 | _=>simp [aR,ho]
theorem aLW {o n g v lv fr bx a e} (h:newBox nt o n g v lv ⟨fr,bx⟩ some=some e)
  (w:bx.length=a.length) (m:∀ i∈e.foot.nw,(bB bx 0 i=none↔bB a 0 i=none)):newBox nt o n g v lv ⟨fr,a⟩ some=some e:=by
 unfold newBox at h ⊢;split at h
 ·rename_i id d;obtain ⟨l,f,u,r,j,s⟩:=lC d;simp at j;obtain ⟨cs,q,h⟩:=aB h;rcases bA h with ⟨t,h⟩ | ⟨_,h⟩
  ·cases h;have b:=(m id (by simp [Eff.foot])).1 (by rw [j,bF];omega);cases c:a with
   | nil=>grind
   | cons k p =>
    rw [c,bF] at b;have:kJ nt ⟨fr,k::p⟩ o.dst=some id:=by simp [kJ,l,b,f]
    grind
  grind
 grind
theorem aGy {o sz E lv fr bx a e} (h:mC nt o sz E lv ⟨fr,bx⟩ some=some e)
  (q:bx.length=a.length) (l:∀ i∈e.foot.nw,(bB bx 0 i=none↔bB a 0 i=none)):mC nt o sz E lv ⟨fr,a⟩ some=some e:=by
 unfold mC at h ⊢;split at h
 ·rename_i id d;obtain ⟨k,f,p,r,g,n⟩:=lC d;simp at g;cases h;have b:=(l id (by simp [Eff.foot])).1 (by rw [g,bF];omega);cases c:a with
  | nil=>grind
  | cons j m =>
   rw [c,bF] at b;have:kJ nt ⟨fr,j::m⟩ o.dst=some id:=by simp [kJ,k,b,f]
   grind
 grind
theorem bAj {off n a cs v} (b:0<n) (h:part off n a cs=some v):off<cs.length:=by
 unfold part at h;split at h;· grind
 rw [jS] at h;grind
theorem aOQ d vs:(oG d vs).length=vs.length:=by
 cases d<;>simp [oG]
theorem aOR {d id sz E bx a} (e:bB bx d id=some [.vec sz E]) (k:mG (d,id,0,1) bx a):bB a d id=some [.vec sz E]:=by
 obtain ⟨b,f,c,g⟩:=k.some e;match b,c with
 | [x],_ =>
  grind
theorem aOS {n a p cs} (h:mB n a p=some cs):cs.length=n:=by
 unfold mB at h;grind
theorem aVm {bx a}:∀ {l},l.all (aH0 bx)=true→(∀ x∈rdV l,mG x bx a)→l.all (aH0 a)=true∧l.map (brwV a)=l.map (brwV bx)
 | [],_,_=>⟨rfl,rfl⟩
 | v::l,h,f=>by
  simp only [List.all_cons,Bool.and_eq_true] at h;have key:aH0 a v=true∧brwV a v=brwV bx v∧∀ x∈rdV l,x∈rdV (v::l):=by
   have d:=h.1;unfold aH0 at d;split at d
   ·split at d;· rename_i g E e;have b:=aOR e (f _ (by simp [rdV]));refine ⟨by simp only [aH0,b];exact d,by simp [brwV,e,b],fun x c=>by simp [rdV,c]⟩
    grind
   refine ⟨?_,?_,fun x c => ?_⟩;· unfold aH0;simp
   ·unfold brwV;simp
   unfold rdV;grind
  obtain ⟨i,j⟩:=aVm h.2 fun x c=>f x (key.2.2 x c);grind
theorem aVn {o fr bx bx' e} (h:aR P mt nt O o ⟨fr,bx⟩ some=some e) (K:e.up=none)
  (hl:bx.length=bx'.length) (hn:∀ i∈e.foot.nw,(bB bx 0 i=none↔bB bx' 0 i=none)) (ha:∀ x∈e.foot.rd++e.foot.wr,mG x bx bx') :
  aR P mt nt O o ⟨fr,bx'⟩ some=some e:=by
 cases ho:o.op with
 | alloc t =>
  simp only [aR,ho] at h ⊢;split at h;· rename_i n u z h1 w M;exact aLW h hl hn
  ·simp at h
 | box t x =>
  simp only [aR,ho] at h ⊢;split at h;· rename_i n u h1 w;exact aLW h hl hn
  ·simp at h
 | load t p =>
  simp only [aR,ho] at h ⊢;split at h
  ·rename_i n u h1 w;split at h
   ·rename_i d id off F;split at h
    ·rename_i hc;obtain ⟨cs,hcs,h⟩:=aB h;split at h
     ·rename_i sz E;obtain ⟨v,hv,h⟩:=aB h;have key:mG (d,id,0,1) bx bx':=by
       cases h;exact ha _ (by simp [Eff.foot])
      rw [if_pos hc,aOR hcs key];simp only [bnd,hv];exact h
     ·rename_i _ m;obtain ⟨v,hv,h⟩:=aB h;have key:mG (d,id,off,n) bx bx':=by
       split at h;· cases h;exact ha _ (by simp [Eff.foot])
       ·cases h;exact ha _ (by simp [Eff.foot])
      obtain ⟨b,hb,hlen,hcells⟩:=key.some hcs;simp only at hb hlen hcells;have hle:off<cs.length:=bAj hc.1 hv;have q:=aTk hlen hcells hc.1 hv;rw [if_pos hc,hb];simp only [bnd];split
      ·rename_i s A;have j:=hcells off (by omega) (by omega);have:cs.length=1:=by simpa using hlen
       match cs,this with
       | [x],_ =>
        have:off=0:=by simp at hle;exact hle
        subst this;simp at j;exact by grind
      ·simp only [q];exact h
    ·simp at h
   ·rename_i v F;exact h
   ·simp at h
  ·simp at h
 | store t p x =>
  simp only [aR,ho] at h ⊢;split at h
  ·rename_i n u h1 w;split at h
   ·rename_i d id off F L;obtain ⟨cs,hcs,h⟩:=aB h;obtain ⟨vs,hvs,h⟩:=aB h;split at h
    ·rename_i sz E;split at h
     ·rename_i hn0;obtain ⟨A,a,h⟩:=aB h;have key:mG (d,id,0,1) bx bx':=by
       cases h;exact ha _ (by simp [Eff.foot])
      rw [aOR hcs key];simp only [bnd,hvs,if_pos hn0,a];exact h
     ·simp at h
    rename_i _ m;rcases bA h with ⟨D,h⟩ | ⟨_,h⟩
    ·split at h
     ·rename_i hc;have I:(oG d vs).length=n:=by rw [aOQ,aOS hvs]
      have key:mG (d,id,off,(oG d vs).length) bx bx':=by
       cases h;exact ha _ (by simp [Eff.foot])
      obtain ⟨b,hb,hlen,hcells⟩:=key.some hcs;simp only at hb hlen hcells;rw [hb];simp only [bnd,hvs];split
      ·rename_i s A;have j:=hcells off (by omega) (by omega);have h1  := by simpa using hlen
       match cs,h1 with
       | [x],_ =>
        have:off=0:=by simp at hc;omega
        subst this;simp at j;exact by grind
      simp only [D,cnd];rw [if_pos (by rw [← hlen];exact hc)];exact h
     ·simp at h
    ·simp at h
   ·simp at h
  ·simp at h
 | makeSlice t l c =>
  simp only [aR,ho] at h ⊢;split at h
  ·split at h
   ·split at h
    ·rename_i hcond;rw [if_pos hcond];split at h;· obtain ⟨E,hE,h⟩:=aB h;simp only [hE,bnd];exact aGy h hl hn
     ·exact h
    ·simp at h
   ·simp at h
  ·simp at h
 | call c =>
  simp only [aR,ho,gM] at h ⊢;cases hc:c.callee with
  | value f =>
   simp only [hc] at h ⊢;split at h
   ·rename_i g first caps D;split at h;· simp at h
    ·rcases bA h with ⟨_,h⟩ | ⟨_,h⟩;· obtain ⟨r,_,h⟩:=aB h;cases h;simp at K
     ·simp at h
    ·split at h
     ·rcases bA h with ⟨k,h⟩ | ⟨_,h⟩
      ·have B:∀ x∈rdV (first++c.args.toList.map (opv fr (hasO mt.takes o.dst))++caps),mG x bx bx':=by
        unfold aM at h;rcases bA h with ⟨hfr,h⟩ | ⟨_,h⟩
        ·obtain ⟨r,C,h⟩:=aB h;split at h
         ·rcases bA h with ⟨G,h⟩ | ⟨_,h⟩;· cases h;exact fun x B=>ha x (by simp [Eff.foot];exact by grind)
          simp at h
         ·simp at h
        ·simp at h
       obtain ⟨H,J⟩:=aVm k B;rw [H,J];exact h
      ·simp at h
     ·exact h
     ·unfold aM at h ⊢;rcases bA h with ⟨hfr,h⟩ | ⟨_,h⟩
      ·obtain ⟨r,C,h⟩:=aB h;split at h;· rename_i y;obtain ⟨E,hE,h⟩:=aB h;simp only [hfr,cnd,C,bnd,y,hE];exact aGy h hl hn
       simp at h
      simp at h
     ·exact h
   ·simp at h
  | invoke r n=>simp only [hc] at h ⊢;exact h
  | builtin b =>
   cases b with
   | append =>
    simp [hc] at h ⊢;split at h
    ·split at h
     ·split at h
      ·split at h
       ·rename_i hcond;rw [if_pos hcond];split at h;· obtain ⟨E,hE,h⟩:=aB h;simp [hE];exact aGy h hl hn
        exact h
       simp at h
      simp at h
     ·exact h
     simp at h
    simp at h
   | _=>simp [hc] at h ⊢ <;> exact h
 | _=>simp [aR,ho] at h ⊢ <;> exact h
theorem aE2 {o s t R e} (f:∀ x∈o.op.operands.toList,∀ i,x = .tmp i→i∈R) (h:aR P mt nt O o s some=some e) (c:e.up=none) (a:Agr R e.foot s t) :
  aR P mt nt O o t some=some e:=by
 obtain ⟨fr,bx⟩:=s;obtain ⟨fr',b⟩:=t;rw [aVl (fr:=fr) (fr':=fr') (fun x d=>bBq fun i g=>a.fr i (by grind))] at h;exact aVn h c a.len a.nw a.acc
def sB (ops:Array Oper):Nat→Oper→List (Nat×PV)→Option Bool
 | 0,_,_=>none
 | n+1,o,fr =>
  match o.guard with
  | none=>some true
  | some (g,want) =>
   match ops[g]? with
   | some q =>
    match q.dst with
    | some s =>
     match sB ops n q fr with
     | some true=>bnd (wS (gets fr s)) fun b=>some (b==want)
     | some false=>match gets fr s with
      | .und=>some false
      | _=>none
     | none=>none
    | none=>none
   | none=>none
theorem xL {a}:∀ n o fr fr',(∀ i∈aAn a n o,gets fr i=gets fr' i)→sB a n o fr=sB a n o fr'
 | 0,_,_,_,_=>rfl
 | n+1,o,fr,fr',h=>by
  simp [sB];simp [aAn] at h;cases f:o.guard with
  | none=>rfl
  | some d =>
   obtain ⟨g,b⟩:=d;rw [f] at h;simp at h ⊢;cases c:a[g]? with
   | none=>rfl
   | some q =>
    rw [c] at h;simp at h ⊢;cases e:q.dst with
    | none=>rfl
    | some s =>
     rw [e] at h;simp only at h ⊢;rw [xL n q fr fr' (fun i j=>by grind),h s (by simp)]
theorem aAr {c R}:∀ n o st (K:Bool→St→Option R) r,iN c n o st K=some r →
  ∃ b fr',sB c n o st.fr=some b∧(∀ i,gets fr' i=gets st.fr i)∧K b {st with fr:=fr'}=some r
 | 0,_,_,_,_,h=>by simp [iN] at h
 | n+1,o,st,K,r,h=>by
  simp [iN] at h;simp only [sB];cases f:o.guard with
  | none=>rw [f] at h;exact ⟨true,st.fr,rfl,fun _=>rfl,h⟩
  | some k =>
   obtain ⟨g,d⟩:=k;rw [f] at h;simp only at h ⊢;cases j:c[g]? with
   | none=>grind
   | some q =>
    rw [j] at h;simp only at h ⊢;cases l:q.dst with
    | none=>grind
    | some s =>
     rw [l] at h;simp only at h ⊢;obtain ⟨b,fr',m,e,h⟩:=aAr n q st _ r h;rw [m];cases b with
     | true =>
      obtain ⟨b,a,h⟩:=aB h;rw [e s] at a;rw [a];have p:gets st.fr s = .bool b:=by
       unfold wS at a;grind
      refine ⟨b==d,(s,.bool b)::fr',rfl,?_,?_⟩;· intro i;rw [dL];grind
      rcases bA h with ⟨rfl,h⟩ | ⟨rfl,h⟩<;>exact h
     | false =>
      grind
end
theorem qG {α}:∀ (vs:List α) l i j,(putAt l i vs)[j]?=if i≤j∧j<i+vs.length∧j<l.length then vs[j-i]? else l[j]?
 | [],l,i,j=>by simp [putAt];omega
 | v::vs,l,i,j=>by
  simp [putAt];rw [qG vs _ (i+1) j];simp [fV];grind
theorem aTl {α} (l vs us:List α) i j (h:i+vs.length≤j∨j+us.length≤i∨vs=[]∨us=[]):putAt (putAt l i vs) j us=putAt (putAt l j us) i vs:=by
 rcases h with h | h | h | h;· apply List.ext_getElem?;simp [qG,dK];grind
 ·apply List.ext_getElem?;simp [qG,dK];grind
 ·subst h;rfl
 subst h;rfl
theorem aOT {l i}:has l i=true↔i∈l:=by simp [has]
theorem aRG {a b}:disj a b=true↔∀ x∈a,x∉b:=by
 simp [disj];constructor;· intro h x c e;have:=h x c;rw [aOT.2 e] at this;grind
 intro h x c;cases d:has b x with
 | false=>rfl
 | true=>exact absurd (aOT.1 d) (h x c)
def Apt (a b:Nat×Nat×Nat×Nat):Prop:=¬ (a.1=b.1∧a.2.1=b.2.1∧a.2.2.1<b.2.2.1+b.2.2.2∧b.2.2.1<a.2.2.1+a.2.2.2)
structure ApF (a b:Foot):Prop where
 ww:∀ x∈a.wr,∀ y∈b.wr,Apt x y
 wr:∀ x∈a.wr,∀ y∈b.rd,Apt x y
 rw:∀ x∈a.rd,∀ y∈b.wr,Apt x y
 nn:∀ i∈a.nw,i∉b.nw
 na:∀ i∈a.nw,∀ y∈b.rd++b.wr,¬ (y.1=0∧y.2.1=i)
 an:∀ i∈b.nw,∀ y∈a.rd++a.wr,¬ (y.1=0∧y.2.1=i)
theorem Apt.symm {a b} (h:Apt a b):Apt b a:=fun ⟨f,e,d,c⟩=>h ⟨f.symm,e.symm,c,d⟩
theorem ApF.symm {a b} (h:ApF a b):ApF b a :=
 ⟨fun x d y c=>(h.ww y c x d).symm,fun x d y c=>(h.rw y c x d).symm,fun x d y c=>(h.wr y c x d).symm,fun i e f=>h.nn i f e,h.an,h.na⟩
theorem aDU {a b} (h:aLv a b=true):∀ x∈a,∀ y∈b,Apt x y:=by
 simp only [aLv,List.all_eq_true] at h;intro x e y d c;have:=h x e y d;simp [bBn,c.1,c.2.1,c.2.2.1,c.2.2.2] at this
theorem aDV {a b} (h:aRw a b=true):(∀ i∈a,i∉b.nw)∧∀ i∈a,∀ y∈b.rd++b.wr,¬ (y.1=0∧y.2.1=i):=by
 simp [aRw] at h;constructor;· intro i c d;have:=(h i c).1.1;rw [aOT.2 d] at this;grind
 grind
theorem aTm {a b} (h:aIM a b=true):ApF a b:=by
 simp [aIM] at h;obtain ⟨⟨⟨⟨f,e⟩,d⟩,c⟩,g⟩:=h;exact ⟨aDU f,aDU e,aDU d,(aDV c).1,(aDV c).2,(aDV g).2⟩
theorem aOU a:ApF a ⟨[],[],[]⟩:=⟨by simp,by simp,by simp,by simp,by simp,by simp⟩
structure Ind (e1 e2:Eff):Prop where
 ws:∀ x∈e1.ws,∀ y∈e2.ws,x.1≠y.1
 ft:ApF e1.foot e2.foot
theorem Ind.symm {a b} (h:Ind a b):Ind b a:=⟨fun x d y c e=>h.ws y c x d e.symm,h.ft.symm⟩
theorem aTn {a b} (j:Shp a) (i:Shp b) (h:Ind a b) d id x:qS a.cw d id (qS b.cw d id x)=qS b.cw d id (qS a.cw d id x):=by
 rcases j.cw with f | ⟨c,f⟩;· rw [f];rfl
 rcases i.cw with e | ⟨g,e⟩;· rw [e];rfl
 have:=h.ft.ww (c.1,c.2.1,c.2.2.1,c.2.2.2.length) (by simp [Eff.foot,f]) (g.1,g.2.1,g.2.2.1,g.2.2.2.length) (by simp [Eff.foot,e]);rw [f,e];simp [qS];split
 ·split
  ·cases x with
   | none=>rfl
   | some cs =>
    simp;apply aTl;simp [Apt] at this;omega
  rfl
 rfl
theorem aGz {a b} (j:Shp a) (g:Shp b) (h:Ind a b) d id x:qS a.cw d id (aA3 b.nw d id x)=aA3 b.nw d id (qS a.cw d id x):=by
 rcases j.cw with f | ⟨c,f⟩;· rw [f];rfl
 rcases g.nw with e | ⟨i,e⟩;· rw [e];rfl
 have:=h.ft.an i.1 (by simp [Eff.foot,e]) (c.1,c.2.1,c.2.2.1,c.2.2.2.length) (by simp [Eff.foot,f]);simp [qS,aA3];grind
theorem aTo {a b} (i:Shp a) (g:Shp b) (h:Ind a b) d id x:aA3 a.nw d id (aA3 b.nw d id x)=aA3 b.nw d id (aA3 a.nw d id x):=by
 rcases i.nw with e | ⟨f,e⟩;· rw [e];rfl
 rcases g.nw with c | ⟨j,c⟩;· rw [c];rfl
 have:=h.ft.nn f.1 (by simp [Eff.foot,e]);rw [e,c];simp [aA3];split
 ·split;· exfalso;apply this;simp [Eff.foot,c];omega
  rfl
 rfl
theorem NeOk.app {e f s} (h:NeOk e s) (b:Shp f) (c:NeOk f s):NeOk e (f.app s):=fun a=>by rw [Eff.len_app b s c];exact h a
theorem aXw {a b s} (e:Shp a) (c:Shp b) (g:NeOk a s) (f:NeOk b s) (h:Ind a b):Eqv (a.app (b.app s)) (b.app (a.app s)):=by
 refine ⟨fun i => ?_,fun d id => ?_,?_⟩
 ·simp [Eff.fr_app];cases k:look a.ws i with
  | none=>rfl
  | some v =>
   cases j:look b.ws i with
   | none=>rfl
   | some u=>exact absurd rfl (h.ws (i,v) (kD k) (i,u) (kD j))
 ·rw [Eff.bx_app e _ (g.app c f),Eff.bx_app c _ f,Eff.bx_app c _ (f.app e g),Eff.bx_app e _ g,
   aGz e c h,aTn e c h,aTo e c h,aGz c e h.symm]
 rw [Eff.len_app e _ (g.app c f),Eff.len_app c _ f,Eff.len_app c _ (f.app e g),Eff.len_app e _ g]
theorem Agr.of_eqv {s t} (h:Eqv s t) R F:Agr R F s t:=by
 refine ⟨fun i _=>h.fr i,fun x _ => ?_,fun i _=>by rw [h.bx],h.len⟩;unfold mG;rw [h.bx];exact AgrO.refl _
theorem mG.symm {x s t} (h:mG x s t):mG x t s:=AgrO.symm h
theorem Agr.symm {R F s t} (h:Agr R F s t):Agr R F t s :=
 ⟨fun i a=>(h.fr i a).symm,fun x b=>(h.acc x b).symm,fun i a=>(h.nw i a).symm,h.len.symm⟩
theorem Agr.eqv_right {R F s t u} (h:Agr R F s t) (a:Eqv t u):Agr R F s u:=by
 refine ⟨fun i b=>(h.fr i b).trans (a.fr i),fun x c => ?_,fun i b=>by rw [← a.bx];exact h.nw i b,h.len.trans a.len⟩;have:=h.acc x c;unfold mG at *;rw [← a.bx];omega
theorem Agr.both {R F s t} (h:Agr R F s t) {e} (b:Shp e) (d:NeOk e s):Agr R F (e.app s) (e.app t):=by
 have c:NeOk e t:=fun g=>by rw [← h.len];exact d g
 refine ⟨fun i l=>by rw [Eff.fr_app,Eff.fr_app,h.fr i l],fun x g => ?_,fun i l => ?_,by rw [Eff.len_app b s d,Eff.len_app b t c,h.len]⟩
 ·have:=h.acc x g;unfold mG at *;rw [Eff.bx_app b s d,Eff.bx_app b t c];have f:AgrO x.2.2.1 x.2.2.2 (qS e.cw x.1 x.2.1 (bB s.bx x.1 x.2.1)) (qS e.cw x.1 x.2.1 (bB t.bx x.1 x.2.1)):=by
   rcases b.cw with a | ⟨j,a⟩;· rw [a];exact this
   rw [a];simp [qS];split
   ·cases m:bB s.bx x.1 x.2.1<;>cases o:bB t.bx x.1 x.2.1<;>rw [m,o] at this;· trivial
    ·exact this
    ·exact this
    refine ⟨by rw [dK,dK,this.1],fun k a n => ?_⟩;rw [qG,qG,this.1,this.2 k a n]
   omega
  rcases b.nw with a | ⟨j,a⟩;· rw [a];exact f
  rw [a];simp [aA3];split;· exact AgrO.refl _
  exact f
 have:=h.nw i l;rw [Eff.bx_app b s d,Eff.bx_app b t c];have f:qS e.cw 0 i (bB s.bx 0 i)=none↔qS e.cw 0 i (bB t.bx 0 i)=none:=by
  rcases b.cw with a | ⟨j,a⟩;· rw [a];exact this
  rw [a];simp [qS];split;all_goals simp_all
 rcases b.nw with a | ⟨j,a⟩;· rw [a];exact f
 simp [aA3];grind
theorem Agr.right {R F s t} (h:Agr R F s t) {e} (f:Shp e) (d:NeOk e t) (y:∀ x∈e.ws,x.1∉R) (m:ApF e.foot F):Agr R F s (e.app t):=by
 refine ⟨fun i n => ?_,fun x b => ?_,fun i n => ?_,by rw [Eff.len_app f t d,h.len]⟩
 ·rw [Eff.fr_app,h.fr i n];cases z:look e.ws i with
  | none=>rfl
  | some v=>exact absurd n (y _ (kD z))
 ·have:=h.acc x b;have l:∀ c,e.cw=[c]→Apt (c.1,c.2.1,c.2.2.1,c.2.2.2.length) x:=by
   intro c q;have p:(c.1,c.2.1,c.2.2.1,c.2.2.2.length)∈e.foot.wr:=by simp [Eff.foot,q]
   rcases List.mem_append.1 b with b | b;· exact m.wr _ p _ b
   exact m.ww _ p _ b
  have g:aA3 e.nw x.1 x.2.1 (qS e.cw x.1 x.2.1 (bB t.bx x.1 x.2.1))=qS e.cw x.1 x.2.1 (bB t.bx x.1 x.2.1):=by
   rcases f.nw with a | ⟨j,a⟩;· rw [a];rfl
   have:=m.na j.1 (by simp [Eff.foot,a]) x b;simp [aA3];grind
  unfold mG at *;rw [Eff.bx_app f t d,g];rcases f.cw with a | ⟨j,a⟩;· rw [a];exact this
  have r:=l j a;rw [a];simp [qS];split
  ·cases o:bB s.bx x.1 x.2.1<;>cases u:bB t.bx x.1 x.2.1<;>rw [o,u] at this;· trivial
   ·exact this
   ·grind
   refine ⟨by rw [dK,this.1],fun k a w => ?_⟩;rw [qG,if_neg,this.2 k a w];simp [Apt] at r;omega
  omega
 have:=h.nw i n;rw [Eff.bx_app f t d,this];have g:aA3 e.nw 0 i (qS e.cw 0 i (bB t.bx 0 i))=qS e.cw 0 i (bB t.bx 0 i):=by
  rcases f.nw with a | ⟨j,a⟩;· rw [a];rfl
  have:=m.nn j.1 (by simp [Eff.foot,a]);simp [aA3];grind
 rw [g];rcases f.cw with a | ⟨j,a⟩;· rw [a];rfl
 rw [a];simp [qS];split;· simp
 rfl
section
variable {P : Program} {mt : Hints} {nt : Nat} {O : Orc}
def undE (nt:Nat) (o:Oper):Eff:={ws:=dstW nt o.dst .und}
structure Stp (P:Program) (mt:Hints) (nt:Nat) (O:Orc) (ops:Array Oper) (o:Oper) (s:St) (b:Bool) (e:Eff):Prop where
 g:sB ops (ops.size+1) o s.fr=some b
 t:b=true→aR P mt nt O o s some=some e∧e.up=none
 f:b=false→e=undE nt o
theorem bAk {st o}:EffOk mt st o (undE nt o) :=
 ⟨⟨rfl,.inl rfl,.inl rfl⟩,fun x a=>fO (xK x a),by simp [undE]⟩
theorem Stp.ok {a o s b e} (h:Stp P mt nt O a o s b e):EffOk mt s o e:=by
 cases b with
 | true=>exact aVk (h.t rfl).1 (h.t rfl).2
 | false=>rw [h.f rfl];exact bAk
theorem EffOk.ne {s o e} (h:EffOk mt s o e):NeOk e s:=by
 intro a;cases b:e.nw with
 | nil=>grind
 | cons x l =>
  have:=(h.nw x (by grind)).2.2;grind
theorem aCW {a} {o:Oper}:∀ x∈o.op.operands.toList,∀ i,x = .tmp i→i∈wW a o:=by
 intro x b i c;subst c;exact List.mem_append.2 (.inl (List.mem_filterMap.2 ⟨_,b,rfl⟩))
theorem Stp.congr {a o s t b e} (h:Stp P mt nt O a o s b e) (d:Agr (wW a o) e.foot s t):Stp P mt nt O a o t b e:=by
 refine ⟨?_,?_,h.f⟩;· rw [← h.g];exact (xL _ _ _ _ fun i j=>d.fr i (List.mem_append.2 (.inr j))).symm
 intro c;exact ⟨aE2 aCW (h.t c).1 (h.t c).2 d,(h.t c).2⟩
theorem bD {α β γ} (x:Option α) f (g:β→Option γ):bnd (bnd x f) g=bnd x fun a=>bnd (f a) g:=by cases x<;>rfl
theorem nH {β γ} c x y (g:β→Option γ):bnd (cnd c x y) g=cnd c (bnd x g) (bnd y g):=by cases c<;>rfl
theorem aVo {β γ} c [Decidable c] x y (g:β→Option γ):bnd (if c then x else y) g=if c then bnd x g else bnd y g:=by grind
theorem bO {α β} a (g:α→Option β):bnd (some a) g=g a:=rfl
theorem mH {α β} (g:α→Option β):bnd none g=none:=rfl
theorem aDW {R} o sz E lv st (K:Eff→Option R):mC nt o sz E lv st K=bnd (mC nt o sz E lv st some) K:=by
 unfold mC;split<;>rfl
theorem eZ {R} o st (K : Eff → Option R) : aR P mt nt O o st K = bnd (aR P mt nt O o st some) K := by
  unfold aR;dsimp only;cases o.op <;> dsimp only <;> first
    | rfl
    | (simp only [bD, nH, bO]; done)
    | skip
  case alloc t => 
    split
    · unfold newBox; split;· simp only [bD, nH, bO, mH]
      · rfl
    · rfl
  case box t x =>
    split
    · unfold newBox; split;· simp only [bD, nH, bO, mH]
      · rfl
    · rfl
  case build t ps =>
    split
    · split;· rw [qT, qT (R := Eff), bD]; simp only [bO]
      · rfl
    · split;· rw [qT, qT (R := Eff), bD]; simp only [bO]
      · rfl
    · rfl
  case buildSlice t n ps =>
    split
    · split
      · split;· rw [bD]; congr 1; funext z; rw [aCU, aCU (R := Eff), bD]; simp only [bO]
        · rfl
      · rfl
    · rfl
  case load t p =>
    split
    · split
      · split
        · simp only [bD]; congr 1; funext cs;split;· simp only [bD, bO]
          · simp only [bD]; congr 1; funext v; split <;> rfl
        · rfl
      · simp only [bD, bO]
      · rfl
    · rfl
  case store t p x =>
    split
    · split
      · simp only [bD]; congr 1; funext cs; congr 1; funext vs;split;· simp only [bD, nH, aVo, bO, mH]
        · simp only [bD, nH, aVo, bO, mH]
      · rfl
    · rfl
  case nilCheck x => split <;> rfl
  case binOp a t x y u =>
    unfold qO; dsimp only;split <;> (try split) <;> (try split) <;> first | rfl | simp only [bD, bO]
  case convert s d x =>
    unfold aCJ; dsimp only;split <;> (try split) <;> first | rfl | simp only [bD, bO]
  case makeSlice t l c =>
    split
    · split
      · split
        · split;· simp only [bD]; congr 1; funext E; exact aDW _ _ _ _ _ _
          · split;· simp only [bD, bO]
            · rfl
        · rfl
      · rfl
    · rfl
  case slice t x l h m =>
    unfold qN; dsimp only;split <;> (try split) <;> (try split) <;> first | rfl | simp only [bD, bO]
  case fieldAddr s x f =>
    split
    · split
      · split;· simp only [bD, bO]
        · rfl
      · rfl
    · rfl
  case field s x f =>
    split
    · split;· simp only [bD, bO]
      · rfl
    · rfl
  case indexAddr t x i =>
    split
    · split;· simp only [bD, bO]
      · rfl
    · split
      · split;· simp only [bD, bO]
        · rfl
      · rfl
    · rfl
  case index t x i =>
    split;· simp only [bD, bO]
    · split;· simp only [bD, bO]
      · rfl
    · rfl
  case call c =>
    unfold gM; dsimp only;cases c.callee with
    | value f =>
      dsimp only;split
      · split;· rfl
        · simp only [nH, bD, bO, mH]
        · split
          · unfold aM; simp only [nH, bD, mH]; congr 1; congr 1; congr 1; funext r;split;· simp only [nH, bD, bO, mH]
            rfl
          · rfl
          · unfold aM; simp only [nH, bD, mH]; congr 1; congr 1; funext r;split;· simp only [bD]; congr 1; funext E; exact aDW _ _ _ _ _ _
            rfl
          · unfold aM; simp [nH, bD, mH]; congr 1; congr 1; funext r; split <;> rfl
      · rfl
    | invoke r n => rfl
    | builtin b =>
      cases b <;> dsimp <;> first
        | rfl
        | (split;· simp [bD, bO]
           rfl)
        | (split;· split <;> first | rfl | simp
           rfl)
        | (split;· split <;> (try split) <;> (try split) <;> (try split) <;> first | rfl | (simp [bD, bO]; done) | (simp [bD]; congr 1; funext E; exact aDW _ _ _ _ _ _)
           rfl)
abbrev fold (es:List (Bool×Eff)) (s:St):St:=es.foldl (fun s x=>x.2.app s) s
def logs:Nat→List (Bool×Eff)→List (Nat×Foot)
 | _,[]=>[]
 | i,(b,e)::es=>logs (i+1) es++(if b then [(i,e.foot)] else [])
theorem aRH {ops R} : ∀ os i log st s (K : List (Nat × Foot) → St → Option R) r,
    cI P mt nt O ops i os log st K = some r → Eqv st s →
    ∃ es, es.length ≤ os.length ∧ (∀ k o, k < es.length → os[k]? = some o → ∃ x, es[k]? = some x ∧ Stp P mt nt O ops o (fold (es.take k) s) x.1 x.2) ∧
      ∃ st', Eqv st' (fold es s) ∧ (st.bx = s.bx → st'.bx = (fold es s).bx) ∧
        ((es.length = os.length ∧ K (logs i es ++ log) st' = some r) ∨
         ∃ (o : Oper) (e : Eff) (fr2 : List (Nat × PV)), os[es.length]? = some o ∧ aOv (Region.before ops) ops.size (i + es.length) = true ∧ sB ops (ops.size + 1) o st'.fr = some true ∧
           (∀ j, gets fr2 j = gets st'.fr j) ∧ aR P mt nt O o { st' with fr := fr2 } some = some e ∧
           cI P mt nt O ops (i + es.length + 1) (os.drop (es.length + 1)) (logs i es ++ log) (e.app { st' with fr := fr2 }) K = some r)
  | [], i, log, st, s, K, r, h, he => ⟨[], by omega, by simp, st, he, fun hb => hb, .inl ⟨rfl, h⟩⟩
  | o :: os, i, log, st, s, K, r, h, he => by
    simp [cI] at h;obtain ⟨b, fr', n, hfr, h⟩ := aAr _ _ _ _ _ h;have he' : Eqv { st with fr := fr' } s := ⟨fun j => (hfr j).trans (he.fr j), he.bx, he.len⟩;have hgs : sB ops (ops.size + 1) o s.fr = some b := by
      rw [← n]; exact xL _ _ _ _ fun j _ => (he.fr j).symm
    have main : ∀ e log', Stp P mt nt O ops o s b e → log' = (if b then [(i, e.foot)] else []) ++ log →
        cI P mt nt O ops (i + 1) os log' (e.app { st with fr := fr' }) K = some r →
        ∃ es, es.length ≤ (o :: os).length ∧ (∀ k o', k < es.length → (o :: os)[k]? = some o' → ∃ x, es[k]? = some x ∧ Stp P mt nt O ops o' (fold (es.take k) s) x.1 x.2) ∧
          ∃ st', Eqv st' (fold es s) ∧ (st.bx = s.bx → st'.bx = (fold es s).bx) ∧
            ((es.length = (o :: os).length ∧ K (logs i es ++ log) st' = some r) ∨
             ∃ (o2 : Oper) (e : Eff) (fr2 : List (Nat × PV)), (o :: os)[es.length]? = some o2 ∧ aOv (Region.before ops) ops.size (i + es.length) = true ∧ sB ops (ops.size + 1) o2 st'.fr = some true ∧
               (∀ j, gets fr2 j = gets st'.fr j) ∧ aR P mt nt O o2 { st' with fr := fr2 } some = some e ∧
               cI P mt nt O ops (i + es.length + 1) ((o :: os).drop (es.length + 1)) (logs i es ++ log) (e.app { st' with fr := fr2 }) K = some r) := by
      intro e log' g B h;have hok  := g.ok;have f  := he'.app hok.shp (fun d => by rw [he'.len]; exact hok.ne d);obtain ⟨es, A, E, st', D, y, l⟩ := aRH os (i + 1) log' _ _ K r h f;have hlogs : logs i ((b, e) :: es) ++ log = logs (i + 1) es ++ log' := by
        simp only [logs]; rw [List.append_assoc, ← B]
      refine ⟨(b, e) :: es, by simpa using A, ?_, st', D, fun hb => y (by simp [Eff.app, hb]), ?_⟩
      · intro k o' a hk;cases k with
        | zero => simp at hk; subst hk; exact ⟨(b, e), rfl, g⟩
        | succ k =>
          simp at hk;obtain ⟨x, d, c⟩ := E k o' (by simpa using a) hk;exact ⟨x, by simpa using d, by simpa using c⟩
      rw [hlogs];rcases l with ⟨l, G⟩ | ⟨o2, v, fr2, w, z, t, q, C, p⟩;· exact by grind
      refine .inr ⟨o2, v, fr2, by simpa using w, ?_, t, q, C, ?_⟩;· rw [← z]; congr 1; simp; omega
      rw [← p];have : i + ((b, e) :: es).length + 1 = i + 1 + es.length + 1 := by simp; omega
      rw [this]; rfl
    cases b with
    | true =>
      rw [eZ] at h;obtain ⟨e, hev, h⟩ := aB h;cases m : e.up with
      | some u =>
        rw [m] at h;simp at h;split at h;· rename_i F;refine ⟨[], by simp, by simp, st, he, fun hb => hb, .inr ⟨o, e, fr', rfl, F, n, fun j => hfr j, hev, ?_⟩⟩;exact h
        simp at h
      | none =>
        have hev'  := m;rw [hev'] at h;have hevs  := aE2 (R := wW ops o) aCW hev hev' (Agr.of_eqv he' _ _);exact main e _ ⟨hgs, fun _ => ⟨hevs, hev'⟩, by simp⟩ rfl h
    | false =>
      refine main (undE nt o) log ⟨hgs, by simp, fun _ => rfl⟩ rfl ?_;exact h
theorem aBx {a}:∀ l m,pC a (l++m)=true→pC a m=true
 | [],m,h=>h
 | (j,f)::l,m,h=>by
  simp [pC] at h;exact aBx l m h.2
theorem aLX {c}:∀ es i a,pC c (logs i es++a)=true →
  (∀ k e,es[k]?=some (true,e)→∀ x∈a,oH c x.1 (i+k)=true∨aIM x.2 e.foot=true) ∧
  ∀ k k' e d,k<k'→es[k]?=some (true,e)→es[k']?=some (true,d)→oH c (i+k) (i+k')=true∨aIM e.foot d.foot=true
 | [],i,a,_=>⟨by simp,by simp⟩
 | (b,e)::es,i,a,h=>by
  simp [logs] at h;obtain ⟨q,p⟩:=aLX es (i+1) _ h;have g:=aBx _ _ h;constructor
  ·intro k d f x m;cases k with
   | zero =>
    obtain ⟨rfl,rfl⟩:=f;simp [pC] at g;grind
   | succ k =>
    grind
  intro k k' o n l f j;cases k' with
  | zero=>omega
  | succ k' =>
   rw [show i+(k'+1)=i+1+k' by omega];cases k with
   | zero =>
    simp_all
   | succ k =>
    grind
def appL (E:Nat→Eff) (l:List Nat) (s:St):St:=l.foldl (fun s i=>(E i).app s) s
theorem kM E l m s:appL E (l++m) s=appL E m (appL E l s):=List.foldl_append
theorem aFU {E}:∀ l s,(∀ i∈l,Shp (E i)∧NeOk (E i) s)→(appL E l s).bx.length=s.bx.length
 | [],_,_=>rfl
 | i::l,s,h=>by
  have a:=h i (by simp);have b:=Eff.len_app a.1 s a.2;show (appL E l ((E i).app s)).bx.length=_;rw [aFU l _ fun j c=>⟨(h j (by grind)).1,(h j (by grind)).2.app a.1 a.2⟩,b]
theorem aRI {E}:∀ l s t,(∀ i∈l,Shp (E i)∧NeOk (E i) s)→Eqv s t→Eqv (appL E l s) (appL E l t)
 | [],_,_,_,h=>h
 | i::l,s,t,h,b=>by
  have a:=h i (by simp);exact aRI l _ _ (fun j c=>⟨(h j (by grind)).1,(h j (by grind)).2.app a.1 a.2⟩) (b.app a.1 a.2)
theorem aLY {E a} (f:Shp a):∀ l s,NeOk a s→(∀ i∈l,Shp (E i)∧NeOk (E i) s)→(∀ i∈l,Ind a (E i))→Eqv (a.app (appL E l s)) (appL E l (a.app s))
 | [],_,_,_,_=>Eqv.refl _
 | i::l,s,e,h,m=>by
  have b:=h i (by simp);have d:∀ j∈l,Shp (E j)∧NeOk (E j) ((E i).app s):=fun j c=>⟨(h j (by grind)).1,(h j (by grind)).2.app b.1 b.2⟩;have k:=aLY f l ((E i).app s) (e.app b.1 b.2) d (fun j c=>by grind);have g  := aXw f b.1 e b.2 (by grind);refine k.trans (aRI l _ _ (fun j c=>⟨(d j c).1,(d j c).2.app f (e.app b.1 b.2)⟩) g)
theorem aJT {E R F} S:∀ l s t,Agr R F s t→(∀ i∈l,Shp (E i)∧NeOk (E i) s) →
  (∀ i∈l,S i=false→(∀ x∈(E i).ws,x.1∉R)∧ApF (E i).foot F)→Agr R F (appL E l s) (appL E (l.filter S) t)
 | [],_,_,h,_,_=>h
 | i::l,s,t,h,c,b=>by
  have a:=c i (by simp);have d:∀ j∈l,Shp (E j)∧NeOk (E j) ((E i).app s):=fun j e=>⟨(c j (by grind)).1,(c j (by grind)).2.app a.1 a.2⟩;cases f:S i with
  | true =>
   rw [List.filter_cons_of_pos f];exact aJT S l _ _ (h.both a.1 a.2) d (fun j e=>b j (by grind))
  | false =>
   rw [List.filter_cons_of_neg (by grind)];obtain ⟨k,g⟩:=b i (by simp) f;exact aJT S l _ _ ((h.symm.right a.1 a.2 k g).symm) d (fun j e=>b j (by grind))
theorem aLZ {E R F}:∀ l s t,Agr R F s t→(∀ i∈l,Shp (E i)∧NeOk (E i) t) →
  (∀ i∈l,(∀ x∈(E i).ws,x.1∉R)∧ApF (E i).foot F)→Agr R F s (appL E l t)
 | [],_,_,h,_,_=>h
 | i::l,s,t,h,b,e=>by
  have a:=b i (by simp);obtain ⟨d,c⟩:=e i (by simp);exact aLZ l _ _ (h.right a.1 a.2 d c) (fun j f=>⟨(b j (by grind)).1,(b j (by grind)).2.app a.1 a.2⟩) (fun j f=>by grind)
theorem aOV {n i} (h:i<n):∃ rest,List.range n=List.range i++i::rest∧∀ k∈rest,i<k∧k<n:=by
 refine ⟨(List.range (n-i-1)).map (· + i+1),?_,?_⟩
 ·apply List.ext_getElem?;intro j;by_cases a:j<i;· rw [List.getElem?_append_left (by simpa using a),List.getElem?_range (by omega),List.getElem?_range a]
  rw [List.getElem?_append_right (by simpa using a)];simp;by_cases e:j=i;· subst e;simp [h]
  obtain ⟨k,b⟩:∃ k,j-i=k+1:=⟨j-i-1,by omega⟩;rw [b,List.getElem?_cons_succ,List.getElem?_map];by_cases c:j<n;· rw [List.getElem?_range c,List.getElem?_range (by omega)];simp;omega
  rw [List.getElem?_eq_none (by simpa using c),List.getElem?_eq_none (by simp;omega)];rfl
 intro k b;obtain ⟨x,d,rfl⟩:=List.mem_map.1 b;simp at d;omega
end
def Rch (base:Base) (M:Mem) (B:BM) (st:St) (tm:Array Value) (w:World) (st':St) (tm':Array Value) (w':World):Prop :=
 tm'.size=tm.size∧∃ M' B',SR base M' B' st' tm' w'∧Evo w M (tot st.fr tm w B st.bx) B w' M' (tot st'.fr tm' w' B' st'.bx) B'
theorem Rch.refl {base M B st a w} (h:SR base M B st a w):Rch base M B st a w st a w:=⟨rfl,M,B,h,Evo.refl _ _ _ _⟩
theorem Rch.trans {base M B st c st'' e b a w w' d} (h:Rch base M B st e w c b w')
  (k:∀ M' B',SR base M' B' c b w'→Rch base M' B' c b w' st'' a d):Rch base M B st e w st'' a d:=by
 obtain ⟨o,M',B',l,g⟩:=h;obtain ⟨n,i,j,f,m⟩:=k M' B' l;exact ⟨by omega,i,j,f,g.trans m⟩
theorem Rch.eqv {base M B st c st'' e a w w'} (h:Rch base M B st e w c a w') (d:Eqv c st'') (f:Nd st''.bx):Rch base M B st e w st'' a w':=by
 obtain ⟨i,M',B',g,j⟩:=h;refine ⟨i,M',B',g.eqv d f,?_⟩;have:tot st''.fr a w' B' st''.bx=tot c.fr a w' B' c.bx:=funext fun b=>aOP d g.box.nodup f b;grind
theorem Rch.of_eqv {base M B st a d e c w w'} (h:Rch base M B a e w d c w') (f:Eqv st a) (g:Nd st.bx) (i:Nd a.bx):Rch base M B st e w d c w':=by
 obtain ⟨k,M',B',j,l⟩:=h;have:tot st.fr e w B st.bx=tot a.fr e w B a.bx:=funext fun b=>(aOP f g i b).symm;exact ⟨k,M',B',j,by grind⟩
section
variable {P : Program} {mt : Hints} {nt : Nat} {O : Orc} {ops : Array Oper} {bs : Array Nat} {s0 : St} {E : Nat → Eff} {W : Nat → Bool} {lo tp : Nat}
structure SlotsOk (mt:Hints) (ops:Array Oper) (bs:Array Nat) (j:Nat) (y:Oper):Prop where
 aft:∀ e∈y.after,Region.binds .any e=true→e.on<j
 grd:∀ g want,y.guard=some (g,want)→g<j∧oH bs g j=true
 cls:∀ i,i<j→oH bs i j=true→∃ e∈y.after,Region.binds .any e=true∧(e.on=i∨(i<e.on∧oH bs i e.on=true))
 apt:∀ i x,i<j→ops[i]?=some x→oH bs i j=true∨aUY mt ops x y=true
theorem qU (h:uW mt ops bs=true) {j y} (l:ops[j]?=some y):SlotsOk mt ops bs j y:=by
 unfold uW at h;rw [List.all_eq_true] at h;have c  := (Array.getElem?_eq_some_iff.1 l).1;have:=h j (List.mem_range.2 c);rw [l] at this;simp only [Bool.and_eq_true,List.all_eq_true,Array.all_eq_true'] at this;obtain ⟨⟨q,d⟩,k⟩:=this;refine ⟨?_,?_,?_,?_⟩;· intro e b a;have:=q e b;simp [a] at this;exact this
 ·intro g m o;rw [o] at d;simp at d;exact d
 ·intro i f p;have:=k i (List.mem_range.2 f);split at this;· simp at this
  simp only [Bool.and_eq_true,Bool.or_eq_true,p] at this;have:=this.1.resolve_left (by simp);rw [Array.any_eq_true'] at this;obtain ⟨e,b,a⟩:=this;simp at a;exact ⟨e,b,a.1,a.2⟩
 intro i x f n;have:=k i (List.mem_range.2 f);rw [n] at this;simp at this;exact this.2
structure Txt (P:Program) (mt:Hints) (nt:Nat) (O:Orc) (ops:Array Oper) (bs:Array Nat) (s0:St) (E:Nat→Eff) (W:Nat→Bool) (lo tp:Nat):Prop where
 stp:∀ (j:Nat) (o:Oper),lo≤j→j<tp→ops[j]?=some o→Stp P mt nt O ops o (appL E (List.range j) s0) (W j) (E j)
 out:∀ j,j<lo∨tp≤j→E j={}
 ft:∀ i j,lo≤i→i<j→j<tp→W i=true→W j=true→oH bs i j=true∨aIM (E i).foot (E j).foot=true
theorem aJU s:({}:Eff).app s=s:=by
 rfl
theorem aXx:Shp {}:=⟨rfl,.inl rfl,.inl rfl⟩
theorem aVp s:NeOk {} s:=fun h=>by grind
theorem aXy e:Ind {} e:=⟨by simp,(aOU _).symm⟩
theorem Txt.all (h:Txt P mt nt O ops bs s0 E W lo tp):∀ j,j≤ops.size→(∀ i,i<j→Shp (E i)∧NeOk (E i) s0)∧(appL E (List.range j) s0).bx.length=s0.bx.length∧(Nd s0.bx→Nd (appL E (List.range j) s0).bx)
 | 0,_=>⟨by simp,rfl,fun h=>h⟩
 | j+1,G=>by
  obtain ⟨H,v,y⟩:=h.all j (by omega);obtain ⟨o,C⟩:∃ o,ops[j]?=some o:=⟨ops[j],by simp⟩;by_cases q:j<lo∨tp≤j
  ·have z:=h.out j q;have p:List.range (j+1)=List.range j++[j]:=List.range_succ;have c:appL E (List.range (j+1)) s0=appL E (List.range j) s0:=by
    rw [p,kM];show (E j).app (appL E (List.range j) s0)=_;rw [z,aJU]
   rw [c];refine ⟨fun i B => ?_,v,y⟩;by_cases e:i=j;· subst e;rw [z];exact ⟨aXx,aVp _⟩
   exact by grind
  have a:=(h.stp j o (by omega) (by omega) C).ok;have t:NeOk (E j) s0:=fun u=>by rw [← v];exact a.ne u
  have p:List.range (j+1)=List.range j++[j]:=List.range_succ;have c:appL E (List.range (j+1)) s0=(E j).app (appL E (List.range j) s0):=by rw [p,kM];rfl
  refine ⟨?_,?_,?_⟩
  ·intro i B;by_cases e:i=j;· subst e;exact ⟨a.shp,t⟩
   exact by grind
  ·rw [c,Eff.len_app a.shp _ a.ne,v]
  intro A;rw [c];have n:=y A;generalize appL E (List.range j) s0=T at *
  -- the keys
  have w:Nd (cP T.bx (E j).cw):=by
   rcases a.shp.cw with k | ⟨⟨d,id,F,vs⟩,k⟩;· rw [k];exact n
   rw [k];simp [cP];split;· exact aBb n d id _
   exact n
  have m:∀ x∈(E j).nw,bB (cP T.bx (E j).cw) 0 x.1=none:=by
   intro x u;have:=(a.nw x u).2.1;rcases a.shp.cw with k | ⟨⟨d,id,F,vs⟩,k⟩;· rw [k];exact this
   rw [k];simp [cP];split
   ·rename_i cs l;rw [xD _ _ _ _ _ _ _ l,if_neg];· exact this
    rintro ⟨rfl,D⟩;rw [D] at this;rw [this] at l;simp at l
   exact this
  intro d f g;simp [Eff.app,a.shp.up] at g;rcases a.shp.nw with k | ⟨x,k⟩;· rw [k,qD] at g;exact w d f g
  rw [k] at g m;cases s:cP T.bx (E j).cw with
  | nil=>rw [s] at g;simp [wT] at g
  | cons b r =>
   rw [s] at g m;simp [wT] at g;cases d with
   | zero =>
    simp at g;subst g;simp only [List.map_cons,List.nodup_cons];refine ⟨?_,w 0 b (by rw [s];rfl)⟩;have:=m x (by simp);exact wZ.1 this
   | succ d=>exact w (d+1) f (by rw [s];simpa using g)
theorem Txt.apart (h:Txt P mt nt O ops bs s0 E W lo tp) (C:uW mt ops bs=true) {i j x y} (l:lo≤i∧i<tp) (g:lo≤j∧j<tp) (o:ops[i]?=some x) (m:ops[j]?=some y) (A:i≠j)
  (H:i<j→oH bs i j=false) (G:j<i→oH bs j i=false):Ind (E i) (E j)∧(∀ z∈(E i).ws,z.1∉wW ops y)∧(∀ z∈(E j).ws,z.1∉wW ops x):=by
 have key:∀ {i j} {x y},lo≤i∧i<tp→lo≤j∧j<tp→ops[i]?=some x→ops[j]?=some y→i<j→oH bs i j=false→Ind (E i) (E j)∧(∀ z∈(E i).ws,z.1∉wW ops y)∧(∀ z∈(E j).ws,z.1∉wW ops x):=by
  intro i j x y l g o m d v;have q:=(h.stp i x l.1 l.2 o).ok;have c:=(h.stp j y g.1 g.2 m).ok;have k:=((qU C m).apt i x d o).resolve_left (by simp [v]);simp [aUY] at k;have d1:=aRG.1 k.1;have D:=aRG.1 k.2;refine ⟨⟨?_,?_⟩,?_,?_⟩;· intro a t b s e;exact d1 _ (q.ws a t) (List.mem_append.2 (.inr (e ▸ c.ws b s)))
  ·cases u:W i with
   | false=>rw [(h.stp i x l.1 l.2 o).f u];exact (aOU _).symm
   | true =>
    cases n:W j with
    | false=>rw [(h.stp j y g.1 g.2 m).f n];exact aOU _
    | true=>exact aTm ((h.ft i j l.1 d g.2 u n).resolve_left (by simp [v]))
  ·intro z r p;exact d1 _ (q.ws z r) (by grind)
  intro z r p;exact D _ (c.ws z r) p
 by_cases d:i<j;· grind
 obtain ⟨F,w,B⟩:=key g l m o (by omega) (G (by omega));exact ⟨F.symm,B,w⟩
theorem aGA {base M B s f w} (h:SR base M B s f w):∀ n o b,sB ops n o s.fr=some b→Region.wanted o (yielded ops f)=b
 | 0,_,_,c=>by simp [sB] at c
 | n+1,o,b,c=>by
  simp [sB] at c;unfold Region.wanted;cases j:o.guard with
  | none=>grind
  | some z =>
   obtain ⟨g,t⟩:=z;rw [j] at c;simp at c ⊢;cases i:ops[g]? with
   | none=>grind
   | some q =>
    rw [i] at c;simp at c;cases l:q.dst with
    | none=>grind
    | some d =>
     rw [l] at c;simp at c;have a:=h.slot d;have u:∀ v,f.getD d undef=v→v≠undef→f[d]?=some v:=by
      intro v hv A;by_cases k:d<f.size;all_goals simp_all
     cases m:sB ops n q s.fr with
     | none=>grind
     | some x =>
      rw [m] at c;cases x with
      | true =>
       obtain ⟨b',p,c⟩:=aB c;have r:gets s.fr d = .bool b':=by
        unfold wS at p;grind
       rw [r] at a;have:=u _ a.bool_inv (by simp [undef]);cases c;simp [yielded,i,l,this]
      | false =>
       simp at c;split at c
       ·rename_i y;cases c;rw [y] at a;have hv:f.getD d undef=undef:=by
         generalize f.getD d undef=v at a;cases a;rfl
        have:f[d]?=none∨f[d]?=some undef:=by
         by_cases k:d<f.size;all_goals simp_all
        rcases this with e | e<;>simp [yielded,i,l,e,undef]
       grind
def Cut (ops:Array Oper) (bs:Array Nat) (tp:Nat):Prop:=∀ i,tp≤i→i<ops.size→(i=tp∧∀ k,k<tp→oH bs k tp=true)∨(tp<i∧oH bs tp i=true)
theorem aVq {base} (hO:aJR P base.g O) (hT:Txt P mt nt O ops bs s0 E W lo tp) (A:tp≤ops.size) (hcut:Cut ops bs tp) (hs:uW mt ops bs=true) {Q} :
  ∀ n b s a w M B,b.size=ops.size →
  (∀ k,k<ops.size→b.getD k false=true→∀ i,i<k→oH bs i k=true→b.getD i false=true) →
  (∀ k,k<lo→b.getD k false=true)→(∀ k,tp≤k→b.getD k false=false) →
  ((List.range ops.size).filter fun i=>b.getD i false).length+n=tp →
  Eqv s (appL E ((List.range ops.size).filter fun i=>b.getD i false) s0)→a.tmps.size=nt→SR base M B s a.tmps w →
  (∀ q Z a' w',q.size=ops.size→(∀ k,q.getD k false=decide (k<tp))→Eqv Z (appL E (List.range ops.size) s0)→Rch base M B s a.tmps w Z a'.tmps w'→a'.defers=a.defers→wpAny P .any ops Q (ops.size-tp) q a' w') →
  wpAny P .any ops Q (n+(ops.size-tp)) b a w:=by
 intro n;have hall:=hT.all ops.size (Nat.le_refl _);have outs:∀ p l s,(∀ k∈l,p k=false→E k={})→appL E (l.filter p) s=appL E l s:=by
  intro p l;induction l with
  | nil=>intro s _;rfl
  | cons k l ih =>
   intro s h;cases hp:p k with
   | true=>rw [List.filter_cons_of_pos hp];exact ih _ fun j hj=>h j (by simp [hj])
   | false =>
    rw [List.filter_cons_of_neg (by simp [hp])];show _=appL E l ((E k).app s);rw [h k (by simp) hp,aJU];exact ih _ fun j hj=>h j (by simp [hj])
 have cnt:∀ (b:Array Bool),(∀ k,tp≤k→b.getD k false=false)→((List.range ops.size).filter fun i=>b.getD i false).length=((List.range tp).filter fun i=>b.getD i false).length:=by
  intro b h;obtain ⟨d,hd⟩:∃ d,ops.size=tp+d:=⟨ops.size-tp,by omega⟩;rw [hd,List.range_add,List.filter_append];have:((List.range d).map (tp + ·)).filter (fun i=>b.getD i false)=[]:=by
   refine List.filter_eq_nil_iff.2 fun x R => ?_;obtain ⟨y,_,rfl⟩:=List.mem_map.1 R;rw [h (tp+y) (by omega)];simp
  rw [this];simp
 -- nothing ready: all are done
 have F:∀ b,b.size=ops.size→Region.ready .any ops b=[]→∀ k,k<ops.size→b.getD k false=true:=by
  intro b T hr k;induction k using Nat.strongRecOn with
  | _ k ih =>
   intro c;cases hlk:b.getD k false with
   | true=>rfl
   | false =>
    exfalso;obtain ⟨o,ho⟩:∃ o,ops[k]?=some o:=⟨ops[k],Array.getElem?_eq_getElem c⟩;have hm:k∈Region.ready .any ops b:=by
     unfold Region.ready;refine List.mem_filter.2 ⟨List.mem_range.2 c,?_⟩;have e1:b.getD k true=false:=by
      have m:k<b.size:=by omega
      simp [Array.getD,m,dif_pos] at hlk ⊢;exact hlk
     simp only [e1,Bool.not_false,Bool.true_and,ho,Option.map_some,Option.getD_some];rw [Array.all_eq_true'];intro e he;cases hb:Region.binds .any e with
     | false=>simp
     | true =>
      have A:=(qU hs ho).aft e he hb;simp [ih e.on A (by omega)]
    rw [hr] at hm;simp at hm
 induction n with
 | zero =>
  intro b s a w M B T hcl hlo J u he htm S hQ;rw [cnt b J] at u;have N:∀ k,k<tp→b.getD k false=true:=by
   have:((List.range tp).filter fun i=>b.getD i false).length=(List.range tp).length:=by simpa using u
   have:=List.length_filter_eq_length_iff.1 this;intro k c;exact this k (List.mem_range.2 c)
  rw [Nat.zero_add];refine hQ b s a w T (fun k => ?_) ?_ (Rch.refl S) rfl
  ·by_cases c:k<tp;· simp [c,N k c]
   ·simp [c,J k (by omega)]
  ·rw [outs _ _ _ (fun k c hp=>hT.out k (.inr ?_))] at he;· exact he
   ·by_cases h:k<tp;· rw [N k h] at hp;simp at hp
    ·omega
 | succ n ih =>
  intro b s a w M B T hcl hlo J u he htm S hQ;have K:¬ ∀ k,k<tp→b.getD k false=true:=by
   intro h;rw [cnt b J,List.filter_eq_self.2 (fun k c=>h k (List.mem_range.1 c))] at u;simp at u
  rw [show n+1+(ops.size-tp)=(n+(ops.size-tp))+1 by omega];refine ⟨fun hr=>absurd (fun k c=>F b T hr k (by omega)) K,?_⟩;intro i hi;unfold Region.ready at hi;obtain ⟨hi1,hi2⟩:=List.mem_filter.1 hi;have L:=List.mem_range.1 hi1;obtain ⟨o,ho⟩:∃ o,ops[i]?=some o:=⟨ops[i],Array.getElem?_eq_getElem L⟩;rw [ho] at hi2;simp only [Option.map_some,Option.getD_some,Bool.and_eq_true,Bool.not_eq_true'] at hi2;obtain ⟨hnl,hrd⟩:=hi2;have I:b.getD i false=false:=by
   have hk2:i<b.size:=by omega
   simp [Array.getD,hk2] at hnl ⊢;exact hnl
  rw [Array.all_eq_true'] at hrd;have hso:=qU hs ho
  -- what is oH of it is done
  have hah:∀ k,k<i→oH bs k i=true→b.getD k false=true:=by
   intro k c Y;obtain ⟨e,he',hb,hon⟩:=hso.cls k c Y;have h1:=hrd e he';simp only [hb] at h1;rcases hon with rfl | ⟨A,ha'⟩;· exact h1
   exact hcl e.on (Nat.lt_trans (hso.aft e he' hb) L) h1 k A ha'
  have hil:lo≤i:=by
   by_cases h:i<lo;· rw [hlo i h] at I;simp at I
   omega
  have hit:i<tp:=by
   by_cases h:i<tp;· exact h
   exfalso;rcases hcut i (by omega) L with ⟨rfl,c⟩ | ⟨h1,h2⟩;· exact K fun k m=>hah k m (c k m)
   have:=hah tp h1 h2;rw [J tp (Nat.le_refl _)] at this;simp at this
  obtain ⟨rest,G,r⟩:=aOV L;have U:(List.range ops.size).filter (fun k=>b.getD k false)=(List.range i).filter (fun k=>b.getD k false)++rest.filter (fun k=>b.getD k false):=by
   rw [G,List.filter_append,List.filter_cons_of_neg (by simp [I])]
  have C:∀ k,(b.setIfInBounds i true).getD k false=if k=i then true else b.getD k false:=by
   intro k;by_cases c:k=i
   ·subst c;have:k<b.size:=by omega
    simp [this]
   simp [c];simp [Array.getElem?_setIfInBounds];rw [if_neg (fun e=>c e.symm)]
  have V:(List.range ops.size).filter (fun k=>(b.setIfInBounds i true).getD k false)=(List.range i).filter (fun k=>b.getD k false)++i::rest.filter (fun k=>b.getD k false):=by
   rw [G,List.filter_append];congr 1;· apply List.filter_congr;intro k c;rw [C,if_neg (by have:=List.mem_range.1 c;omega)]
   rw [List.filter_cons_of_pos (by rw [C];simp)];congr 1;apply List.filter_congr;intro k c;rw [C,if_neg (by have:=r k c;omega)]
  -- who is not ordered with it
  have X:∀ k,k<ops.size→k≠i→(k<i→b.getD k false=false)→(i<k→b.getD k false=true)→Ind (E k) (E i)∧(∀ z∈(E k).ws,z.1∉wW ops o):=by
   intro k c hne h1 h2;by_cases hout:k<lo∨tp≤k;· rw [hT.out k hout];exact ⟨aXy _,by simp⟩
   obtain ⟨x,R⟩:∃ x,ops[k]?=some x:=⟨ops[k],Array.getElem?_eq_getElem c⟩;have:=hT.apart hs (by omega) ⟨hil,hit⟩ R ho hne (fun A=>by
    cases Y:oH bs k i with
    | false=>rfl
    | true=>have:=hah k A Y;rw [h1 A] at this;simp at this) (fun A=>by
    cases Y:oH bs i k with
    | false=>rfl
    | true=>have:=hcl k c (h2 A) i A Y;rw [I] at this;simp at this)
   exact ⟨this.1,this.2.1⟩
  have D  := hall.1;have hA:∀ k∈List.range i,Shp (E k)∧NeOk (E k) s0:=fun k c=>D k (by have:=List.mem_range.1 c;omega);have hstp:=hT.stp i o hil hit ho
  -- it does here what it does in the order of the text
  have hagr  := by
   have e1:=aJT (fun k=>b.getD k false) (List.range i) s0 s0 (Agr.of_eqv (Eqv.refl _) (wW ops o) (E i).foot) hA (fun k c hS=>by
    have hki:=List.mem_range.1 c;have:=X k (by omega) (by omega) (fun _=>hS) (fun h=>by omega);exact ⟨this.2,this.1.ft⟩)
   have H:(appL E ((List.range i).filter fun k=>b.getD k false) s0).bx.length=s0.bx.length:=aFU _ _ fun k c=>hA k (List.mem_filter.1 c).1;have e2:=aLZ (rest.filter fun k=>b.getD k false) _ _ e1 (fun k c=>by
    have m:=List.mem_filter.1 c;have:=D k (r k m.1).2;exact ⟨this.1,fun R=>by rw [H];exact this.2 R⟩) (fun k c=>by
    have m:=List.mem_filter.1 c;have hb:=r k m.1;have:=X k hb.2 (by omega) (fun h=>by omega) (fun _=>m.2);exact ⟨this.2,this.1.ft⟩)
   rw [← kM,← U] at e2;exact e2.eqv_right he.symm
  have hst  := hstp.congr hagr;have hmg:Eqv ((E i).app s) (appL E ((List.range ops.size).filter fun k=>(b.setIfInBounds i true).getD k false) s0):=by
   have hmem:∀ k∈(List.range ops.size).filter (fun k=>b.getD k false),Shp (E k)∧NeOk (E k) s0:=fun k c=>D k (List.mem_range.1 (List.mem_filter.1 c).1);have lenF  := aFU _ _ hmem;have hi0:=D i L;have e1  := he.app hi0.1 (fun R=>by rw [he.len,lenF];exact hi0.2 R);have H:(appL E ((List.range i).filter fun k=>b.getD k false) s0).bx.length=s0.bx.length:=aFU _ _ fun k c=>hA k (List.mem_filter.1 c).1;rw [U,kM] at e1;rw [V,kM];refine e1.trans (aLY hi0.1 _ _ (fun R=>by rw [H];exact hi0.2 R) (fun k c => ?_) (fun k c => ?_));· have m:=List.mem_filter.1 c;have:=D k (r k m.1).2;exact ⟨this.1,fun R=>by rw [H];exact this.2 R⟩
   have m:=List.mem_filter.1 c;have hb:=r k m.1;exact (X k hb.2 (by omega) (fun h=>by omega) (fun _=>m.2)).1.symm
  have next:∀ a' w',a'.defers=a.defers→Rch base M B s a.tmps w ((E i).app s) a'.tmps w'→wpAny P .any ops Q (n+(ops.size-tp)) (b.setIfInBounds i true) a' w':=by
   intro a' w' hd hr;obtain ⟨r1,M',B',r2,r3⟩:=hr;refine ih (b.setIfInBounds i true) ((E i).app s) a' w' M' B' (by simp [T]) ?_ ?_ ?_ ?_ hmg (by rw [r1];exact htm) r2 ?_
   ·intro k c hl j hj Y;rw [C] at hl ⊢;by_cases e1:j=i;· simp [e1]
    rw [if_neg e1];by_cases e2:k=i;· subst e2;exact hah j hj Y
    rw [if_neg e2] at hl;exact hcl k c hl j hj Y
   ·intro k c;rw [C,if_neg (by omega)];exact hlo k c
   ·intro k c;rw [C,if_neg (by omega)];exact J k c
   ·rw [V];rw [U] at u;simp at u ⊢;omega
   intro l' Z a'' w'' l1 l2 h1 h2 h3;obtain ⟨q1,M3,B3,q2,q3⟩:=h2;exact hQ l' Z a'' w'' l1 l2 h1 ⟨q1.trans r1,M3,B3,q2,r3.trans q3⟩ (h3.trans hd)
  unfold wpOp;rw [ho];simp;have hwant:=aGA S _ _ _ hst.g;rw [hwant];cases hw:W i with
  | true =>
   left;obtain ⟨hev,hup⟩:=hst.t hw;refine xJ hO S (by rw [htm];exact hev) fun tm' w' Y=>next _ _ rfl Y
  | false =>
   refine next _ _ (aIQ _ _ _) ?_;rw [hst.f hw,aRx];have:=jG (dst:=o.dst) S (p := .und) (v:=undef) .und (nF _);rw [htm] at this;exact this
theorem fC {α β} {x} {f g:α→Option β} (h:∀ a,f a=g a):bnd x f=bnd x g:=by cases x<;>simp [bnd,h]
theorem aVr {R S} v k (g:R→Option S):bnd (brB v k) g=brB v fun b=>bnd (k b) g:=by
 unfold brB;rw [bD];apply fC;intro b;rw [nH]
theorem aVs {R v} {f g:Bool→Option R} (h:∀ b,f b=g b):brB v f=brB v g:=by
 unfold brB;grind
theorem gQ {ops R}:∀ n o st (K:Bool→St→Option R),iN ops n o st K=bnd (iN ops n o st fun b s=>some (b,s)) fun x=>K x.1 x.2
 | 0,_,_,_=>rfl
 | n+1,o,st,K=>by
  simp [iN];cases o.guard with
  | none=>rfl
  | some c =>
   obtain ⟨g,a⟩:=c;simp;cases ops[g]? with
   | none=>rfl
   | some q =>
    simp;cases q.dst with
    | none=>rfl
    | some s =>
     simp;conv=>lhs;rw [gQ]
     conv=>rhs;rw [gQ,bD]
     apply fC;rintro ⟨b,s'⟩;cases b with
     | true=>simp [aVr];rfl
     | false=>simp;split<;>rfl
theorem iQ {ops R}:∀ c i a st (K:List (Nat×Foot)→St→Option R),
  cI P mt nt O ops i c a st K=bnd (cI P mt nt O ops i c a st fun l s=>some (l,s)) fun x=>K x.1 x.2
 | [],i,a,st,K=>rfl
 | o::c,i,a,st,K=>by
  simp [cI];rw [gQ,gQ (R:=List (Nat×Foot)×St),bD];apply fC;rintro ⟨b,s⟩;cases b with
  | true =>
   rw [eZ,eZ (R:=List (Nat×Foot)×St),bD];apply fC;intro e;cases e.up with
   | some u =>
    simp;split;· exact iQ c _ _ _ K
    rfl
   | none=>exact iQ c _ _ _ K
  | false=>exact iQ c _ _ _ K
theorem aCX {E}:∀ l s,(∀ k∈l,E k={})→appL E l s=s
 | [],_,_=>rfl
 | k::l,s,h=>by
  show appL E l ((E k).app s)=s;rw [h k (by simp),aJU];exact aCX l s fun j a=>by grind
def sect (es:List (Bool×Eff)) (lo i:Nat):Bool×Eff:=if lo≤i then (es[i-lo]?).getD (false,{}) else (false,{})
theorem aJV {es lo i} k x (a:i=lo+k) (h:es[k]?=some x):sect es lo i=x:=by
 unfold sect;grind
theorem aFV {es lo i} (h:i<lo∨lo+es.length≤i):sect es lo i=(false,{}):=by
 unfold sect;grind
theorem aL0 es lo s:∀ k,k≤es.length→fold (es.take k) s=appL (fun i=>(sect es lo i).2) (List.range (lo+k)) s:=by
 intro k;induction k with
 | zero =>
  intro _;rw [aCX];· rfl
  intro j c;have:=List.mem_range.1 c;rw [aFV (by omega)]
 | succ k b =>
  intro h;have a  := by omega
  rw [← Nat.add_assoc,List.range_succ,kM,← b (by omega),List.take_succ_eq_append_getElem a];show fold _ s=(sect es lo (lo+k)).2.app _;rw [aJV k es[k] rfl (by simp)];grind
theorem aJW es lo n s (h:lo+es.length≤n):fold es s=appL (fun i=>(sect es lo i).2) (List.range n) s:=by
 have a:=aL0 es lo s es.length (by omega);rw [List.take_length] at a;obtain ⟨d,rfl⟩:∃ d,n=lo+es.length+d:=⟨n-(lo+es.length),by omega⟩;rw [List.range_add,kM,← a,aCX];intro j b;obtain ⟨y,_,rfl⟩:=List.mem_map.1 b;rw [aFV (by omega)]
theorem aFW:∀ d i a st c l,cI P mt nt O ops i d a st (fun l s=>some (l,s))=some (l,c)→∃ x,l=x++a
 | [],i,a,st,c,l,h=>by simp [cI] at h;simp_all
 | o::d,i,a,st,c,l,h=>by
  obtain ⟨b,fr',j,g,h⟩:=aAr _ _ _ _ _ h;cases b with
  | false=>exact aFW d _ _ _ _ _ h
  | true =>
   rw [eZ] at h;obtain ⟨e,_,h⟩:=aB h;cases f:e.up with
   | some u =>
    rw [f] at h;simp at h;split at h;· exact aFW d _ _ _ _ _ h
    grind
   | none =>
    rw [f] at h;obtain ⟨x,rfl⟩:=aFW d _ _ _ _ _ h;exact ⟨x++[(i,e.foot)],by simp⟩
theorem aL1 {n i} (h:aOv bs n i=true) (a:i<n):(∀ k,k<i→oH bs k i=true)∧∀ k,i<k→k<n→oH bs i k=true:=by
 unfold aOv at h;grind
theorem aVt {base} (L:aJR P base.g O) (hs:uW mt ops (Region.before ops)=true):∀ n i log l st st' a w M B listed,i≤ops.size→ops.size-i≤n →
  listed.size=ops.size→(∀ k,listed.getD k false=decide (k<i)) →
  cI P mt a.tmps.size O ops i (ops.toList.drop i) log st (fun l s=>some (l,s))=some (l,st')→pC (Region.before ops) l=true→SR base M B st a.tmps w →
  ∀ Q,(∀ a' w',Rch base M B st a.tmps w st' a'.tmps w'→a'.defers=a.defers→Q .normal a' w')→wpAny P .any ops Q (ops.size-i) listed a w:=by
 intro n;induction n with
 | zero =>
  intro i log l st st' a w M B listed u hn hsz hl h hf hsr Q hQ;have u:i=ops.size:=by omega
  subst u;have hd:ops.toList.drop ops.size=[]:=by simp
  rw [hd] at h;simp only [cI,Option.some.injEq,Prod.mk.injEq] at h;obtain ⟨_,rfl⟩:=h;rw [Nat.sub_self];refine ⟨?_,hQ a w (Rch.refl hsr) rfl⟩;unfold Region.ready;rw [List.filter_eq_nil_iff];intro k hk;have hk':=List.mem_range.1 hk;have:=hl k;have q:listed.getD k true=true:=by
   have hk2:k<listed.size:=by omega
   simp only [Array.getD,hk2,dif_pos] at this ⊢;rw [this];simp [hk']
  simp only [q,Bool.not_true,Bool.false_and];simp
 | succ n W =>
  intro i log l st st' a w M B listed u hn hsz hl h hf hsr Q hQ;obtain ⟨es,hle,hstp,st1,A,t,halt⟩:=aRH _ i log st st _ _ h (Eqv.refl _);have hle':i+es.length≤ops.size:=by simp at hle;omega
  have hlog:pC (Region.before ops) (logs i es++log)=true:=by
   rcases halt with ⟨_,h2⟩ | ⟨_,_,_,_,_,_,_,_,h2⟩;· simp [Option.some.injEq,Prod.mk.injEq] at h2;rw [h2.1];exact hf
   ·obtain ⟨x,rfl⟩:=aFW _ _ _ _ _ _ h2;exact aBx _ _ hf
  have hget:∀ k,(ops.toList.drop i)[k]?=ops[i+k]?:=by intro k;simp
  have H:Txt P mt a.tmps.size O ops (Region.before ops) st (fun j=>(sect es i j).2) (fun j=>(sect es i j).1) i (i+es.length):=by
   refine ⟨?_,?_,?_⟩;· intro j o h1 h2 ho;obtain ⟨k,rfl⟩:∃ k,j=i+k:=⟨j-i,by omega⟩;obtain ⟨x,hx,hx2⟩:=hstp k o (by omega) (by rw [hget];exact ho);rw [aL0 es i st k (by omega)] at hx2;rw [aJV k x rfl hx];exact hx2
   ·intro j hj;show (sect es i j).2={};rw [aFV hj]
   intro j k hj Y hk hwj hwk;obtain ⟨c,rfl⟩:∃ c,j=i+c:=⟨j-i,by omega⟩;obtain ⟨d,rfl⟩:∃ d,k=i+d:=⟨k-i,by omega⟩;obtain ⟨F,hxi⟩:∃ x,es[c]?=some x:=⟨es[c],by simp⟩;obtain ⟨N,hxj⟩:∃ x,es[d]?=some x:=⟨es[d],by simp⟩;rw [aJV c F rfl hxi] at hwj ⊢;rw [aJV d N rfl hxj] at hwk ⊢;obtain ⟨bi,ei⟩:=F;obtain ⟨bj,ej⟩:=N;simp at hwj hwk ⊢;subst hwj;subst hwk;exact (aLX es i log hlog).2 c d ei ej (by omega) hxi hxj
  have hfin:=aJW es i ops.size st hle';have hnd:Nd st1.bx:=by
   rw [t rfl,hfin];exact (H.all ops.size (Nat.le_refl _)).2.2 hsr.box.nodup
  have hcut:Cut ops (Region.before ops) (i+es.length):=by
   rcases halt with ⟨h1,_⟩ | ⟨o,e,fr2,h1,h2,_⟩;· intro k h3 p;simp at h1;omega
   have hlt:i+es.length<ops.size:=by
    rw [hget] at h1;exact (Array.getElem?_eq_some_iff.1 h1).1
   obtain ⟨f,D⟩:=aL1 h2 hlt;intro k h3 p;by_cases hk:k=i+es.length;· exact .inl ⟨hk,f⟩
   exact by grind
  have hfl:((List.range ops.size).filter fun j=>listed.getD j false)=List.range i:=by
   obtain ⟨d,hd⟩:∃ d,ops.size=i+d:=⟨ops.size-i,by omega⟩;rw [hd,List.range_add,List.filter_append];have q:((List.range d).map (i + ·)).filter (fun j=>listed.getD j false)=[]:=by
    refine List.filter_eq_nil_iff.2 fun x hx => ?_;obtain ⟨y,_,rfl⟩:=List.mem_map.1 hx;rw [hl];simp
   rw [q,List.append_nil,List.filter_eq_self.2];intro x hx;rw [hl];simpa using hx
  have hfuel:ops.size-i=es.length+(ops.size-(i+es.length)):=by omega
  rw [hfuel];refine aVq (Q:=Q) L H hle' hcut hs es.length listed st a w M B hsz ?_ ?_ ?_ ?_ ?_ rfl hsr ?_;· intro k hk h1 j hj _;rw [hl] at h1 ⊢;simp at h1 ⊢;omega
  ·intro k hk;rw [hl];simpa using hk
  ·intro k hk;rw [hl];simp;omega
  ·rw [hfl];simp
  ·rw [hfl,aCX];· exact Eqv.refl _
   intro j hj;have:=List.mem_range.1 hj;show (sect es i j).2=_;rw [aFV (.inl (by omega))]
  ·intro l2 s2 a' w' l1 l3 h1 h2 h3;have C:=h2.eqv (st'':=st1) (h1.trans (by rw [← hfin];exact A.symm)) hnd;obtain ⟨q1,T,B3,b,I⟩:=C;have hdone:∀ k,k<ops.size→l2.getD k true=decide (k<i+es.length):=by
    intro k hk;have hk2:k<l2.size:=by omega
    have:=l3 k;simp [Array.getD,hk2,dif_pos] at this ⊢;exact this
   rcases halt with ⟨k1,k2⟩ | ⟨o,e,fr2,k1,k2,S,R,G,k6⟩
   ·simp [Option.some.injEq,Prod.mk.injEq] at k2;obtain ⟨_,rfl⟩:=k2;have:i+es.length=ops.size:=by simp at k1;omega
    rw [this,Nat.sub_self];refine ⟨?_,hQ a' w' ⟨q1,T,B3,b,I⟩ h3⟩;unfold Region.ready;rw [List.filter_eq_nil_iff];intro k hk;have hk':=List.mem_range.1 hk;rw [hdone k hk',this];simp [hk']
   rw [hget] at k1;generalize htp:i+es.length=tp at *;have hlt  := (Array.getElem?_eq_some_iff.1 k1).1;have m:=qU hs k1;rw [show ops.size-tp=(ops.size-(tp+1))+1 by omega];constructor
   ·intro hr;exfalso;have K:tp∈Region.ready .any ops l2:=by
     unfold Region.ready;refine List.mem_filter.2 ⟨List.mem_range.2 hlt,?_⟩;rw [hdone tp hlt];simp only [Nat.lt_irrefl,decide_false,Bool.not_false,Bool.true_and,k1,Option.map_some,Option.getD_some];rw [Array.all_eq_true'];intro e A;cases r:Region.binds .any e with
     | false=>simp
     | true=>have:=m.aft e A r;simp [l3,this]
    rw [hr] at K;simp at K
   intro x hx;unfold Region.ready at hx;obtain ⟨v,hx2⟩:=List.mem_filter.1 hx;have hxn:=List.mem_range.1 v;obtain ⟨ox,hox⟩:∃ o,ops[x]?=some o:=⟨ops[x],by simp⟩;rw [hox,hdone x hxn] at hx2;simp only [Option.map_some,Option.getD_some,Bool.and_eq_true,Bool.not_eq_true',decide_eq_false_iff_not] at hx2;obtain ⟨hx3,hx4⟩:=hx2;rw [Array.all_eq_true'] at hx4;have hxe:x=tp:=by
    by_cases V:x=tp;· exact V
    exfalso;have:=(aL1 k2 hlt).2 x (by omega) hxn;obtain ⟨e',he',r,hon⟩:=(qU hs hox).cls tp (by omega) this;have h1:=hx4 e' he';simp [r,Bool.not_true,l3] at h1;rcases hon with hon | ⟨hon,_⟩<;>omega
   subst hxe;rw [hox] at k1;cases k1;have heq:Eqv st1 {st1 with fr:=fr2}:=⟨fun j=>(R j).symm,fun _ _=>rfl,rfl⟩;have hsr2  := b.eqv heq hnd;unfold wpOp;rw [hox];simp;rw [aGA b _ _ _ S];simp;left;unfold Oper.wp;rw [← q1] at G;refine xJ L hsr2 G fun tm' w2 ha => ?_;have z:=Rch.of_eqv ha heq hnd hnd;obtain ⟨E,M4,B4,r2,r3⟩:=z;have k6':cI P mt tm'.size O ops (x+1) (ops.toList.drop (x+1)) (logs i es++log) (e.app {st1 with fr:=fr2}) (fun l s=>some (l,s))=some (l,st'):=by
    rw [show tm'.size=a.tmps.size from E.trans q1,← k6,List.drop_drop];congr 2;omega
   refine W (x+1) _ l _ st' ⟨tm',a'.defers⟩ w2 M4 B4 (l2.setIfInBounds x true) (by omega) (by omega) (by simp [l1]) ?_ k6' hf r2 Q ?_
   ·intro k;by_cases hk:k=x
    ·subst hk;have:k<l2.size:=by omega
     simp [this]
    have J:=l3 k;simp [Array.getElem?_setIfInBounds] at J ⊢;rw [if_neg (fun e=>hk e.symm),J];by_cases h':k<x<;>simp<;>omega
   intro a3 w3 p h5;obtain ⟨f,U,Z,D,X⟩:=p;exact hQ a3 w3 ⟨f.trans (E.trans q1),U,Z,D,I.trans (r3.trans X)⟩ (h5.trans h3)
theorem aTp {base} (y:P.follows .mixedOrders=true) (p:aJR P base.g O) {M B st a w id R} {K:St→Option R} {r}
  (q:uW mt ops (Region.before ops)=true)
  (h:cI P mt a.tmps.size O ops 0 ops.toList [] st (fun k st=>match pC (Region.before ops) k with | true=>K st | false=>none)=some r) (e:SR base M B st a.tmps w) :
  ∃ b,K b=some r∧∀ Q,(∀ d w',Rch base M B st a.tmps w b d.tmps w'→d.defers=a.defers→Q .normal d w')→(Code.region id ops true).wp P Q a w:=by
 rw [iQ] at h;obtain ⟨⟨l,b⟩,x,h⟩:=aB h;split at h;· rename_i j;refine ⟨b,h,?_⟩;intro Q t;refine wp_region_any y ?_;obtain ⟨i,f⟩:=e.world (M':=M) (w':={w with drawn:=w.drawn+1}) e.cons (fun _ _ _ h=>h) (fun _ _ _ _=>⟨rfl,fun _=>rfl⟩) (fun _ _=>⟨rfl,fun _=>rfl⟩) (Nat.le_refl _);refine aVt p q ops.size 0 [] l st b a _ M B (Array.replicate ops.size false) (by omega) (by omega) (by simp) (by simp [Array.getD]) (by grind) j i Q ?_;intro d w' s m;refine t d w' ?_ m;obtain ⟨n,o,u,v,c⟩:=s;refine ⟨n,o,u,v,?_⟩;rw [show tot st.fr a.tmps {w with drawn:=w.drawn+1} B st.bx=tot st.fr a.tmps w B st.bx from funext f] at c;exact ⟨c.os,c.tape,c.output,c.size,c.mono,c.keep,c.tle,c.bxs,c.outer⟩
 grind
end
theorem xM {g}:∀ a f,a.Nodup→(∀ x∈a,x∈f)→dT g a≤dT g f
 | [],f,_,_=>by simp [dT]
 | (i,c)::a,f,b,h=>by
  obtain ⟨e,d,rfl⟩:=List.append_of_mem (h (i,c) (by simp));rw [List.nodup_cons] at b;have:=xM (g:=g) a (e++d) b.2 (fun x j=>by
   grind)
  rw [aEZ] at this ⊢;simp [dT];omega
theorem tW bx id:bB bx 0 id=look (oI bx) id:=by
 cases bx with
 | nil=>simp [qQ,oI,look]
 | cons f r=>rfl
def delB (id:Nat) (B:BM):BM:=fun d i=>if d=0∧i=id then none else B d i
theorem aFX {id B d i b} (h:delB id B d i=some b):B d i=some b:=by
 unfold delB at h;grind
theorem xN {id B d i} (h:¬ (d=0∧i=id)):delB id B d i=B d i:=by
 unfold delB;grind
theorem Rv.del1 {M B id p v} (h:Rv M B p v) (u:aLw id p=false):Rv M (delB id B) p v:=by
 cases h with
 | bot v=>exact .bot v
 | und=>exact .und
 | bool b=>exact .bool b
 | int k n=>exact .int k n
 | str s=>exact .str s
 | agg cs=>simp [aLw] at u
 | tuple cs=>simp [aLw] at u
 | nil o=>exact .nil o
 | slice es O o a cap s f t m I l z C=>exact (Rv.slice es O o a cap s f t m I l z C).anyB _ rfl
 | mk0 sz a cap t=>exact .mk0 sz a cap t
 | ref e a s f t l z C=>exact .ref e a s f t l z (fun j c m=>(C j c m).anyB1 _ (l.cell m))
 | ptr d i off b D=>exact .ptr d i off b (by rw [xN (by rintro ⟨rfl,rfl⟩;simp [aLw] at u)];exact D)
 | rsl d i n sz b cap D m=>exact .rsl d i n sz b cap (by rw [xN (by rintro ⟨rfl,rfl⟩;simp [aLw] at u)];exact D) m
 | rslNil d i sz F=>exact .rslNil d i sz F
 | nilptr=>exact .nilptr
 | func J q r P R f g S H L G x N A =>
  refine (Rv.func J q r P R f g S H L G x N A).anyBfree _ ?_;simpa [aLw,PV.free] using u
 | vec sz E b cap w m K Q y=>exact .vec sz E b cap w m K Q y
 | vecNil sz F=>exact .vecNil sz F
 | nilFunc=>exact .nilFunc
theorem Rv.del {M B id}:∀ n {p v},Rv M B p v→ment id n p=false→Rv M (delB id B) p v:=by
 intro n;induction n with
 | zero =>
  intro p v h d;cases p with
  | agg cs =>
   simp [ment] at d;cases h with
   | agg _ vs f j e k =>
    exact .agg _ vs f j e fun i c m=>(k i c m).del1 (by grind)
  | tuple cs =>
   simp only [ment,List.any_eq_false] at d;have:cs=[]:=by
    cases cs with
    | nil=>rfl
    | cons c l=>exact absurd trivial (d c (by simp))
   subst this;cases h with
   | tuple _ vs f j e k=>exact .tuple [] vs f j e (by simp)
  | func f a b=>simp [ment] at d
  | _=>exact h.del1 (by simpa [ment] using d)
 | succ n z =>
  intro p v h d;cases p with
  | agg cs =>
   simp [ment] at d;cases h with
   | agg _ vs f j e k =>
    exact .agg _ vs f j e fun i c m=>(k i c m).del1 (by grind)
  | tuple cs =>
   simp only [ment,List.any_eq_false] at d;have:cs=[]:=by
    cases cs with
    | nil=>rfl
    | cons c l=>exact absurd trivial (d c (by simp))
   subst this;cases h with
   | tuple _ vs f j e k=>exact .tuple [] vs f j e (by simp)
  | func f a b =>
   simp [ment] at d;cases h with
   | func A o r w x f g y j e u q t s =>
    exact .func _ _ _ w x f g y j e (fun i c m=>by grind) q t (fun i c m=>by grind)
  | _=>exact h.del1 (by simpa [ment] using d)
theorem Rv.kill {M B id p v} (h:Rv M B p v):Rv M (delB id B) (aBs id p) v:=by
 unfold aBs;split;· exact .bot _
 rename_i a;exact h.del 3 a
theorem aL2 id fr i:gets (fr.map fun x=>(x.1,aBs id x.2)) i=aBs id (gets fr i):=by
 induction fr with
 | nil=>rfl
 | cons x l a =>
  obtain ⟨j,v⟩:=x;simp [dL];grind
theorem aBy id:∀ (b:fM) i,look (b.filter fun x => !(x.1==id)) i=if i=id then none else look b i
 | [],i=>by simp [look]
 | (j,c)::b,i=>by
  simp only [List.filter_cons];by_cases e:j=id;· subst e;simp [aBy j b i,iP];grind
  have:(!(j==id))=true:=by simp [e]
  simp [this,iP,aBy id b i];grind
theorem aIZ bx id d i:bB (nE bx id) d i=if d=0∧i=id then none else bB bx d i:=by
 cases bx with
 | nil=>simp [nE,qQ]
 | cons b r =>
  cases d with
  | zero=>simp [nE,bF,aBy]
  | succ d=>simp only [nE,fX];simp
theorem bAl id p v b:cV (aBs id p) v b≤cV p v b:=by
 unfold aBs;split;· rw [(dU.of1 (p := .bot) (v:=v) (by simp) (by simp) (by cases v<;>rfl)).c b];omega
 simp
theorem bAm {M w base B} id {p v} (h:hV M w base B p v):hV M w base B (aBs id p) v:=by
 unfold aBs;split;· exact (dU.of1 (p := .bot) (v:=v) (by simp) (by simp) (by cases v<;>rfl)).h _ _ _ _
 exact h
theorem aBz {R} t st (K:St→Option R):aDT t st K=bnd (aDT t st some) K:=by
 unfold aDT;split
 ·split
  ·split;· rw [nH];rfl
   rfl
  rfl
 ·rfl
 rfl
theorem aGB {R} t sz st (K:St→Option R):aS8 t sz st K=bnd (aS8 t sz st some) K:=by
 unfold aS8;split<;>rfl
theorem aBA {R}:∀ l st (K:St→Option R),tB l st K=bnd (tB l st some) K
 | [],st,K=>rfl
 | t::l,st,K=>by
  simp [tB];split;· rw [aBz,aBz (R:=St) t st (fun st=>tB l st some),bD];congr 1;funext s;exact aBA l s K
  rw [aGB,aGB (R:=St) _ _ st (fun st=>tB l st some),bD];congr 1;funext s;exact aBA l s K
theorem iR {R} l i st (K:St→Option R):aCK l i st K=bnd (aCK l i st some) K:=by
 unfold aCK;split;· exact aBA _ _ _
 rfl
section
variable {base : Base} {M : Mem} {B : BM} {st : St} {tm : Array Value} {w : World}
noncomputable def frzM (M:Mem) (w:World) (ob:Option Nat) (n:Nat):Mem:=fun b i =>
 match ob with
 | some blk=>if b=blk∧i<n then some (bN w blk i) else M b i
 | none=>M b i
theorem h1.frz {p v id n} (h:h1 M w base B p v) (a:∀ b i v,M b i=some v→frzM M w (B 0 id) n b i=some v):h1 (frzM M w (B 0 id) n) w base (delB id B) p v:=by
 refine h.world (M':=frzM M w (B 0 id) n) (w':=w) (B':=delB id B) a fun b f g=>⟨rfl,fun i => ?_,fun d i e=>aFX e⟩;unfold frzM;split;· rename_i blk c;rw [if_neg];rintro ⟨rfl,_⟩;exact (h.nobox f).1 0 id c
 rfl
theorem SR.reslot (h:SR base M B st tm w) t {q} (d:Rv M B q (tm.getD t undef)) (c:hV M w base B q (tm.getD t undef)) (e:∀ b,cV q (tm.getD t undef) b≤cV (gets st.fr t) (tm.getD t undef) b) :
  SR base M B {st with fr:=(t,q)::st.fr} tm w∧∀ b,tot ((t,q)::st.fr) tm w B st.bx b≤tot st.fr tm w B st.bx b:=by
 have a:∀ b,tot ((t,q)::st.fr) tm w B st.bx b≤tot st.fr tm w B st.bx b:=by
  intro b;have:cF ((t,q)::st.fr) tm b≤cF st.fr tm b:=by
   refine aCL _ fun i _ => ?_;rw [dL];grind
  simp [tot];omega
 refine ⟨⟨h.cons,fun i => ?_,fun i => ?_,h.box,fun b=>Nat.le_trans (a b) (h.one b),h.glob,h.base⟩,a⟩
 ·rw [dL];split;· grind
  exact h.slot i
 rw [dL];split;· grind
 exact h.slotH i
theorem aOW (h:SR base M B st tm w) {t sz d} (i:aS8 t sz st some=some d):Rch base M B st tm w d tm w:=by
 unfold aS8 at i;split at i
 ·rename_i l;cases i;have g:=h.slot t;rw [l] at g;have key:∃ j,tm.getD t undef = .slice j 0 0:=by
   generalize tm.getD t undef=v at g;cases g with
   | nil=>simp
   | slice es u o a cap s f r p y n x g =>
    simp_all
  obtain ⟨j,hv⟩:=key;have e:dU (.vec sz []) (tm.getD t undef):=by exact dU.of1 (by simp) (by simp) rfl
  obtain ⟨m,k⟩:=h.reslot t (q := .vec sz []) (by rw [hv];exact .vecNil sz j) (e.h _ _ _ _) (fun b=>by rw [e.c b];omega);exact ⟨rfl,M,B,m,aFS fun b _=>k b⟩
 cases i;exact Rch.refl h
noncomputable def frzV (M:Mem) (w:World) (blk n:Nat):Mem:=fun b i=>if b=blk∧i<n then some (bN w blk i) else M b i
theorem aJX (h : SR base M B st tm w) {t sz E} (y : gets st.fr t = .vec sz E) : Rch base M B st tm w ⟨(t, .slice E [] false) :: (t, .bot) :: st.fr, st.bx⟩ tm w := by
 have m := h.slot t;have o := h.slotH t;obtain ⟨k1, k2⟩ := h.take t;rw [y] at m o;simp only [y] at k1 k2;have hpl : (PV.vec sz E).plain = .bot := rfl;rw [hpl] at k1;simp only [hpl] at k2;have hv : ∃ v, tm.getD t undef = v := ⟨_, rfl⟩;obtain ⟨v, hv⟩ := hv;rw [hv] at m o k2;have fin : ∀ M', SR base M' B { st with fr := (t, .bot) :: st.fr } tm w → (∀ b, tot ((t, .bot) :: st.fr) tm w B st.bx b ≤ tot st.fr tm w B st.bx b) → Rv M' B (.slice E [] false) v → (∀ b i x, M b i = some x → M' b i = some x) →
   (∀ b, b < w.heap.size → ¬ touch (tot st.fr tm w B st.bx) B b → ∀ i, M' b i = M b i) → Rch base M B st tm w ⟨(t, .slice E [] false) :: (t, .bot) :: st.fr, st.bx⟩ tm w := by
  intro M' G U Q L D;have hno : dU (.slice E [] false) (tm.getD t undef) := kL _ _ _;obtain ⟨r, A⟩ := G.reslot t (q := .slice E [] false) (by rw [hv]; exact Q) (hno.h _ _ _ _) (fun b => by rw [hno.c b]; omega);exact ⟨rfl, M', B, r, rfl, rfl, rfl, by omega, L, fun b hb p => ⟨rfl, D b hb p⟩, fun b _ => by grind, fun d i b g _ => ⟨d, i, g⟩, fun _ _ => rfl⟩
 have hle : ∀ b, tot ((t, .bot) :: st.fr) tm w B st.bx b ≤ tot st.fr tm w B st.bx b := fun b => by have := k2 b; omega
 cases m with
 | vecNil _ R =>
  refine fin M k1 hle ?_ (fun _ _ _ hx => hx) (fun _ _ _ _ => rfl);cases R with
  | none => exact .nil false
  | some a => exact .slice [] [] false a 0 1 (fun _ _ => undef) (fun h => by omega) (by simp) (by simp) (by simp) (by simp) (by simp)
 | vec _ _ b cap K hc I z O =>
  obtain ⟨e0, E0, rfl⟩ : ∃ e0 E0, E = e0 :: E0 := by
   cases E with
   | nil => exact by grind
   | cons e l => exact ⟨e, l, rfl⟩
  have s  := o (.vec sz (e0 :: E0), .slice (some ⟨b, 0, none⟩) (e0 :: E0).length cap) (by simp [atoms, zipA]);obtain ⟨hok, hcont⟩ := s;generalize hEq : e0 :: E0 = E at *;have hE'  := fun e he => (fT (z e he)).1;have J  := kF E hE';have u  := Nat.mul_le_mul_right sz hc;have P : tot ((t, .bot) :: st.fr) tm w B st.bx b = 0 := by
   have C := k2 b;have S := h.one b;have H : cV (.vec sz E) (.slice (some ⟨b, 0, none⟩) E.length cap) b = 1 := by
    rw [xB (by simp) (by simp), ← hEq]; simp [c1, own1]
   omega
  have hmono : ∀ b' i x, M b' i = some x → frzV M w b (E.length * sz) b' i = some x := by
   intro b' i x hx;unfold frzV;rw [if_neg];· exact hx
   rintro ⟨rfl, _⟩;rw [hok.free i (by omega)] at hx; simp at hx
  obtain ⟨arr, T, fz, hrow, N, F⟩ := hok.row;have hcell : ∀ i, i < E.length * sz → arr[i]? = some (bN w b i) := by
   intro i f;have : i < arr.size := by omega
   simp [bN, World.cell?, hrow, this]
  have hcons : Cons (frzV M w b (E.length * sz)) w := by
   intro b' i x hx;unfold frzV at hx;split at hx;· rename_i hc;obtain ⟨rfl, f⟩ := hc;cases hx;exact ⟨arr, T, fz, hrow, hcell i f⟩
   exact h.cons b' i x hx
  have hsame : ∀ b', b' ≠ b → ∀ i, frzV M w b (E.length * sz) b' i = M b' i := by
   intro b' hb i; unfold frzV; rw [if_neg (by rintro ⟨e, _⟩; exact hb e)]
  obtain ⟨r, A⟩ := k1.world (M' := frzV M w b (E.length * sz)) (w' := w) hcons hmono (fun d id b' g => ⟨rfl, hsame b' (by rintro rfl; exact hok.nobox d id g)⟩) (fun b' hb => ⟨rfl, hsame b' (by rintro rfl; have hb : 1 ≤ tot ((t, .bot) :: st.fr) tm w B st.bx b' := hb; omega)⟩) (by omega);refine fin _ r hle ?_ hmono ?_
  ·have hmul : ∀ i j, i < E.length → j < sz → i * sz + j < E.length * sz := by
    intro i j f hj;have : (i + 1) * sz ≤ E.length * sz := Nat.mul_le_mul_right sz f;rw [Nat.add_mul] at this; omega
   have hin : ∀ i e, (E ++ [])[i]? = some e → i < E.length ∧ E[i]? = some e := by
    intro i e he;rw [List.append_nil] at he;exact ⟨(List.getElem?_eq_some_iff.1 he).1, he⟩
   exact Rv.slice (M := frzV M w b (E.length * sz)) (B := B) E [] false ⟨b, 0, none⟩ cap sz (fun i j => bN w b (i * sz + j)) (fun _ => rfl) (by simpa using hc) (by simp)
    (fun i e he => okVe.el (by grind) I)
    (fun i e j he hj => by
     rw [Nat.zero_add];unfold frzV;rw [if_pos ⟨rfl, hmul i j (hin i e he).1 hj⟩])
    (fun i e j c he hc' => by
     have he' := (hin i e he).2;have n := hE' e (List.mem_of_getElem? he');have hj : j < sz := by rw [← n]; exact (List.getElem?_eq_some_iff.1 hc').1
     have k : (E.flatMap cells)[i * sz + j]? = some c := by
      rw [kE E hE' i j hj, he']; exact hc'
     have hsol := (fT (z e (List.mem_of_getElem? he'))).2 c (by grind);exact ((hcont _ c k).anyB1 _ hsol).mono hmono (fun _ _ _ hx => hx))
  intro b' hb p i;refine hsame b' ?_ i;rintro rfl;apply p; left;have C := k2 b';have H : cV (.vec sz E) (.slice (some ⟨b', 0, none⟩) E.length cap) b' = 1 := by
   rw [xB (by simp) (by simp), ← hEq]; simp [c1, own1]
  omega
theorem aJY (h : SR base M B st tm w) {t st'} (hf : aDT t st some = some st') : Rch base M B st tm w st' tm w := by
 unfold aDT at hf;split at hf;rotate_left;· rename_i hg;cases hf; exact aJX h hg
 ·cases hf; exact Rch.refl h
 rename_i id n sz hg;split at hf;rotate_left;· simp at hf
 rename_i sz' E hb;split at hf;rotate_left;· simp at hf
 rename_i hsz hmn;have := Nat.eq_of_beq_eq_true hsz;subst this;rcases bA hf with ⟨hn, hf⟩ | ⟨_, hf⟩;rotate_left;· simp at hf
 cases hf;have hn := Nat.le_of_ble_eq_true hn;obtain ⟨hs, hE⟩ : okV [.vec sz E] := (h.box.ok 0 id _ hb).1;have hE' : ∀ e ∈ E, e.cells.length = sz := fun e he => (fT (hE e he)).1;have hfl : (E.flatMap cells).length = E.length * sz := kF E hE';have hnsz : n * sz ≤ E.length * sz := Nat.mul_le_mul_right sz hn;have hcellk : ∀ blk, B 0 id = some blk → ∀ k, k < E.length * sz → w.cell? ⟨blk, k, none⟩ = some (bN w blk k) := by
  intro blk hB k hk;obtain ⟨arr, T, fz, hrow, hsz, hfz, ok, hcell⟩ := mE h hb hB;exact hcell k (by show k < (E.flatMap cells).length; omega)
 have hmono : ∀ b i v, M b i = some v → frzM M w (B 0 id) (n * sz) b i = some v := by
  intro b i v hv;unfold frzM;split
  ·rename_i blk hB;obtain ⟨arr, T, fz, hrow, hsz, hfz, ok, hcell⟩ := mE h hb hB;rw [if_neg];· exact hv
   rintro ⟨rfl, _⟩;rw [ok.free i] at hv; simp at hv
  exact hv
 have hcons : Cons (frzM M w (B 0 id) (n * sz)) w := by
  intro b i v hv;unfold frzM at hv;split at hv
  ·rename_i blk hB;split at hv;· rename_i hc;obtain ⟨rfl, hi⟩ := hc;cases hv;have hx := hcellk b hB i (by omega);obtain ⟨arr, T, fz, hrow, hsz, hfz, ok, hcell⟩ := mE h hb hB;refine ⟨arr, T, fz, hrow, ?_⟩;simp [World.cell?, hrow] at hx;simpa using hx
   exact h.cons b i v hv
  exact h.cons b i v hv
 have hrel0 : ∀ p v, Rv M B p v → ment id 3 p = false → Rv (frzM M w (B 0 id) (n * sz)) (delB id B) p v := fun p v hr hm => (hr.del 3 hm).mono hmono (fun _ _ _ hx => hx)
 -- the slot itself
 have hslott : Rv (frzM M w (B 0 id) (n * sz)) (delB id B) (.slice (E.take n) [] false) (tm.getD t undef) := by
  have hr := h.slot t;rw [hg] at hr;have hlen : (E.take n).length = n := by simp; omega
  generalize tm.getD t undef = v at hr;cases hr with
  | rslNil _ _ _ oa =>
   simp [List.take_zero];cases oa with
   | none => exact .nil false
   | some a => exact .slice [] [] false a 0 1 (fun _ _ => undef) (fun h => absurd h (by omega)) (by simp) (by simp) (by simp) (by simp) (by simp)
  | rsl _ _ _ _ blk cap hB hc =>
   obtain ⟨arr, T, fz, hrow, hsz2, hfz, ok, hcell⟩ := mE h hb hB;have hM : ∀ k, k < n * sz → frzM M w (B 0 id) (n * sz) blk k = some (bN w blk k) := by
    intro k hk;unfold frzM;rw [hB];simp only;rw [if_pos ⟨trivial, hk⟩]
   have hin : ∀ i e, (E.take n ++ [])[i]? = some e → i < n ∧ E[i]? = some e := by
    intro i e he;rw [List.append_nil, List.getElem?_take] at he;split at he;· rename_i hi; exact ⟨hi, he⟩
    simp at he
   have hmul : ∀ i j, i < n → j < sz → i * sz + j < n * sz := by
    intro i j hi hj;have : (i + 1) * sz ≤ n * sz := Nat.mul_le_mul_right sz hi;rw [Nat.add_mul] at this; omega
   have key := Rv.slice (M := frzM M w (B 0 id) (n * sz)) (B := delB id B) (E.take n) [] false ⟨blk, 0, none⟩ cap sz (fun i j => bN w blk (i * sz + j)) (fun _ => rfl) (by simp; omega) (by simp)
    (fun i e he => okVe.el (by grind) hs)
    (fun i e j he hj => by
     rw [Nat.zero_add];exact by grind)
    (fun i e j c he hc' => by
     have he' := (hin i e he).2;have hel := hE' e (List.mem_of_getElem? he');have hj : j < sz := by rw [← hel]; exact (List.getElem?_eq_some_iff.1 hc').1
     have hph  := by
      show (E.flatMap cells)[i * sz + j]? = some c;rw [kE E hE' i j hj, he']; exact hc'
     have hsol := (fT (hE e (List.mem_of_getElem? he'))).2 c (List.mem_of_getElem? hc');exact ((ok.rel _ c hph).1.anyB1 _ hsol).mono hmono (fun _ _ _ hx => hx))
   rw [hlen] at key;exact key
 have hgets : ∀ i, gets ((t, .slice (E.take n) [] false) :: st.fr.map fun x => (x.1, aBs id x.2)) i = if t = i then .slice (E.take n) [] false else aBs id (gets st.fr i) := by
  intro i; rw [dL, aL2]
 have hcF : ∀ b, cF ((t, .slice (E.take n) [] false) :: st.fr.map fun x => (x.1, aBs id x.2)) tm b ≤ cF st.fr tm b := by
  intro b;apply aCL;intro i _;rw [hgets];split;· rw [(kL _ _ _).c b]; omega
  exact bAl _ _ _ _
 have hcB : ∀ b, cBx w (delB id B) (nE st.bx id) b ≤ cBx w B st.bx b := by
  intro b;cases hbx : st.bx with
  | nil => simp [nE, cBx, fW]
  | cons f r =>
   simp [nE, cBx, fW];have etail : ∀ r, fW (fun d i cs => cBox w (delB id B d i) cs b) 1 r = fW (fun d i cs => cBox w (B d i) cs b) 1 r := by
    intro r;apply qR;intro d g _;apply eM;intro i cs _;rw [xN (by rintro ⟨h0, _⟩; omega)]
   have ehead : dT (fun i cs => cBox w (delB id B 0 i) cs b) (f.filter fun x => !(x.1 == id)) ≤ dT (fun i cs => cBox w (B 0 i) cs b) f := by
    have hnd  := h.box.nodup 0 f (by rw [hbx]; rfl);rw [eM (g' := fun i cs => cBox w (B 0 i) cs b) _ (fun i cs hm => by
     have := (List.mem_filter.1 hm).2;rw [xN (by rintro ⟨_, rfl⟩; simp at this)])]
    exact xM _ _ ((pR hnd).filter _) fun x hx => (List.mem_filter.1 hx).1
   rw [etail]; simp at *; omega
 have htot : ∀ b, tot ((t, .slice (E.take n) [] false) :: st.fr.map fun x => (x.1, aBs id x.2)) tm w (delB id B) (nE st.bx id) b ≤ tot st.fr tm w B st.bx b := by
  intro b; have := hcF b; have := hcB b; simp [tot]; omega
 refine ⟨rfl, frzM M w (B 0 id) (n * sz), delB id B, ⟨hcons, ?_, ?_, ⟨?_, ?_, ?_, ?_⟩, fun b => Nat.le_trans (htot b) (h.one b), h.glob.mono hmono, h.base⟩, rfl, rfl, rfl, Nat.le_refl _, hmono, ?_, fun b _ => htot b, fun d i b hb _ => ⟨d, i, aFX hb⟩, ?_⟩
 ·intro i;show Rv _ _ (gets ((t, .slice (E.take n) [] false) :: st.fr.map fun x => (x.1, aBs id x.2)) i) _;rw [hgets];split;· rename_i e; subst e; exact hslott
  exact (h.slot i).kill.mono hmono (fun _ _ _ hx => hx)
 ·intro i;show hV _ _ _ _ (gets ((t, .slice (E.take n) [] false) :: st.fr.map fun x => (x.1, aBs id x.2)) i) _;rw [hgets];split;· exact (kL _ _ _).h _ _ _ _
  intro x hx;exact h1.frz (bAm id (h.slotH i) x hx) hmono
 ·intro d f hf;cases hbx : st.bx with
  | nil => rw [hbx] at hf; simp [nE] at hf
  | cons f0 r =>
   rw [hbx] at hf;cases d with
   | zero =>
    simp [nE] at hf; subst hf;exact (h.box.nodup 0 f0 (by rw [hbx]; rfl)).sublist ((List.filter_sublist).map _)
   | succ d => exact h.box.nodup (d + 1) f (by rw [hbx]; simpa [nE] using hf)
 ·intro d i hno;show delB id B d i = none;unfold delB;split;· rfl
  rename_i hne;rw [show bB (nE st.bx id) d i = bB st.bx d i by rw [aIZ, if_neg hne]] at hno;exact h.box.dom d i hno
 ·intro d i cs hc;have hc  := hc;rw [aIZ] at hc;split at hc;· simp at hc
  rename_i hne;obtain ⟨k1, k2⟩ := h.box.ok d i cs hc;refine ⟨k1, ?_⟩;rcases k2 with ⟨blk, hB, ok⟩ | ⟨hno, hex⟩
  ·refine .inl ⟨blk, by rw [xN hne]; exact hB, ok.old, ok.row, ?_, ?_⟩
   ·intro j;unfold frzM;split
    ·rename_i blk' hB';rw [if_neg];· exact ok.free j
     rintro ⟨rfl, _⟩;obtain ⟨e1, e2⟩ := h.box.inj d i 0 id blk hB hB';exact hne ⟨e1, e2⟩
    exact ok.free j
   intro j c hj;obtain ⟨r1, r2, r3⟩ := ok.rel j c hj;refine ⟨?_, r2.frz hmono, r3⟩;cases d with
   | zero =>
    rw [aJH] at r1 ⊢;refine hrel0 _ _ r1 ?_
    -- nobody speaks of it
    have hin  := by rw [tW] at hc; exact kD hc
    rw [List.all_eq_true] at hmn;have hx := hmn (i, cs) hin;simp at hx;have hx := hx.resolve_left (fun e => hne ⟨rfl, e⟩);unfold phys at hj;split at hj
    ·rename_i sz2 E2;have hsol : c.solid1 = true := by
      obtain ⟨x, hx, hc'⟩ := List.mem_flatMap.1 (List.mem_of_getElem? hj);exact (fT (k1.2 x hx)).2 c hc'
     cases c <;> first | rfl | simp [PV.solid1] at hsol
    exact by grind
   | succ d =>
    have : upB (d + 1) (delB id B) = upB (d + 1) B := by funext e i2; unfold upB; rw [xN (by rintro ⟨h0, _⟩; omega)]
    rw [this];exact r1.mono hmono (fun _ _ _ hx => hx)
  exact .inr ⟨by rw [xN hne]; exact hno, hex⟩
 ·intro d i d' i' blk h1 h2;exact h.box.inj d i d' i' blk (aFX h1) (aFX h2)
 ·intro b hb hnt;refine ⟨rfl, fun i => ?_⟩;unfold frzM;split;· rename_i blk hB;rw [if_neg];rintro ⟨rfl, _⟩;exact hnt (.inr ⟨0, id, hB⟩)
  rfl
 intro d i; rw [xN (by omega)]
theorem vC:∀ l {st b M B},SR base M B st tm w→tB l st some=some b→Rch base M B st tm w b tm w
 | [],st,b,M,B,h,a=>by cases a;exact Rch.refl h
 | t::l,st,b,M,B,h,a=>by
  simp [tB] at a;split at a;· rw [aBz] at a;obtain ⟨e,d,a⟩:=aB a;exact (aJY h d).trans fun M' B' c=>vC l c a
  rw [aGB] at a;obtain ⟨e,d,a⟩:=aB a;exact (aOW h d).trans fun M' B' c=>vC l c a
theorem aGC {l i a} (h:SR base M B st tm w) (b:aCK l i st some=some a):Rch base M B st tm w a tm w:=by
 unfold aCK at b;split at b;· exact vC _ h b
 cases b;exact Rch.refl h
end
end Go.Ev
