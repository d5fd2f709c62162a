import Derived.Test.YtphmfillajagdaaGreatEb
import Derived.Orders
set_option linter.unusedVariables false
set_option linter.unusedSimpArgs false
set_option linter.unusedSimpArgs false
namespace Go.Ev
open PV
section
variable {P : Program} {mt : Hints} {O : Orc} {base : Base} {M : Mem} {B : BM} {st : St} {w : World} {next : Act → World → Prop} {Q : Exit → Act → World → Prop}
theorem aVU {o:Oper} {a:Act} {op:BinOp} {t:TypeId} {x y:Operand} {u:TypeId} {e:Eff} (ho:o.op = .binOp op t x y u) (h:SR base M B st a.tmps w)
  (he:qR P a.tmps.size o op t (opd st.fr x) (opd st.fr y) some=some e) (hn:∀ tm' w',Aft base M B st a.tmps w e tm' w'→next ⟨tm',a.defers⟩ w') :
  o.upon P a next Q ((execOp a.eval o).run P w):=by
 have hx:=h.opd a.defers x
 have hy:=h.opd a.defers y
 have plainCase:∀ r,bin op (opd st.fr x) (opd st.fr y)=some r→e={ws:=dstW a.tmps.size o.dst r}→o.upon P a next Q ((execOp a.eval o).run P w):=by
  intro r hr he
  subst he
  obtain ⟨v,hv,rv,rf,n1,n2⟩:=bAw (P:=P) w t hr hx hy
  refine upon_value (v:=v) (w':=w) ?_ (jL h (rv M B) (rf.no v)) hn
  simp only [execOp,ho]
  simp [uA (P:=P) w op t x y n1 n2,hv]
 have boolCase:∀ (neg:Bool) b,op=(if neg then .neq else .eql)→eqB (opd st.fr x) (opd st.fr y)=some b→P.underlying t=some .bool→e={ws:=dstW a.tmps.size o.dst (.bool (if neg then !b else b))}→o.upon P a next Q ((execOp a.eval o).run P w):=by
  intro neg b hop hb hu he
  subst he
  unfold eqB at hb
  split at hb
  ·rename_i p q h1 h2
   cases hb
   rw [h1] at hx;rw [h2] at hy
   have e1:=hx.bool_inv
   have e2:=hy.bool_inv
   refine upon_value (v := .bool (if neg then !(p==q) else (p==q))) (w':=w) ?_ (jL h (.bool _) (Flat.no (.inl ⟨_,rfl⟩) _)) hn
   simp only [execOp,ho]
   rw [e1,e2]
   have hg:=uA (P:=P) w op t x y (a := .bool p) (b := .bool q) (by simp) (by simp)
   have heq:(Op.equal t (.bool p) (.bool q)).run P w = .ok (p==q) w:=run_equal_bool w t p q hu
   cases neg
   ·simp only [Bool.false_eq_true,if_false] at hop;subst hop
    simp [hg,binOp,heq]
   ·simp only [if_true] at hop;subst hop
    simp [hg,binOp,heq]
  ·simp at hb
 have structCase:∀ (neg:Bool) b fs ls n,op=(if neg then .neq else .eql)→P.underlying t=some (.struct fs)→szOf P t=some n→aBP P 20 t 0=some ls→P.eqGuardType P.depth t=false→eqs n ls (opd st.fr x) (opd st.fr y)=some b→e={ws:=dstW a.tmps.size o.dst (.bool (if neg then !b else b))}→o.upon P a next Q ((execOp a.eval o).run P w):=by
  intro neg b fs ls n hop hu hsz hls hgt hb he
  subst he
  unfold eqs at hb
  split at hb
  ·rename_i X Y h1 h2
   split at hb
   ·rename_i hlen
    rw [h1] at hx;rw [h2] at hy
    obtain ⟨xs,hxs,hX⟩:∃ xs,(Act.mk a.tmps a.defers).eval x = .agg xs∧(xs.size=X.length∧∀ (i:Nat) (c:PV),X[i]?=some c→∃ v,xs[i]?=some v∧Rv M B c v):=by
     generalize (Act.mk a.tmps a.defers).eval x=vx at hx
     cases hx with
     | agg _ xs f hl hf hr=>exact ⟨xs,rfl,hl,fun i c hc=>⟨f i,hf i (List.getElem?_eq_some_iff.1 hc).1,hr i c hc⟩⟩
    obtain ⟨ys,hys,hY⟩:∃ ys,(Act.mk a.tmps a.defers).eval y = .agg ys∧(ys.size=Y.length∧∀ (i:Nat) (c:PV),Y[i]?=some c→∃ v,ys[i]?=some v∧Rv M B c v):=by
     generalize (Act.mk a.tmps a.defers).eval y=vy at hy
     cases hy with
     | agg _ ys f hl hf hr=>exact ⟨ys,rfl,hl,fun i c hc=>⟨f i,hf i (List.getElem?_eq_some_iff.1 hc).1,hr i c hc⟩⟩
    have ex:∀ zs:Array Value,zs.size=n→aG0 t true n 0 zs (.agg zs):=by
     intro zs hz
     refine ⟨?_,by omega⟩
     rw [Nat.zero_add,← hz,Array.extract_size]
    have heq:(Op.equalIn 10000 t (.agg xs) (.agg ys)).run P w = .ok b w :=
     aG2 (P:=P) w hX.2 hY.2 20 10000 t 0 n true ls b _ _ hls hb hsz (by simp [agOf,hu]) (ex xs (by omega)) (ex ys (by omega)) (by omega)
    refine upon_value (v := .bool (if neg then !b else b)) (w':=w) ?_ (jL h (.bool _) (Flat.no (.inl ⟨_,rfl⟩) _)) hn
    have hg:=run_eqGuard_agg (P:=P) w op t x y xs ys hgt
    simp only [execOp,ho]
    change (do pure (Next.value (← (do eqGuard op t x y ((Act.mk a.tmps a.defers).eval x) ((Act.mk a.tmps a.defers).eval y);binOp op t ((Act.mk a.tmps a.defers).eval x) ((Act.mk a.tmps a.defers).eval y)))):Sem Next).run P w=_
    rw [hxs,hys]
    cases neg
    ·simp only [Bool.false_eq_true,if_false] at hop;subst hop
     simp [hg,run_eql_struct,heq]
    ·simp only [if_true] at hop;subst hop
     simp [hg,run_neq_struct,heq]
   ·simp at hb
  ·simp at hb
 unfold qR at he
 split at he
 ·split at he
  ·obtain ⟨r,hr,he⟩:=aB he;exact plainCase r hr (Option.some.inj he).symm
  ·obtain ⟨r,hr,he⟩:=aB he;exact plainCase r hr (Option.some.inj he).symm
  ·rename_i hu
   obtain ⟨b,hb,he⟩:=aB he;exact boolCase false b rfl hb hu (Option.some.inj he).symm
  ·rename_i fs hu
   split at he
   ·rename_i n ls hsz hls hgt
    obtain ⟨b,hb,he⟩:=aB he;exact structCase false b fs ls n rfl hu hsz hls hgt hb (Option.some.inj he).symm
   ·simp at he
  ·simp at he
 ·split at he
  ·obtain ⟨r,hr,he⟩:=aB he;exact plainCase r hr (Option.some.inj he).symm
  ·obtain ⟨r,hr,he⟩:=aB he;exact plainCase r hr (Option.some.inj he).symm
  ·rename_i hu
   obtain ⟨b,hb,he⟩:=aB he;exact boolCase true b rfl hb hu (Option.some.inj he).symm
  ·rename_i fs hu
   split at he
   ·rename_i n ls hsz hls hgt
    obtain ⟨b,hb,he⟩:=aB he;exact structCase true b fs ls n rfl hu hsz hls hgt hb (Option.some.inj he).symm
   ·simp at he
  ·simp at he
 ·obtain ⟨r,hr,he⟩:=aB he;exact plainCase r hr (Option.some.inj he).symm
end
section
variable {P : Program} {mt : Hints} {O : Orc} {base : Base} {M : Mem} {B : BM} {st : St} {tm : Array Value} {w : World} {next : Act → World → Prop} {Q : Exit → Act → World → Prop}
theorem upon_skip {o:Oper} {a:Act} {w w':World} {e:Eff} (hd:o.dst=none) (hrun:(execOp a.eval o).run P w = .ok .skip w')
  (hk:Aft base M B st a.tmps w e a.tmps w') (hn:∀ tm' w',Aft base M B st a.tmps w e tm' w'→next ⟨tm',a.defers⟩ w') :
  o.upon P a next Q ((execOp a.eval o).run P w):=by
 rw [hrun,Oper.upon_skip,aKw,hd]
 exact hn _ _ hk
theorem aPN (p:PV) (v:Value):own1 (aBO p) v=own1 p v:=by cases p<;>first | rfl | (cases v<;>rfl)
theorem aVV {M:Mem} {w:World} {base:Base} {B:BM} (p:PV) (v:Value):h1 M w base B (aBO p) v↔h1 M w base B p v:=by cases p<;>first | exact Iff.rfl | (cases v<;>exact Iff.rfl)
theorem aGz {α β:Type} (f:β→Nat) (g:α→β):∀ l:List α,sumL f (l.map g)=sumL (fun x=>f (g x)) l
 | []=>rfl
 | a::l=>by simp [sumL,aGz f g l]
theorem yX {α β γ:Type} (f:α→γ):∀ (l:List α) (m:List β),(l.map f).zip m=(l.zip m).map fun x=>(f x.1,x.2)
 | [],_=>by simp
 | _::_,[]=>by simp
 | a::l,b::m=>by simp [yX f l m]
theorem aG8 (p:PV) (v:Value) (ht:∀ cs,p ≠ .tuple cs):(∃ g:List (PV×Value),atoms (shift p) v=g.map (fun x=>(aBO x.1,x.2))∧atoms p v=g)∨(dV (shift p) v∧dV p v):=by
 cases p with
 | agg cs =>
  cases v with
  | agg vs=>left;exact ⟨cs.zip vs.toList,by simp only [shift,atoms,zipA];exact yX _ _ _,rfl⟩
  | _ =>
   right
   constructor
   ·intro x hx;simp only [shift,atoms,zipA,List.mem_singleton] at hx;subst hx;exact rX _ _
   ·intro x hx;simp only [atoms,zipA,List.mem_singleton] at hx;subst hx;exact rX _ _
 | tuple cs=>exact absurd rfl (ht cs)
 | func f a b=>right;exact ⟨qH _ _ _ _,qH _ _ _ _⟩
 | ptr d i o=>right;exact ⟨mB _ _ _ _,mB _ _ _ _⟩
 | slice es bs o=>left;exact ⟨[(.slice es bs o,v)],by cases v<;>rfl,by cases v<;>rfl⟩
 | mk0 sz=>left;exact ⟨[(.mk0 sz,v)],by cases v<;>rfl,by cases v<;>rfl⟩
 | bot=>left;exact ⟨[(.bot,v)],by cases v<;>rfl,by cases v<;>rfl⟩
 | und=>left;exact ⟨[(.und,v)],by cases v<;>rfl,by cases v<;>rfl⟩
 | bool b=>left;exact ⟨[(.bool b,v)],by cases v<;>rfl,by cases v<;>rfl⟩
 | int k n=>left;exact ⟨[(.int k n,v)],by cases v<;>rfl,by cases v<;>rfl⟩
 | str s=>left;exact ⟨[(.str s,v)],by cases v<;>rfl,by cases v<;>rfl⟩
 | ref e=>left;exact ⟨[(.ref e,v)],by cases v<;>rfl,by cases v<;>rfl⟩
 | nilptr=>left;exact ⟨[(.nilptr,v)],by cases v<;>rfl,by cases v<;>rfl⟩
 | rsl d i n z=>left;exact ⟨[(.rsl d i n z,v)],by cases v<;>rfl,by cases v<;>rfl⟩
 | vec z E=>left;exact ⟨[(.vec z E,v)],by cases v<;>rfl,by cases v<;>rfl⟩
 | nilFunc=>left;exact ⟨[(.nilFunc,v)],by cases v<;>rfl,by cases v<;>rfl⟩
theorem aVW {p:PV} (h:shOk p=true):∀ cs,p ≠ .tuple cs:=by
 intro cs e;subst e;simp [shOk,sh0,PV.solid,PV.solid1] at h
theorem aX1 {p:PV} (hs:shOk p=true) (v:Value) (b:Nat):cV (shift p) v b=cV p v b:=by
 rcases aG8 p v (aVW hs) with ⟨g,h1,h2⟩ | ⟨h1,h2⟩
 ·simp only [cV,h1,h2,aGz,c1,aPN]
 ·rw [h1.c,h2.c]
theorem aX2 {M:Mem} {w:World} {base:Base} {B:BM} {p:PV} (hs:shOk p=true) (v:Value) (h:hV M w base B p v):hV M w base B (shift p) v:=by
 rcases aG8 p v (aVW hs) with ⟨g,h1,h2⟩ | ⟨h1,h2⟩
 ·intro x hx
  rw [h1] at hx
  obtain ⟨y,hy,rfl⟩:=List.mem_map.1 hx
  exact (aVV _ _).2 (h y (by rw [h2];exact hy))
 ·exact h1.h M w base B
theorem Rv.shift0 {p:PV} {v:Value} (h:Rv M B p v) (hs:sh0 p=true):Rv M (nI B) (aBO p) v:=by
 cases h with
 | ptr d id off b hb=>exact .ptr (d+1) id off b (by simpa [nI] using hb)
 | rsl d id n sz b cap hb hc=>exact .rsl (d+1) id n sz b cap (by simpa [nI] using hb) hc
 | rslNil d id sz oa=>exact .rslNil (d+1) id sz oa
 | bot v=>exact .bot v
 | und=>exact .und
 | nilptr=>exact .nilptr
 | vec=>simp [sh0,PV.solid,PV.solid1] at hs
 | vecNil=>simp [sh0,PV.solid,PV.solid1] at hs
 | nilFunc=>exact .nilFunc
 | ref e a s f ha hel hm hr=>exact .ref e a s f ha hel hm (fun j c hc=>(hr j c hc).anyB1 _ (hel.cell hc))
 | func fn first caps vf vc f g hp hl hf hrf hl' hg hrg=>exact (Rv.func fn first caps vf vc f g hp hl hf hrf hl' hg hrg).anyBfree _ (by simpa [PV.free,sh0] using hs)
 | bool b=>exact .bool b
 | int k n=>exact .int k n
 | str s=>exact .str s
 | agg cs vs f hl hf hr=>exact (Rv.agg cs vs f hl hf hr).anyB _ (by simpa [sh0] using hs)
 | tuple cs vs f hl hf hr=>simp [sh0,PV.solid,PV.solid1] at hs
 | nil o=>exact .nil o
 | slice es bs o a cap s f ha hc ho hel hm hr=>exact (Rv.slice es bs o a cap s f ha hc ho hel hm hr).anyB _ rfl
 | mk0 sz a cap ha=>exact .mk0 sz a cap ha
theorem aMS {c:PV} (h:c.plain=c):(aBO c).plain=aBO c:=by cases c<;>first | rfl | exact h
theorem Rv.shift {p:PV} {v:Value} (h:Rv M B p v) (hs:shOk p=true):Rv M (nI B) (Ev.shift p) v:=by
 cases h with
 | func fn first caps vf vc f g hp hl hf hrf hl' hg hrg =>
  simp only [shOk,Bool.and_eq_true,List.all_eq_true] at hs
  refine .func fn _ _ vf vc f g ?_ (by simpa using hl) (by simpa using hf) ?_ (by simpa using hl') (by simpa using hg) ?_
  ·intro c hc
   rw [← List.map_append] at hc
   obtain ⟨x,hx,rfl⟩:=List.mem_map.1 hc
   exact aMS (hp x hx)
  ·intro i c hc
   rw [List.getElem?_map,Option.map_eq_some_iff] at hc
   obtain ⟨x,hx,rfl⟩:=hc
   exact (hrf i x hx).shift0 (hs.1 x (List.mem_of_getElem? hx))
  ·intro i c hc
   rw [List.getElem?_map,Option.map_eq_some_iff] at hc
   obtain ⟨x,hx,rfl⟩:=hc
   exact (hrg i x hx).shift0 (hs.2 x (List.mem_of_getElem? hx))
 | agg cs vs f hl hf hr =>
  simp only [shOk,List.all_eq_true] at hs
  refine .agg _ vs f (by simpa using hl) (by simpa using hf) ?_
  intro i c hc
  rw [List.getElem?_map,Option.map_eq_some_iff] at hc
  obtain ⟨x,hx,rfl⟩:=hc
  exact (hr i x hx).shift0 (hs x (List.mem_of_getElem? hx))
 | ptr d id off b hb=>exact (Rv.ptr d id off b hb).shift0 rfl
 | rsl d id n sz b cap hb hc=>exact (Rv.rsl d id n sz b cap hb hc).shift0 rfl
 | rslNil d id sz oa=>exact (Rv.rslNil (M:=M) (B:=B) d id sz oa).shift0 rfl
 | bot v=>exact .bot v
 | und=>exact .und
 | nilptr=>exact .nilptr
 | vec=>simp [shOk,sh0,PV.solid,PV.solid1] at hs
 | vecNil=>simp [shOk,sh0,PV.solid,PV.solid1] at hs
 | nilFunc=>exact .nilFunc
 | ref e a s f ha hel hm hr=>exact (Rv.ref e a s f ha hel hm hr).shift0 rfl
 | bool b=>exact .bool b
 | int k n=>exact .int k n
 | str s=>exact .str s
 | tuple cs vs f hl hf hr=>simp [shOk,sh0,PV.solid,PV.solid1] at hs
 | nil o=>exact .nil o
 | slice es bs o a cap s f ha hc ho hel hm hr=>exact (Rv.slice es bs o a cap s f ha hc ho hel hm hr).shift0 rfl
 | mk0 sz a cap ha=>exact .mk0 sz a cap ha
theorem vM {o:Oper} {a:Act} {f:FuncId} {vals:Array Value} {R:Value→World→Prop} (hrun:(execOp a.eval o).run P w=(callFunc f vals).run P w)
  (hi:tH P f vals w R) (hn:∀ v w',R v w'→next ⟨putT a.tmps o.dst v,a.defers⟩ w'):o.upon P a next Q ((execOp a.eval o).run P w):=by
 rcases hi with ⟨g,gs,h1,h2⟩ | ⟨v,w',h1,h2⟩
 ·rw [hrun,h1,Oper.upon_enter]
  refine h2.mono ?_
  rintro e w' ⟨v,rfl,hR⟩
  simp only [aKw]
  exact hn v w' hR
 ·rw [hrun,h1,Oper.upon_value,aKw]
  exact hn v w' h2
theorem aTZ {o:Oper} {a:Act} {c:Call} {e:Eff} (hO:aKD P base.g O) (ho:o.op = .call c) (h:SR base M B st a.tmps w)
  (he:gI P mt a.tmps.size O o c st some=some e) (hn:∀ tm' w',Aft base M B st a.tmps w e tm' w'→next ⟨tm',a.defers⟩ w') :
  o.upon P a next Q ((execOp a.eval o).run P w):=by
 have hx:∀ x,Rv M B (opd st.fr x) (a.eval x):=fun x=>h.opd a.defers x
 have bi:∀ {b:Builtin} {v:Value} {w':World},c.callee = .builtin b→(builtin b c.argTypes o.type (c.args.map fun | .const _=>true | _=>false) (c.args.map a.eval)).run P w = .ok (.value v) w' →
   (execOp a.eval o).run P w = .ok (.value v) w':=by
  intro b v w' hc hb
  simp only [execOp,ho]
  simp only [resolve,hc,Sem.run_bind,Sem.run_pure,Result.andThen_ok,invoke]
  exact hb
 have argsEq:∀ {l:List Operand},c.args.toList=l→c.args=l.toArray:=by
  intro l h;subst h;simp
 have tysEq:∀ {l:List TypeId},c.argTypes.toList=l→c.argTypes=l.toArray:=by
  intro l h;subst h;simp
 unfold gI at he
 dsimp only at he
 split at he
 ·-- a function
  rename_i f hc
  split at he
  ·rename_i g first caps hf
   have hfr:=hx f
   rw [hf] at hfr
   obtain ⟨vf,vc,hev,hsz,hrel,hcnt⟩:=bBE h a.defers hfr (hasO mt.takes o.dst) c.args.toList
   have hrun:(execOp a.eval o).run P w=(callFunc g (vf++(c.args.toList.map a.eval).toArray++vc)).run P w:=by
    have e1:(vf++c.args.map a.eval++vc)=(vf++(c.args.toList.map a.eval).toArray++vc):=by congr 2;apply Array.ext';simp
    simp only [execOp,ho,resolve,hc,Deferred.ofValue,hev,Sem.run_bind,Sem.run_pure,Result.andThen_ok,invoke]
    rw [e1]
   have hlv:∀ lvb:Bool,((!(hasO mt.takes o.dst))||rW (jR c.args.toList))=true →
     SR base M B {st with fr:=c.args.toList.flatMap (left st.fr (hasO mt.takes o.dst))++st.fr} a.tmps w ∧
     ∀ b,tot (c.args.toList.flatMap (left st.fr (hasO mt.takes o.dst))++st.fr) a.tmps w B st.bx b+cA (first++c.args.toList.map (opv st.fr (hasO mt.takes o.dst))++caps) (vf++(c.args.toList.map a.eval).toArray++vc) b≤tot st.fr a.tmps w B st.bx b:=by
    intro _ hd
    have hcnt':∀ b,cA (first++c.args.toList.map (opv st.fr (hasO mt.takes o.dst))++caps) (vf++(c.args.toList.map a.eval).toArray++vc) b=_:=hcnt
    generalize htk:hasO mt.takes o.dst=tk at *
    cases tk with
    | true =>
     obtain ⟨t1,t2⟩:=aMP h a.defers c.args.toList (by simpa using hd)
     exact ⟨t1,fun b=>by rw [hcnt' b];exact Nat.le_of_eq (t2 b)⟩
    | false =>
     obtain ⟨t1,t2⟩:=aZ4 h a.defers c.args.toList
     rw [t1]
     exact ⟨h,fun b=>by rw [hcnt' b,t2 b];simp⟩
   split at he
   ·simp at he
   ·rename_i hd hg
    obtain ⟨hl1,hl2⟩:=hlv true hd
    rcases aZ he with ⟨hsh,he⟩ | ⟨_,he⟩
    ·obtain ⟨⟨r,u⟩,hr,he⟩:=aB he
     cases he
     rw [List.all_eq_true] at hsh
     have hcA:∀ b,cA ((first++c.args.toList.map (opv st.fr (hasO mt.takes o.dst))++caps).map Ev.shift) (vf++(c.args.toList.map a.eval).toArray++vc) b=cA (first++c.args.toList.map (opv st.fr (hasO mt.takes o.dst))++caps) (vf++(c.args.toList.map a.eval).toArray++vc) b:=by
      intro b
      unfold cA
      rw [List.length_map]
      apply cR
      intro i hi
      have e1:((first++c.args.toList.map (opv st.fr (hasO mt.takes o.dst))++caps).map Ev.shift).getD i .bot=Ev.shift ((first++c.args.toList.map (opv st.fr (hasO mt.takes o.dst))++caps).getD i .bot):=by
       simp only [List.getD_eq_getElem?_getD,List.getElem?_map,List.getElem?_eq_getElem hi,Option.map_some,Option.getD_some]
      rw [e1]
      apply aX1
      apply hsh
      simp only [List.getD_eq_getElem?_getD,List.getElem?_eq_getElem hi,Option.getD_some]
      exact List.getElem_mem hi
     have hpre:CallPre base M B ((first++c.args.toList.map (opv st.fr (hasO mt.takes o.dst))++caps).map Ev.shift) st.bx (vf++(c.args.toList.map a.eval).toArray++vc) w:=by
      refine ⟨h.cons,by rw [List.length_map];exact hsz,?_,h.box,?_,h.glob,h.base⟩
      ·intro i p hp
       rw [List.getElem?_map,Option.map_eq_some_iff] at hp
       obtain ⟨q,hq,rfl⟩:=hp
       obtain ⟨r1,r2⟩:=hrel i q hq
       have:=hsh q (List.mem_of_getElem? hq)
       exact ⟨r1.shift this,aX2 this _ r2⟩
      ·intro b
       rw [hcA b]
       have e1:=hl2 b
       have e2:=h.one b
       simp only [tot] at e1 e2
       omega
     refine vM hrun (hO _ _ _ _ _ hr base.n w M B _ hpre) fun v w' hpost=>hn _ _ ?_
     refine aPM (args:=(first++c.args.toList.map (opv st.fr (hasO mt.takes o.dst))++caps).map Ev.shift) (vals:=vf++(c.args.toList.map a.eval).toArray++vc) h hl1 (fun i p hp=>(hpre.rel i p hp).2) (fun b=>by rw [hcA b];exact hl2 b) hpost
    ·simp at he
   ·rename_i hd hg
    obtain ⟨hl1,hl2⟩:=hlv true hd
    split at he
    ·-- rows are read
     rcases aZ he with ⟨hbo,he⟩ | ⟨_,he⟩
     rotate_left
     ·simp at he
     unfold aT at he
     rcases aZ he with ⟨hfree,he⟩ | ⟨_,he⟩
     rotate_left
     ·simp at he
     obtain ⟨⟨r,u⟩,hr,he⟩:=aB he
     split at he
     ·rename_i hu
      simp only at hu
      subst hu
      rcases aZ he with ⟨hsc,he⟩ | ⟨_,he⟩
      rotate_left
      ·simp at he
      cases he
      rw [List.all_eq_true] at hfree hbo
      obtain ⟨hpre,hle⟩:=bAB h hsz hrel (fun b=>Nat.le_trans (Nat.le_trans (Nat.le_add_left _ _) (hl2 b)) (h.one b)) hbo hfree
      refine vM hrun (hO _ _ _ _ _ hr base.n w _ noB _ hpre) fun v w' hpost=>hn _ _ ?_
      exact bAA h hl1 (fun i p hp=>(hrel i p hp).2) hle hl2 yW hpost hsc
     ·simp at he
    ·simp at he
    ·-- a row that may be written
     rename_i hbrw sz hvec htk
     unfold aT at he
     rcases aZ he with ⟨hfree,he⟩ | ⟨_,he⟩
     ·obtain ⟨⟨r,u⟩,hr,he⟩:=aB he
      split at he
      ·rename_i hu
       simp only at hu
       subst hu
       obtain ⟨E,hE,he⟩:=aB he
       rw [List.all_eq_true] at hfree
       have hpre:CallPre base M noB (first++c.args.toList.map (opv st.fr (hasO mt.takes o.dst))++caps) [] (vf++(c.args.toList.map a.eval).toArray++vc) w:=by
        refine ⟨h.cons,hsz,?_,⟨by simp,fun _ _ _=>rfl,by simp [qS],by simp [noB]⟩,?_,h.glob,h.base⟩
        ·intro i p hp
         obtain ⟨r1,r2⟩:=hrel i p hp
         refine ⟨r1.anyBfree _ (hfree p (List.mem_of_getElem? hp)),?_⟩
         exact aKE r2 (fun _ _ _ hx=>hx) fun b _ _=>⟨rfl,fun _=>rfl,fun d id hb=>by simp [noB] at hb⟩
        ·intro b
         have e1:=hl2 b
         have e2:=h.one b
         have e3:cBx w noB [] b=0:=rfl
         omega
       refine vM hrun (hO _ _ _ _ _ hr base.n w M noB _ hpre) fun v w' hpost=>hn _ _ ?_
       have hz:∀ b,cA (first++c.args.toList.map (opv st.fr (hasO mt.takes o.dst))++caps) (vf++(c.args.toList.map a.eval).toArray++vc) b=0:=by
        intro b
        have hcnt':∀ b,cA (first++c.args.toList.map (opv st.fr (hasO mt.takes o.dst))++caps) (vf++(c.args.toList.map a.eval).toArray++vc) b=_:=hcnt
        rw [hcnt' b]
        obtain ⟨t1,t2⟩:=aZ4 h a.defers c.args.toList
        rw [htk]
        exact t2 b
       exact aXY h hl1 (fun i p hp=>(hrel i p hp).2) hl2 hz hpost hE he
      ·simp at he
     ·simp at he
    ·-- any other call
     unfold aT at he
     rcases aZ he with ⟨hfree,he⟩ | ⟨_,he⟩
     ·obtain ⟨⟨r,u⟩,hr,he⟩:=aB he
      split at he
      ·rename_i hu
       simp only at hu
       subst hu
       cases he
       rw [List.all_eq_true] at hfree
       have hpre:CallPre base M noB (first++c.args.toList.map (opv st.fr (hasO mt.takes o.dst))++caps) [] (vf++(c.args.toList.map a.eval).toArray++vc) w:=by
        refine ⟨h.cons,hsz,?_,⟨by simp,fun _ _ _=>rfl,by simp [qS],by simp [noB]⟩,?_,h.glob,h.base⟩
        ·intro i p hp
         obtain ⟨r1,r2⟩:=hrel i p hp
         refine ⟨r1.anyBfree _ (hfree p (List.mem_of_getElem? hp)),?_⟩
         exact aKE r2 (fun _ _ _ hx=>hx) fun b _ _=>⟨rfl,fun _=>rfl,fun d id hb=>by simp [noB] at hb⟩
        ·intro b
         have e1:=hl2 b
         have e2:=h.one b
         have e3:cBx w noB [] b=0:=rfl
         omega
       refine vM hrun (hO _ _ _ _ _ hr base.n w M noB _ hpre) fun v w' hpost=>hn _ _ ?_
       exact aMQ h hl1 hsz hrel hl2 hpost
      ·simp at he
     ·simp at he
  ·simp at he
 ·-- len
  rename_i hc
  split at he
  ·rename_i x t hargs htys
   split at he
   ·rename_i hu
    obtain ⟨r,hr,he⟩:=aB he
    cases he
    obtain ⟨v,hv,rv,rf⟩:=aXT (P:=P) (w:=w) (ty:=o.type) hr (hx x) hu
    refine upon_value (v:=v) (bi hc ?_) (jL h (rv M B) (rf.no v)) hn
    rw [argsEq hargs,tysEq htys];simp [builtin,hv]
   ·rename_i el' hu
    obtain ⟨r,hr,he⟩:=aB he
    cases he
    obtain ⟨v,hv,rv,rf⟩:=aXU (P:=P) (w:=w) (ty:=o.type) hr (hx x) hu
    refine upon_value (v:=v) (bi hc ?_) (jL h (rv M B) (rf.no v)) hn
    rw [argsEq hargs,tysEq htys];simp [builtin,hv]
   ·simp at he
  ·simp at he
 ·-- append
  rename_i hc
  split at he
  ·rename_i x y t u hargs htys
   have hap:opv st.fr true x=opd st.fr x:=by cases x<;>rfl
   split at he
   ·rename_i e1 e2 hut huu
    split at he
    ·rename_i i hi
     split at he
     ·rename_i hcond
      obtain ⟨r1,r2,r3,r4⟩:=h.opvT a.defers true x
      rw [hap] at r1 r2 r4
      split at he
      ·obtain ⟨E,hE,he⟩:=aB he
       obtain ⟨v',w',hrun,k⟩:=aXX (P:=P) (ty:=o.type) (o:=o) h r3 r1 (fun b=>by have:=r4 b;omega) (hx y) hut huu hi hcond.1 hcond.2.1 hcond.2.2 hE he
       refine upon_value (v:=v') (w':=w') (bi hc ?_) k hn
       rw [argsEq hargs,tysEq htys]
       have hrun':(Builtin.append_ #[t,u] o.type #[a.eval x,a.eval y]).run P w = .ok v' w':=hrun
       simp [builtin,hrun']
      obtain ⟨r,hr,he⟩:=aB he
      cases he
      obtain ⟨v',w',hrun,k⟩:=bAy (P:=P) (ty:=o.type) (dst:=o.dst) h r3 r1 r2 (fun b=>Nat.le_of_eq (r4 b)) (hx y) hut huu hi hcond.1 hcond.2.1 hcond.2.2 hr
      refine upon_value (v:=v') (w':=w') (bi hc ?_) k hn
      rw [argsEq hargs,tysEq htys]
      have hrun':(Builtin.append_ #[t,u] o.type #[a.eval x,a.eval y]).run P w = .ok v' w':=hrun
      simp [builtin,hrun']
     ·simp at he
    ·simp at he
   ·rename_i e1 hut huu
    split at he
    ·rename_i i hi
     split at he
     ·rename_i hcond
      obtain ⟨r,hr,he⟩:=aB he
      cases he
      obtain ⟨r1,r2,r3,r4⟩:=h.opvT a.defers true x
      rw [hap] at r1 r2 r4
      obtain ⟨v',w',hrun,k⟩:=aTX (P:=P) (ty:=o.type) (dst:=o.dst) h r3 r1 r2 (fun b=>Nat.le_of_eq (r4 b)) (hx y) hut huu hi hcond.1 hcond.2.1 hcond.2.2 hr
      refine upon_value (v:=v') (w':=w') (bi hc ?_) k hn
      rw [argsEq hargs,tysEq htys]
      have hrun':(Builtin.append_ #[t,u] o.type #[a.eval x,a.eval y]).run P w = .ok v' w':=hrun
      simp [builtin,hrun']
     ·simp at he
    ·simp at he
   ·simp at he
  ·simp at he
 ·rename_i hc
  split at he
  ·rename_i x y hargs
   obtain ⟨r,hr,he⟩:=aB he
   cases he
   obtain ⟨v,hv,rv,rf⟩:=(aJN (P:=P) (w:=w) (hx x) (hx y)).1 hr
   refine upon_value (v:=v) (bi hc ?_) (jL h (rv M B) (rf.no v)) hn
   rw [argsEq hargs];simp [builtin,Builtin.min_,hv]
  ·simp at he
 ·rename_i hc
  split at he
  ·rename_i x y hargs
   obtain ⟨r,hr,he⟩:=aB he
   cases he
   obtain ⟨v,hv,rv,rf⟩:=(aJN (P:=P) (w:=w) (hx x) (hx y)).2 hr
   refine upon_value (v:=v) (bi hc ?_) (jL h (rv M B) (rf.no v)) hn
   rw [argsEq hargs];simp [builtin,Builtin.max_,hv]
  ·simp at he
 ·simp at he
theorem aPO {o:Oper} {a:Act} {t:TypeId} {x:Operand} {lo hi m:Option Operand} {e:Eff} (ho:o.op = .slice t x lo hi m) (h:SR base M B st a.tmps w)
  (he:qQ P a.tmps.size o t x lo hi m st some=some e) (hn:∀ tm' w',Aft base M B st a.tmps w e tm' w'→next ⟨tm',a.defers⟩ w') :
  o.upon P a next Q ((execOp a.eval o).run P w):=by
 have hx:∀ x,Rv M B (opd st.fr x) (a.eval x):=fun x=>h.opd a.defers x
 have fin:∀ {r:PV} {v:Value},(Instr.sliceAt t (a.eval x) (lo.map a.eval) (hi.map a.eval) (m.map a.eval)).run P w = .ok v w→Rv M B r v→dV r v→some ({ws:=dstW a.tmps.size o.dst r}:Eff)=some e→o.upon P a next Q ((execOp a.eval o).run P w):=by
  intro r v hrun hr hno he
  cases he
  exact upon_value (v:=v) (w':=w) (by simp only [execOp,ho];simp [hrun]) (jL h hr hno) hn
 have nat:∀ {y:Operand} {n:Nat},yK (opd st.fr y)=some n→∃ (k:IntKind) (z:Int),a.eval y = .int k z∧0≤z∧n=z.toNat:=by
  intro y n hy
  obtain ⟨k,z,e1,e2,e3⟩:=aTV hy
  exact ⟨k,z,(hx y).int_of e1,e2,e3⟩
 unfold qQ at he
 dsimp only at he
 split at he
 ·rename_i hu
  have str:∀ {l h':Nat} {r:PV},aEw 0 (opd st.fr x) l h'=some r→(∀ len,lenN 0 (opd st.fr x)=some len→h'≤len→l≤h'→(Instr.sliceBounds false len len (lo.map a.eval) (hi.map a.eval) none).run P w = .ok (l,h',len) w) →
    m=none→some ({ws:=dstW a.tmps.size o.dst r}:Eff)=some e→o.upon P a next Q ((execOp a.eval o).run P w):=by
   intro l h' r hs hb hm he2
   obtain ⟨v,hv,rv,rf⟩:=aTW (P:=P) (w:=w) hu hs (hx x) hb
   rw [hm] at fin
   exact fin hv (rv M B) (rf.no v) he2
  split at he
  ·obtain ⟨r,hr,he⟩:=aB he
   obtain ⟨n,hn',hr⟩:=aB hr
   exact str hr (fun len hlen _ _=>by rw [hn'] at hlen;cases hlen;exact aMC false _ _) rfl he
  ·rename_i l
   obtain ⟨r,hr,he⟩:=aB he
   obtain ⟨n,hn',hr⟩:=aB hr
   obtain ⟨l',hl',hr⟩:=aB hr
   obtain ⟨k,z,e1,e2,rfl⟩:=nat hl'
   exact str hr (fun len hlen _ h2=>by rw [hn'] at hlen;cases hlen;simp only [Option.map_some,Option.map_none,e1];exact aMD false _ _ k z e2 h2) rfl he
  ·rename_i h'
   obtain ⟨r,hr,he⟩:=aB he
   obtain ⟨l',hl',hr⟩:=aB hr
   obtain ⟨k,z,e1,e2,rfl⟩:=nat hl'
   exact str hr (fun len hlen h1 h2=>by simp only [Option.map_some,Option.map_none,e1];exact aME false _ _ k z e2 h1) rfl he
  ·rename_i l h'
   obtain ⟨r,hr,he⟩:=aB he
   obtain ⟨l',hl',hr⟩:=aB hr
   obtain ⟨n',hn',hr⟩:=aB hr
   obtain ⟨k,z,e1,e2,rfl⟩:=nat hl'
   obtain ⟨k',z',e1',e2',rfl⟩:=nat hn'
   exact str hr (fun len hlen h1 h2=>by simp only [Option.map_some,e1,e1'];exact aMF false _ _ k k' z z' e2 h2 e2' h1) rfl he
  ·simp at he
 ·rename_i el' hu
  split at he
  ·simp at he
  ·rename_i n hnz hsz
   obtain ⟨n,rfl⟩:∃ n',n=n'+1:=by
    cases n with
    | zero=>exact absurd rfl hnz
    | succ n=>exact ⟨n,rfl⟩
   have lst:∀ {l h':Nat} {r:PV},aEw (n+1) (opd st.fr x) l h'=some r→(∀ len cap,lenN (n+1) (opd st.fr x)=some len→h'≤cap→l≤h'→len≤cap→(Instr.sliceBounds true len cap (lo.map a.eval) (hi.map a.eval) none).run P w = .ok (l,h',cap) w) →
     m=none→some ({ws:=dstW a.tmps.size o.dst r}:Eff)=some e→o.upon P a next Q ((execOp a.eval o).run P w):=by
    intro l h' r hs hb hm he2
    obtain ⟨v,hv,rv,rf⟩:=aVI (P:=P) (w:=w) hu hsz hs (hx x) hb
    rw [hm] at fin
    exact fin hv rv rf he2
   split at he
   ·obtain ⟨r,hr,he⟩:=aB he
    obtain ⟨n',hn',hr⟩:=aB hr
    exact lst hr (fun len cap hlen _ _ _=>by rw [hn'] at hlen;cases hlen;exact aMC true _ _) rfl he
   ·rename_i l
    obtain ⟨r,hr,he⟩:=aB he
    obtain ⟨n',hn',hr⟩:=aB hr
    obtain ⟨l',hl',hr⟩:=aB hr
    obtain ⟨k,z,e1,e2,rfl⟩:=nat hl'
    exact lst hr (fun len cap hlen _ h2 _=>by rw [hn'] at hlen;cases hlen;simp only [Option.map_some,Option.map_none,e1];exact aMD true _ _ k z e2 h2) rfl he
   ·rename_i h'
    obtain ⟨r,hr,he⟩:=aB he
    obtain ⟨l',hl',hr⟩:=aB hr
    obtain ⟨k,z,e1,e2,rfl⟩:=nat hl'
    exact lst hr (fun len cap hlen h1 h2 _=>by simp only [Option.map_some,Option.map_none,e1];exact aME true _ _ k z e2 h1) rfl he
   ·rename_i l h'
    obtain ⟨r,hr,he⟩:=aB he
    obtain ⟨l',hl',hr⟩:=aB hr
    obtain ⟨n',hn',hr⟩:=aB hr
    obtain ⟨k,z,e1,e2,rfl⟩:=nat hl'
    obtain ⟨k',z',e1',e2',rfl⟩:=nat hn'
    exact lst hr (fun len cap hlen h1 h2 _=>by simp only [Option.map_some,e1,e1'];exact aMF true _ _ k k' z z' e2 h2 e2' h1) rfl he
   ·-- s[:0:0]
    obtain ⟨r,hr,he⟩:=aB he
    have run0:∀ ad len cap,a.eval x = .slice ad len cap→(Instr.sliceAt t (a.eval x) none (some (.int .i64 0)) (some (.int .i64 0))).run P w = .ok (.slice ad 0 0) w:=by
     intro ad len cap hev
     have hb:∀ code c,(Instr.sliceBound (.int .i64 0) c code).run P w = .ok 0 w:=by
      intro code c
      simp [Instr.sliceBound,asIntOf]
     simp [Instr.sliceAt,Instr.slice,hev,run_underlying hu,Instr.sliceBounds,hb,dE w hsz]
    have hp:=hx x
    unfold aZZ at hr
    split at hr
    ·rename_i es bs ow hv
     cases hr
     rw [hv] at hp
     obtain ⟨v,hev⟩:∃ v,a.eval x=v:=⟨_,rfl⟩
     rw [hev] at hp
     cases hp with
     | nil _=>exact fin (run0 none 0 0 hev) (.nil true) (aCa _ _ _) he
     | slice _ _ _ ad cap s f ha hc' ho' hel hm hr =>
      exact fin (run0 _ _ _ hev) (.slice [] [] true ad 0 1 (fun _ _=>undef) (fun h0=>absurd h0 (by omega)) (by simp) (by simp) (by simp) (by simp) (by simp)) (aCa _ _ _) he
    ·rename_i sz hv
     cases hr
     rw [hv] at hp
     obtain ⟨v,hev⟩:∃ v,a.eval x=v:=⟨_,rfl⟩
     rw [hev] at hp
     cases hp with
     | mk0 _ ad cap ha =>
      exact fin (run0 _ _ _ hev) (.slice [] [] true ad 0 1 (fun _ _=>undef) (fun h0=>absurd h0 (by omega)) (by simp) (by simp) (by simp) (by simp) (by simp)) (aCa _ _ _) he
    ·simp at hr
   ·simp at he
  ·simp at he
 ·simp at he
theorem aPP {o:Oper} {a:Act} {t:TypeId} {ps:Array (Nat×Operand)} {cs:List PV} (ho:o.op = .build t ps) (h:SR base M B st a.tmps w)
  {cells:Array Value} (hrun:(Instr.build t (ps.map fun (i,x)=>(i,a.eval x))).run P w = .ok (.agg cells) w) (hr:AggRel M w base B cs cells)
  (hc:∀ b,bV cs.length (fun j=>c1 (cs.getD j .bot) (cells.getD j undef) b)=0)
  (hn:∀ tm' w',Aft base M B st a.tmps w {ws:=dstW a.tmps.size o.dst (.agg cs)} tm' w'→next ⟨tm',a.defers⟩ w') :
  o.upon P a next Q ((execOp a.eval o).run P w):=by
 refine upon_value (v := .agg cells) (w':=w) ?_ ?_ hn
 ·simp only [execOp,ho];simp [hrun]
 ·obtain ⟨r1,r2⟩:=hr.done
  have:=aKx (dst:=o.dst) (lv:=[]) h h r1 r2 (fun b=>by
   rw [aVD _ _ _ hr.size,hc b];simp)
  simpa using this
theorem aG9:∀ (fs:List Field),fs.all (fun f=>(P.info? f.type).isSome)=true→∃ pl,fs.mapM (fun f=>(P.info? f.type).map fun i=>(f.offset,i.size))=some pl ∧
  ∀ (i:Nat) (f:Field) (n:Nat),fs[i]?=some f→szOf P f.type=some n→pl[i]?=some (f.offset,n)
 | [],_=>⟨[],rfl,by simp⟩
 | f::fs,h=>by
  simp only [List.all_cons,Bool.and_eq_true] at h
  obtain ⟨pl,h1,h2⟩:=aG9 fs h.2
  obtain ⟨i0,hi⟩:=Option.isSome_iff_exists.1 h.1
  refine ⟨(f.offset,i0.size)::pl,?_,?_⟩
  ·simp [List.mapM_cons,hi,h1]
  ·intro i g n hg hn
   cases i with
   | zero=>simp at hg;subst hg;simp [szOf,hi] at hn;simp [hn]
   | succ i=>simp at hg;simpa using h2 i g n hg hn
theorem opsF (h:SR base M B st tm w) (d:List Deferred) (ps:List (Nat×Operand)) :
  (∀ (k:Nat) (x:Nat×PV) (y:Nat×Value),(ps.map fun p=>(p.1,opv st.fr false p.2))[k]?=some x→(ps.map fun p=>(p.1,(Act.mk tm d).eval p.2))[k]?=some y→x.1=y.1∧Rv M B x.2 y.2∧hV M w base B x.2 y.2) ∧
  ∀ b,sumL (fun x:(Nat×PV)×(Nat×Value)=>cV x.1.2 x.2.2 b) ((ps.map fun p=>(p.1,opv st.fr false p.2)).zip (ps.map fun p=>(p.1,(Act.mk tm d).eval p.2)))=0:=by
 constructor
 ·intro k x y hx hy
  rw [List.getElem?_map,Option.map_eq_some_iff] at hx hy
  obtain ⟨p,hp,rfl⟩:=hx
  obtain ⟨q,hq,rfl⟩:=hy
  rw [hp] at hq;cases hq
  obtain ⟨r1,r2⟩:=h.opvF d p.2
  exact ⟨rfl,r1,r2.h M w base B⟩
 ·intro b
  apply aDs
  intro x hx
  obtain ⟨k,hk⟩:=List.mem_iff_getElem?.1 hx
  rw [List.getElem?_zip_eq_some] at hk
  obtain ⟨h1,h2⟩:=hk
  rw [List.getElem?_map,Option.map_eq_some_iff] at h1 h2
  obtain ⟨p,hp,e1⟩:=h1
  obtain ⟨q,hq,e2⟩:=h2
  rw [hp] at hq;cases hq
  rw [← e1,← e2]
  exact (h.opvF d p.2).2.c b
theorem yY {o:Oper} {a:Act} {e:Eff} (hO:aKD P base.g O) (h:SR base M B st a.tmps w)
  (he:aS P mt a.tmps.size O o st some=some e) (hn:∀ tm' w',Aft base M B st a.tmps w e tm' w'→next ⟨tm',a.defers⟩ w') :
  o.upon P a next Q ((execOp a.eval o).run P w):=by
 have hx:∀ x,Rv M B (opd st.fr x) (a.eval x):=fun x=>h.opd a.defers x
 have fin:∀ {r:PV} {v:Value},(execOp a.eval o).run P w = .ok (.value v) w→Rv M B r v→dV r v→some ({ws:=dstW a.tmps.size o.dst r}:Eff)=some e→o.upon P a next Q ((execOp a.eval o).run P w):=by
  intro r v hrun hr hno he
  cases he
  exact upon_value hrun (jL h hr hno) hn
 unfold aS at he
 dsimp only at he
 split at he
 ·-- move
  rename_i x ho
  cases he
  obtain ⟨r1,r2,r3,r4⟩:=h.opvT a.defers (hasO mt.takes o.dst) x
  exact upon_value (v:=a.eval x) (w':=w) (by simp [execOp,ho]) (aKx h r3 r1 r2 (fun b=>Nat.le_of_eq (r4 b))) hn
 ·rename_i x ho
  cases he
  obtain ⟨r1,r2,r3,r4⟩:=h.opvT a.defers true x
  exact upon_value (v:=a.eval x) (w':=w) (by simp [execOp,ho]) (aKx h r3 r1 r2 (fun b=>Nat.le_of_eq (r4 b))) hn
 ·-- pick
  rename_i c x y ho
  obtain ⟨t,ht,he⟩:=aB he
  have hc:=hx c
  unfold xR at ht
  split at ht
  ·rename_i b hb
   cases ht
   rw [hb] at hc
   have hc:=hc.bool_inv
   rcases aZ he with ⟨hb',he⟩ | ⟨hb',he⟩
   ·subst hb'
    obtain ⟨r1,r2⟩:=h.opvF a.defers x
    exact fin (v:=a.eval x) (by simp [execOp,ho,hc,asBool]) r1 r2 he
   ·subst hb'
    obtain ⟨r1,r2⟩:=h.opvF a.defers y
    exact fin (v:=a.eval y) (by simp [execOp,ho,hc,asBool]) r1 r2 he
  ·simp at ht
 ·-- alloc
  rename_i t ho
  split at he
  ·rename_i n ag z hsz hag hz
   obtain ⟨v,hv,rfl,_⟩:=pY (P:=P) w hz
   have hk:=aVM (T:=t) h (o:=o) (lv:=[]) he h (Rv.ofValue v) ((gL v).h M w base B) (fun b=>by rw [(gL v).c];simp)
   refine upon_value (v := .pointer (some ⟨w.heap.size,0,none⟩)) ?_ hk hn
   simp only [execOp,ho]
   simp [Instr.alloc,hv,newVar,newRow,newObj,Sem.run_bind,Sem.run_pure]
   rfl
  ·simp at he
 ·-- box
  rename_i t x ho
  split at he
  ·rename_i n ag hsz hag
   obtain ⟨r1,r2,r3,r4⟩:=h.opvT a.defers true x
   have hk:=aVM (T:=t) h (o:=o) he r3 r1 r2 (fun b=>Nat.le_of_eq (r4 b))
   refine upon_value (v := .pointer (some ⟨w.heap.size,0,none⟩)) ?_ hk hn
   simp only [execOp,ho]
   simp [Instr.box,newVar,newRow,newObj,Sem.run_bind,Sem.run_pure]
   rfl
  ·simp at he
 ·-- build
  rename_i t ps ho
  have hpsl:(ps.map fun (i,x)=>(i,a.eval x)).toList=ps.toList.map fun p=>(p.1,a.eval p.2):=by simp
  obtain ⟨o1,o2⟩:=opsF h a.defers ps.toList
  have go:∀ {place:Nat→Option (Nat×Nat×Bool)} {place':Nat→Option (Nat×Nat)} {z:Array Value} {cells':List PV},
    (∀ i off n ag,place i=some (off,n,ag)→place' i=some (off,n)) →
    aB6 place (ps.toList.map fun p=>(p.1,opv st.fr false p.2)) (z.toList.map ofAtom) some=some cells' →
    (∀ xs,Instr.fill place' z (ps.toList.map fun p=>(p.1,a.eval p.2))=some xs→P.built t (ps.map fun (i,x)=>(i,a.eval x)).toList=some xs) →
    e={ws:=dstW a.tmps.size o.dst (.agg cells')}→o.upon P a next Q ((execOp a.eval o).run P w):=by
   intro place place' z cells' hpl hf hb he
   obtain ⟨z1,z2⟩:=aPK (M:=M) (w:=w) (base:=base) (B:=B) (z:=z)
   obtain ⟨xs,hxs,hrel,hcnt⟩:=aMN hpl _ (ps.toList.map fun p=>(p.1,a.eval p.2)) _ cells' z (by simp) o1 hf z1
   subst he
   refine aPP ho h (run_build w t _ xs (hb xs hxs)) hrel (fun b => ?_) hn
   have:=hcnt b
   rw [z2 b] at this
   have h0:=o2 b
   have h0':sumL (fun x:(Nat×PV)×(Nat×Value)=>cV x.1.2 x.2.2 b) ((ps.toList.map fun p=>(p.1,opv st.fr false p.2)).zip (ps.toList.map fun p=>(p.1,a.eval p.2)))=0:=h0
   omega
  have cpsP:∀ (place:Nat→Option (Nat×Nat×Bool)) (K:List PV→Option Eff) (l:List (Nat×PV)) (cs:List PV),aB6 place l cs K=bnd (aB6 place l cs some) K:=by
   intro place K l
   induction l with
   | nil=>intro cs;rfl
   | cons x l ih =>
    intro cs
    obtain ⟨i,v⟩:=x
    simp only [aB6]
    split
    ·rename_i off size ag hp
     cases hc:lY size ag v with
     | none=>rfl
     | some vs =>
      simp only [bnd]
      split
      ·rw [ih];rfl
      ·rfl
    ·rfl
  split at he
  ·rename_i fs z hu hz
   split at he
   ·rename_i hall
    rw [cpsP] at he
    obtain ⟨cells',hf,he2⟩:=aB he
    obtain ⟨zv,hzr,hzo,i,hi,hiz⟩:=pY (P:=P) w hz
    obtain ⟨pl,hpl,hpl2⟩:=aG9 (P:=P) fs.toList hall
    obtain ⟨za,rfl,rfl⟩:∃ za,zv = .agg za∧z=za.toList.map ofAtom:=by
     unfold ofValue at hzo
     split at hzo
     ·rename_i za;exact ⟨za,rfl,by simpa using hzo⟩
     ·rename_i hna
      exfalso
      unfold ofAtom at hzo
      split at hzo<;>simp at hzo
    refine go (place':=fun i=>pl.toArray[i]?) ?_ hf ?_ (Option.some.inj he2).symm
    ·intro i off n ag hp
     obtain ⟨f,hf,rfl,hs,hg⟩:=vK hp
     have:=hpl2 i f n (by simpa using hf) hs
     simpa using this
    ·intro xs hxs
     rw [hpsl]
     simp only [Program.built,hi,hu,hiz,hpl]
     exact hxs
   ·simp at he
  ·rename_i len el z hu hz
   split at he
   ·rename_i n ag hsz hag
    rw [cpsP] at he
    obtain ⟨cells',hf,he2⟩:=aB he
    obtain ⟨zv,hzr,hzo,i,hi,hiz⟩:=pY (P:=P) w hz
    obtain ⟨za,rfl,rfl⟩:∃ za,zv = .agg za∧z=za.toList.map ofAtom:=by
     unfold ofValue at hzo
     split at hzo
     ·rename_i za;exact ⟨za,rfl,by simpa using hzo⟩
     ·rename_i hna
      exfalso
      unfold ofAtom at hzo
      split at hzo<;>simp at hzo
    obtain ⟨ie,hie,hien⟩:∃ ie,P.info? el=some ie∧ie.size=n:=by
     simpa [szOf] using hsz
    refine go (place':=fun i=>some (i*n,n)) ?_ hf ?_ (Option.some.inj he2).symm
    ·intro i off n' ag' hp;simp only [Option.some.injEq,Prod.mk.injEq] at hp;obtain ⟨h1,h2,h3⟩:=hp;rw [h1,h2]
    ·intro xs hxs
     rw [hpsl]
     simp only [Program.built,hi,hu,hiz,hie,hien]
     exact hxs
   ·simp at he
  ·simp at he
 ·-- buildSlice
  rename_i t n ps ho
  split at he
  ·rename_i el' hu
   split at he
   ·rename_i sz z hsz hz
    split at he
    ·rename_i hc
     obtain ⟨z',hz',he⟩:=aB he
     have cpsE:∀ (K:List PV→Option Eff) (l:List (Nat×PV)) (es:List PV),xY sz l es K=bnd (xY sz l es some) K:=by
      intro K l
      induction l with
      | nil=>intro cs;rfl
      | cons x l ih =>
       intro cs
       obtain ⟨i,v⟩:=x
       simp only [xY]
       cases hc:el sz v with
       | none=>rfl
       | some vs =>
        simp only [bnd]
        split
        ·rw [ih];rfl
        ·rfl
     rw [cpsE] at he
     obtain ⟨es,hf,he⟩:=aB he
     obtain ⟨arr,hrun,h0,h1⟩:=aIG (ps:=ps) a rfl h hu hsz hz hc.1 hc.2 z' (by
      cases n with
      | zero=>exact .inl rfl
      | succ n=>exact .inr hz') hf
     have he:=Option.some.inj he
     subst he
     refine upon_value (v := .slice (some ⟨w.heap.size,0,none⟩) n n) (w':={w with heap:=w.heap.push (.cells arr el' (0,0))}) (by simp only [execOp,ho];simp [hrun]) ?_ hn
     have key:∀ (s:Nat),RowRel M B s es arr→es.length=n→n*s≤arr.size→Aft base M B st a.tmps w {ws:=dstW a.tmps.size o.dst (.slice es [] true)} (putT a.tmps o.dst (.slice (some ⟨w.heap.size,0,none⟩) n n)) {w with heap:=w.heap.push (.cells arr el' (0,0))}:=by
      intro s hrow hlen hs
      have:=aKA (dst:=o.dst) (lv:=[]) h h (fun b=>Nat.le_refl _) (cap:=n) (T:=el') (fz:=(0,0)) (w':={w with heap:=w.heap.push (.cells arr el' (0,0))}) hrow (by omega) hs (by intro i _;simp) rfl rfl rfl rfl
       (.inl ⟨rfl,fun he=>by subst he;simpa using hlen.symm⟩)
      simpa [hlen] using this
     cases n with
     | zero =>
      have hes:=h0 rfl
      exact key 1 ⟨by omega,by simp [hes],by simp [hes],by simp [hes]⟩ (by simp [hes]) (by simp)
     | succ n =>
      obtain ⟨k1,k2,k3⟩:=h1 (by omega)
      exact key sz k1 k2 (by omega)
    ·simp at he
   ·simp at he
  ·simp at he
 ·-- load
  rename_i t p ho
  split at he
  ·rename_i n ag hsz hag
   have hp:=hx p
   split at he
   ·rename_i d id off hptr
    rw [hptr] at hp
    split at he
    ·rename_i hn1
     obtain ⟨cs,hcs,he⟩:=aB he
     split at he
     ·rename_i sz E
      obtain ⟨v,hv,he⟩:=aB he
      obtain ⟨x,hrun,k1⟩:=aPG (P:=P) h (dst:=o.dst) hsz hag (fun hf=>by simpa [hf] using hn1.2) hp hcs hv
      have hrun':(execOp a.eval o).run P w = .ok (.value x) w:=by simp only [execOp,ho];simp [hrun]
      cases he;exact upon_value hrun' k1 hn
     ·rename_i hnv
      obtain ⟨v,hv,he⟩:=aB he
      have hnv':vG cs=false:=by
       unfold vG;split
       ·exact absurd rfl (hnv _ _)
       ·rfl
      obtain ⟨x,hrun,k1,k2⟩:=aXV (P:=P) h (e:=e) (dst:=o.dst) hsz hag (fun hf=>by simpa [hf] using hn1.2) hp hcs hnv' hv
      have hrun':(execOp a.eval o).run P w = .ok (.value x) w:=by simp only [execOp,ho];simp [hrun]
      split at he
      ·cases he;exact upon_value hrun' k2 hn
      ·cases he;exact upon_value hrun' k1 hn
    ·simp at he
   ·rename_i v hptr
    rw [hptr] at hp
    obtain ⟨v',hv,he⟩:=aB he
    obtain ⟨y,hrun,k⟩:=aPE (P:=P) h (dst:=o.dst) hsz hag hp hv
    cases he
    exact upon_value (v:=y) (w':=w) (by simp only [execOp,ho];simp [hrun]) k hn
   ·simp at he
  ·simp at he
 ·-- store
  rename_i t p x ho
  split at he
  ·rename_i n ag hsz hag
   have hp:=hx p
   split at he
   ·rename_i d id off hptr hd
    rw [hptr] at hp
    obtain ⟨cs,hcs,he⟩:=aB he
    obtain ⟨vs,hvs,he⟩:=aB he
    obtain ⟨r1,r2,r3,r4⟩:=h.opvT a.defers true x
    split at he
    ·rename_i sz E
     split at he
     ·rename_i hn0
      obtain ⟨E',hE',he⟩:=aB he
      cases he
      obtain ⟨w',hrun,k⟩:=aMJ (P:=P) h hsz hp hcs hvs hn0 hE' r3 r1 r2 (fun b=>Nat.le_of_eq (r4 b))
      refine upon_skip hd ?_ k hn
      have hrun':(Instr.storeAt t (a.eval p) (a.eval x)).run P w = .ok () w':=hrun
      simp only [execOp,ho];simp [hrun']
     ·simp at he
    ·rename_i hnv
     have hnv':vG cs=false:=by
      unfold vG;split
      ·exact absurd rfl (hnv _ _)
      ·rfl
     rcases aZ he with ⟨hf,he⟩ | ⟨_,he⟩
     ·split at he
      ·rename_i hc
       cases he
       obtain ⟨w',hrun,k⟩:=aVO (P:=P) h hsz hp hcs hnv' hvs hf hc.1 r3 r1 r2 (fun b=>Nat.le_of_eq (r4 b))
       refine upon_skip hd ?_ k hn
       have hrun':(Instr.storeAt t (a.eval p) (a.eval x)).run P w = .ok () w':=hrun
       simp only [execOp,ho];simp [hrun']
      ·simp at he
     ·simp at he
   ·simp at he
  ·simp at he
 ·-- nilCheck
  rename_i x ho
  have hp:=hx x
  split at he
  ·rename_i d id off hv
   rw [hv] at hp
   obtain ⟨v,hev⟩:∃ v,a.eval x=v:=⟨_,rfl⟩
   rw [hev] at hp
   cases hp with
   | ptr d id off b hb=>exact fin (by simp only [execOp,ho,hev];rfl) (.ptr d id off b hb) (mB _ _ _ _) he
  ·rename_i u hv
   rw [hv] at hp
   obtain ⟨v,hev⟩:∃ v,a.eval x=v:=⟨_,rfl⟩
   rw [hev] at hp
   cases hp with
   | ref _ ad s f ha hel hm hr=>exact fin (by simp only [execOp,ho,hev];rfl) (.ref _ ad s f ha hel hm hr) (aG3 _ _) he
  ·rename_i fn a1 b1 hv
   rw [hv] at hp
   obtain ⟨v,hev⟩:∃ v,a.eval x=v:=⟨_,rfl⟩
   rw [hev] at hp
   cases hp with
   | func _ first caps vf vc f g hp' hl hf hrf hl' hg hrg=>exact fin (by simp only [execOp,ho,hev];rfl) (.func _ _ _ vf vc f g hp' hl hf hrf hl' hg hrg) (qH _ _ _ _) he
  ·simp at he
 ·-- binOp
  rename_i op t x y u ho
  exact aVU ho h he hn
 ·-- unOp
  rename_i op u x ho
  obtain ⟨r,hr,he⟩:=aB he
  obtain ⟨v,hv,rv,rf⟩:=bBD (P:=P) (w:=w) hr (hx x)
  exact fin (v:=v) (by simp only [execOp,ho];simp [hv]) (rv M B) (rf.no v) he
 ·-- convert
  rename_i s d x ho
  unfold aDn at he
  split at he
  ·rename_i k0 k hs hd
   obtain ⟨r,hr,he⟩:=aB he
   obtain ⟨v,hv,rv,rf⟩:=aVJ (P:=P) (w:=w) hs hd hr (hx x)
   exact fin (v:=v) (by simp only [execOp,ho];simp [hv]) (rv M B) (rf.no v) he
  ·rename_i el' hs hd
   split at he
   ·rename_i hel
    obtain ⟨r,hr,he⟩:=aB he
    obtain ⟨v,hv,rv,rf⟩:=aVK (P:=P) hs hel hd h.cons hr (hx x)
    exact fin (v:=v) (by simp only [execOp,ho];simp [hv]) (rv M B) (rf.no v) he
   ·simp at he
  ·rename_i el' hs hd
   split at he
   ·rename_i hel
    obtain ⟨r,hr,he⟩:=aB he
    obtain ⟨v',w',hrun,k⟩:=aPL (P:=P) h (dst:=o.dst) hs hd hel (hx x) hr
    cases he
    exact upon_value (v:=v') (w':=w') (by simp only [execOp,ho];simp [hrun]) k hn
   ·simp at he
  ·simp at he
 ·-- makeSlice
  rename_i t l c ho
  split at he
  ·rename_i e' hu
   split at he
   ·rename_i i hi
    split at he
    ·rename_i hcond
     obtain ⟨h0,hby,hz⟩:=hcond
     obtain ⟨z,hz1,hz2⟩:=vL hz
     split at he
     ·obtain ⟨E,hE,he⟩:=aB he
      obtain ⟨v',w',hrun,k⟩:=aVS (P:=P) h (o:=o) hu hi h0 hby hz (hx l) (hx c) hE he
      refine upon_value (v:=v') (w':=w') ?_ k hn
      simp only [execOp,ho]
      simp [hrun]
     split at he
     ·obtain ⟨r0,hr0,he⟩:=aB he
      unfold mkSl at hr0
      obtain ⟨nn,hcn,hr0⟩:=aB hr0
      split at hr0
      rotate_left
      ·simp at hr0
      rename_i hlim
      cases hr0
      cases he
      obtain ⟨w',hrun,k⟩:=aKC (P:=P) h (dst:=o.dst) hu hi hz1 hz2 h0 hby hlim hcn (hx c)
      refine upon_value (w':=w') ?_ k hn
      simp only [execOp,ho]
      have:a.eval (.const (.int .i64 0)) = .int .i64 0:=rfl
      rw [this]
      simp [hrun]
     ·simp at he
    ·simp at he
   ·simp at he
  ·simp at he
 ·-- makeFunc
  rename_i fn first caps ho
  refine fin (v := .func fn (first.map a.eval) (caps.map a.eval)) (by simp only [execOp,ho];rfl) ?_ (qH _ _ _ _) he
  refine .func fn _ _ _ _ (fun i=>(first.map a.eval).getD i undef) (fun i=>(caps.map a.eval).getD i undef) ?_ (by simp) ?_ ?_ (by simp) ?_ ?_
  ·intro c hc
   rw [← List.map_append] at hc
   obtain ⟨x,_,rfl⟩:=List.mem_map.1 hc
   exact aJI _
  ·intro i hi;simp at hi;simp [hi]
  ·intro i c hc
   rw [List.getElem?_map,Option.map_eq_some_iff] at hc
   obtain ⟨x,hx',rfl⟩:=hc
   have:(first.map a.eval).getD i undef=a.eval x:=by
    simp only [Array.getElem?_toList] at hx'
    simp [Array.getD_eq_getD_getElem?,hx']
   rw [this];exact (hx x).plain
  ·intro i hi;simp at hi;simp [hi]
  ·intro i c hc
   rw [List.getElem?_map,Option.map_eq_some_iff] at hc
   obtain ⟨x,hx',rfl⟩:=hc
   have:(caps.map a.eval).getD i undef=a.eval x:=by
    simp only [Array.getElem?_toList] at hx'
    simp [Array.getD_eq_getD_getElem?,hx']
   rw [this];exact (hx x).plain
 ·-- slice
  rename_i t x lo hi m ho
  exact aPO ho h he hn
 ·-- fieldAddr
  rename_i s x f ho
  split at he
  ·rename_i fs hu
   split at he
   ·rename_i off n ag hf
    split at he
    ·rename_i hpos
     obtain ⟨r,hr,he⟩:=aB he
     obtain ⟨v,hv,rv,hno⟩:=aPB (P:=P) (w:=w) hu hf hpos hr (hx x)
     refine fin (v:=v) (by simp only [execOp,ho];simp [hv]) rv ?_ he
     rcases hno with ⟨d,i,o',rfl⟩ | ⟨e',rfl⟩
     ·exact mB _ _ _ _
     ·exact aG3 _ _
    ·simp at he
   ·simp at he
  ·simp at he
 ·-- field
  rename_i s x f ho
  split at he
  ·rename_i fs hu
   split at he
   ·rename_i off n ag hf
    obtain ⟨r,hr,he⟩:=aB he
    obtain ⟨v,hv,rv⟩:=aVH (P:=P) (w:=w) hu hf hr (hx x)
    exact fin (v:=v) (by simp only [execOp,ho];simp [hv]) rv.plain (bT _ _) he
   ·simp at he
  ·simp at he
 ·-- indexAddr
  rename_i t x i ho
  split at he
  ·rename_i el' hu
   split at he
   ·rename_i n hsz
    obtain ⟨r,hr,he⟩:=aB he
    obtain ⟨v,hv,rv,⟨e',rfl⟩ | ⟨d',i',o',rfl⟩⟩:=aPC (P:=P) (w:=w) hu hsz hr (hx x) (hx i)
    ·exact fin (v:=v) (by simp only [execOp,ho];simp [hv]) rv (aG3 _ _) he
    ·exact fin (v:=v) (by simp only [execOp,ho];simp [hv]) rv (mB _ _ _ _) he
   ·simp at he
  ·rename_i len el' hu
   split at he
   ·rename_i n hsz
    split at he
    ·obtain ⟨r,hr,he⟩:=aB he
     obtain ⟨v,hv,rv,d,i',o',rfl⟩:=aMz (P:=P) (w:=w) hu hsz hr (hx x) (hx i)
     exact fin (v:=v) (by simp only [execOp,ho];simp [hv]) rv (mB _ _ _ _) he
    ·simp at he
   ·simp at he
  ·simp at he
 ·-- index
  rename_i t x i ho
  split at he
  ·rename_i hu
   obtain ⟨r,hr,he⟩:=aB he
   obtain ⟨v,hv,rv,rf⟩:=aMA (P:=P) (w:=w) hu hr (hx x) (hx i)
   exact fin (v:=v) (by simp only [execOp,ho];simp [hv]) (rv M B) (rf.no v) he
  ·rename_i len el' hu
   split at he
   ·rename_i n ag hsz hag
    obtain ⟨r,hr,he⟩:=aB he
    obtain ⟨v,hv,rv⟩:=aMB (P:=P) (w:=w) hu hsz hag hr (hx x) (hx i)
    exact fin (v:=v) (by simp only [execOp,ho];simp [hv]) rv.plain (bT _ _) he
   ·simp at he
  ·simp at he
 ·-- extract
  rename_i x i ho
  obtain ⟨r,hr,he⟩:=aB he
  unfold ext at hr
  split at hr
  ·rename_i vs hv
   have hp:=hx x
   rw [hv] at hp
   obtain ⟨v,hev⟩:∃ v,a.eval x=v:=⟨_,rfl⟩
   rw [hev] at hp
   cases hp with
   | tuple _ xs f hl hf hrr =>
    rw [jT] at hr
    have hlt:=(List.getElem?_eq_some_iff.1 hr).1
    exact fin (v:=f i) (by simp only [execOp,ho,hev];simp [Instr.extract,hf i hlt]) (hrr i r hr).plain (bT _ _) he
  ·simp at hr
 ·rename_i c ho
  exact aTZ hO ho h he hn
 ·simp at he
end
structure Eqv (s t:St):Prop where
 fr:∀ i,gets s.fr i=gets t.fr i
 bx:∀ d id,aX s.bx d id=aX t.bx d id
 len:s.bx.length=t.bx.length
def Nd (bx:List aV):Prop:=∀ (d:Nat) (f:aV),bx[d]?=some f→(f.map (·.1)).Nodup
theorem Eqv.refl (s:St):Eqv s s:=⟨fun _=>rfl,fun _ _=>rfl,rfl⟩
theorem Eqv.symm {s t:St} (h:Eqv s t):Eqv t s:=⟨fun i=>(h.fr i).symm,fun d i=>(h.bx d i).symm,h.len.symm⟩
theorem Eqv.trans {s t u:St} (h:Eqv s t) (k:Eqv t u):Eqv s u:=⟨fun i=>(h.fr i).trans (k.fr i),fun d i=>(h.bx d i).trans (k.bx d i),h.len.trans k.len⟩
theorem aT0 {g:Nat→List PV→Nat} {a b:aV} (h:a.Perm b):dH g a=dH g b:=by
 induction h with
 | nil=>rfl
 | cons x _ ih=>obtain ⟨i,c⟩:=x;simp [dH,ih]
 | swap x y l=>obtain ⟨i,c⟩:=x;obtain ⟨j,d⟩:=y;simp [dH];omega
 | trans _ _ h1 h2=>exact h1.trans h2
theorem mE {α:Type}:∀ {l:List (Nat×α)},(l.map (·.1)).Nodup→l.Nodup
 | [],_=>List.nodup_nil
 | (i,x)::l,h=>by
  simp only [List.map_cons,List.nodup_cons] at h
  rw [List.nodup_cons]
  exact ⟨fun hm=>h.1 (List.mem_map.2 ⟨_,hm,rfl⟩),mE h.2⟩
theorem aT1 {g:Nat→List PV→Nat} {a b:aV} (ha:(a.map (·.1)).Nodup) (hb:(b.map (·.1)).Nodup) (h:∀ i,look a i=look b i):dH g a=dH g b:=by
 apply aT0
 rw [List.perm_ext_iff_of_nodup (mE ha) (mE hb)]
 rintro ⟨i,c⟩
 constructor
 ·intro hm;have:=gK ha hm;rw [h i] at this;exact kC this
 ·intro hm;have:=gK hb hm;rw [← h i] at this;exact kC this
theorem aJS {g:Nat→Nat→List PV→Nat}:∀ (a b:List aV) (d0:Nat),Nd a→Nd b→a.length=b.length→(∀ d id,aX a d id=aX b d id)→fZ g d0 a=fZ g d0 b
 | [],[],_,_,_,_,_=>rfl
 | [],_::_,_,_,_,h,_=>by simp at h
 | _::_,[],_,_,_,h,_=>by simp at h
 | f::a,f'::b,d0,ha,hb,hl,h=>by
  simp only [fZ]
  rw [aT1 (ha 0 f rfl) (hb 0 f' rfl) (fun i=>by simpa [bD] using h 0 i),
   aJS a b (d0+1) (fun d g hg=>ha (d+1) g (by simpa using hg)) (fun d g hg=>hb (d+1) g (by simpa using hg)) (by simpa using hl) (fun d id=>by simpa [dR] using h (d+1) id)]
section
variable {base : Base} {M : Mem} {B : BM} {st t : St} {tm : Array Value} {w : World}
theorem aPQ (he:Eqv st t) (hs:Nd st.bx) (ht:Nd t.bx) (b:Nat):tot t.fr tm w B t.bx b=tot st.fr tm w B st.bx b:=by
 have e1:cF t.fr tm b=cF st.fr tm b:=cR _ fun i _=>by rw [he.fr i]
 have e2:cBx w B t.bx b=cBx w B st.bx b:=aJS _ _ _ ht hs he.len.symm (fun d id=>(he.bx d id).symm)
 simp only [tot,e1,e2]
theorem SR.eqv (h:SR base M B st tm w) (he:Eqv st t) (ht:Nd t.bx):SR base M B t tm w:=by
 refine ⟨h.cons,fun i=>by rw [← he.fr i];exact h.slot i,fun i=>by rw [← he.fr i];exact h.slotH i,⟨ht,?_,?_,h.box.inj⟩,fun b=>by rw [aPQ he h.box.nodup ht];exact h.one b,h.glob,h.base⟩
 ·intro d id hn;exact h.box.dom d id (by rw [he.bx];exact hn)
 ·intro d id cs hc;exact h.box.ok d id cs (by rw [he.bx];exact hc)
end
structure Shp (e:Eff):Prop where
 up:e.up=none
 cw:e.cw=[]∨∃ c,e.cw=[c]
 nw:e.nw=[]∨∃ x,e.nw=[x]
def NeOk (e:Eff) (s:St):Prop:=e.nw≠[]→s.bx.length≠0
theorem NeOk.ne {e:Eff} {s:St} (h:NeOk e s):e.nw≠[]→s.bx≠[]:=fun hx hy=>h hx (by rw [hy];rfl)
def qU (cw:List (Nat×Nat×Nat×List PV)) (d id:Nat) (x:Option (List PV)):Option (List PV) :=
 match cw with
 | []=>x
 | c::_=>if d=c.1∧id=c.2.1 then x.map fun cs=>putAt cs c.2.2.1 c.2.2.2 else x
def aBG (nw:List (Nat×List PV)) (d id:Nat) (x:Option (List PV)):Option (List PV) :=
 match nw with
 | []=>x
 | c::_=>if d=0∧id=c.1 then some c.2 else x
theorem Eff.bx_app {e:Eff} (h:Shp e) (st:St) (hn:NeOk e st) (d id:Nat):aX (e.app st).bx d id=aBG e.nw d id (qU e.cw d id (aX st.bx d id)):=by
 have hp:aX (cN st.bx e.cw) d id=qU e.cw d id (aX st.bx d id):=by
  rcases h.cw with hc | ⟨⟨d',i',o,vs⟩,hc⟩
  ·rw [hc];rfl
  ·rw [hc]
   simp only [cN,qU]
   cases hb:aX st.bx d' i' with
   | none =>
    simp only
    split
    ·rename_i e;rw [e.1,e.2,hb];rfl
    ·rfl
   | some cs =>
    simp only
    rw [yS _ _ _ _ _ _ _ hb]
    split
    ·rename_i e;rw [e.1,e.2,hb];rfl
    ·rfl
 have hne:e.nw≠[]→cN st.bx e.cw≠[]:=by
  intro hx
  have:=hn.ne hx
  rcases h.cw with hc | ⟨⟨d',i',o,vs⟩,hc⟩
  ·rw [hc];exact this
  ·rw [hc]
   simp only [cN]
   cases hb:aX st.bx d' i' with
   | none=>exact this
   | some cs =>
    simp only
    cases hb':st.bx with
    | nil=>exact absurd hb' this
    | cons f r=>cases d'<;>simp [bZ]
 simp only [Eff.app,h.up]
 rcases h.nw with hc | ⟨⟨i',cs⟩,hc⟩
 ·rw [hc,nH];exact hp
 ·have:=hne (by rw [hc];simp)
  rw [hc]
  cases hb':cN st.bx e.cw with
  | nil=>exact absurd hb' this
  | cons f r =>
   rw [hb'] at hp
   simp only [rV,aBG,List.singleton_append]
   cases d with
   | zero =>
    rw [bD] at hp ⊢
    simp only [look]
    by_cases e:i'=id
    ·simp [e]
    ·have:¬ id=i':=fun x=>e x.symm
     simp [e,this,hp]
   | succ d =>
    rw [dR] at hp ⊢
    simp [hp]
theorem aFB:∀ (bx:List aV) (d id:Nat) (cs:List PV),(bZ bx d id cs).length=bx.length
 | [],_,_,_=>rfl
 | _::_,0,_,_=>rfl
 | _::r,d+1,id,cs=>by simp [bZ,aFB r]
theorem sB:∀ (l:List (Nat×Nat×Nat×List PV)) (bx:List aV),(cN bx l).length=bx.length
 | [],_=>rfl
 | (d,id,o,vs)::l,bx=>by
  simp only [cN]
  split
  ·rw [sB,aFB]
  ·exact sB l bx
theorem aT2 (bx:List aV) (nw:List (Nat×List PV)) (h:nw≠[]→bx≠[]):(rV bx nw).length=bx.length:=by
 cases nw with
 | nil=>rw [nH]
 | cons x l =>
  cases bx with
  | nil=>exact absurd rfl (h (by simp))
  | cons b r=>rfl
theorem Eff.len_app {e:Eff} (h:Shp e) (st:St) (hn:NeOk e st):(e.app st).bx.length=st.bx.length:=by
 simp only [Eff.app,h.up]
 rw [aT2,sB]
 intro hx hy
 have:=sB e.cw st.bx
 rw [hy] at this
 exact hn.ne hx (List.length_eq_zero_iff.1 this.symm)
theorem Eff.fr_app (e:Eff) (st:St) (i:Nat):gets (e.app st).fr i=match look e.ws i with | some v=>v | none=>gets st.fr i:=by
 simp only [Eff.app];exact aXR _ _ _
theorem Eqv.app {s t:St} (h:Eqv s t) {e:Eff} (hs:Shp e) (hn:NeOk e s):Eqv (e.app s) (e.app t):=by
 have hn':NeOk e t:=fun hx=>by rw [← h.len];exact hn hx
 refine ⟨fun i=>by rw [Eff.fr_app,Eff.fr_app,h.fr i],fun d id => ?_,?_⟩
 ·rw [Eff.bx_app hs s hn,Eff.bx_app hs t hn',h.bx]
 ·rw [Eff.len_app hs s hn,Eff.len_app hs t hn',h.len]
section
variable {P : Program} {mt : Hints} {nt : Nat} {O : Orc}
structure EffOk (mt:Hints) (st:St) (o:Oper) (e:Eff):Prop where
 shp:Shp e
 ws:∀ x∈e.ws,x.1∈aGU mt o
 nw:∀ x∈e.nw,o.dst=some x.1∧aX st.bx 0 x.1=none∧st.bx≠[]
theorem yZ {d:Option Nat} {v:PV}:∀ x∈dstW nt d v,d=some x.1:=by
 intro x hx
 unfold dstW at hx
 split at hx
 ·split at hx
  ·simp at hx;simp [hx]
  ·simp at hx
 ·simp at hx
theorem uC {fr:List (Nat×PV)} {tk:Bool} {y:Operand}:∀ x∈left fr tk y,tk=true∧y = .tmp x.1:=by
 intro x hx
 unfold left at hx
 split at hx
 ·split at hx
  ·simp at hx;simp [hx]
  ·simp at hx
 ·simp at hx
theorem fN {o:Oper} {i:Nat} (h:o.dst=some i):i∈aGU mt o:=by simp [aGU,h]
theorem cB {st:St} {o:Oper} {e:Eff} {v:PV} {cr:List (Nat×Nat×Nat×Nat)} (h:({cr:=cr,ws:=dstW nt o.dst v}:Eff)=e):EffOk mt st o e:=by
 subst h
 exact ⟨⟨rfl,.inl rfl,.inl rfl⟩,fun x hx=>fN (yZ x hx),by simp⟩
theorem aA3 {st:St} {o:Oper} {e:Eff} {v:PV} {tk:Bool} {y:Operand} (hy:∀ t,tk=true→y = .tmp t→t∈eH mt o) (h:({ws:=dstW nt o.dst v++left st.fr tk y}:Eff)=e):EffOk mt st o e:=by
 subst h
 refine ⟨⟨rfl,.inl rfl,.inl rfl⟩,?_,by simp⟩
 intro x hx
 rcases List.mem_append.1 hx with hx | hx
 ·exact fN (yZ x hx)
 ·obtain ⟨h1,h2⟩:=uC x hx
  exact List.mem_append.2 (.inr (hy _ h1 h2))
theorem aMT {st:St} {o:Oper} {e:Eff} {n:Nat} {ag:Bool} {v:PV} {lv:List (Nat×PV)} (hl:∀ x∈lv,x.1∈eH mt o) (h:newBox nt o n ag v lv st some=some e):EffOk mt st o e:=by
 unfold newBox at h
 split at h
 ·rename_i id hid
  obtain ⟨hd,hlt,b0,r,hb,hl0⟩:=lB hid
  obtain ⟨cs,hcs,h⟩:=aB h
  rcases aZ h with ⟨_,h⟩ | ⟨_,h⟩
  ·cases h
   refine ⟨⟨rfl,.inl rfl,.inr ⟨_,rfl⟩⟩,?_,?_⟩
   ·intro x hx
    rcases List.mem_cons.1 hx with rfl | hx
    ·exact fN hd
    ·exact List.mem_append.2 (.inr (hl x hx))
   ·intro x hx
    simp at hx;subst hx
    exact ⟨hd,by rw [hb,bD];exact hl0,by rw [hb];simp⟩
  ·simp at h
 ·simp at h
theorem aHa {st:St} {o:Oper} {e:Eff} {sz:Nat} {E:List PV} {lv:List (Nat×PV)} (hl:∀ x∈lv,x.1∈eH mt o) (h:lZ nt o sz E lv st some=some e):EffOk mt st o e:=by
 unfold lZ at h
 split at h
 ·rename_i id hid
  obtain ⟨hd,hlt,b0,r,hb,hl0⟩:=lB hid
  cases h
  refine ⟨⟨rfl,.inl rfl,.inr ⟨_,rfl⟩⟩,?_,?_⟩
  ·intro x hx
   rcases List.mem_cons.1 hx with rfl | hx
   ·exact fN hd
   ·exact List.mem_append.2 (.inr (hl x hx))
  ·intro x hx
   simp at hx;subst hx
   exact ⟨hd,by rw [hb,bD];exact hl0,by rw [hb];simp⟩
 ·simp at h
theorem qV {place:Nat→Option (Nat×Nat×Bool)} {R:Type} (K:List PV→Option R):∀ (l:List (Nat×PV)) (cs:List PV),aB6 place l cs K=bnd (aB6 place l cs some) K
 | [],cs=>rfl
 | (i,v)::l,cs=>by
  simp only [aB6]
  split
  ·rename_i off size ag hp
   cases hc:lY size ag v with
   | none=>rfl
   | some vs =>
    simp only [bnd]
    split
    ·rw [qV K l];rfl
    ·rfl
  ·rfl
theorem aDz {sz:Nat} {R:Type} (K:List PV→Option R):∀ (l:List (Nat×PV)) (es:List PV),xY sz l es K=bnd (xY sz l es some) K
 | [],es=>rfl
 | (i,v)::l,es=>by
  simp only [xY]
  cases hc:el sz v with
  | none=>rfl
  | some vs =>
   simp only [bnd]
   split
   ·rw [aDz K l];rfl
   ·rfl
theorem aVX {o:Oper} {st:St} {e:Eff} (h:aS P mt nt O o st some=some e) (hu:e.up=none):EffOk mt st o e:=by
 unfold aS at h
 dsimp only at h
 split at h
 ·rename_i x ho
  refine aA3 ?_ (Option.some.inj h)
  intro t ht hx;simp [eH,ho,ht,hx]
 ·rename_i x ho
  refine aA3 ?_ (Option.some.inj h)
  intro t ht hx;simp [eH,ho,ht,hx]
 ·obtain ⟨t,ht,h⟩:=aB h
  rcases aZ h with ⟨_,h⟩ | ⟨_,h⟩<;>exact cB (Option.some.inj h)
 ·split at h
  ·exact aMT (by simp) h
  ·simp at h
 ·rename_i t x ho
  split at h
  ·refine aMT ?_ h
   intro y hy;obtain ⟨_,h2⟩:=uC y hy;simp [eH,ho,h2]
  ·simp at h
 ·split at h
  ·split at h
   ·rw [qV] at h
    obtain ⟨cs,_,h⟩:=aB h
    exact cB (Option.some.inj h)
   ·simp at h
  ·split at h
   ·rw [qV] at h
    obtain ⟨cs,_,h⟩:=aB h
    exact cB (Option.some.inj h)
   ·simp at h
  ·simp at h
 ·split at h
  ·split at h
   ·split at h
    ·obtain ⟨z,_,h⟩:=aB h
     rw [aDz] at h
     obtain ⟨cs,_,h⟩:=aB h
     exact cB (Option.some.inj h)
    ·simp at h
   ·simp at h
  ·simp at h
 ·-- load
  split at h
  ·split at h
   ·split at h
    ·obtain ⟨cs,_,h⟩:=aB h
     split at h
     ·obtain ⟨v,_,h⟩:=aB h
      exact cB (Option.some.inj h)
     ·obtain ⟨v,_,h⟩:=aB h
      split at h
      ·cases h
       exact ⟨⟨rfl,.inr ⟨_,rfl⟩,.inl rfl⟩,fun x hx=>fN (yZ x hx),by simp⟩
      ·exact cB (Option.some.inj h)
    ·simp at h
   ·obtain ⟨v,_,h⟩:=aB h
    exact cB (Option.some.inj h)
   ·simp at h
  ·simp at h
 ·-- store
  rename_i t p x ho
  split at h
  ·split at h
   ·obtain ⟨cs,_,h⟩:=aB h
    obtain ⟨v,_,h⟩:=aB h
    split at h
    ·split at h
     ·obtain ⟨E',_,h⟩:=aB h
      cases h
      refine ⟨⟨rfl,.inr ⟨_,rfl⟩,.inl rfl⟩,?_,by simp⟩
      intro y hy;obtain ⟨_,h2⟩:=uC y (show y∈left st.fr true x from hy)
      exact List.mem_append.2 (.inr (by simp [eH,ho,h2]))
     ·simp at h
    rcases aZ h with ⟨_,h⟩ | ⟨_,h⟩
    ·split at h
     ·cases h
      refine ⟨⟨rfl,.inr ⟨_,rfl⟩,.inl rfl⟩,?_,by simp⟩
      intro y hy;obtain ⟨_,h2⟩:=uC y (show y∈left st.fr true x from hy)
      exact List.mem_append.2 (.inr (by simp [eH,ho,h2]))
     ·simp at h
    ·simp at h
   ·simp at h
  ·simp at h
 ·split at h<;>first | exact cB (Option.some.inj h) | simp at h
 ·-- binOp
  unfold qR at h
  dsimp only at h
  split at h<;>(try split at h)<;>(try split at h)<;>first
   | (obtain ⟨r,_,h⟩:=aB h;exact cB (Option.some.inj h))
   | (simp at h;done)
 ·obtain ⟨r,_,h⟩:=aB h;exact cB (Option.some.inj h)
 ·unfold aDn at h
  dsimp only at h
  split at h<;>(try split at h)<;>first
   | (obtain ⟨r,_,h⟩:=aB h;exact cB (Option.some.inj h))
   | (simp at h;done)
 ·split at h
  ·split at h
   ·split at h
    ·split at h
     ·obtain ⟨r,_,h⟩:=aB h
      exact aHa (by simp) h
     ·split at h
      ·obtain ⟨r,_,h⟩:=aB h;exact cB (Option.some.inj h)
      ·simp at h
    ·simp at h
   ·simp at h
  ·simp at h
 ·exact cB (Option.some.inj h)
 ·unfold qQ at h
  dsimp only at h
  split at h<;>(try split at h)<;>(try split at h)<;>first
   | (obtain ⟨r,_,h⟩:=aB h;exact cB (Option.some.inj h))
   | (simp at h;done)
 ·split at h
  ·split at h
   ·split at h
    ·obtain ⟨r,_,h⟩:=aB h;exact cB (Option.some.inj h)
    ·simp at h
   ·simp at h
  ·simp at h
 ·split at h
  ·split at h
   ·obtain ⟨r,_,h⟩:=aB h;exact cB (Option.some.inj h)
   ·simp at h
  ·simp at h
 ·split at h
  ·split at h
   ·obtain ⟨r,_,h⟩:=aB h;exact cB (Option.some.inj h)
   ·simp at h
  ·split at h
   ·split at h
    ·obtain ⟨r,_,h⟩:=aB h;exact cB (Option.some.inj h)
    ·simp at h
   ·simp at h
  ·simp at h
 ·split at h
  ·obtain ⟨r,_,h⟩:=aB h;exact cB (Option.some.inj h)
  ·split at h
   ·obtain ⟨r,_,h⟩:=aB h;exact cB (Option.some.inj h)
   ·simp at h
  ·simp at h
 ·obtain ⟨r,_,h⟩:=aB h;exact cB (Option.some.inj h)
 ·-- call
  rename_i c ho
  unfold gI at h
  dsimp only at h
  split at h
  ·rename_i f hc
   split at h
   ·split at h
    ·simp at h
    ·rcases aZ h with ⟨_,h⟩ | ⟨_,h⟩
     ·obtain ⟨r,_,h⟩:=aB h
      cases h
      simp at hu
     ·simp at h
    ·have hlv:∀ x∈c.args.toList.flatMap (left st.fr (hasO mt.takes o.dst)),x.1∈eH mt o:=by
      intro x hx
      obtain ⟨y,hy,hx⟩:=List.mem_flatMap.1 hx
      obtain ⟨h1,h2⟩:=uC x hx
      subst h2
      simp only [eH,ho,hc,h1,if_true]
      exact List.mem_filterMap.2 ⟨_,hy,rfl⟩
     have hws:∀ (v:PV),∀ x∈dstW nt o.dst v++c.args.toList.flatMap (left st.fr (hasO mt.takes o.dst)),x.1∈aGU mt o:=by
      intro v x hx
      rcases List.mem_append.1 hx with hx | hx
      ·exact fN (yZ x hx)
      ·exact List.mem_append.2 (.inr (hlv x hx))
     split at h
     ·rcases aZ h with ⟨_,h⟩ | ⟨_,h⟩
      ·unfold aT at h
       rcases aZ h with ⟨_,h⟩ | ⟨_,h⟩
       ·obtain ⟨r,_,h⟩:=aB h
        split at h
        ·rcases aZ h with ⟨_,h⟩ | ⟨_,h⟩
         ·cases h
          exact ⟨⟨rfl,.inl rfl,.inl rfl⟩,hws _,by simp⟩
         ·simp at h
        ·simp at h
       ·simp at h
      ·simp at h
     ·simp at h
     ·unfold aT at h
      rcases aZ h with ⟨_,h⟩ | ⟨_,h⟩
      ·obtain ⟨r,_,h⟩:=aB h
       split at h
       ·obtain ⟨E,_,h⟩:=aB h
        exact aHa hlv h
       ·simp at h
      ·simp at h
     ·unfold aT at h
      rcases aZ h with ⟨_,h⟩ | ⟨_,h⟩
      ·obtain ⟨r,_,h⟩:=aB h
       split at h
       ·cases h
        exact ⟨⟨rfl,.inl rfl,.inl rfl⟩,hws _,by simp⟩
       ·simp at h
      ·simp at h
   ·simp at h
  ·split at h
   ·split at h<;>first
     | (obtain ⟨r,_,h⟩:=aB h;exact cB (Option.some.inj h))
     | (simp at h;done)
   ·simp at h
  ·rename_i hc
   split at h
   ·rename_i x y t u hargs htys
    have hy:∀ t',true=true→x = .tmp t'→t'∈eH mt o:=by
     intro t' _ hx;simp [eH,ho,hc,hargs,hx]
    split at h
    ·split at h
     ·split at h
      ·split at h
       ·obtain ⟨r,_,h⟩:=aB h
        exact aHa (fun z hz=>by obtain ⟨_,h2⟩:=uC z hz;exact hy _ rfl h2) h
       ·obtain ⟨r,_,h⟩:=aB h;exact aA3 hy (Option.some.inj h)
      ·simp at h
     ·simp at h
    ·split at h
     ·split at h
      ·obtain ⟨r,_,h⟩:=aB h;exact aA3 hy (Option.some.inj h)
      ·simp at h
     ·simp at h
    ·simp at h
   ·simp at h
  ·split at h
   ·obtain ⟨r,_,h⟩:=aB h;exact cB (Option.some.inj h)
   ·simp at h
  ·split at h
   ·obtain ⟨r,_,h⟩:=aB h;exact cB (Option.some.inj h)
   ·simp at h
  ·simp at h
 ·simp at h
end
def AgrO (lo n:Nat):Option (List PV)→Option (List PV)→Prop
 | some a,some b=>a.length=b.length∧∀ k,lo≤k→k<lo+n→a[k]?=b[k]?
 | none,none=>True
 | _,_=>False
theorem AgrO.refl {lo n:Nat} (a:Option (List PV)):AgrO lo n a a:=by cases a<;>simp [AgrO]
theorem AgrO.symm {lo n:Nat} {a b:Option (List PV)} (h:AgrO lo n a b):AgrO lo n b a:=by
 cases a<;>cases b<;>simp only [AgrO] at h ⊢
 exact ⟨h.1.symm,fun k h1 h2=>(h.2 k h1 h2).symm⟩
def mF (x:Nat×Nat×Nat×Nat) (s t:List aV):Prop:=AgrO x.2.2.1 x.2.2.2 (aX s x.1 x.2.1) (aX t x.1 x.2.1)
structure Agr (R:List Nat) (F:Foot) (s t:St):Prop where
 fr:∀ i∈R,gets s.fr i=gets t.fr i
 acc:∀ x∈F.rd++F.wr,mF x s.bx t.bx
 nw:∀ i∈F.nw,(aX s.bx 0 i=none↔aX t.bx 0 i=none)
 len:s.bx.length=t.bx.length
theorem mF.some {x:Nat×Nat×Nat×Nat} {s t:List aV} {a:List PV} (h:mF x s t) (ha:aX s x.1 x.2.1 = .some a) :
  ∃ b,aX t x.1 x.2.1 = .some b∧a.length=b.length∧∀ k,x.2.2.1≤k→k<x.2.2.1+x.2.2.2→a[k]?=b[k]?:=by
 unfold mF at h
 rw [ha] at h
 cases hb:aX t x.1 x.2.1 with
 | none=>rw [hb] at h;simp [AgrO] at h
 | some b=>rw [hb] at h;exact ⟨b,rfl,h⟩
theorem aT3 {off n:Nat} {ag:Bool} {a b:List PV} {v:PV} (hl:a.length=b.length) (hk:∀ k,off≤k→k<off+n→a[k]?=b[k]?) (hn:0<n) (h:part off n ag a=some v):part off n ag b=some v:=by
 unfold part at h ⊢
 cases ag with
 | true =>
  simp only at h ⊢
  rw [← hl]
  split at h
  ·rename_i hle
   rw [if_pos hle]
   rw [← h]
   congr 2
   apply List.ext_getElem?
   intro j
   rw [List.getElem?_take,List.getElem?_take]
   split
   ·rw [List.getElem?_drop,List.getElem?_drop,hk (off+j) (by omega) (by omega)]
   ·rfl
  ·simp at h
 | false =>
  simp only [jT] at h ⊢
  rw [← hk off (by omega) (by omega)];exact h
section
variable {P : Program} {mt : Hints} {nt : Nat} {O : Orc}
def aDA (fr fr':List (Nat×PV)) (x:Operand):Prop:=opd fr x=opd fr' x∧∀ tk,opv fr tk x=opv fr' tk x∧left fr tk x=left fr' tk x
theorem bBF {fr fr':List (Nat×PV)} {x:Operand} (h:∀ t,x = .tmp t→gets fr t=gets fr' t):aDA fr fr' x:=by
 cases x with
 | tmp t =>
  have:=h t rfl
  refine ⟨this,fun tk => ?_⟩
  cases tk<;>simp [opv,left,this]
 | const v=>exact ⟨rfl,fun tk=>⟨rfl,rfl⟩⟩
 | global g=>exact ⟨rfl,fun tk=>⟨rfl,rfl⟩⟩
 | func f=>exact ⟨rfl,fun tk=>⟨rfl,rfl⟩⟩
theorem aVY {o:Oper} {fr fr':List (Nat×PV)} {bx:List aV} (h:∀ x∈o.op.operands.toList,aDA fr fr' x) :
  aS P mt nt O o ⟨fr,bx⟩ some=aS P mt nt O o ⟨fr',bx⟩ some:=by
 have mapv:∀ (l:List Operand) (tk:Bool),(∀ x∈l,aDA fr fr' x)→l.map (opv fr tk)=l.map (opv fr' tk):=by
  intro l tk hl;exact List.map_congr_left fun x hx=>((hl x hx).2 tk).1
 have mapp:∀ (l:List (Nat×Operand)) (tk:Bool),(∀ x∈l.map (·.2),aDA fr fr' x)→l.map (fun p=>(p.1,opv fr tk p.2))=l.map (fun p=>(p.1,opv fr' tk p.2)):=by
  intro l tk hl;exact List.map_congr_left fun p hp=>by rw [((hl p.2 (List.mem_map.2 ⟨p,hp,rfl⟩)).2 tk).1]
 have mapl:∀ (l:List Operand) (tk:Bool),(∀ x∈l,aDA fr fr' x)→l.flatMap (left fr tk)=l.flatMap (left fr' tk):=by
  intro l tk
  induction l with
  | nil=>intro _;rfl
  | cons x l ih=>intro hl;simp only [List.flatMap_cons];rw [((hl x (by simp)).2 tk).2,ih fun y hy=>hl y (by simp [hy])]
 cases ho:o.op with
 | move x =>
  have hx:=h x (by simp [ho,Op.operands])
  simp only [aS,ho,(hx.2 _).1,(hx.2 _).2]
 | assign x =>
  have hx:=h x (by simp [ho,Op.operands])
  simp only [aS,ho,(hx.2 _).1,(hx.2 _).2]
 | pick c a b =>
  have h1:=h c (by simp [ho,Op.operands])
  have h2:=h a (by simp [ho,Op.operands])
  have h3:=h b (by simp [ho,Op.operands])
  simp only [aS,ho,h1.1,(h2.2 _).1,(h3.2 _).1]
 | alloc t=>simp only [aS,ho,newBox,kI]
 | box t x =>
  have hx:=h x (by simp [ho,Op.operands])
  simp only [aS,ho,newBox,kI,(hx.2 _).1,(hx.2 _).2]
 | build t ps =>
  have hp:=mapp ps.toList false (fun x hx=>h x (by simpa [ho,Op.operands] using hx))
  simp only [aS,ho,hp]
 | buildSlice t n ps =>
  have hp:=mapp ps.toList false (fun x hx=>h x (by simpa [ho,Op.operands] using hx))
  simp only [aS,ho,hp]
 | load t p =>
  have hx:=h p (by simp [ho,Op.operands])
  simp only [aS,ho,hx.1]
 | store t p x =>
  have h1:=h p (by simp [ho,Op.operands])
  have h2:=h x (by simp [ho,Op.operands])
  simp only [aS,ho,h1.1,(h2.2 _).1,(h2.2 _).2]
 | nilCheck x =>
  have hx:=h x (by simp [ho,Op.operands])
  simp only [aS,ho,hx.1]
 | binOp op t x y u =>
  have h1:=h x (by simp [ho,Op.operands])
  have h2:=h y (by simp [ho,Op.operands])
  simp only [aS,ho,h1.1,h2.1]
 | unOp op u x =>
  have hx:=h x (by simp [ho,Op.operands])
  simp only [aS,ho,hx.1]
 | convert s d x =>
  have hx:=h x (by simp [ho,Op.operands])
  simp only [aS,ho,hx.1]
 | makeSlice t l c =>
  have h1:=h l (by simp [ho,Op.operands])
  have h2:=h c (by simp [ho,Op.operands])
  simp only [aS,ho,h1.1,h2.1,lZ,kI]
 | makeFunc fn first caps =>
  have e1:first.toList.map (fun x=>(opd fr x).plain)=first.toList.map (fun x=>(opd fr' x).plain):=List.map_congr_left fun x hx=>by rw [(h x (by simp [ho,Op.operands];left;simpa using hx)).1]
  have e2:caps.toList.map (fun x=>(opd fr x).plain)=caps.toList.map (fun x=>(opd fr' x).plain):=List.map_congr_left fun x hx=>by rw [(h x (by simp [ho,Op.operands];right;simpa using hx)).1]
  simp only [aS,ho,e1,e2]
 | slice t x l hh m =>
  have hx:=h x (by simp [ho,Op.operands])
  have hl:∀ y,l=some y→opd fr y=opd fr' y:=fun y hy=>(h y (by simp [ho,Op.operands,hy])).1
  have hhh:∀ y,hh=some y→opd fr y=opd fr' y:=fun y hy=>(h y (by simp [ho,Op.operands,hy])).1
  simp only [aS,ho,qQ,hx.1]
  cases l<;>cases hh<;>cases m<;>(try have e1:=hl _ rfl)<;>(try have e2:=hhh _ rfl)<;>(try simp only [e1])<;>(try simp only [e2])<;>(try rfl)<;>(repeat' split)<;>first | rfl | (exfalso;simp_all;done)
 | fieldAddr s x f =>
  have hx:=h x (by simp [ho,Op.operands])
  simp only [aS,ho,hx.1]
 | field s x f =>
  have hx:=h x (by simp [ho,Op.operands])
  simp only [aS,ho,hx.1]
 | indexAddr t x i =>
  have h1:=h x (by simp [ho,Op.operands])
  have h2:=h i (by simp [ho,Op.operands])
  simp only [aS,ho,h1.1,h2.1]
 | index t x i =>
  have h1:=h x (by simp [ho,Op.operands])
  have h2:=h i (by simp [ho,Op.operands])
  simp only [aS,ho,h1.1,h2.1]
 | extract x i =>
  have hx:=h x (by simp [ho,Op.operands])
  simp only [aS,ho,hx.1]
 | call c =>
  have hargs:∀ x∈c.args.toList,aDA fr fr' x:=fun x hx=>h x (by simp [ho,Op.operands,Call.operands];right;simpa using hx)
  have hv:=fun tk=>mapv c.args.toList tk hargs
  have hl:=fun tk=>mapl c.args.toList tk hargs
  simp only [aS,ho,gI]
  cases hc:c.callee with
  | value f =>
   have hf:=h f (by simp [ho,Op.operands,Call.operands,hc])
   simp only [hf.1,hv,hl,lZ,kI]
  | invoke r n=>rfl
  | builtin b =>
   have two:∀ {x y:Operand},c.args.toList=[x,y]→aDA fr fr' x∧aDA fr fr' y:=fun hxy=>⟨hargs _ (by rw [hxy];simp),hargs _ (by rw [hxy];simp)⟩
   have one:∀ {x:Operand},c.args.toList=[x]→aDA fr fr' x:=fun hxy=>hargs _ (by rw [hxy];simp)
   cases b with
   | len =>
    simp only
    split
    ·rename_i hxy hty
     have h1:=one hxy
     rw [h1.1]
    ·rfl
   | append =>
    simp only
    split
    ·rename_i hxy hty
     obtain ⟨h1,h2⟩:=two hxy
     rw [h1.1,h2.1,(h1.2 _).2]
     simp only [lZ,kI]
    ·rfl
   | min =>
    simp only
    split
    ·rename_i hxy
     obtain ⟨h1,h2⟩:=two hxy
     rw [h1.1,h2.1]
    ·rfl
   | max =>
    simp only
    split
    ·rename_i hxy
     obtain ⟨h1,h2⟩:=two hxy
     rw [h1.1,h2.1]
    ·rfl
   | _=>rfl
 | _=>simp only [aS,ho]
theorem aMU {o:Oper} {n:Nat} {ag:Bool} {v:PV} {lv:List (Nat×PV)} {fr:List (Nat×PV)} {bx bx':List aV} {e:Eff} (h:newBox nt o n ag v lv ⟨fr,bx⟩ some=some e)
  (hl:bx.length=bx'.length) (hn:∀ i∈e.foot.nw,(aX bx 0 i=none↔aX bx' 0 i=none)):newBox nt o n ag v lv ⟨fr,bx'⟩ some=some e:=by
 unfold newBox at h ⊢
 split at h
 ·rename_i id hid
  obtain ⟨hd,hlt,b0,r,hb,hl0⟩:=lB hid
  simp only at hb
  obtain ⟨cs,hcs,h⟩:=aB h
  rcases aZ h with ⟨hf,h⟩ | ⟨_,h⟩
  ·cases h
   have hn0:=(hn id (by simp [Eff.foot])).1 (by rw [hb,bD];exact hl0)
   cases hbx':bx' with
   | nil=>rw [hb,hbx'] at hl;simp at hl
   | cons b1 r1 =>
    rw [hbx',bD] at hn0
    have:kI nt ⟨fr,b1::r1⟩ o.dst=some id:=by simp [kI,hd,hn0,hlt]
    rw [this]
    simp only [hcs,bnd,hf,cnd]
  ·simp at h
 ·simp at h
theorem aHb {o:Oper} {sz:Nat} {E:List PV} {lv:List (Nat×PV)} {fr:List (Nat×PV)} {bx bx':List aV} {e:Eff} (h:lZ nt o sz E lv ⟨fr,bx⟩ some=some e)
  (hl:bx.length=bx'.length) (hn:∀ i∈e.foot.nw,(aX bx 0 i=none↔aX bx' 0 i=none)):lZ nt o sz E lv ⟨fr,bx'⟩ some=some e:=by
 unfold lZ at h ⊢
 split at h
 ·rename_i id hid
  obtain ⟨hd,hlt,b0,r,hb,hl0⟩:=lB hid
  simp only at hb
  cases h
  have hn0:=(hn id (by simp [Eff.foot])).1 (by rw [hb,bD];exact hl0)
  cases hbx':bx' with
  | nil=>rw [hb,hbx'] at hl;simp at hl
  | cons b1 r1 =>
   rw [hbx',bD] at hn0
   have:kI nt ⟨fr,b1::r1⟩ o.dst=some id:=by simp [kI,hd,hn0,hlt]
   rw [this]
 ·simp at h
theorem bAC {off n:Nat} {ag:Bool} {cs:List PV} {v:PV} (hn:0<n) (h:part off n ag cs=some v):off<cs.length:=by
 unfold part at h
 split at h
 ·split at h
  ·omega
  ·simp at h
 ·rw [jT] at h;exact (List.getElem?_eq_some_iff.1 h).1
theorem aPR (d:Nat) (vs:List PV):(oN d vs).length=vs.length:=by
 cases d<;>simp [oN]
theorem aPS {d id sz:Nat} {E:List PV} {bx bx':List aV} (hb:aX bx d id=some [.vec sz E]) (k:mF (d,id,0,1) bx bx'):aX bx' d id=some [.vec sz E]:=by
 obtain ⟨b,hb',hlen,hc⟩:=k.some hb
 simp only at hb' hlen hc
 rw [hb']
 match b,hlen with
 | [x],_ =>
  have:=hc 0 (by omega) (by omega)
  simp at this
  rw [this]
theorem aPT {n:Nat} {ag:Bool} {p:PV} {cs:List PV} (h:lY n ag p=some cs):cs.length=n:=by
 unfold lY at h
 split at h<;>(try split at h)<;>simp at h<;>subst h<;>simp_all
theorem aVZ {bx bx':List aV}:∀ {l:List PV},l.all (aIF bx)=true→(∀ x∈rdV l,mF x bx bx')→l.all (aIF bx')=true∧l.map (brwV bx')=l.map (brwV bx)
 | [],_,_=>⟨rfl,rfl⟩
 | v::l,h,ha=>by
  simp only [List.all_cons,Bool.and_eq_true] at h
  have key:aIF bx' v=true∧brwV bx' v=brwV bx v∧∀ x∈rdV l,x∈rdV (v::l):=by
   have h1:=h.1
   unfold aIF at h1
   split at h1
   ·rename_i id n sz
    split at h1
    ·rename_i sz' E hb
     have hb':=aPS hb (ha _ (by simp [rdV]))
     refine ⟨by simp only [aIF,hb'];exact h1,by simp only [brwV,hb,hb'],fun x hx=>by simp [rdV,hx]⟩
    ·simp at h1
   ·rename_i hv
    refine ⟨?_,?_,fun x hx => ?_⟩
    ·unfold aIF;split
     ·exact absurd rfl (hv _ _ _)
     ·rfl
    ·unfold brwV;split
     ·exact absurd rfl (hv _ _ _)
     ·rfl
    ·unfold rdV;split
     ·rename_i heq;cases heq
     ·rename_i heq;cases heq;exact absurd rfl (hv _ _ _)
     ·rename_i heq;cases heq;exact hx
  obtain ⟨i1,i2⟩:=aVZ h.2 fun x hx=>ha x (key.2.2 x hx)
  exact ⟨by simp only [List.all_cons,Bool.and_eq_true];exact ⟨key.1,i1⟩,by simp only [List.map_cons,key.2.1,i2]⟩
theorem aV0 {o:Oper} {fr:List (Nat×PV)} {bx bx':List aV} {e:Eff} (h:aS P mt nt O o ⟨fr,bx⟩ some=some e) (hu:e.up=none)
  (hl:bx.length=bx'.length) (hn:∀ i∈e.foot.nw,(aX bx 0 i=none↔aX bx' 0 i=none)) (ha:∀ x∈e.foot.rd++e.foot.wr,mF x bx bx') :
  aS P mt nt O o ⟨fr,bx'⟩ some=some e:=by
 cases ho:o.op with
 | alloc t =>
  simp only [aS,ho] at h ⊢
  split at h
  ·rename_i n ag z h1 h2 h3
   exact aMU h hl hn
  ·simp at h
 | box t x =>
  simp only [aS,ho] at h ⊢
  split at h
  ·rename_i n ag h1 h2
   exact aMU h hl hn
  ·simp at h
 | load t p =>
  simp only [aS,ho] at h ⊢
  split at h
  ·rename_i n ag h1 h2
   split at h
   ·rename_i d id off hp
    split at h
    ·rename_i hc
     obtain ⟨cs,hcs,h⟩:=aB h
     split at h
     ·rename_i sz E
      obtain ⟨v,hv,h⟩:=aB h
      have key:mF (d,id,0,1) bx bx':=by
       cases h;exact ha _ (by simp [Eff.foot])
      rw [if_pos hc,aPS hcs key]
      simp only [bnd,hv]
      exact h
     ·rename_i _ hnv
      obtain ⟨v,hv,h⟩:=aB h
      have key:mF (d,id,off,n) bx bx':=by
       split at h
       ·cases h;exact ha _ (by simp [Eff.foot])
       ·cases h;exact ha _ (by simp [Eff.foot])
      obtain ⟨b,hb,hlen,hcells⟩:=key.some hcs
      simp only at hb hlen hcells
      have hle:off<cs.length:=bAC hc.1 hv
      have hv':=aT3 hlen hcells hc.1 hv
      rw [if_pos hc,hb]
      simp only [bnd]
      split
      ·rename_i sz' E'
       have h0:=hcells off (by omega) (by omega)
       have:cs.length=1:=by simpa using hlen
       match cs,this with
       | [x],_ =>
        have:off=0:=by simp at hle;exact hle
        subst this
        simp at h0
        exact absurd (by rw [h0]) (hnv sz' E')
      ·simp only [hv']
       exact h
    ·simp at h
   ·rename_i v hp
    exact h
   ·simp at h
  ·simp at h
 | store t p x =>
  simp only [aS,ho] at h ⊢
  split at h
  ·rename_i n ag h1 h2
   split at h
   ·rename_i d id off hp hd
    obtain ⟨cs,hcs,h⟩:=aB h
    obtain ⟨vs,hvs,h⟩:=aB h
    split at h
    ·rename_i sz E
     split at h
     ·rename_i hn0
      obtain ⟨E',hE',h⟩:=aB h
      have key:mF (d,id,0,1) bx bx':=by
       cases h;exact ha _ (by simp [Eff.foot])
      rw [aPS hcs key]
      simp only [bnd,hvs,if_pos hn0,hE']
      exact h
     ·simp at h
    rename_i _ hnv
    rcases aZ h with ⟨hf,h⟩ | ⟨_,h⟩
    ·split at h
     ·rename_i hc
      have hll:(oN d vs).length=n:=by rw [aPR,aPT hvs]
      have key:mF (d,id,off,(oN d vs).length) bx bx':=by
       cases h;exact ha _ (by simp [Eff.foot])
      obtain ⟨b,hb,hlen,hcells⟩:=key.some hcs
      simp only at hb hlen hcells
      rw [hb]
      simp only [bnd,hvs]
      split
      ·rename_i sz' E'
       have h0:=hcells off (by omega) (by omega)
       have h1:cs.length=1:=by simpa using hlen
       match cs,h1 with
       | [x],_ =>
        have:off=0:=by simp at hc;omega
        subst this
        simp at h0
        exact absurd (by rw [h0]) (hnv sz' E')
      simp only [hf,cnd]
      rw [if_pos (by rw [← hlen];exact hc)]
      exact h
     ·simp at h
    ·simp at h
   ·simp at h
  ·simp at h
 | makeSlice t l c =>
  simp only [aS,ho] at h ⊢
  split at h
  ·split at h
   ·split at h
    ·rename_i hcond
     rw [if_pos hcond]
     split at h
     ·obtain ⟨E,hE,h⟩:=aB h
      simp only [hE,bnd]
      exact aHb h hl hn
     ·exact h
    ·simp at h
   ·simp at h
  ·simp at h
 | call c =>
  simp only [aS,ho,gI] at h ⊢
  cases hc:c.callee with
  | value f =>
   simp only [hc] at h ⊢
   split at h
   ·rename_i g first caps hf
    split at h
    ·simp at h
    ·rcases aZ h with ⟨_,h⟩ | ⟨_,h⟩
     ·obtain ⟨r,_,h⟩:=aB h
      cases h
      simp at hu
     ·simp at h
    ·split at h
     ·rcases aZ h with ⟨hok,h⟩ | ⟨_,h⟩
      ·have hx:∀ x∈rdV (first++c.args.toList.map (opv fr (hasO mt.takes o.dst))++caps),mF x bx bx':=by
        unfold aT at h
        rcases aZ h with ⟨hfr,h⟩ | ⟨_,h⟩
        ·obtain ⟨r,hr,h⟩:=aB h
         split at h
         ·rcases aZ h with ⟨hsc,h⟩ | ⟨_,h⟩
          ·cases h
           exact fun x hx=>ha x (by simp only [Eff.foot];exact List.mem_append.2 (.inl hx))
          ·simp at h
         ·simp at h
        ·simp at h
       obtain ⟨k1,k2⟩:=aVZ hok hx
       rw [k1,k2]
       exact h
      ·simp at h
     ·exact h
     ·unfold aT at h ⊢
      rcases aZ h with ⟨hfr,h⟩ | ⟨_,h⟩
      ·obtain ⟨r,hr,h⟩:=aB h
       split at h
       ·rename_i hr2
        obtain ⟨E,hE,h⟩:=aB h
        simp only [hfr,cnd,hr,bnd,hr2,hE]
        exact aHb h hl hn
       ·simp at h
      ·simp at h
     ·exact h
   ·simp at h
  | invoke r n=>simp only [hc] at h ⊢;exact h
  | builtin b =>
   cases b with
   | append =>
    simp only [hc] at h ⊢
    split at h
    ·split at h
     ·split at h
      ·split at h
       ·rename_i hcond
        rw [if_pos hcond]
        split at h
        ·obtain ⟨E,hE,h⟩:=aB h
         simp only [hE,bnd]
         exact aHb h hl hn
        ·exact h
       ·simp at h
      ·simp at h
     ·exact h
     ·simp at h
    ·simp at h
   | _=>simp only [hc] at h ⊢ <;> exact h
 | _=>simp only [aS,ho] at h ⊢ <;> exact h
theorem aFC {o:Oper} {s t:St} {R:List Nat} {e:Eff} (hR:∀ x∈o.op.operands.toList,∀ i,x = .tmp i→i∈R) (h:aS P mt nt O o s some=some e) (hu:e.up=none) (ha:Agr R e.foot s t) :
  aS P mt nt O o t some=some e:=by
 obtain ⟨fr,bx⟩:=s
 obtain ⟨fr',bx'⟩:=t
 rw [aVY (fr:=fr) (fr':=fr') (fun x hx=>bBF fun i hi=>ha.fr i (hR x hx i hi))] at h
 exact aV0 h hu ha.len ha.nw ha.acc
def sC (ops:Array Oper):Nat→Oper→List (Nat×PV)→Option Bool
 | 0,_,_=>none
 | n+1,o,fr =>
  match o.guard with
  | none=>some true
  | some (g,want) =>
   match ops[g]? with
   | some q =>
    match q.dst with
    | some s =>
     match sC ops n q fr with
     | some true=>bnd (xR (gets fr s)) fun b=>some (b==want)
     | some false=>match gets fr s with
      | .und=>some false
      | _=>none
     | none=>none
    | none=>none
   | none=>none
theorem zD {ops:Array Oper}:∀ (n:Nat) (o:Oper) (fr fr':List (Nat×PV)),(∀ i∈aA0 ops n o,gets fr i=gets fr' i)→sC ops n o fr=sC ops n o fr'
 | 0,_,_,_,_=>rfl
 | n+1,o,fr,fr',h=>by
  simp only [sC]
  simp only [aA0] at h
  cases hg:o.guard with
  | none=>rfl
  | some gw =>
   obtain ⟨g,want⟩:=gw
   rw [hg] at h
   simp only at h ⊢
   cases hq:ops[g]? with
   | none=>rfl
   | some q =>
    rw [hq] at h
    simp only at h ⊢
    cases hs:q.dst with
    | none=>rfl
    | some s =>
     rw [hs] at h
     simp only [Option.toList] at h ⊢
     rw [zD n q fr fr' (fun i hi=>h i (by simp [hi])),h s (by simp)]
theorem aA4 {ops:Array Oper} {R:Type}:∀ (n:Nat) (o:Oper) (st:St) (K:Bool→St→Option R) (r:R),iT ops n o st K=some r →
  ∃ b fr',sC ops n o st.fr=some b∧(∀ i,gets fr' i=gets st.fr i)∧K b {st with fr:=fr'}=some r
 | 0,_,_,_,_,h=>by simp [iT] at h
 | n+1,o,st,K,r,h=>by
  simp only [iT] at h
  simp only [sC]
  cases hg:o.guard with
  | none=>rw [hg] at h;exact ⟨true,st.fr,rfl,fun _=>rfl,h⟩
  | some gw =>
   obtain ⟨g,want⟩:=gw
   rw [hg] at h
   simp only at h ⊢
   cases hq:ops[g]? with
   | none=>rw [hq] at h;simp at h
   | some q =>
    rw [hq] at h
    simp only at h ⊢
    cases hs:q.dst with
    | none=>rw [hs] at h;simp at h
    | some s =>
     rw [hs] at h
     simp only at h ⊢
     obtain ⟨b,fr',hb,hfr,h⟩:=aA4 n q st _ r h
     rw [hb]
     cases b with
     | true =>
      simp only at h ⊢
      unfold brB at h
      obtain ⟨b,hbo,h⟩:=aB h
      rw [hfr s] at hbo
      rw [hbo]
      have hgs:gets st.fr s = .bool b:=by
       unfold xR at hbo
       split at hbo
       ·rename_i b' he;cases hbo;exact he
       ·simp at hbo
      refine ⟨b==want,(s,.bool b)::fr',rfl,?_,?_⟩
      ·intro i;rw [dM];split
       ·rename_i e;subst e;exact hgs.symm
       ·exact hfr i
      ·rcases aZ h with ⟨rfl,h⟩ | ⟨rfl,h⟩<;>exact h
     | false =>
      simp only at h ⊢
      rw [hfr s] at h
      split at h
      ·rename_i he;exact ⟨false,fr',by rw [he],hfr,h⟩
      ·simp at h
end
theorem qK {α:Type}:∀ (vs:List α) (l:List α) (i j:Nat),(putAt l i vs)[j]?=if i≤j∧j<i+vs.length∧j<l.length then vs[j-i]? else l[j]?
 | [],l,i,j=>by simp [putAt];intro h1 h2;omega
 | v::vs,l,i,j=>by
  simp only [putAt]
  rw [qK vs _ (i+1) j]
  simp only [fY,List.length_set,List.length_cons]
  by_cases h1:i+1≤j∧j<i+1+vs.length∧j<l.length
  ·rw [if_pos h1,if_pos (by omega)]
   have:j-i=(j-(i+1))+1:=by omega
   rw [this];simp
  ·rw [if_neg h1]
   by_cases h2:j=i
   ·subst h2
    by_cases h3:j<l.length
    ·rw [if_pos (by omega)];simp [h3]
    ·rw [if_neg (by omega)];simp [h3]
   ·rw [if_neg (by omega),List.getElem?_set_ne (by omega)]
theorem aT4 {α:Type} (l vs us:List α) (i j:Nat) (h:i+vs.length≤j∨j+us.length≤i∨vs=[]∨us=[]):putAt (putAt l i vs) j us=putAt (putAt l j us) i vs:=by
 rcases h with h | h | h | h
 ·apply List.ext_getElem?
  intro k
  simp only [qK,dL]
  split<;>split<;>first | rfl | (exfalso;omega)
 ·apply List.ext_getElem?
  intro k
  simp only [qK,dL]
  split<;>split<;>first | rfl | (exfalso;omega)
 ·subst h;rfl
 ·subst h;rfl
theorem aPU {l:List Nat} {i:Nat}:has l i=true↔i∈l:=by simp [has]
theorem aSj {a b:List Nat}:disj a b=true↔∀ x∈a,x∉b:=by
 simp only [disj,List.all_eq_true,Bool.not_eq_true']
 constructor
 ·intro h x hx hb;have:=h x hx;rw [aPU.2 hb] at this;simp at this
 ·intro h x hx
  cases hh:has b x with
  | false=>rfl
  | true=>exact absurd (aPU.1 hh) (h x hx)
def Apt (a b:Nat×Nat×Nat×Nat):Prop:=¬ (a.1=b.1∧a.2.1=b.2.1∧a.2.2.1<b.2.2.1+b.2.2.2∧b.2.2.1<a.2.2.1+a.2.2.2)
structure ApF (a b:Foot):Prop where
 ww:∀ x∈a.wr,∀ y∈b.wr,Apt x y
 wr:∀ x∈a.wr,∀ y∈b.rd,Apt x y
 rw:∀ x∈a.rd,∀ y∈b.wr,Apt x y
 nn:∀ i∈a.nw,i∉b.nw
 na:∀ i∈a.nw,∀ y∈b.rd++b.wr,¬ (y.1=0∧y.2.1=i)
 an:∀ i∈b.nw,∀ y∈a.rd++a.wr,¬ (y.1=0∧y.2.1=i)
theorem Apt.symm {a b:Nat×Nat×Nat×Nat} (h:Apt a b):Apt b a:=fun ⟨h1,h2,h3,h4⟩=>h ⟨h1.symm,h2.symm,h4,h3⟩
theorem ApF.symm {a b:Foot} (h:ApF a b):ApF b a :=
 ⟨fun x hx y hy=>(h.ww y hy x hx).symm,fun x hx y hy=>(h.rw y hy x hx).symm,fun x hx y hy=>(h.wr y hy x hx).symm,fun i hi hj=>h.nn i hj hi,h.an,h.na⟩
theorem aEy {a b:List (Nat×Nat×Nat×Nat)} (h:aMu a b=true):∀ x∈a,∀ y∈b,Apt x y:=by
 simp only [aMu,List.all_eq_true,Bool.not_eq_true'] at h
 intro x hx y hy hm
 have:=h x hx y hy
 simp [bBC,hm.1,hm.2.1,hm.2.2.1,hm.2.2.2] at this
theorem aEz {a:List Nat} {b:Foot} (h:aR9 a b=true):(∀ i∈a,i∉b.nw)∧∀ i∈a,∀ y∈b.rd++b.wr,¬ (y.1=0∧y.2.1=i):=by
 simp only [aR9,List.all_eq_true,Bool.and_eq_true,Bool.not_eq_true'] at h
 constructor
 ·intro i hi hb;have:=(h i hi).1.1;rw [aPU.2 hb] at this;simp at this
 ·intro i hi y hy hm
  rcases List.mem_append.1 hy with hy | hy
  ·have:=(h i hi).1.2 y hy;simp [hm.1,hm.2] at this
  ·have:=(h i hi).2 y hy;simp [hm.1,hm.2] at this
theorem aT5 {a b:Foot} (h:aJG a b=true):ApF a b:=by
 simp only [aJG,Bool.and_eq_true] at h
 obtain ⟨⟨⟨⟨h1,h2⟩,h3⟩,h4⟩,h5⟩:=h
 exact ⟨aEy h1,aEy h2,aEy h3,(aEz h4).1,(aEz h4).2,(aEz h5).2⟩
theorem aPV (a:Foot):ApF a ⟨[],[],[]⟩:=⟨by simp,by simp,by simp,by simp,by simp,by simp⟩
structure Ind (e1 e2:Eff):Prop where
 ws:∀ x∈e1.ws,∀ y∈e2.ws,x.1≠y.1
 ft:ApF e1.foot e2.foot
theorem Ind.symm {a b:Eff} (h:Ind a b):Ind b a:=⟨fun x hx y hy e=>h.ws y hy x hx e.symm,h.ft.symm⟩
theorem aT6 {a b:Eff} (ha:Shp a) (hb:Shp b) (h:Ind a b) (d id:Nat) (x:Option (List PV)):qU a.cw d id (qU b.cw d id x)=qU b.cw d id (qU a.cw d id x):=by
 rcases ha.cw with h1 | ⟨c1,h1⟩
 ·rw [h1];rfl
 ·rcases hb.cw with h2 | ⟨c2,h2⟩
  ·rw [h2];rfl
  ·have:=h.ft.ww (c1.1,c1.2.1,c1.2.2.1,c1.2.2.2.length) (by simp [Eff.foot,h1]) (c2.1,c2.2.1,c2.2.2.1,c2.2.2.2.length) (by simp [Eff.foot,h2])
   rw [h1,h2]
   simp only [qU]
   split
   ·rename_i e1
    split
    ·rename_i e2
     cases x with
     | none=>rfl
     | some cs =>
      simp only [Option.map_some,Option.some.injEq]
      apply aT4
      simp only [Apt] at this
      by_cases z1:c1.2.2.2=[]
      ·right;right;right;exact z1
      ·by_cases z2:c2.2.2.2=[]
       ·right;right;left;exact z2
       ·have:¬ (c1.2.2.1<c2.2.2.1+c2.2.2.2.length∧c2.2.2.1<c1.2.2.1+c1.2.2.2.length):=fun hh=>this ⟨e1.1.symm.trans e2.1,e1.2.symm.trans e2.2,hh.1,hh.2⟩
        omega
    ·rfl
   ·rfl
theorem aHc {a b:Eff} (ha:Shp a) (hb:Shp b) (h:Ind a b) (d id:Nat) (x:Option (List PV)):qU a.cw d id (aBG b.nw d id x)=aBG b.nw d id (qU a.cw d id x):=by
 rcases ha.cw with h1 | ⟨c1,h1⟩
 ·rw [h1];rfl
 ·rcases hb.nw with h2 | ⟨c2,h2⟩
  ·rw [h2];rfl
  ·have:=h.ft.an c2.1 (by simp [Eff.foot,h2]) (c1.1,c1.2.1,c1.2.2.1,c1.2.2.2.length) (by simp [Eff.foot,h1])
   rw [h1,h2]
   simp only [qU,aBG]
   split
   ·rename_i e1
    split
    ·rename_i e2;exact absurd ⟨e1.1.symm.trans e2.1,e1.2.symm.trans e2.2⟩ this
    ·rfl
   ·rfl
theorem aT7 {a b:Eff} (ha:Shp a) (hb:Shp b) (h:Ind a b) (d id:Nat) (x:Option (List PV)):aBG a.nw d id (aBG b.nw d id x)=aBG b.nw d id (aBG a.nw d id x):=by
 rcases ha.nw with h1 | ⟨c1,h1⟩
 ·rw [h1];rfl
 ·rcases hb.nw with h2 | ⟨c2,h2⟩
  ·rw [h2];rfl
  ·have:=h.ft.nn c1.1 (by simp [Eff.foot,h1])
   rw [h1,h2]
   simp only [aBG]
   split
   ·rename_i e1
    split
    ·rename_i e2;exfalso;apply this;simp [Eff.foot,h2];rw [← e1.2,← e2.2]
    ·rfl
   ·rfl
theorem NeOk.app {e f:Eff} {s:St} (h:NeOk e s) (hf:Shp f) (hn:NeOk f s):NeOk e (f.app s):=fun hx=>by rw [Eff.len_app hf s hn];exact h hx
theorem aX3 {a b:Eff} {s:St} (ha:Shp a) (hb:Shp b) (na:NeOk a s) (nb:NeOk b s) (h:Ind a b):Eqv (a.app (b.app s)) (b.app (a.app s)):=by
 refine ⟨fun i => ?_,fun d id => ?_,?_⟩
 ·simp only [Eff.fr_app]
  cases h1:look a.ws i with
  | none=>rfl
  | some v =>
   cases h2:look b.ws i with
   | none=>rfl
   | some u=>exact absurd rfl (h.ws (i,v) (kC h1) (i,u) (kC h2))
 ·rw [Eff.bx_app ha _ (na.app hb nb),Eff.bx_app hb _ nb,Eff.bx_app hb _ (nb.app ha na),Eff.bx_app ha _ na,
   aHc ha hb h,aT6 ha hb h,aT7 ha hb h,aHc hb ha h.symm]
 ·rw [Eff.len_app ha _ (na.app hb nb),Eff.len_app hb _ nb,Eff.len_app hb _ (nb.app ha na),Eff.len_app ha _ na]
theorem Agr.of_eqv {s t:St} (h:Eqv s t) (R:List Nat) (F:Foot):Agr R F s t:=by
 refine ⟨fun i _=>h.fr i,fun x _ => ?_,fun i _=>by rw [h.bx],h.len⟩
 unfold mF
 rw [h.bx]
 exact AgrO.refl _
theorem mF.symm {x:Nat×Nat×Nat×Nat} {s t:List aV} (h:mF x s t):mF x t s:=AgrO.symm h
theorem Agr.symm {R:List Nat} {F:Foot} {s t:St} (h:Agr R F s t):Agr R F t s :=
 ⟨fun i hi=>(h.fr i hi).symm,fun x hx=>(h.acc x hx).symm,fun i hi=>(h.nw i hi).symm,h.len.symm⟩
theorem Agr.eqv_right {R:List Nat} {F:Foot} {s t u:St} (h:Agr R F s t) (he:Eqv t u):Agr R F s u:=by
 refine ⟨fun i hi=>(h.fr i hi).trans (he.fr i),fun x hx => ?_,fun i hi=>by rw [← he.bx];exact h.nw i hi,h.len.trans he.len⟩
 have:=h.acc x hx
 unfold mF at *
 rw [← he.bx];exact this
theorem Agr.both {R:List Nat} {F:Foot} {s t:St} (h:Agr R F s t) {e:Eff} (hs:Shp e) (ns:NeOk e s):Agr R F (e.app s) (e.app t):=by
 have nt':NeOk e t:=fun hx=>by rw [← h.len];exact ns hx
 refine ⟨fun i hi=>by rw [Eff.fr_app,Eff.fr_app,h.fr i hi],fun x hx => ?_,fun i hi => ?_,by rw [Eff.len_app hs s ns,Eff.len_app hs t nt',h.len]⟩
 ·have:=h.acc x hx
  unfold mF at *
  rw [Eff.bx_app hs s ns,Eff.bx_app hs t nt']
  have hp:AgrO x.2.2.1 x.2.2.2 (qU e.cw x.1 x.2.1 (aX s.bx x.1 x.2.1)) (qU e.cw x.1 x.2.1 (aX t.bx x.1 x.2.1)):=by
   rcases hs.cw with h1 | ⟨c1,h1⟩
   ·rw [h1];exact this
   ·rw [h1]
    simp only [qU]
    split
    ·cases ha:aX s.bx x.1 x.2.1<;>cases hb:aX t.bx x.1 x.2.1<;>rw [ha,hb] at this
     ·trivial
     ·exact this
     ·exact this
     ·simp only [Option.map_some,AgrO] at this ⊢
      refine ⟨by rw [dL,dL,this.1],fun k h1 h2 => ?_⟩
      rw [qK,qK,this.1,this.2 k h1 h2]
    ·exact this
  rcases hs.nw with h1 | ⟨c1,h1⟩
  ·rw [h1];exact hp
  ·rw [h1]
   simp only [aBG]
   split
   ·exact AgrO.refl _
   ·exact hp
 ·have:=h.nw i hi
  rw [Eff.bx_app hs s ns,Eff.bx_app hs t nt']
  have hp:qU e.cw 0 i (aX s.bx 0 i)=none↔qU e.cw 0 i (aX t.bx 0 i)=none:=by
   rcases hs.cw with h1 | ⟨c1,h1⟩
   ·rw [h1];exact this
   ·rw [h1];simp only [qU];split
    ·simp [this]
    ·exact this
  rcases hs.nw with h1 | ⟨c1,h1⟩
  ·rw [h1];exact hp
  ·rw [h1];simp only [aBG];split
   ·simp
   ·exact hp
theorem Agr.right {R:List Nat} {F:Foot} {s t:St} (h:Agr R F s t) {e:Eff} (hs:Shp e) (nt':NeOk e t) (hk:∀ x∈e.ws,x.1∉R) (hf:ApF e.foot F):Agr R F s (e.app t):=by
 refine ⟨fun i hi => ?_,fun x hx => ?_,fun i hi => ?_,by rw [Eff.len_app hs t nt',h.len]⟩
 ·rw [Eff.fr_app,h.fr i hi]
  cases hl:look e.ws i with
  | none=>rfl
  | some v=>exact absurd hi (hk _ (kC hl))
 ·have:=h.acc x hx
  have hapt:∀ c,e.cw=[c]→Apt (c.1,c.2.1,c.2.2.1,c.2.2.2.length) x:=by
   intro c hc
   have hm:(c.1,c.2.1,c.2.2.1,c.2.2.2.length)∈e.foot.wr:=by simp [Eff.foot,hc]
   rcases List.mem_append.1 hx with hx | hx
   ·exact hf.wr _ hm _ hx
   ·exact hf.ww _ hm _ hx
  have hfr:aBG e.nw x.1 x.2.1 (qU e.cw x.1 x.2.1 (aX t.bx x.1 x.2.1))=qU e.cw x.1 x.2.1 (aX t.bx x.1 x.2.1):=by
   rcases hs.nw with h1 | ⟨c1,h1⟩
   ·rw [h1];rfl
   ·have:=hf.na c1.1 (by simp [Eff.foot,h1]) x hx
    rw [h1];simp only [aBG];rw [if_neg this]
  unfold mF at *
  rw [Eff.bx_app hs t nt',hfr]
  rcases hs.cw with h1 | ⟨c1,h1⟩
  ·rw [h1];exact this
  ·have ha:=hapt c1 h1
   rw [h1];simp only [qU];split
   ·rename_i e1
    cases hs':aX s.bx x.1 x.2.1<;>cases ht:aX t.bx x.1 x.2.1<;>rw [hs',ht] at this
    ·trivial
    ·exact this
    ·exact this
    ·simp only [Option.map_some,AgrO] at this ⊢
     refine ⟨by rw [dL,this.1],fun k h1 h2 => ?_⟩
     rw [qK,if_neg,this.2 k h1 h2]
     intro hk
     simp only [Apt] at ha
     exact ha ⟨e1.1.symm,e1.2.symm,by omega,by omega⟩
   ·exact this
 ·have:=h.nw i hi
  rw [Eff.bx_app hs t nt']
  rw [this]
  have hfr:aBG e.nw 0 i (qU e.cw 0 i (aX t.bx 0 i))=qU e.cw 0 i (aX t.bx 0 i):=by
   rcases hs.nw with h1 | ⟨c1,h1⟩
   ·rw [h1];rfl
   ·have:=hf.nn c1.1 (by simp [Eff.foot,h1])
    rw [h1];simp only [aBG];rw [if_neg]
    rintro ⟨_,e1⟩;exact this (by rw [← e1];exact hi)
  rw [hfr]
  rcases hs.cw with h1 | ⟨c1,h1⟩
  ·rw [h1];rfl
  ·rw [h1];simp only [qU];split
   ·simp
   ·rfl
section
variable {P : Program} {mt : Hints} {nt : Nat} {O : Orc}
def undE (nt:Nat) (o:Oper):Eff:={ws:=dstW nt o.dst .und}
structure Stp (P:Program) (mt:Hints) (nt:Nat) (O:Orc) (ops:Array Oper) (o:Oper) (s:St) (b:Bool) (e:Eff):Prop where
 g:sC ops (ops.size+1) o s.fr=some b
 t:b=true→aS P mt nt O o s some=some e∧e.up=none
 f:b=false→e=undE nt o
theorem bAD {st:St} {o:Oper}:EffOk mt st o (undE nt o) :=
 ⟨⟨rfl,.inl rfl,.inl rfl⟩,fun x hx=>fN (yZ x hx),by simp [undE]⟩
theorem Stp.ok {ops:Array Oper} {o:Oper} {s:St} {b:Bool} {e:Eff} (h:Stp P mt nt O ops o s b e):EffOk mt s o e:=by
 cases b with
 | true=>exact aVX (h.t rfl).1 (h.t rfl).2
 | false=>rw [h.f rfl];exact bAD
theorem EffOk.ne {s:St} {o:Oper} {e:Eff} (h:EffOk mt s o e):NeOk e s:=by
 intro hx
 cases hn:e.nw with
 | nil=>exact absurd hn hx
 | cons x l =>
  have:=(h.nw x (by rw [hn];simp)).2.2
  intro hl;exact this (List.length_eq_zero_iff.1 hl)
theorem aDB {ops:Array Oper} {o:Oper}:∀ x∈o.op.operands.toList,∀ i,x = .tmp i→i∈xS ops o:=by
 intro x hx i hi
 subst hi
 exact List.mem_append.2 (.inl (List.mem_filterMap.2 ⟨_,hx,rfl⟩))
theorem Stp.congr {ops:Array Oper} {o:Oper} {s t:St} {b:Bool} {e:Eff} (h:Stp P mt nt O ops o s b e) (ha:Agr (xS ops o) e.foot s t):Stp P mt nt O ops o t b e:=by
 refine ⟨?_,?_,h.f⟩
 ·rw [← h.g]
  exact (zD _ _ _ _ fun i hi=>ha.fr i (List.mem_append.2 (.inr hi))).symm
 ·intro hb
  exact ⟨aFC aDB (h.t hb).1 (h.t hb).2 ha,(h.t hb).2⟩
theorem bC {α β γ:Type} (x:Option α) (f:α→Option β) (g:β→Option γ):bnd (bnd x f) g=bnd x fun a=>bnd (f a) g:=by cases x<;>rfl
theorem nJ {β γ:Type} (c:Bool) (x y:Option β) (g:β→Option γ):bnd (cnd c x y) g=cnd c (bnd x g) (bnd y g):=by cases c<;>rfl
theorem aV1 {β γ:Type} (c:Prop) [Decidable c] (x y:Option β) (g:β→Option γ):bnd (if c then x else y) g=if c then bnd x g else bnd y g:=by split<;>rfl
theorem bK {α β:Type} (a:α) (g:α→Option β):bnd (some a) g=g a:=rfl
theorem mG {α β:Type} (g:α→Option β):bnd none g=none:=rfl
theorem aEA {R:Type} (o:Oper) (sz:Nat) (E:List PV) (lv:List (Nat×PV)) (st:St) (K:Eff→Option R):lZ nt o sz E lv st K=bnd (lZ nt o sz E lv st some) K:=by
 unfold lZ;split<;>rfl
theorem eZ {R : Type} (o : Oper) (st : St) (K : Eff → Option R) : aS P mt nt O o st K = bnd (aS P mt nt O o st some) K := by
  unfold aS
  dsimp only
  cases o.op <;> dsimp only <;> first
    | rfl
    | (simp only [bC, nJ, bK]; done)
    | skip
  case alloc t => 
    split
    · unfold newBox; split
      · simp only [bC, nJ, bK, mG]
      · rfl
    · rfl
  case box t x =>
    split
    · unfold newBox; split
      · simp only [bC, nJ, bK, mG]
      · rfl
    · rfl
  case build t ps =>
    split
    · split
      · rw [qV, qV (R := Eff), bC]; simp only [bK]
      · rfl
    · split
      · rw [qV, qV (R := Eff), bC]; simp only [bK]
      · rfl
    · rfl
  case buildSlice t n ps =>
    split
    · split
      · split
        · rw [bC]; congr 1; funext z; rw [aDz, aDz (R := Eff), bC]; simp only [bK]
        · rfl
      · rfl
    · rfl
  case load t p =>
    split
    · split
      · split
        · simp only [bC]; congr 1; funext cs
          split
          · simp only [bC, bK]
          · simp only [bC]; congr 1; funext v; split <;> rfl
        · rfl
      · simp only [bC, bK]
      · rfl
    · rfl
  case store t p x =>
    split
    · split
      · simp only [bC]; congr 1; funext cs; congr 1; funext vs
        split
        · simp only [bC, nJ, aV1, bK, mG]
        · simp only [bC, nJ, aV1, bK, mG]
      · rfl
    · rfl
  case nilCheck x => split <;> rfl
  case binOp op t x y u =>
    unfold qR; dsimp only
    split <;> (try split) <;> (try split) <;> first | rfl | simp only [bC, bK]
  case convert s d x =>
    unfold aDn; dsimp only
    split <;> (try split) <;> first | rfl | simp only [bC, bK]
  case makeSlice t l c =>
    split
    · split
      · split
        · split
          · simp only [bC]; congr 1; funext E; exact aEA _ _ _ _ _ _
          · split
            · simp only [bC, bK]
            · rfl
        · rfl
      · rfl
    · rfl
  case slice t x l h m =>
    unfold qQ; dsimp only
    split <;> (try split) <;> (try split) <;> first | rfl | simp only [bC, bK]
  case fieldAddr s x f =>
    split
    · split
      · split
        · simp only [bC, bK]
        · rfl
      · rfl
    · rfl
  case field s x f =>
    split
    · split
      · simp only [bC, bK]
      · rfl
    · rfl
  case indexAddr t x i =>
    split
    · split
      · simp only [bC, bK]
      · rfl
    · split
      · split
        · simp only [bC, bK]
        · rfl
      · rfl
    · rfl
  case index t x i =>
    split
    · simp only [bC, bK]
    · split
      · simp only [bC, bK]
      · rfl
    · rfl
  case call c =>
    unfold gI; dsimp only
    cases c.callee with
    | value f =>
      dsimp only
      split
      · split
        · rfl
        · simp only [nJ, bC, bK, mG]
        · split
          · unfold aT; simp only [nJ, bC, mG]; congr 1; congr 1; congr 1; funext r
            split
            · simp only [nJ, bC, bK, mG]
            · rfl
          · rfl
          · unfold aT; simp only [nJ, bC, mG]; congr 1; congr 1; funext r
            split
            · simp only [bC]; congr 1; funext E; exact aEA _ _ _ _ _ _
            · rfl
          · unfold aT; simp only [nJ, bC, mG]; congr 1; congr 1; funext r; split <;> rfl
      · rfl
    | invoke r n => rfl
    | builtin b =>
      cases b <;> dsimp only <;> first
        | rfl
        | (split
           · simp only [bC, bK]
           · rfl)
        | (split
           · split <;> first | rfl | simp only [bC, bK]
           · rfl)
        | (split
           · split <;> (try split) <;> (try split) <;> (try split) <;> first | rfl | (simp only [bC, bK]; done) | (simp only [bC]; congr 1; funext E; exact aEA _ _ _ _ _ _)
           · rfl)
abbrev fold (es:List (Bool×Eff)) (s:St):St:=es.foldl (fun s x=>x.2.app s) s
def logs:Nat→List (Bool×Eff)→List (Nat×Foot)
 | _,[]=>[]
 | i,(b,e)::es=>logs (i+1) es++(if b then [(i,e.foot)] else [])
theorem aSk {ops : Array Oper} {R : Type} : ∀ (os : List Oper) (i : Nat) (log : List (Nat × Foot)) (st s : St) (K : List (Nat × Foot) → St → Option R) (r : R),
    bW P mt nt O ops i os log st K = some r → Eqv st s →
    ∃ es : List (Bool × Eff), es.length ≤ os.length ∧ (∀ (k : Nat) (o : Oper), k < es.length → os[k]? = some o → ∃ x, es[k]? = some x ∧ Stp P mt nt O ops o (fold (es.take k) s) x.1 x.2) ∧
      ∃ st', Eqv st' (fold es s) ∧ (st.bx = s.bx → st'.bx = (fold es s).bx) ∧
        ((es.length = os.length ∧ K (logs i es ++ log) st' = some r) ∨
         ∃ (o : Oper) (e : Eff) (fr2 : List (Nat × PV)), os[es.length]? = some o ∧ aPw (Region.before ops) ops.size (i + es.length) = true ∧ sC ops (ops.size + 1) o st'.fr = some true ∧
           (∀ j, gets fr2 j = gets st'.fr j) ∧ aS P mt nt O o { st' with fr := fr2 } some = some e ∧
           bW P mt nt O ops (i + es.length + 1) (os.drop (es.length + 1)) (logs i es ++ log) (e.app { st' with fr := fr2 }) K = some r)
  | [], i, log, st, s, K, r, h, he => ⟨[], Nat.le_refl _, by simp, st, he, fun hb => hb, .inl ⟨rfl, h⟩⟩
  | o :: os, i, log, st, s, K, r, h, he => by
    simp only [bW] at h
    obtain ⟨b, fr', hg, hfr, h⟩ := aA4 _ _ _ _ _ h
    have he' : Eqv { st with fr := fr' } s := ⟨fun j => (hfr j).trans (he.fr j), he.bx, he.len⟩
    have hgs : sC ops (ops.size + 1) o s.fr = some b := by
      rw [← hg]; exact zD _ _ _ _ fun j _ => (he.fr j).symm
    have main : ∀ (e : Eff) (log' : List (Nat × Foot)), Stp P mt nt O ops o s b e → log' = (if b then [(i, e.foot)] else []) ++ log →
        bW P mt nt O ops (i + 1) os log' (e.app { st with fr := fr' }) K = some r →
        ∃ es : List (Bool × Eff), es.length ≤ (o :: os).length ∧ (∀ (k : Nat) (o' : Oper), k < es.length → (o :: os)[k]? = some o' → ∃ x, es[k]? = some x ∧ Stp P mt nt O ops o' (fold (es.take k) s) x.1 x.2) ∧
          ∃ st', Eqv st' (fold es s) ∧ (st.bx = s.bx → st'.bx = (fold es s).bx) ∧
            ((es.length = (o :: os).length ∧ K (logs i es ++ log) st' = some r) ∨
             ∃ (o2 : Oper) (e : Eff) (fr2 : List (Nat × PV)), (o :: os)[es.length]? = some o2 ∧ aPw (Region.before ops) ops.size (i + es.length) = true ∧ sC ops (ops.size + 1) o2 st'.fr = some true ∧
               (∀ j, gets fr2 j = gets st'.fr j) ∧ aS P mt nt O o2 { st' with fr := fr2 } some = some e ∧
               bW P mt nt O ops (i + es.length + 1) ((o :: os).drop (es.length + 1)) (logs i es ++ log) (e.app { st' with fr := fr2 }) K = some r) := by
      intro e log' hs hl h
      have hok : EffOk mt s o e := hs.ok
      have he2 : Eqv (e.app { st with fr := fr' }) (e.app s) := he'.app hok.shp (fun hx => by rw [he'.len]; exact hok.ne hx)
      obtain ⟨es, h1, h2, st', h3, h5, h4⟩ := aSk os (i + 1) log' _ _ K r h he2
      have hlogs : logs i ((b, e) :: es) ++ log = logs (i + 1) es ++ log' := by
        simp only [logs]; rw [List.append_assoc, ← hl]
      refine ⟨(b, e) :: es, by simpa using h1, ?_, st', h3, fun hb => h5 (by simp only [Eff.app, hb]), ?_⟩
      · intro k o' hk' hk
        cases k with
        | zero => simp at hk; subst hk; exact ⟨(b, e), rfl, hs⟩
        | succ k =>
          simp at hk
          obtain ⟨x, hx, hx2⟩ := h2 k o' (by simpa using hk') hk
          exact ⟨x, by simpa using hx, by simpa using hx2⟩
      · rw [hlogs]
        rcases h4 with ⟨h4, h6⟩ | ⟨o2, e2, fr2, k1, k2, k3, k4, k5, k6⟩
        · exact .inl ⟨by simp [h4], h6⟩
        · refine .inr ⟨o2, e2, fr2, by simpa using k1, ?_, k3, k4, k5, ?_⟩
          · rw [← k2]; congr 1; simp; omega
          · rw [← k6]
            have : i + ((b, e) :: es).length + 1 = i + 1 + es.length + 1 := by simp; omega
            rw [this]; rfl
    cases b with
    | true =>
      simp only at h
      rw [eZ] at h
      obtain ⟨e, hev, h⟩ := aB h
      cases hu : e.up with
      | some u =>
        rw [hu] at h
        simp only at h
        split at h
        · rename_i hp
          refine ⟨[], by simp, by simp, st, he, fun hb => hb, .inr ⟨o, e, fr', rfl, hp, hg, fun j => hfr j, hev, ?_⟩⟩
          exact h
        · simp at h
      | none =>
        have hev' : e.up = none := hu
        rw [hev'] at h
        simp only at h
        have hevs : aS P mt nt O o s some = some e := aFC (R := xS ops o) aDB hev hev' (Agr.of_eqv he' _ _)
        exact main e _ ⟨hgs, fun _ => ⟨hevs, hev'⟩, by simp⟩ rfl h
    | false =>
      simp only at h
      refine main (undE nt o) log ⟨hgs, by simp, fun _ => rfl⟩ rfl ?_
      have : (undE nt o).app { st with fr := fr' } = { st with fr := dstW nt o.dst .und ++ fr' } := xU _ _
      rw [this]; exact h
theorem aCc {bs:Array Nat}:∀ (l m:List (Nat×Foot)),nE bs (l++m)=true→nE bs m=true
 | [],m,h=>h
 | (j,f)::l,m,h=>by
  simp only [List.cons_append,nE,Bool.and_eq_true] at h
  exact aCc l m h.2
theorem aMV {bs:Array Nat}:∀ (es:List (Bool×Eff)) (i:Nat) (log:List (Nat×Foot)),nE bs (logs i es++log)=true →
  (∀ (k:Nat) (e:Eff),es[k]?=some (true,e)→∀ x∈log,oO bs x.1 (i+k)=true∨aJG x.2 e.foot=true) ∧
  ∀ (k k':Nat) (e e':Eff),k<k'→es[k]?=some (true,e)→es[k']?=some (true,e')→oO bs (i+k) (i+k')=true∨aJG e.foot e'.foot=true
 | [],i,log,_=>⟨by simp,by simp⟩
 | (b,e)::es,i,log,h=>by
  simp only [logs,List.append_assoc] at h
  obtain ⟨h1,h2⟩:=aMV es (i+1) _ h
  have h3:=aCc _ _ h
  constructor
  ·intro k e' hk x hx
   cases k with
   | zero =>
    simp at hk
    obtain ⟨rfl,rfl⟩:=hk
    simp only [if_true,List.singleton_append,nE,Bool.and_eq_true,List.all_eq_true,Bool.or_eq_true] at h3
    exact h3.1 x hx
   | succ k =>
    simp at hk
    have:=h1 k e' hk x (List.mem_append.2 (.inr hx))
    rw [show i+(k+1)=i+1+k by omega];exact this
  ·intro k k' e1 e2 hlt hk hk'
   cases k' with
   | zero=>omega
   | succ k' =>
    simp at hk'
    rw [show i+(k'+1)=i+1+k' by omega]
    cases k with
    | zero =>
     simp at hk
     obtain ⟨rfl,rfl⟩:=hk
     exact h1 k' e2 hk' (i,e.foot) (by simp)
    | succ k =>
     simp at hk
     rw [show i+(k+1)=i+1+k by omega]
     exact h2 k k' e1 e2 (by omega) hk hk'
def appL (E:Nat→Eff) (l:List Nat) (s:St):St:=l.foldl (fun s i=>(E i).app s) s
theorem kL (E:Nat→Eff) (l m:List Nat) (s:St):appL E (l++m) s=appL E m (appL E l s):=List.foldl_append
theorem aGA {E:Nat→Eff}:∀ (l:List Nat) (s:St),(∀ i∈l,Shp (E i)∧NeOk (E i) s)→(appL E l s).bx.length=s.bx.length
 | [],_,_=>rfl
 | i::l,s,h=>by
  have h0:=h i (by simp)
  have e1:=Eff.len_app h0.1 s h0.2
  show (appL E l ((E i).app s)).bx.length=_
  rw [aGA l _ fun j hj=>⟨(h j (by simp [hj])).1,(h j (by simp [hj])).2.app h0.1 h0.2⟩,e1]
theorem aSl {E:Nat→Eff}:∀ (l:List Nat) (s t:St),(∀ i∈l,Shp (E i)∧NeOk (E i) s)→Eqv s t→Eqv (appL E l s) (appL E l t)
 | [],_,_,_,h=>h
 | i::l,s,t,h,he=>by
  have h0:=h i (by simp)
  exact aSl l _ _ (fun j hj=>⟨(h j (by simp [hj])).1,(h j (by simp [hj])).2.app h0.1 h0.2⟩) (he.app h0.1 h0.2)
theorem aMW {E:Nat→Eff} {a:Eff} (ha:Shp a):∀ (l:List Nat) (s:St),NeOk a s→(∀ i∈l,Shp (E i)∧NeOk (E i) s)→(∀ i∈l,Ind a (E i))→Eqv (a.app (appL E l s)) (appL E l (a.app s))
 | [],_,_,_,_=>Eqv.refl _
 | i::l,s,na,h,hi=>by
  have h0:=h i (by simp)
  have hh:∀ j∈l,Shp (E j)∧NeOk (E j) ((E i).app s):=fun j hj=>⟨(h j (by simp [hj])).1,(h j (by simp [hj])).2.app h0.1 h0.2⟩
  have e1:=aMW ha l ((E i).app s) (na.app h0.1 h0.2) hh (fun j hj=>hi j (by simp [hj]))
  have e2:Eqv (a.app ((E i).app s)) ((E i).app (a.app s)):=aX3 ha h0.1 na h0.2 (hi i (by simp))
  refine e1.trans (aSl l _ _ (fun j hj=>⟨(hh j hj).1,(hh j hj).2.app ha (na.app h0.1 h0.2)⟩) e2)
theorem aKG {E:Nat→Eff} {R:List Nat} {F:Foot} (S:Nat→Bool):∀ (l:List Nat) (s t:St),Agr R F s t→(∀ i∈l,Shp (E i)∧NeOk (E i) s) →
  (∀ i∈l,S i=false→(∀ x∈(E i).ws,x.1∉R)∧ApF (E i).foot F)→Agr R F (appL E l s) (appL E (l.filter S) t)
 | [],_,_,h,_,_=>h
 | i::l,s,t,h,hs,hi=>by
  have h0:=hs i (by simp)
  have hh:∀ j∈l,Shp (E j)∧NeOk (E j) ((E i).app s):=fun j hj=>⟨(hs j (by simp [hj])).1,(hs j (by simp [hj])).2.app h0.1 h0.2⟩
  cases hS:S i with
  | true =>
   rw [List.filter_cons_of_pos hS]
   exact aKG S l _ _ (h.both h0.1 h0.2) hh (fun j hj=>hi j (by simp [hj]))
  | false =>
   rw [List.filter_cons_of_neg (by simp [hS])]
   obtain ⟨k1,k2⟩:=hi i (by simp) hS
   exact aKG S l _ _ ((h.symm.right h0.1 h0.2 k1 k2).symm) hh (fun j hj=>hi j (by simp [hj]))
theorem aMX {E:Nat→Eff} {R:List Nat} {F:Foot}:∀ (l:List Nat) (s t:St),Agr R F s t→(∀ i∈l,Shp (E i)∧NeOk (E i) t) →
  (∀ i∈l,(∀ x∈(E i).ws,x.1∉R)∧ApF (E i).foot F)→Agr R F s (appL E l t)
 | [],_,_,h,_,_=>h
 | i::l,s,t,h,hs,hi=>by
  have h0:=hs i (by simp)
  obtain ⟨k1,k2⟩:=hi i (by simp)
  exact aMX l _ _ (h.right h0.1 h0.2 k1 k2) (fun j hj=>⟨(hs j (by simp [hj])).1,(hs j (by simp [hj])).2.app h0.1 h0.2⟩) (fun j hj=>hi j (by simp [hj]))
theorem aPW {n i:Nat} (h:i<n):∃ rest,List.range n=List.range i++i::rest∧∀ k∈rest,i<k∧k<n:=by
 refine ⟨(List.range (n-i-1)).map (· + i+1),?_,?_⟩
 ·apply List.ext_getElem?
  intro j
  by_cases h1:j<i
  ·rw [List.getElem?_append_left (by simpa using h1)]
   rw [List.getElem?_range (by omega),List.getElem?_range h1]
  ·rw [List.getElem?_append_right (by simpa using h1)]
   simp only [List.length_range]
   by_cases h2:j=i
   ·subst h2;simp [h]
   ·obtain ⟨k,hk⟩:∃ k,j-i=k+1:=⟨j-i-1,by omega⟩
    rw [hk,List.getElem?_cons_succ,List.getElem?_map]
    by_cases h3:j<n
    ·rw [List.getElem?_range h3,List.getElem?_range (by omega)];simp;omega
    ·rw [List.getElem?_eq_none (by simpa using h3),List.getElem?_eq_none (by simp;omega)];rfl
 ·intro k hk
  obtain ⟨x,hx,rfl⟩:=List.mem_map.1 hk
  simp at hx;omega
end
def Rch (base:Base) (M:Mem) (B:BM) (st:St) (tm:Array Value) (w:World) (st':St) (tm':Array Value) (w':World):Prop :=
 tm'.size=tm.size∧∃ M' B',SR base M' B' st' tm' w'∧Evo w M (tot st.fr tm w B st.bx) B w' M' (tot st'.fr tm' w' B' st'.bx) B'
theorem Rch.refl {base:Base} {M:Mem} {B:BM} {st:St} {tm:Array Value} {w:World} (h:SR base M B st tm w):Rch base M B st tm w st tm w:=⟨rfl,M,B,h,Evo.refl _ _ _ _⟩
theorem Rch.trans {base:Base} {M:Mem} {B:BM} {st st' st'':St} {tm tm' tm'':Array Value} {w w' w'':World} (h:Rch base M B st tm w st' tm' w')
  (k:∀ M' B',SR base M' B' st' tm' w'→Rch base M' B' st' tm' w' st'' tm'' w''):Rch base M B st tm w st'' tm'' w'':=by
 obtain ⟨h1,M',B',h2,h3⟩:=h
 obtain ⟨k1,M2,B2,k2,k3⟩:=k M' B' h2
 exact ⟨k1.trans h1,M2,B2,k2,h3.trans k3⟩
theorem Rch.eqv {base:Base} {M:Mem} {B:BM} {st st' st'':St} {tm tm':Array Value} {w w':World} (h:Rch base M B st tm w st' tm' w') (he:Eqv st' st'') (hn:Nd st''.bx):Rch base M B st tm w st'' tm' w':=by
 obtain ⟨h1,M',B',h2,h3⟩:=h
 refine ⟨h1,M',B',h2.eqv he hn,?_⟩
 have:tot st''.fr tm' w' B' st''.bx=tot st'.fr tm' w' B' st'.bx:=funext fun b=>aPQ he h2.box.nodup hn b
 rw [this];exact h3
theorem Rch.of_eqv {base:Base} {M:Mem} {B:BM} {st st0 st':St} {tm tm':Array Value} {w w':World} (h:Rch base M B st0 tm w st' tm' w') (he:Eqv st st0) (hs:Nd st.bx) (hn:Nd st0.bx):Rch base M B st tm w st' tm' w':=by
 obtain ⟨h1,M',B',h2,h3⟩:=h
 have:tot st.fr tm w B st.bx=tot st0.fr tm w B st0.bx:=funext fun b=>(aPQ he hs hn b).symm
 exact ⟨h1,M',B',h2,by rw [this];exact h3⟩
section
variable {P : Program} {mt : Hints} {nt : Nat} {O : Orc} {ops : Array Oper} {bs : Array Nat} {s0 : St} {E : Nat → Eff} {W : Nat → Bool} {lo tp : Nat}
structure SlotsOk (mt:Hints) (ops:Array Oper) (bs:Array Nat) (j:Nat) (y:Oper):Prop where
 aft:∀ e∈y.after,Region.binds .any e=true→e.on<j
 grd:∀ g want,y.guard=some (g,want)→g<j∧oO bs g j=true
 cls:∀ i,i<j→oO bs i j=true→∃ e∈y.after,Region.binds .any e=true∧(e.on=i∨(i<e.on∧oO bs i e.on=true))
 apt:∀ i x,i<j→ops[i]?=some x→oO bs i j=true∨aVC mt ops x y=true
theorem qW (h:vH mt ops bs=true) {j:Nat} {y:Oper} (hj:ops[j]?=some y):SlotsOk mt ops bs j y:=by
 unfold vH at h
 rw [List.all_eq_true] at h
 have hlt:j<ops.size:=(Array.getElem?_eq_some_iff.1 hj).1
 have:=h j (List.mem_range.2 hlt)
 rw [hj] at this
 simp only [Bool.and_eq_true,List.all_eq_true,Array.all_eq_true'] at this
 obtain ⟨⟨h1,h2⟩,h3⟩:=this
 refine ⟨?_,?_,?_,?_⟩
 ·intro e he hb
  have:=h1 e he
  simp only [hb,Bool.not_true,Bool.false_or,decide_eq_true_eq] at this
  exact this
 ·intro g want hg
  rw [hg] at h2
  simp only [Bool.and_eq_true,decide_eq_true_eq] at h2
  exact h2
 ·intro i hi ha
  have:=h3 i (List.mem_range.2 hi)
  split at this
  ·simp at this
  ·rename_i x hx
   simp only [Bool.and_eq_true,Bool.or_eq_true,Bool.not_eq_true',ha] at this
   have:=this.1.resolve_left (by simp)
   rw [Array.any_eq_true'] at this
   obtain ⟨e,he,hb⟩:=this
   simp only [Bool.and_eq_true,Bool.or_eq_true,beq_iff_eq,decide_eq_true_eq] at hb
   exact ⟨e,he,hb.1,hb.2⟩
 ·intro i x hi hx
  have:=h3 i (List.mem_range.2 hi)
  rw [hx] at this
  simp only [Bool.and_eq_true,Bool.or_eq_true] at this
  exact this.2
structure Txt (P:Program) (mt:Hints) (nt:Nat) (O:Orc) (ops:Array Oper) (bs:Array Nat) (s0:St) (E:Nat→Eff) (W:Nat→Bool) (lo tp:Nat):Prop where
 stp:∀ (j:Nat) (o:Oper),lo≤j→j<tp→ops[j]?=some o→Stp P mt nt O ops o (appL E (List.range j) s0) (W j) (E j)
 out:∀ j,j<lo∨tp≤j→E j={}
 ft:∀ i j,lo≤i→i<j→j<tp→W i=true→W j=true→oO bs i j=true∨aJG (E i).foot (E j).foot=true
theorem aKH (s:St):({}:Eff).app s=s:=by
 show St.mk ([]++s.fr) (rV (cN s.bx []) [])=s
 rw [nH];rfl
theorem aX4:Shp {}:=⟨rfl,.inl rfl,.inl rfl⟩
theorem aV2 (s:St):NeOk {} s:=fun h=>absurd rfl h
theorem aX5 (e:Eff):Ind {} e:=⟨by simp,(aPV _).symm⟩
theorem Txt.all (h:Txt P mt nt O ops bs s0 E W lo tp):∀ (j:Nat),j≤ops.size→(∀ i,i<j→Shp (E i)∧NeOk (E i) s0)∧(appL E (List.range j) s0).bx.length=s0.bx.length∧(Nd s0.bx→Nd (appL E (List.range j) s0).bx)
 | 0,_=>⟨by simp,rfl,fun h=>h⟩
 | j+1,hj=>by
  obtain ⟨h1,h2,h3⟩:=h.all j (by omega)
  obtain ⟨o,ho⟩:∃ o,ops[j]?=some o:=⟨ops[j],Array.getElem?_eq_getElem (by omega)⟩
  by_cases hout:j<lo∨tp≤j
  ·have hE:=h.out j hout
   have hrs:List.range (j+1)=List.range j++[j]:=List.range_succ
   have happ:appL E (List.range (j+1)) s0=appL E (List.range j) s0:=by
    rw [hrs,kL]
    show (E j).app (appL E (List.range j) s0)=_
    rw [hE,aKH]
   rw [happ]
   refine ⟨fun i hi => ?_,h2,h3⟩
   by_cases e:i=j
   ·subst e;rw [hE];exact ⟨aX4,aV2 _⟩
   ·exact h1 i (by omega)
  have hok:=(h.stp j o (by omega) (by omega) ho).ok
  have hne:NeOk (E j) s0:=fun hx=>by rw [← h2];exact hok.ne hx
  have hrs:List.range (j+1)=List.range j++[j]:=List.range_succ
  have happ:appL E (List.range (j+1)) s0=(E j).app (appL E (List.range j) s0):=by rw [hrs,kL];rfl
  refine ⟨?_,?_,?_⟩
  ·intro i hi
   by_cases e:i=j
   ·subst e;exact ⟨hok.shp,hne⟩
   ·exact h1 i (by omega)
  ·rw [happ,Eff.len_app hok.shp _ hok.ne,h2]
  ·intro hn
   rw [happ]
   have hn':=h3 hn
   generalize appL E (List.range j) s0=T at *
   -- the keys
   have hp:Nd (cN T.bx (E j).cw):=by
    rcases hok.shp.cw with hc | ⟨⟨d,id,o',vs⟩,hc⟩
    ·rw [hc];exact hn'
    ·rw [hc];simp only [cN]
     split
     ·exact aBQ hn' d id _
     ·exact hn'
   have hlk:∀ x∈(E j).nw,aX (cN T.bx (E j).cw) 0 x.1=none:=by
    intro x hx
    have:=(hok.nw x hx).2.1
    rcases hok.shp.cw with hc | ⟨⟨d,id,o',vs⟩,hc⟩
    ·rw [hc];exact this
    ·rw [hc];simp only [cN]
     split
     ·rename_i cs hcs
      rw [yS _ _ _ _ _ _ _ hcs,if_neg]
      ·exact this
      ·rintro ⟨rfl,e2⟩;rw [e2] at this;rw [this] at hcs;simp at hcs
     ·exact this
   intro d f hf
   simp only [Eff.app,hok.shp.up] at hf
   rcases hok.shp.nw with hc | ⟨x,hc⟩
   ·rw [hc,nH] at hf;exact hp d f hf
   ·rw [hc] at hf hlk
    cases hb:cN T.bx (E j).cw with
    | nil=>rw [hb] at hf;simp [rV] at hf
    | cons b r =>
     rw [hb] at hf hlk
     simp only [rV,List.singleton_append] at hf
     cases d with
     | zero =>
      simp at hf;subst hf
      simp only [List.map_cons,List.nodup_cons]
      refine ⟨?_,hp 0 b (by rw [hb];rfl)⟩
      have:=hlk x (by simp)
      rw [bD] at this
      exact yN.1 this
     | succ d=>exact hp (d+1) f (by rw [hb];simpa using hf)
theorem Txt.apart (h:Txt P mt nt O ops bs s0 E W lo tp) (hs:vH mt ops bs=true) {i j:Nat} {x y:Oper} (li:lo≤i∧i<tp) (lj:lo≤j∧j<tp) (hi:ops[i]?=some x) (hj:ops[j]?=some y) (hne:i≠j)
  (h1:i<j→oO bs i j=false) (h2:j<i→oO bs j i=false):Ind (E i) (E j)∧(∀ z∈(E i).ws,z.1∉xS ops y)∧(∀ z∈(E j).ws,z.1∉xS ops x):=by
 have key:∀ {i j:Nat} {x y:Oper},lo≤i∧i<tp→lo≤j∧j<tp→ops[i]?=some x→ops[j]?=some y→i<j→oO bs i j=false→Ind (E i) (E j)∧(∀ z∈(E i).ws,z.1∉xS ops y)∧(∀ z∈(E j).ws,z.1∉xS ops x):=by
  intro i j x y li lj hi hj hlt ha
  have hok:=(h.stp i x li.1 li.2 hi).ok
  have hok':=(h.stp j y lj.1 lj.2 hj).ok
  have hap:=((qW hs hj).apt i x hlt hi).resolve_left (by simp [ha])
  simp only [aVC,Bool.and_eq_true] at hap
  have d1:=aSj.1 hap.1
  have d2:=aSj.1 hap.2
  have hjl:j<ops.size:=(Array.getElem?_eq_some_iff.1 hj).1
  refine ⟨⟨?_,?_⟩,?_,?_⟩
  ·intro a ha' b hb' e
   exact d1 _ (hok.ws a ha') (List.mem_append.2 (.inr (e ▸ hok'.ws b hb')))
  ·cases hw:W i with
   | false=>rw [(h.stp i x li.1 li.2 hi).f hw];exact (aPV _).symm
   | true =>
    cases hw':W j with
    | false=>rw [(h.stp j y lj.1 lj.2 hj).f hw'];exact aPV _
    | true=>exact aT5 ((h.ft i j li.1 hlt lj.2 hw hw').resolve_left (by simp [ha]))
  ·intro z hz hz';exact d1 _ (hok.ws z hz) (List.mem_append.2 (.inl hz'))
  ·intro z hz hz';exact d2 _ (hok'.ws z hz) hz'
 by_cases hlt:i<j
 ·exact key li lj hi hj hlt (h1 hlt)
 ·obtain ⟨k1,k2,k3⟩:=key lj li hj hi (by omega) (h2 (by omega))
  exact ⟨k1.symm,k3,k2⟩
theorem aHd {base:Base} {M:Mem} {B:BM} {s:St} {tm:Array Value} {w:World} (h:SR base M B s tm w):∀ (n:Nat) (o:Oper) (b:Bool),sC ops n o s.fr=some b→Region.wanted o (yielded ops tm)=b
 | 0,_,_,hg=>by simp [sC] at hg
 | n+1,o,b,hg=>by
  simp only [sC] at hg
  unfold Region.wanted
  cases hgd:o.guard with
  | none=>rw [hgd] at hg;simp at hg;simp [hg]
  | some gw =>
   obtain ⟨g,want⟩:=gw
   rw [hgd] at hg
   simp only at hg ⊢
   cases hq:ops[g]? with
   | none=>rw [hq] at hg;simp at hg
   | some q =>
    rw [hq] at hg
    simp only at hg
    cases hs:q.dst with
    | none=>rw [hs] at hg;simp at hg
    | some sl =>
     rw [hs] at hg
     simp only at hg
     have hrel:=h.slot sl
     have hy:∀ v,tm.getD sl undef=v→v≠undef→tm[sl]?=some v:=by
      intro v hv hne
      by_cases hlt:sl<tm.size
      ·rw [← hv];simp [Array.getD,hlt]
      ·exfalso;apply hne;rw [← hv];simp [Array.getD,hlt]
     cases hgq:sC ops n q s.fr with
     | none=>rw [hgq] at hg;simp at hg
     | some bq =>
      rw [hgq] at hg
      cases bq with
      | true =>
       simp only at hg
       obtain ⟨b',hb',hg⟩:=aB hg
       have hgs:gets s.fr sl = .bool b':=by
        unfold xR at hb'
        split at hb'
        ·rename_i b'' he;cases hb';exact he
        ·simp at hb'
       rw [hgs] at hrel
       have:=hy _ hrel.bool_inv (by simp [undef])
       cases hg
       simp [yielded,hq,hs,this]
      | false =>
       simp only at hg
       split at hg
       ·rename_i he
        cases hg
        rw [he] at hrel
        have hv:tm.getD sl undef=undef:=by
         generalize tm.getD sl undef=v at hrel
         cases hrel;rfl
        have:tm[sl]?=none∨tm[sl]?=some undef:=by
         by_cases hlt:sl<tm.size
         ·right;rw [← hv];simp [Array.getD,hlt]
         ·left;simp [hlt]
        rcases this with e | e<;>simp [yielded,hq,hs,e,undef]
       ·simp at hg
def Cut (ops:Array Oper) (bs:Array Nat) (tp:Nat):Prop:=∀ i,tp≤i→i<ops.size→(i=tp∧∀ k,k<tp→oO bs k tp=true)∨(tp<i∧oO bs tp i=true)
theorem aV3 {base:Base} (hO:aKD P base.g O) (hT:Txt P mt nt O ops bs s0 E W lo tp) (hlt:tp≤ops.size) (hcut:Cut ops bs tp) (hs:vH mt ops bs=true) {Q:Exit→Act→World→Prop} :
  ∀ (fuel:Nat) (listed:Array Bool) (s:St) (a:Act) (w:World) (M:Mem) (B:BM),listed.size=ops.size →
  (∀ k,k<ops.size→listed.getD k false=true→∀ i,i<k→oO bs i k=true→listed.getD i false=true) →
  (∀ k,k<lo→listed.getD k false=true)→(∀ k,tp≤k→listed.getD k false=false) →
  ((List.range ops.size).filter fun i=>listed.getD i false).length+fuel=tp →
  Eqv s (appL E ((List.range ops.size).filter fun i=>listed.getD i false) s0)→a.tmps.size=nt→SR base M B s a.tmps w →
  (∀ listed' st' a' w',listed'.size=ops.size→(∀ k,listed'.getD k false=decide (k<tp))→Eqv st' (appL E (List.range ops.size) s0)→Rch base M B s a.tmps w st' a'.tmps w'→a'.defers=a.defers→wpAny P .any ops Q (ops.size-tp) listed' a' w') →
  wpAny P .any ops Q (fuel+(ops.size-tp)) listed a w:=by
 intro fuel
 have hall:=hT.all ops.size (Nat.le_refl _)
 have outs:∀ (p:Nat→Bool) (l:List Nat) (s:St),(∀ k∈l,p k=false→E k={})→appL E (l.filter p) s=appL E l s:=by
  intro p l
  induction l with
  | nil=>intro s _;rfl
  | cons k l ih =>
   intro s h
   cases hp:p k with
   | true=>rw [List.filter_cons_of_pos hp];exact ih _ fun j hj=>h j (by simp [hj])
   | false =>
    rw [List.filter_cons_of_neg (by simp [hp])]
    show _=appL E l ((E k).app s)
    rw [h k (by simp) hp,aKH];exact ih _ fun j hj=>h j (by simp [hj])
 have cnt:∀ (listed:Array Bool),(∀ k,tp≤k→listed.getD k false=false)→((List.range ops.size).filter fun i=>listed.getD i false).length=((List.range tp).filter fun i=>listed.getD i false).length:=by
  intro listed h
  obtain ⟨d,hd⟩:∃ d,ops.size=tp+d:=⟨ops.size-tp,by omega⟩
  rw [hd,List.range_add,List.filter_append]
  have:((List.range d).map (tp + ·)).filter (fun i=>listed.getD i false)=[]:=by
   refine List.filter_eq_nil_iff.2 fun x hx => ?_
   obtain ⟨y,_,rfl⟩:=List.mem_map.1 hx
   rw [h (tp+y) (by omega)];simp
  rw [this];simp
 -- nothing ready: all are done
 have noneReady:∀ (listed:Array Bool),listed.size=ops.size→Region.ready .any ops listed=[]→∀ k,k<ops.size→listed.getD k false=true:=by
  intro listed hsz hr k
  induction k using Nat.strongRecOn with
  | _ k ih =>
   intro hk
   cases hlk:listed.getD k false with
   | true=>rfl
   | false =>
    exfalso
    obtain ⟨o,ho⟩:∃ o,ops[k]?=some o:=⟨ops[k],Array.getElem?_eq_getElem hk⟩
    have hm:k∈Region.ready .any ops listed:=by
     unfold Region.ready
     refine List.mem_filter.2 ⟨List.mem_range.2 hk,?_⟩
     have e1:listed.getD k true=false:=by
      have hk':k<listed.size:=by omega
      simp only [Array.getD,hk',dif_pos] at hlk ⊢;exact hlk
     simp only [e1,Bool.not_false,Bool.true_and,ho,Option.map_some,Option.getD_some]
     rw [Array.all_eq_true']
     intro e he
     cases hb:Region.binds .any e with
     | false=>simp
     | true =>
      have hlt:=(qW hs ho).aft e he hb
      simp [ih e.on hlt (by omega)]
    rw [hr] at hm;simp at hm
 induction fuel with
 | zero =>
  intro listed s a w M B hsz hcl hlo hhi hlen he htm hsr hQ
  rw [cnt listed hhi] at hlen
  have hlall:∀ k,k<tp→listed.getD k false=true:=by
   have:((List.range tp).filter fun i=>listed.getD i false).length=(List.range tp).length:=by simpa using hlen
   have:=List.length_filter_eq_length_iff.1 this
   intro k hk;exact this k (List.mem_range.2 hk)
  rw [Nat.zero_add]
  refine hQ listed s a w hsz (fun k => ?_) ?_ (Rch.refl hsr) rfl
  ·by_cases hk:k<tp
   ·simp [hk,hlall k hk]
   ·simp [hk,hhi k (by omega)]
  ·rw [outs _ _ _ (fun k hk hp=>hT.out k (.inr ?_))] at he
   ·exact he
   ·by_cases h:k<tp
    ·rw [hlall k h] at hp;simp at hp
    ·omega
 | succ fuel ih =>
  intro listed s a w M B hsz hcl hlo hhi hlen he htm hsr hQ
  have hopen:¬ ∀ k,k<tp→listed.getD k false=true:=by
   intro h
   rw [cnt listed hhi,List.filter_eq_self.2 (fun k hk=>h k (List.mem_range.1 hk))] at hlen
   simp at hlen
  rw [show fuel+1+(ops.size-tp)=(fuel+(ops.size-tp))+1 by omega]
  refine ⟨fun hr=>absurd (fun k hk=>noneReady listed hsz hr k (by omega)) hopen,?_⟩
  intro i hi
  unfold Region.ready at hi
  obtain ⟨hi1,hi2⟩:=List.mem_filter.1 hi
  have hin:=List.mem_range.1 hi1
  obtain ⟨o,ho⟩:∃ o,ops[i]?=some o:=⟨ops[i],Array.getElem?_eq_getElem hin⟩
  rw [ho] at hi2
  simp only [Option.map_some,Option.getD_some,Bool.and_eq_true,Bool.not_eq_true'] at hi2
  obtain ⟨hnl,hrd⟩:=hi2
  have hnl':listed.getD i false=false:=by
   have hk2:i<listed.size:=by omega
   simp only [Array.getD,hk2,dif_pos] at hnl ⊢;exact hnl
  rw [Array.all_eq_true'] at hrd
  have hso:=qW hs ho
  -- what is oO of it is done
  have hah:∀ k,k<i→oO bs k i=true→listed.getD k false=true:=by
   intro k hk ha
   obtain ⟨e,he',hb,hon⟩:=hso.cls k hk ha
   have h1:=hrd e he'
   simp only [hb,Bool.not_true,Bool.false_or] at h1
   rcases hon with rfl | ⟨hlt,ha'⟩
   ·exact h1
   ·exact hcl e.on (Nat.lt_trans (hso.aft e he' hb) hin) h1 k hlt ha'
  have hil:lo≤i:=by
   by_cases h:i<lo
   ·rw [hlo i h] at hnl';simp at hnl'
   ·omega
  have hit:i<tp:=by
   by_cases h:i<tp
   ·exact h
   ·exfalso
    rcases hcut i (by omega) hin with ⟨rfl,hk⟩ | ⟨h1,h2⟩
    ·exact hopen fun k hk'=>hah k hk' (hk k hk')
    ·have:=hah tp h1 h2;rw [hhi tp (Nat.le_refl _)] at this;simp at this
  obtain ⟨rest,hsplit,hrest⟩:=aPW hin
  have hfil:(List.range ops.size).filter (fun k=>listed.getD k false)=(List.range i).filter (fun k=>listed.getD k false)++rest.filter (fun k=>listed.getD k false):=by
   rw [hsplit,List.filter_append,List.filter_cons_of_neg (by simp [hnl'])]
  have hset:∀ k,(listed.setIfInBounds i true).getD k false=if k=i then true else listed.getD k false:=by
   intro k
   by_cases hk:k=i
   ·subst hk
    have:k<listed.size:=by omega
    simp [Array.getD,this]
   ·simp only [hk,if_false]
    simp only [Array.getD_eq_getD_getElem?,Array.getElem?_setIfInBounds]
    rw [if_neg (fun e=>hk e.symm)]
  have hfil':(List.range ops.size).filter (fun k=>(listed.setIfInBounds i true).getD k false)=(List.range i).filter (fun k=>listed.getD k false)++i::rest.filter (fun k=>listed.getD k false):=by
   rw [hsplit,List.filter_append]
   congr 1
   ·apply List.filter_congr
    intro k hk;rw [hset,if_neg (by have:=List.mem_range.1 hk;omega)]
   ·rw [List.filter_cons_of_pos (by rw [hset];simp)]
    congr 1
    apply List.filter_congr
    intro k hk;rw [hset,if_neg (by have:=hrest k hk;omega)]
  -- who is not ordered with it
  have hind:∀ k,k<ops.size→k≠i→(k<i→listed.getD k false=false)→(i<k→listed.getD k false=true)→Ind (E k) (E i)∧(∀ z∈(E k).ws,z.1∉xS ops o):=by
   intro k hk hne h1 h2
   by_cases hout:k<lo∨tp≤k
   ·rw [hT.out k hout];exact ⟨aX5 _,by simp⟩
   obtain ⟨x,hx⟩:∃ x,ops[k]?=some x:=⟨ops[k],Array.getElem?_eq_getElem hk⟩
   have:=hT.apart hs (by omega) ⟨hil,hit⟩ hx ho hne (fun hlt=>by
    cases ha:oO bs k i with
    | false=>rfl
    | true=>have:=hah k hlt ha;rw [h1 hlt] at this;simp at this) (fun hlt=>by
    cases ha:oO bs i k with
    | false=>rfl
    | true=>have:=hcl k hk (h2 hlt) i hlt ha;rw [hnl'] at this;simp at this)
   exact ⟨this.1,this.2.1⟩
  have hshp:∀ k,k<ops.size→Shp (E k)∧NeOk (E k) s0:=hall.1
  have hA:∀ k∈List.range i,Shp (E k)∧NeOk (E k) s0:=fun k hk=>hshp k (by have:=List.mem_range.1 hk;omega)
  have hstp:=hT.stp i o hil hit ho
  -- it does here what it does in the order of the text
  have hagr:Agr (xS ops o) (E i).foot (appL E (List.range i) s0) s:=by
   have e1:=aKG (fun k=>listed.getD k false) (List.range i) s0 s0 (Agr.of_eqv (Eqv.refl _) (xS ops o) (E i).foot) hA (fun k hk hS=>by
    have hki:=List.mem_range.1 hk
    have:=hind k (by omega) (by omega) (fun _=>hS) (fun h=>by omega)
    exact ⟨this.2,this.1.ft⟩)
   have lenA:(appL E ((List.range i).filter fun k=>listed.getD k false) s0).bx.length=s0.bx.length:=aGA _ _ fun k hk=>hA k (List.mem_filter.1 hk).1
   have e2:=aMX (rest.filter fun k=>listed.getD k false) _ _ e1 (fun k hk=>by
    have hk':=List.mem_filter.1 hk
    have:=hshp k (hrest k hk'.1).2
    exact ⟨this.1,fun hx=>by rw [lenA];exact this.2 hx⟩) (fun k hk=>by
    have hk':=List.mem_filter.1 hk
    have hb:=hrest k hk'.1
    have:=hind k hb.2 (by omega) (fun h=>by omega) (fun _=>hk'.2)
    exact ⟨this.2,this.1.ft⟩)
   rw [← kL,← hfil] at e2
   exact e2.eqv_right he.symm
  have hst:Stp P mt nt O ops o s (W i) (E i):=hstp.congr hagr
  have hmg:Eqv ((E i).app s) (appL E ((List.range ops.size).filter fun k=>(listed.setIfInBounds i true).getD k false) s0):=by
   have hmem:∀ k∈(List.range ops.size).filter (fun k=>listed.getD k false),Shp (E k)∧NeOk (E k) s0:=fun k hk=>hshp k (List.mem_range.1 (List.mem_filter.1 hk).1)
   have lenF:(appL E ((List.range ops.size).filter fun k=>listed.getD k false) s0).bx.length=s0.bx.length:=aGA _ _ hmem
   have hi0:=hshp i hin
   have e1:Eqv ((E i).app s) ((E i).app (appL E ((List.range ops.size).filter fun k=>listed.getD k false) s0)):=he.app hi0.1 (fun hx=>by rw [he.len,lenF];exact hi0.2 hx)
   have lenA:(appL E ((List.range i).filter fun k=>listed.getD k false) s0).bx.length=s0.bx.length:=aGA _ _ fun k hk=>hA k (List.mem_filter.1 hk).1
   rw [hfil,kL] at e1
   rw [hfil',kL]
   refine e1.trans (aMW hi0.1 _ _ (fun hx=>by rw [lenA];exact hi0.2 hx) (fun k hk => ?_) (fun k hk => ?_))
   ·have hk':=List.mem_filter.1 hk
    have:=hshp k (hrest k hk'.1).2
    exact ⟨this.1,fun hx=>by rw [lenA];exact this.2 hx⟩
   ·have hk':=List.mem_filter.1 hk
    have hb:=hrest k hk'.1
    exact (hind k hb.2 (by omega) (fun h=>by omega) (fun _=>hk'.2)).1.symm
  have next:∀ (a':Act) (w':World),a'.defers=a.defers→Rch base M B s a.tmps w ((E i).app s) a'.tmps w'→wpAny P .any ops Q (fuel+(ops.size-tp)) (listed.setIfInBounds i true) a' w':=by
   intro a' w' hd hr
   obtain ⟨r1,M',B',r2,r3⟩:=hr
   refine ih (listed.setIfInBounds i true) ((E i).app s) a' w' M' B' (by simp [hsz]) ?_ ?_ ?_ ?_ hmg (by rw [r1];exact htm) r2 ?_
   ·intro k hk hl j hj ha
    rw [hset] at hl ⊢
    by_cases e1:j=i
    ·simp [e1]
    ·rw [if_neg e1]
     by_cases e2:k=i
     ·subst e2;exact hah j hj ha
     ·rw [if_neg e2] at hl;exact hcl k hk hl j hj ha
   ·intro k hk;rw [hset,if_neg (by omega)];exact hlo k hk
   ·intro k hk;rw [hset,if_neg (by omega)];exact hhi k hk
   ·rw [hfil'];rw [hfil] at hlen
    simp only [List.length_append,List.length_cons] at hlen ⊢
    omega
   ·intro l' st' a'' w'' l1 l2 h1 h2 h3
    obtain ⟨q1,M3,B3,q2,q3⟩:=h2
    exact hQ l' st' a'' w'' l1 l2 h1 ⟨q1.trans r1,M3,B3,q2,r3.trans q3⟩ (h3.trans hd)
  unfold wpOp
  rw [ho]
  simp only
  have hwant:=aHd hsr _ _ _ hst.g
  rw [hwant]
  cases hw:W i with
  | true =>
   simp only [if_true]
   left
   obtain ⟨hev,hup⟩:=hst.t hw
   unfold Oper.wp
   refine yY hO hsr (by rw [htm];exact hev) fun tm' w' ha=>next _ _ rfl ha
  | false =>
   simp only [Bool.false_eq_true,if_false]
   refine next _ _ (aJK _ _ _) ?_
   rw [hst.f hw,aSa]
   have:=jL (dst:=o.dst) hsr (p := .und) (v:=undef) .und (nG _)
   rw [htm] at this
   exact this
theorem eN {α β:Type} {x:Option α} {f g:α→Option β} (h:∀ a,f a=g a):bnd x f=bnd x g:=by cases x<;>simp [bnd,h]
theorem aV4 {R S:Type} (v:PV) (k:Bool→Option R) (g:R→Option S):bnd (brB v k) g=brB v fun b=>bnd (k b) g:=by
 unfold brB;rw [bC];apply eN;intro b;rw [nJ]
theorem aV5 {R:Type} {v:PV} {f g:Bool→Option R} (h:∀ b,f b=g b):brB v f=brB v g:=by
 unfold brB;apply eN;intro b;rw [h,h]
theorem gN {ops:Array Oper} {R:Type}:∀ (n:Nat) (o:Oper) (st:St) (K:Bool→St→Option R),iT ops n o st K=bnd (iT ops n o st fun b s=>some (b,s)) fun x=>K x.1 x.2
 | 0,_,_,_=>rfl
 | n+1,o,st,K=>by
  simp only [iT]
  cases o.guard with
  | none=>rfl
  | some gw =>
   obtain ⟨g,want⟩:=gw
   simp only
   cases ops[g]? with
   | none=>rfl
   | some q =>
    simp only
    cases q.dst with
    | none=>rfl
    | some s =>
     simp only
     conv=>lhs;rw [gN]
     conv=>rhs;rw [gN,bC]
     apply eN
     rintro ⟨b,s'⟩
     cases b with
     | true=>simp only [aV4];rfl
     | false=>simp only;split<;>rfl
theorem iW {ops:Array Oper} {R:Type}:∀ (os:List Oper) (i:Nat) (log:List (Nat×Foot)) (st:St) (K:List (Nat×Foot)→St→Option R),
  bW P mt nt O ops i os log st K=bnd (bW P mt nt O ops i os log st fun l s=>some (l,s)) fun x=>K x.1 x.2
 | [],i,log,st,K=>rfl
 | o::os,i,log,st,K=>by
  simp only [bW]
  rw [gN,gN (R:=List (Nat×Foot)×St),bC]
  apply eN
  rintro ⟨b,s⟩
  cases b with
  | true =>
   simp only
   rw [eZ,eZ (R:=List (Nat×Foot)×St),bC]
   apply eN
   intro e
   cases e.up with
   | some u =>
    simp only
    split
    ·exact iW os _ _ _ K
    ·rfl
   | none=>exact iW os _ _ _ K
  | false=>exact iW os _ _ _ K
theorem aDC {E:Nat→Eff}:∀ (l:List Nat) (s:St),(∀ k∈l,E k={})→appL E l s=s
 | [],_,_=>rfl
 | k::l,s,h=>by
  show appL E l ((E k).app s)=s
  rw [h k (by simp),aKH];exact aDC l s fun j hj=>h j (by simp [hj])
def sect (es:List (Bool×Eff)) (lo i:Nat):Bool×Eff:=if lo≤i then (es[i-lo]?).getD (false,{}) else (false,{})
theorem aKI {es:List (Bool×Eff)} {lo i:Nat} (k:Nat) (x:Bool×Eff) (hi:i=lo+k) (h:es[k]?=some x):sect es lo i=x:=by
 subst hi;unfold sect;rw [if_pos (by omega),show lo+k-lo=k by omega,h];rfl
theorem aGB {es:List (Bool×Eff)} {lo i:Nat} (h:i<lo∨lo+es.length≤i):sect es lo i=(false,{}):=by
 unfold sect
 split
 ·rw [List.getElem?_eq_none (by omega)];rfl
 ·rfl
theorem aMY (es:List (Bool×Eff)) (lo:Nat) (s:St):∀ k,k≤es.length→fold (es.take k) s=appL (fun i=>(sect es lo i).2) (List.range (lo+k)) s:=by
 intro k
 induction k with
 | zero =>
  intro _
  rw [aDC]
  ·rfl
  ·intro j hj;have:=List.mem_range.1 hj;show (sect es lo j).2=_;rw [aGB (.inl (by omega))]
 | succ k ih =>
  intro h
  have hlt:k<es.length:=by omega
  rw [← Nat.add_assoc,List.range_succ,kL,← ih (by omega),List.take_succ_eq_append_getElem hlt]
  show fold _ s=(sect es lo (lo+k)).2.app _
  rw [aKI k es[k] rfl (List.getElem?_eq_getElem hlt)]
  simp only [fold,List.foldl_append,List.foldl_cons,List.foldl_nil]
theorem aKJ (es:List (Bool×Eff)) (lo n:Nat) (s:St) (h:lo+es.length≤n):fold es s=appL (fun i=>(sect es lo i).2) (List.range n) s:=by
 have e1:=aMY es lo s es.length (Nat.le_refl _)
 rw [List.take_length] at e1
 obtain ⟨d,rfl⟩:∃ d,n=lo+es.length+d:=⟨n-(lo+es.length),by omega⟩
 rw [List.range_add,kL,← e1,aDC]
 intro j hj
 obtain ⟨y,_,rfl⟩:=List.mem_map.1 hj
 show (sect es lo _).2=_
 rw [aGB (.inr (by omega))]
theorem aGC:∀ (os:List Oper) (i:Nat) (log:List (Nat×Foot)) (st st':St) (l:List (Nat×Foot)),bW P mt nt O ops i os log st (fun l s=>some (l,s))=some (l,st')→∃ x,l=x++log
 | [],i,log,st,st',l,h=>by simp only [bW,Option.some.injEq,Prod.mk.injEq] at h;exact ⟨[],h.1.symm⟩
 | o::os,i,log,st,st',l,h=>by
  simp only [bW] at h
  obtain ⟨b,fr',hg,hfr,h⟩:=aA4 _ _ _ _ _ h
  cases b with
  | false=>exact aGC os _ _ _ _ _ h
  | true =>
   simp only at h
   rw [eZ] at h
   obtain ⟨e,_,h⟩:=aB h
   cases hu:e.up with
   | some u =>
    rw [hu] at h;simp only at h
    split at h
    ·exact aGC os _ _ _ _ _ h
    ·simp at h
   | none =>
    rw [hu] at h;simp only at h
    obtain ⟨x,rfl⟩:=aGC os _ _ _ _ _ h
    exact ⟨x++[(i,e.foot)],by simp⟩
theorem aMZ {n i:Nat} (h:aPw bs n i=true) (hi:i<n):(∀ k,k<i→oO bs k i=true)∧∀ k,i<k→k<n→oO bs i k=true:=by
 unfold aPw at h
 rw [List.all_eq_true] at h
 constructor
 ·intro k hk
  have:=h k (List.mem_range.2 (by omega))
  simp only [hk,if_true,Bool.or_eq_true,beq_iff_eq] at this
  exact this.resolve_left (by omega)
 ·intro k hk hn
  have:=h k (List.mem_range.2 hn)
  simp only [show ¬ k<i by omega,if_false,Bool.or_eq_true,beq_iff_eq] at this
  exact this.resolve_left (by omega)
theorem aV6 {base:Base} (hO:aKD P base.g O) (hs:vH mt ops (Region.before ops)=true):∀ (n i:Nat) (log l:List (Nat×Foot)) (st st':St) (a:Act) (w:World) (M:Mem) (B:BM) (listed:Array Bool),i≤ops.size→ops.size-i≤n →
  listed.size=ops.size→(∀ k,listed.getD k false=decide (k<i)) →
  bW P mt a.tmps.size O ops i (ops.toList.drop i) log st (fun l s=>some (l,s))=some (l,st')→nE (Region.before ops) l=true→SR base M B st a.tmps w →
  ∀ Q:Exit→Act→World→Prop,(∀ a' w',Rch base M B st a.tmps w st' a'.tmps w'→a'.defers=a.defers→Q .normal a' w')→wpAny P .any ops Q (ops.size-i) listed a w:=by
 intro n
 induction n with
 | zero =>
  intro i log l st st' a w M B listed hi hn hsz hl h hf hsr Q hQ
  have hi:i=ops.size:=by omega
  subst hi
  have hd:ops.toList.drop ops.size=[]:=by simp
  rw [hd] at h
  simp only [bW,Option.some.injEq,Prod.mk.injEq] at h
  obtain ⟨_,rfl⟩:=h
  rw [Nat.sub_self]
  refine ⟨?_,hQ a w (Rch.refl hsr) rfl⟩
  unfold Region.ready
  rw [List.filter_eq_nil_iff]
  intro k hk
  have hk':=List.mem_range.1 hk
  have:=hl k
  have e1:listed.getD k true=true:=by
   have hk2:k<listed.size:=by omega
   simp only [Array.getD,hk2,dif_pos] at this ⊢;rw [this];simp [hk']
  simp only [e1,Bool.not_true,Bool.false_and];simp
 | succ n ih =>
  intro i log l st st' a w M B listed hi hn hsz hl h hf hsr Q hQ
  obtain ⟨es,hle,hstp,st1,he,hbx,halt⟩:=aSk _ i log st st _ _ h (Eqv.refl _)
  have hle':i+es.length≤ops.size:=by simp at hle;omega
  have hlog:nE (Region.before ops) (logs i es++log)=true:=by
   rcases halt with ⟨_,h2⟩ | ⟨_,_,_,_,_,_,_,_,h2⟩
   ·simp only [Option.some.injEq,Prod.mk.injEq] at h2;rw [h2.1];exact hf
   ·obtain ⟨x,rfl⟩:=aGC _ _ _ _ _ _ h2;exact aCc _ _ hf
  have hget:∀ k,(ops.toList.drop i)[k]?=ops[i+k]?:=by intro k;simp
  have hT:Txt P mt a.tmps.size O ops (Region.before ops) st (fun j=>(sect es i j).2) (fun j=>(sect es i j).1) i (i+es.length):=by
   refine ⟨?_,?_,?_⟩
   ·intro j o h1 h2 ho
    obtain ⟨k,rfl⟩:∃ k,j=i+k:=⟨j-i,by omega⟩
    obtain ⟨x,hx,hx2⟩:=hstp k o (by omega) (by rw [hget];exact ho)
    rw [aMY es i st k (by omega)] at hx2
    rw [aKI k x rfl hx];exact hx2
   ·intro j hj;show (sect es i j).2={};rw [aGB hj]
   ·intro j k hj hjk hk hwj hwk
    obtain ⟨c,rfl⟩:∃ c,j=i+c:=⟨j-i,by omega⟩
    obtain ⟨d,rfl⟩:∃ d,k=i+d:=⟨k-i,by omega⟩
    obtain ⟨xi,hxi⟩:∃ x,es[c]?=some x:=⟨es[c],List.getElem?_eq_getElem (by omega)⟩
    obtain ⟨xj,hxj⟩:∃ x,es[d]?=some x:=⟨es[d],List.getElem?_eq_getElem (by omega)⟩
    rw [aKI c xi rfl hxi] at hwj ⊢
    rw [aKI d xj rfl hxj] at hwk ⊢
    obtain ⟨bi,ei⟩:=xi
    obtain ⟨bj,ej⟩:=xj
    simp only at hwj hwk ⊢
    subst hwj;subst hwk
    exact (aMV es i log hlog).2 c d ei ej (by omega) hxi hxj
  have hfin:=aKJ es i ops.size st hle'
  have hnd:Nd st1.bx:=by
   rw [hbx rfl,hfin];exact (hT.all ops.size (Nat.le_refl _)).2.2 hsr.box.nodup
  have hcut:Cut ops (Region.before ops) (i+es.length):=by
   rcases halt with ⟨h1,_⟩ | ⟨o,e,fr2,h1,h2,_⟩
   ·intro k h3 h4;simp at h1;omega
   ·have hlt:i+es.length<ops.size:=by
     rw [hget] at h1;exact (Array.getElem?_eq_some_iff.1 h1).1
    obtain ⟨p1,p2⟩:=aMZ h2 hlt
    intro k h3 h4
    by_cases hk:k=i+es.length
    ·exact .inl ⟨hk,p1⟩
    ·exact .inr ⟨by omega,p2 k (by omega) h4⟩
  have hfl:((List.range ops.size).filter fun j=>listed.getD j false)=List.range i:=by
   obtain ⟨d,hd⟩:∃ d,ops.size=i+d:=⟨ops.size-i,by omega⟩
   rw [hd,List.range_add,List.filter_append]
   have e1:((List.range d).map (i + ·)).filter (fun j=>listed.getD j false)=[]:=by
    refine List.filter_eq_nil_iff.2 fun x hx => ?_
    obtain ⟨y,_,rfl⟩:=List.mem_map.1 hx
    rw [hl];simp
   rw [e1,List.append_nil,List.filter_eq_self.2]
   intro x hx;rw [hl];simpa using hx
  have hfuel:ops.size-i=es.length+(ops.size-(i+es.length)):=by omega
  rw [hfuel]
  refine aV3 (Q:=Q) hO hT hle' hcut hs es.length listed st a w M B hsz ?_ ?_ ?_ ?_ ?_ rfl hsr ?_
  ·intro k hk h1 j hj _;rw [hl] at h1 ⊢;simp at h1 ⊢;omega
  ·intro k hk;rw [hl];simpa using hk
  ·intro k hk;rw [hl];simp;omega
  ·rw [hfl];simp
  ·rw [hfl,aDC]
   ·exact Eqv.refl _
   ·intro j hj;have:=List.mem_range.1 hj;show (sect es i j).2=_;rw [aGB (.inl (by omega))]
  ·intro l2 s2 a' w' l1 l3 h1 h2 h3
   have h2':=h2.eqv (st'':=st1) (h1.trans (by rw [← hfin];exact he.symm)) hnd
   obtain ⟨q1,M3,B3,q2,q3⟩:=h2'
   have hdone:∀ k,k<ops.size→l2.getD k true=decide (k<i+es.length):=by
    intro k hk
    have hk2:k<l2.size:=by omega
    have:=l3 k
    simp only [Array.getD,hk2,dif_pos] at this ⊢;exact this
   rcases halt with ⟨k1,k2⟩ | ⟨o,e,fr2,k1,k2,k3,k4,k5,k6⟩
   ·simp only [Option.some.injEq,Prod.mk.injEq] at k2
    obtain ⟨_,rfl⟩:=k2
    have:i+es.length=ops.size:=by simp at k1;omega
    rw [this,Nat.sub_self]
    refine ⟨?_,hQ a' w' ⟨q1,M3,B3,q2,q3⟩ h3⟩
    unfold Region.ready
    rw [List.filter_eq_nil_iff]
    intro k hk
    have hk':=List.mem_range.1 hk
    rw [hdone k hk',this];simp [hk']
   ·rw [hget] at k1
    generalize htp:i+es.length=tp at *
    have hlt:tp<ops.size:=(Array.getElem?_eq_some_iff.1 k1).1
    have hso:=qW hs k1
    rw [show ops.size-tp=(ops.size-(tp+1))+1 by omega]
    constructor
    ·intro hr
     exfalso
     have hm:tp∈Region.ready .any ops l2:=by
      unfold Region.ready
      refine List.mem_filter.2 ⟨List.mem_range.2 hlt,?_⟩
      rw [hdone tp hlt]
      simp only [Nat.lt_irrefl,decide_false,Bool.not_false,Bool.true_and,k1,Option.map_some,Option.getD_some]
      rw [Array.all_eq_true']
      intro e he
      cases hb:Region.binds .any e with
      | false=>simp
      | true=>have:=hso.aft e he hb;simp [l3,this]
     rw [hr] at hm;simp at hm
    ·intro x hx
     unfold Region.ready at hx
     obtain ⟨hx1,hx2⟩:=List.mem_filter.1 hx
     have hxn:=List.mem_range.1 hx1
     obtain ⟨ox,hox⟩:∃ o,ops[x]?=some o:=⟨ops[x],Array.getElem?_eq_getElem hxn⟩
     rw [hox,hdone x hxn] at hx2
     simp only [Option.map_some,Option.getD_some,Bool.and_eq_true,Bool.not_eq_true',decide_eq_false_iff_not] at hx2
     obtain ⟨hx3,hx4⟩:=hx2
     rw [Array.all_eq_true'] at hx4
     have hxe:x=tp:=by
      by_cases hc:x=tp
      ·exact hc
      ·exfalso
       have:=(aMZ k2 hlt).2 x (by omega) hxn
       obtain ⟨e',he',hb,hon⟩:=(qW hs hox).cls tp (by omega) this
       have h1:=hx4 e' he'
       simp only [hb,Bool.not_true,Bool.false_or,l3,decide_eq_true_eq] at h1
       rcases hon with hon | ⟨hon,_⟩<;>omega
     subst hxe
     rw [hox] at k1;cases k1
     have heq:Eqv st1 {st1 with fr:=fr2}:=⟨fun j=>(k4 j).symm,fun _ _=>rfl,rfl⟩
     have hsr2:SR base M3 B3 {st1 with fr:=fr2} a'.tmps w':=q2.eqv heq hnd
     unfold wpOp
     rw [hox]
     simp only
     rw [aHd q2 _ _ _ k3]
     simp only [if_true]
     left
     unfold Oper.wp
     rw [← q1] at k5
     refine yY hO hsr2 k5 fun tm' w2 ha => ?_
     have ha':=Rch.of_eqv ha heq hnd hnd
     obtain ⟨r1,M4,B4,r2,r3⟩:=ha'
     have k6':bW P mt tm'.size O ops (x+1) (ops.toList.drop (x+1)) (logs i es++log) (e.app {st1 with fr:=fr2}) (fun l s=>some (l,s))=some (l,st'):=by
      rw [show tm'.size=a.tmps.size from r1.trans q1,← k6,List.drop_drop]
      congr 2;omega
     refine ih (x+1) _ l _ st' ⟨tm',a'.defers⟩ w2 M4 B4 (l2.setIfInBounds x true) (by omega) (by omega) (by simp [l1]) ?_ k6' hf r2 Q ?_
     ·intro k
      by_cases hk:k=x
      ·subst hk
       have:k<l2.size:=by omega
       simp [Array.getD,this]
      ·have e2:=l3 k
       simp only [Array.getD_eq_getD_getElem?,Array.getElem?_setIfInBounds] at e2 ⊢
       rw [if_neg (fun e=>hk e.symm),e2]
       by_cases h':k<x<;>simp [h']<;>omega
     ·intro a3 w3 h4 h5
      obtain ⟨p1,M5,B5,p2,p3⟩:=h4
      exact hQ a3 w3 ⟨p1.trans (r1.trans q1),M5,B5,p2,q3.trans (r3.trans p3)⟩ (h5.trans h3)
theorem aT8 {base:Base} (hm:P.follows .mixedOrders=true) (hO:aKD P base.g O) {M:Mem} {B:BM} {st:St} {a:Act} {w:World} {id:Nat} {R:Type} {K:St→Option R} {r:R}
  (hs:vH mt ops (Region.before ops)=true)
  (h:bW P mt a.tmps.size O ops 0 ops.toList [] st (fun log st=>match nE (Region.before ops) log with | true=>K st | false=>none)=some r) (hsr:SR base M B st a.tmps w) :
  ∃ st',K st'=some r∧∀ Q:Exit→Act→World→Prop,(∀ a' w',Rch base M B st a.tmps w st' a'.tmps w'→a'.defers=a.defers→Q .normal a' w')→(Code.region id ops true).wp P Q a w:=by
 rw [iW] at h
 obtain ⟨⟨l,st'⟩,hev,h⟩:=aB h
 simp only at h
 split at h
 ·rename_i hft
  refine ⟨st',h,?_⟩
  intro Q hQ
  refine wp_region_any hm ?_
  obtain ⟨hw0,ht0⟩:=hsr.world (M':=M) (w':={w with drawn:=w.drawn+1}) hsr.cons (fun _ _ _ h=>h) (fun _ _ _ _=>⟨rfl,fun _=>rfl⟩) (fun _ _=>⟨rfl,fun _=>rfl⟩) (Nat.le_refl _)
  refine aV6 hO hs ops.size 0 [] l st st' a _ M B (Array.replicate ops.size false) (by omega) (by omega) (by simp) (by intro k;simp [Array.getD]) (by simpa using hev) hft hw0 Q ?_
  intro a' w' h2 h3
  refine hQ a' w' ?_ h3
  obtain ⟨q1,M3,B3,q2,q3⟩:=h2
  refine ⟨q1,M3,B3,q2,?_⟩
  rw [show tot st.fr a.tmps {w with drawn:=w.drawn+1} B st.bx=tot st.fr a.tmps w B st.bx from funext ht0] at q3
  exact ⟨q3.os,q3.tape,q3.output,q3.size,q3.mono,q3.keep,q3.tle,q3.bxs,q3.outer⟩
 ·simp at h
end
theorem zJ {g:Nat→List PV→Nat}:∀ (a f:aV),a.Nodup→(∀ x∈a,x∈f)→dH g a≤dH g f
 | [],f,_,_=>by simp [dH]
 | (i,c)::a,f,hn,h=>by
  obtain ⟨f1,f2,rfl⟩:=List.append_of_mem (h (i,c) (by simp))
  rw [List.nodup_cons] at hn
  have:=zJ (g:=g) a (f1++f2) hn.2 (fun x hx=>by
   have:=h x (by simp [hx])
   rcases List.mem_append.1 this with h1 | h1
   ·exact List.mem_append.2 (.inl h1)
   ·rcases List.mem_cons.1 h1 with rfl | h1
    ·exact absurd hx hn.1
    ·exact List.mem_append.2 (.inr h1))
  rw [aFz] at this ⊢
  simp only [dH]
  omega
theorem uD (bx:List aV) (id:Nat):aX bx 0 id=look (lW bx) id:=by
 cases bx with
 | nil=>simp [qS,lW,look]
 | cons f r=>rw [bD];rfl
def delB (id:Nat) (B:BM):BM:=fun d i=>if d=0∧i=id then none else B d i
theorem aGD {id:Nat} {B:BM} {d i b:Nat} (h:delB id B d i=some b):B d i=some b:=by
 unfold delB at h;split at h
 ·simp at h
 ·exact h
theorem zM {id:Nat} {B:BM} {d i:Nat} (h:¬ (d=0∧i=id)):delB id B d i=B d i:=by
 unfold delB;rw [if_neg h]
theorem Rv.del1 {M:Mem} {B:BM} {id:Nat} {p:PV} {v:Value} (h:Rv M B p v) (hm:aMv id p=false):Rv M (delB id B) p v:=by
 cases h with
 | bot v=>exact .bot v
 | und=>exact .und
 | bool b=>exact .bool b
 | int k n=>exact .int k n
 | str s=>exact .str s
 | agg cs=>simp [aMv] at hm
 | tuple cs=>simp [aMv] at hm
 | nil o=>exact .nil o
 | slice es bs o a cap s f ha hc ho hel hx hr=>exact (Rv.slice es bs o a cap s f ha hc ho hel hx hr).anyB _ rfl
 | mk0 sz a cap ha=>exact .mk0 sz a cap ha
 | ref e a s f ha hel hx hr=>exact .ref e a s f ha hel hx (fun j c hc=>(hr j c hc).anyB1 _ (hel.cell hc))
 | ptr d i off b hb=>exact .ptr d i off b (by rw [zM (by rintro ⟨rfl,rfl⟩;simp [aMv] at hm)];exact hb)
 | rsl d i n sz b cap hb hc=>exact .rsl d i n sz b cap (by rw [zM (by rintro ⟨rfl,rfl⟩;simp [aMv] at hm)];exact hb) hc
 | rslNil d i sz oa=>exact .rslNil d i sz oa
 | nilptr=>exact .nilptr
 | func fn first caps vf vc f g hp hl hf hrf hl' hg hrg =>
  refine (Rv.func fn first caps vf vc f g hp hl hf hrf hl' hg hrg).anyBfree _ ?_
  simpa [aMv,PV.free] using hm
 | vec sz E b cap hne hc h0 hE hmx=>exact .vec sz E b cap hne hc h0 hE hmx
 | vecNil sz oa=>exact .vecNil sz oa
 | nilFunc=>exact .nilFunc
theorem Rv.del {M:Mem} {B:BM} {id:Nat}:∀ (n:Nat) {p:PV} {v:Value},Rv M B p v→ment id n p=false→Rv M (delB id B) p v:=by
 intro n
 induction n with
 | zero =>
  intro p v h hm
  cases p with
  | agg cs =>
   simp only [ment,List.any_eq_false] at hm
   cases h with
   | agg _ vs f hl hf hr =>
    exact .agg _ vs f hl hf fun i c hc=>(hr i c hc).del1 (by simpa using hm c (List.mem_of_getElem? hc))
  | tuple cs =>
   simp only [ment,List.any_eq_false] at hm
   have:cs=[]:=by
    cases cs with
    | nil=>rfl
    | cons c l=>exact absurd trivial (hm c (by simp))
   subst this
   cases h with
   | tuple _ vs f hl hf hr=>exact .tuple [] vs f hl hf (by simp)
  | func f a b=>simp [ment] at hm
  | _=>exact h.del1 (by simpa [ment] using hm)
 | succ n ih =>
  intro p v h hm
  cases p with
  | agg cs =>
   simp only [ment,List.any_eq_false] at hm
   cases h with
   | agg _ vs f hl hf hr =>
    exact .agg _ vs f hl hf fun i c hc=>(hr i c hc).del1 (by simpa using hm c (List.mem_of_getElem? hc))
  | tuple cs =>
   simp only [ment,List.any_eq_false] at hm
   have:cs=[]:=by
    cases cs with
    | nil=>rfl
    | cons c l=>exact absurd trivial (hm c (by simp))
   subst this
   cases h with
   | tuple _ vs f hl hf hr=>exact .tuple [] vs f hl hf (by simp)
  | func f a b =>
   simp only [ment,Bool.or_eq_false_iff,List.any_eq_false,Bool.not_eq_true] at hm
   cases h with
   | func fn first caps vf vc f g hp hl hf hrf hl' hg hrg =>
    exact .func _ _ _ vf vc f g hp hl hf (fun i c hc=>ih (hrf i c hc) (hm.1 c (List.mem_of_getElem? hc))) hl' hg (fun i c hc=>ih (hrg i c hc) (hm.2 c (List.mem_of_getElem? hc)))
  | _=>exact h.del1 (by simpa [ment] using hm)
theorem Rv.kill {M:Mem} {B:BM} {id:Nat} {p:PV} {v:Value} (h:Rv M B p v):Rv M (delB id B) (aB7 id p) v:=by
 unfold aB7
 split
 ·exact .bot _
 ·rename_i hm;exact h.del 3 hm
theorem aM0 (id:Nat) (fr:List (Nat×PV)) (i:Nat):gets (fr.map fun x=>(x.1,aB7 id x.2)) i=aB7 id (gets fr i):=by
 induction fr with
 | nil=>rfl
 | cons x l ih =>
  obtain ⟨j,v⟩:=x
  simp only [List.map_cons,dM]
  split
  ·rfl
  ·exact ih
theorem aCd (id:Nat):∀ (b:aV) (i:Nat),look (b.filter fun x => !(x.1==id)) i=if i=id then none else look b i
 | [],i=>by simp [look]
 | (j,c)::b,i=>by
  simp only [List.filter_cons]
  by_cases e:j=id
  ·subst e
   simp only [beq_self_eq_true,Bool.not_true,Bool.false_eq_true,if_false,aCd j b i,iV]
   by_cases e2:i=j
   ·simp [e2]
   ·have:¬ j=i:=fun x=>e2 x.symm
    simp [e2,this]
  ·have:(!(j==id))=true:=by simp [e]
   simp only [this,if_true,iV,aCd id b i]
   by_cases e2:j=i
   ·subst e2;simp [e]
   ·simp [e2]
theorem aJT (bx:List aV) (id d i:Nat):aX (mA bx id) d i=if d=0∧i=id then none else aX bx d i:=by
 cases bx with
 | nil=>simp [mA,qS]
 | cons b r =>
  cases d with
  | zero=>simp only [mA,bD,aCd,true_and]
  | succ d=>simp only [mA,dR];rw [if_neg (by rintro ⟨h,_⟩;omega)]
theorem bAE (id:Nat) (p:PV) (v:Value) (b:Nat):cV (aB7 id p) v b≤cV p v b:=by
 unfold aB7
 split
 ·rw [(dV.of1 (p := .bot) (v:=v) (by simp) (by simp) (by cases v<;>rfl)).c b];omega
 ·exact Nat.le_refl _
theorem bAF {M:Mem} {w:World} {base:Base} {B:BM} (id:Nat) {p:PV} {v:Value} (h:hV M w base B p v):hV M w base B (aB7 id p) v:=by
 unfold aB7
 split
 ·exact (dV.of1 (p := .bot) (v:=v) (by simp) (by simp) (by cases v<;>rfl)).h _ _ _ _
 ·exact h
theorem aCe {R:Type} (t:Nat) (st:St) (K:St→Option R):aEx t st K=bnd (aEx t st some) K:=by
 unfold aEx
 split
 ·split
  ·split
   ·rw [nJ];rfl
   ·rfl
  ·rfl
 ·rfl
 ·rfl
theorem aHe {R:Type} (t sz:Nat) (st:St) (K:St→Option R):aTR t sz st K=bnd (aTR t sz st some) K:=by
 unfold aTR;split<;>rfl
theorem aCf {R:Type}:∀ (l:List Nat) (st:St) (K:St→Option R),tF l st K=bnd (tF l st some) K
 | [],st,K=>rfl
 | t::l,st,K=>by
  simp only [tF]
  split
  ·rw [aCe,aCe (R:=St) t st (fun st=>tF l st some),bC]
   congr 1;funext s;exact aCf l s K
  ·rw [aHe,aHe (R:=St) _ _ st (fun st=>tF l st some),bC]
   congr 1;funext s;exact aCf l s K
theorem iX {R:Type} (l:List (Nat×List Nat)) (i:Nat) (st:St) (K:St→Option R):aDo l i st K=bnd (aDo l i st some) K:=by
 unfold aDo;split
 ·exact aCf _ _ _
 ·rfl
section
variable {base : Base} {M : Mem} {B : BM} {st : St} {tm : Array Value} {w : World}
noncomputable def frzM (M:Mem) (w:World) (ob:Option Nat) (n:Nat):Mem:=fun b i =>
 match ob with
 | some blk=>if b=blk∧i<n then some (bO w blk i) else M b i
 | none=>M b i
theorem h1.frz {p:PV} {v:Value} {id n:Nat} (h:h1 M w base B p v) (hmono:∀ b i v,M b i=some v→frzM M w (B 0 id) n b i=some v):h1 (frzM M w (B 0 id) n) w base (delB id B) p v:=by
 refine h.world (M':=frzM M w (B 0 id) n) (w':=w) (B':=delB id B) hmono fun b ho hp=>⟨rfl,fun i => ?_,fun d i hb=>aGD hb⟩
 unfold frzM
 split
 ·rename_i blk hB
  rw [if_neg]
  rintro ⟨rfl,_⟩
  exact (h.nobox ho).1 0 id hB
 ·rfl
theorem SR.reslot (h:SR base M B st tm w) (t:Nat) {q:PV} (hr:Rv M B q (tm.getD t undef)) (hh:hV M w base B q (tm.getD t undef)) (hc:∀ b,cV q (tm.getD t undef) b≤cV (gets st.fr t) (tm.getD t undef) b) :
  SR base M B {st with fr:=(t,q)::st.fr} tm w∧∀ b,tot ((t,q)::st.fr) tm w B st.bx b≤tot st.fr tm w B st.bx b:=by
 have hle:∀ b,tot ((t,q)::st.fr) tm w B st.bx b≤tot st.fr tm w B st.bx b:=by
  intro b
  have:cF ((t,q)::st.fr) tm b≤cF st.fr tm b:=by
   refine aDp _ fun i _ => ?_
   show cV (gets ((t,q)::st.fr) i) (tm.getD i undef) b≤cV (gets st.fr i) (tm.getD i undef) b
   rw [dM]
   by_cases e:t=i
   ·subst e;rw [if_pos rfl];exact hc b
   ·rw [if_neg e];exact Nat.le_refl _
  simp only [tot];omega
 refine ⟨⟨h.cons,fun i => ?_,fun i => ?_,h.box,fun b=>Nat.le_trans (hle b) (h.one b),h.glob,h.base⟩,hle⟩
 ·show Rv M B (gets ((t,q)::st.fr) i) _
  rw [dM];split
  ·rename_i e;subst e;exact hr
  ·exact h.slot i
 ·show hV M w base B (gets ((t,q)::st.fr) i) _
  rw [dM];split
  ·rename_i e;subst e;exact hh
  ·exact h.slotH i
theorem aPX (h:SR base M B st tm w) {t sz:Nat} {st':St} (hf:aTR t sz st some=some st'):Rch base M B st tm w st' tm w:=by
 unfold aTR at hf
 split at hf
 ·rename_i hg
  cases hf
  have hr:=h.slot t
  rw [hg] at hr
  have key:∃ oa,tm.getD t undef = .slice oa 0 0:=by
   generalize tm.getD t undef=v at hr
   cases hr with
   | nil=>exact ⟨none,rfl⟩
   | slice es bs o a cap s f ha hc ho hel hm hr =>
    have:cap=0:=(ho rfl).1 rfl
    subst this
    exact ⟨some a,rfl⟩
  obtain ⟨oa,hv⟩:=key
  have hno:dV (.vec sz []) (tm.getD t undef):=by rw [hv];exact dV.of1 (by simp) (by simp) rfl
  obtain ⟨k1,k2⟩:=h.reslot t (q := .vec sz []) (by rw [hv];exact .vecNil sz oa) (hno.h _ _ _ _) (fun b=>by rw [hno.c b];omega)
  exact ⟨rfl,M,B,k1,aGy fun b _=>k2 b⟩
 ·cases hf;exact Rch.refl h
noncomputable def frzV (M:Mem) (w:World) (blk n:Nat):Mem:=fun b i=>if b=blk∧i<n then some (bO w blk i) else M b i
theorem aKK (h : SR base M B st tm w) {t sz : Nat} {E : List PV} (hg : gets st.fr t = .vec sz E) : Rch base M B st tm w ⟨(t, .slice E [] false) :: (t, .bot) :: st.fr, st.bx⟩ tm w := by
 have hr := h.slot t
 have hh := h.slotH t
 obtain ⟨k1, k2⟩ := h.take t
 rw [hg] at hr hh
 simp only [hg] at k1 k2
 have hpl : (PV.vec sz E).plain = .bot := rfl
 rw [hpl] at k1
 simp only [hpl] at k2
 have hv : ∃ v, tm.getD t undef = v := ⟨_, rfl⟩
 obtain ⟨v, hv⟩ := hv
 rw [hv] at hr hh k2
 have fin : ∀ (M' : Mem), SR base M' B { st with fr := (t, .bot) :: st.fr } tm w → (∀ b, tot ((t, .bot) :: st.fr) tm w B st.bx b ≤ tot st.fr tm w B st.bx b) → Rv M' B (.slice E [] false) v → (∀ b i x, M b i = some x → M' b i = some x) →
   (∀ b, b < w.heap.size → ¬ touch (tot st.fr tm w B st.bx) B b → ∀ i, M' b i = M b i) → Rch base M B st tm w ⟨(t, .slice E [] false) :: (t, .bot) :: st.fr, st.bx⟩ tm w := by
  intro M' q1 q2 q3 q4 q5
  have hno : dV (.slice E [] false) (tm.getD t undef) := kK _ _ _
  obtain ⟨j1, j2⟩ := q1.reslot t (q := .slice E [] false) (by rw [hv]; exact q3) (hno.h _ _ _ _) (fun b => by rw [hno.c b]; omega)
  exact ⟨rfl, M', B, j1, rfl, rfl, rfl, Nat.le_refl _, q4, fun b hb hn => ⟨rfl, q5 b hb hn⟩, fun b _ => Nat.le_trans (j2 b) (q2 b), fun d i b hB _ => ⟨d, i, hB⟩, fun _ _ => rfl⟩
 have hle : ∀ b, tot ((t, .bot) :: st.fr) tm w B st.bx b ≤ tot st.fr tm w B st.bx b := fun b => by have := k2 b; omega
 cases hr with
 | vecNil _ oa =>
  refine fin M k1 hle ?_ (fun _ _ _ hx => hx) (fun _ _ _ _ => rfl)
  cases oa with
  | none => exact .nil false
  | some a => exact .slice [] [] false a 0 1 (fun _ _ => undef) (fun h => absurd h (by omega)) (by simp) (by simp) (by simp) (by simp) (by simp)
 | vec _ _ b cap hne hc h0 hE hmx =>
  obtain ⟨e0, E0, rfl⟩ : ∃ e0 E0, E = e0 :: E0 := by
   cases E with
   | nil => exact absurd rfl hne
   | cons e l => exact ⟨e, l, rfl⟩
  have hh1 : h1 M w base B (.vec sz (e0 :: E0)) (.slice (some ⟨b, 0, none⟩) (e0 :: E0).length cap) := hh (.vec sz (e0 :: E0), .slice (some ⟨b, 0, none⟩) (e0 :: E0).length cap) (by simp [atoms, zipA])
  obtain ⟨hok, hcont⟩ := hh1
  generalize hEq : e0 :: E0 = E at *
  have hE' : ∀ e ∈ E, e.cells.length = sz := fun e he => (fU (hE e he)).1
  have hfl : (E.flatMap cells).length = E.length * sz := kE E hE'
  have hcap : E.length * sz ≤ cap * sz := Nat.mul_le_mul_right sz hc
  have hbt : tot ((t, .bot) :: st.fr) tm w B st.bx b = 0 := by
   have e1 := k2 b
   have e2 := h.one b
   have e3 : cV (.vec sz E) (.slice (some ⟨b, 0, none⟩) E.length cap) b = 1 := by
    rw [yQ (by simp) (by simp), ← hEq]; simp [c1, own1]
   omega
  have hmono : ∀ b' i x, M b' i = some x → frzV M w b (E.length * sz) b' i = some x := by
   intro b' i x hx
   unfold frzV
   rw [if_neg]
   ·exact hx
   ·rintro ⟨rfl, _⟩
    rw [hok.free i (Nat.zero_le _)] at hx; simp at hx
  obtain ⟨arr, T, fz, hrow, hsz, hfz⟩ := hok.row
  have hcell : ∀ i, i < E.length * sz → arr[i]? = some (bO w b i) := by
   intro i hi
   have : i < arr.size := Nat.lt_of_lt_of_le hi (Nat.le_trans hcap hsz)
   simp [bO, World.cell?, hrow, this]
  have hcons : Cons (frzV M w b (E.length * sz)) w := by
   intro b' i x hx
   unfold frzV at hx
   split at hx
   ·rename_i hc
    obtain ⟨rfl, hi⟩ := hc
    cases hx
    exact ⟨arr, T, fz, hrow, hcell i hi⟩
   ·exact h.cons b' i x hx
  have hsame : ∀ b', b' ≠ b → ∀ i, frzV M w b (E.length * sz) b' i = M b' i := by
   intro b' hb i; unfold frzV; rw [if_neg (by rintro ⟨e, _⟩; exact hb e)]
  obtain ⟨j1, j2⟩ := k1.world (M' := frzV M w b (E.length * sz)) (w' := w) hcons hmono (fun d id b' hB => ⟨rfl, hsame b' (by rintro rfl; exact hok.nobox d id hB)⟩) (fun b' hb => ⟨rfl, hsame b' (by rintro rfl; have hb : 1 ≤ tot ((t, .bot) :: st.fr) tm w B st.bx b' := hb; omega)⟩) (Nat.le_refl _)
  refine fin _ j1 hle ?_ hmono ?_
  ·have hmul : ∀ i j, i < E.length → j < sz → i * sz + j < E.length * sz := by
    intro i j hi hj
    have : (i + 1) * sz ≤ E.length * sz := Nat.mul_le_mul_right sz hi
    rw [Nat.add_mul] at this; omega
   have hin : ∀ (i : Nat) (e : PV), (E ++ [])[i]? = some e → i < E.length ∧ E[i]? = some e := by
    intro i e he
    rw [List.append_nil] at he
    exact ⟨(List.getElem?_eq_some_iff.1 he).1, he⟩
   exact Rv.slice (M := frzV M w b (E.length * sz)) (B := B) E [] false ⟨b, 0, none⟩ cap sz (fun i j => bO w b (i * sz + j)) (fun _ => rfl) (by simpa using hc) (by simp)
    (fun i e he => okVe.el (hE e (List.mem_of_getElem? (hin i e he).2)) h0)
    (fun i e j he hj => by
     rw [Nat.zero_add]
     show frzV M w b (E.length * sz) b (i * sz + j) = _
     unfold frzV
     rw [if_pos ⟨rfl, hmul i j (hin i e he).1 hj⟩])
    (fun i e j c he hc' => by
     have he' := (hin i e he).2
     have hel := hE' e (List.mem_of_getElem? he')
     have hj : j < sz := by rw [← hel]; exact (List.getElem?_eq_some_iff.1 hc').1
     have hph : (E.flatMap cells)[i * sz + j]? = some c := by
      rw [kD E hE' i j hj, he']; exact hc'
     have hsol := (fU (hE e (List.mem_of_getElem? he'))).2 c (List.mem_of_getElem? hc')
     exact ((hcont _ c hph).anyB1 _ hsol).mono hmono (fun _ _ _ hx => hx))
  ·intro b' hb hn i
   refine hsame b' ?_ i
   rintro rfl
   apply hn; left
   have e1 := k2 b'
   have e3 : cV (.vec sz E) (.slice (some ⟨b', 0, none⟩) E.length cap) b' = 1 := by
    rw [yQ (by simp) (by simp), ← hEq]; simp [c1, own1]
   omega
theorem aKL (h : SR base M B st tm w) {t : Nat} {st' : St} (hf : aEx t st some = some st') : Rch base M B st tm w st' tm w := by
 unfold aEx at hf
 split at hf
 rotate_left
 ·rename_i hg
  cases hf; exact aKK h hg
 ·cases hf; exact Rch.refl h
 rename_i id n sz hg
 split at hf
 rotate_left
 ·simp at hf
 rename_i sz' E hb
 split at hf
 rotate_left
 ·simp at hf
 rename_i hsz hmn
 have := Nat.eq_of_beq_eq_true hsz
 subst this
 rcases aZ hf with ⟨hn, hf⟩ | ⟨_, hf⟩
 rotate_left
 ·simp at hf
 cases hf
 have hn := Nat.le_of_ble_eq_true hn
 obtain ⟨hs, hE⟩ : okV [.vec sz E] := (h.box.ok 0 id _ hb).1
 have hE' : ∀ e ∈ E, e.cells.length = sz := fun e he => (fU (hE e he)).1
 have hfl : (E.flatMap cells).length = E.length * sz := kE E hE'
 have hnsz : n * sz ≤ E.length * sz := Nat.mul_le_mul_right sz hn
 have hcellk : ∀ blk, B 0 id = some blk → ∀ k, k < E.length * sz → w.cell? ⟨blk, k, none⟩ = some (bO w blk k) := by
  intro blk hB k hk
  obtain ⟨arr, T, fz, hrow, hsz, hfz, ok, hcell⟩ := mC h hb hB
  exact hcell k (by show k < (E.flatMap cells).length; omega)
 have hmono : ∀ b i v, M b i = some v → frzM M w (B 0 id) (n * sz) b i = some v := by
  intro b i v hv
  unfold frzM
  split
  ·rename_i blk hB
   obtain ⟨arr, T, fz, hrow, hsz, hfz, ok, hcell⟩ := mC h hb hB
   rw [if_neg]
   ·exact hv
   ·rintro ⟨rfl, _⟩
    rw [ok.free i] at hv; simp at hv
  ·exact hv
 have hcons : Cons (frzM M w (B 0 id) (n * sz)) w := by
  intro b i v hv
  unfold frzM at hv
  split at hv
  ·rename_i blk hB
   split at hv
   ·rename_i hc
    obtain ⟨rfl, hi⟩ := hc
    cases hv
    have hx := hcellk b hB i (by omega)
    obtain ⟨arr, T, fz, hrow, hsz, hfz, ok, hcell⟩ := mC h hb hB
    refine ⟨arr, T, fz, hrow, ?_⟩
    simp only [World.cell?, hrow] at hx
    simpa using hx
   ·exact h.cons b i v hv
  ·exact h.cons b i v hv
 have hrel0 : ∀ (p : PV) (v : Value), Rv M B p v → ment id 3 p = false → Rv (frzM M w (B 0 id) (n * sz)) (delB id B) p v := fun p v hr hm => (hr.del 3 hm).mono hmono (fun _ _ _ hx => hx)
 -- the slot itself
 have hslott : Rv (frzM M w (B 0 id) (n * sz)) (delB id B) (.slice (E.take n) [] false) (tm.getD t undef) := by
  have hr := h.slot t
  rw [hg] at hr
  have hlen : (E.take n).length = n := by simp; omega
  generalize tm.getD t undef = v at hr
  cases hr with
  | rslNil _ _ _ oa =>
   simp only [List.take_zero]
   cases oa with
   | none => exact .nil false
   | some a => exact .slice [] [] false a 0 1 (fun _ _ => undef) (fun h => absurd h (by omega)) (by simp) (by simp) (by simp) (by simp) (by simp)
  | rsl _ _ _ _ blk cap hB hc =>
   obtain ⟨arr, T, fz, hrow, hsz2, hfz, ok, hcell⟩ := mC h hb hB
   have hM : ∀ k, k < n * sz → frzM M w (B 0 id) (n * sz) blk k = some (bO w blk k) := by
    intro k hk
    unfold frzM
    rw [hB]
    simp only
    rw [if_pos ⟨trivial, hk⟩]
   have hin : ∀ (i : Nat) (e : PV), (E.take n ++ [])[i]? = some e → i < n ∧ E[i]? = some e := by
    intro i e he
    rw [List.append_nil, List.getElem?_take] at he
    split at he
    ·rename_i hi; exact ⟨hi, he⟩
    ·simp at he
   have hmul : ∀ i j, i < n → j < sz → i * sz + j < n * sz := by
    intro i j hi hj
    have : (i + 1) * sz ≤ n * sz := Nat.mul_le_mul_right sz hi
    rw [Nat.add_mul] at this; omega
   have key := Rv.slice (M := frzM M w (B 0 id) (n * sz)) (B := delB id B) (E.take n) [] false ⟨blk, 0, none⟩ cap sz (fun i j => bO w blk (i * sz + j)) (fun _ => rfl) (by simp; omega) (by simp)
    (fun i e he => okVe.el (hE e (List.mem_of_getElem? (hin i e he).2)) hs)
    (fun i e j he hj => by
     rw [Nat.zero_add]
     exact hM _ (hmul i j (hin i e he).1 hj))
    (fun i e j c he hc' => by
     have he' := (hin i e he).2
     have hel := hE' e (List.mem_of_getElem? he')
     have hj : j < sz := by rw [← hel]; exact (List.getElem?_eq_some_iff.1 hc').1
     have hph : (phys [.vec sz E])[i * sz + j]? = some c := by
      show (E.flatMap cells)[i * sz + j]? = some c
      rw [kD E hE' i j hj, he']; exact hc'
     have hsol := (fU (hE e (List.mem_of_getElem? he'))).2 c (List.mem_of_getElem? hc')
     exact ((ok.rel _ c hph).1.anyB1 _ hsol).mono hmono (fun _ _ _ hx => hx))
   rw [hlen] at key
   exact key
 have hgets : ∀ i, gets ((t, .slice (E.take n) [] false) :: st.fr.map fun x => (x.1, aB7 id x.2)) i = if t = i then .slice (E.take n) [] false else aB7 id (gets st.fr i) := by
  intro i; rw [dM, aM0]
 have hcF : ∀ b, cF ((t, .slice (E.take n) [] false) :: st.fr.map fun x => (x.1, aB7 id x.2)) tm b ≤ cF st.fr tm b := by
  intro b
  apply aDp
  intro i _
  rw [hgets]
  split
  ·rw [(kK _ _ _).c b]; omega
  ·exact bAE _ _ _ _
 have hcB : ∀ b, cBx w (delB id B) (mA st.bx id) b ≤ cBx w B st.bx b := by
  intro b
  cases hbx : st.bx with
  | nil => simp [mA, cBx, fZ]
  | cons f r =>
   simp only [mA, cBx, fZ]
   have etail : ∀ (r : List aV), fZ (fun d i cs => cBox w (delB id B d i) cs b) 1 r = fZ (fun d i cs => cBox w (B d i) cs b) 1 r := by
    intro r
    apply qT
    intro d g _
    apply eM
    intro i cs _
    rw [zM (by rintro ⟨h0, _⟩; omega)]
   have ehead : dH (fun i cs => cBox w (delB id B 0 i) cs b) (f.filter fun x => !(x.1 == id)) ≤ dH (fun i cs => cBox w (B 0 i) cs b) f := by
    have hnd : (f.map (·.1)).Nodup := h.box.nodup 0 f (by rw [hbx]; rfl)
    rw [eM (g' := fun i cs => cBox w (B 0 i) cs b) _ (fun i cs hm => by
     have := (List.mem_filter.1 hm).2
     rw [zM (by rintro ⟨_, rfl⟩; simp at this)])]
    exact zJ _ _ ((mE hnd).filter _) fun x hx => (List.mem_filter.1 hx).1
   rw [etail]; simp only [Nat.zero_add] at *; omega
 have htot : ∀ b, tot ((t, .slice (E.take n) [] false) :: st.fr.map fun x => (x.1, aB7 id x.2)) tm w (delB id B) (mA st.bx id) b ≤ tot st.fr tm w B st.bx b := by
  intro b; have := hcF b; have := hcB b; simp only [tot]; omega
 refine ⟨rfl, frzM M w (B 0 id) (n * sz), delB id B, ⟨hcons, ?_, ?_, ⟨?_, ?_, ?_, ?_⟩, fun b => Nat.le_trans (htot b) (h.one b), h.glob.mono hmono, h.base⟩, rfl, rfl, rfl, Nat.le_refl _, hmono, ?_, fun b _ => htot b, fun d i b hb _ => ⟨d, i, aGD hb⟩, ?_⟩
 ·intro i
  show Rv _ _ (gets ((t, .slice (E.take n) [] false) :: st.fr.map fun x => (x.1, aB7 id x.2)) i) _
  rw [hgets]
  split
  ·rename_i e; subst e; exact hslott
  ·exact (h.slot i).kill.mono hmono (fun _ _ _ hx => hx)
 ·intro i
  show hV _ _ _ _ (gets ((t, .slice (E.take n) [] false) :: st.fr.map fun x => (x.1, aB7 id x.2)) i) _
  rw [hgets]
  split
  ·exact (kK _ _ _).h _ _ _ _
  ·intro x hx
   exact h1.frz (bAF id (h.slotH i) x hx) hmono
 ·intro d f hf
  cases hbx : st.bx with
  | nil => rw [hbx] at hf; simp [mA] at hf
  | cons f0 r =>
   rw [hbx] at hf
   cases d with
   | zero =>
    simp [mA] at hf; subst hf
    exact (h.box.nodup 0 f0 (by rw [hbx]; rfl)).sublist ((List.filter_sublist).map _)
   | succ d => exact h.box.nodup (d + 1) f (by rw [hbx]; simpa [mA] using hf)
 ·intro d i hno
  show delB id B d i = none
  unfold delB
  split
  ·rfl
  ·rename_i hne
   rw [show aX (mA st.bx id) d i = aX st.bx d i by rw [aJT, if_neg hne]] at hno
   exact h.box.dom d i hno
 ·intro d i cs hc
  have hc : aX (mA st.bx id) d i = some cs := hc
  rw [aJT] at hc
  split at hc
  ·simp at hc
  rename_i hne
  obtain ⟨k1, k2⟩ := h.box.ok d i cs hc
  refine ⟨k1, ?_⟩
  rcases k2 with ⟨blk, hB, ok⟩ | ⟨hno, hex⟩
  ·refine .inl ⟨blk, by rw [zM hne]; exact hB, ok.old, ok.row, ?_, ?_⟩
   ·intro j
    unfold frzM
    split
    ·rename_i blk' hB'
     rw [if_neg]
     ·exact ok.free j
     ·rintro ⟨rfl, _⟩
      obtain ⟨e1, e2⟩ := h.box.inj d i 0 id blk hB hB'
      exact hne ⟨e1, e2⟩
    ·exact ok.free j
   ·intro j c hj
    obtain ⟨r1, r2, r3⟩ := ok.rel j c hj
    refine ⟨?_, r2.frz hmono, r3⟩
    cases d with
    | zero =>
     rw [aKt] at r1 ⊢
     refine hrel0 _ _ r1 ?_
     -- nobody speaks of it
     have hin : (i, cs) ∈ lW st.bx := by rw [uD] at hc; exact kC hc
     rw [List.all_eq_true] at hmn
     have hx := hmn (i, cs) hin
     simp only [Bool.or_eq_true, beq_iff_eq, List.all_eq_true, Bool.not_eq_true'] at hx
     have hx := hx.resolve_left (fun e => hne ⟨rfl, e⟩)
     unfold phys at hj
     split at hj
     ·rename_i sz2 E2
      have hsol : c.solid1 = true := by
       obtain ⟨x, hx, hc'⟩ := List.mem_flatMap.1 (List.mem_of_getElem? hj)
       exact (fU (k1.2 x hx)).2 c hc'
      cases c <;> first | rfl | simp [PV.solid1] at hsol
     ·exact hx c (List.mem_of_getElem? hj)
    | succ d =>
     have : upB (d + 1) (delB id B) = upB (d + 1) B := by funext e i2; unfold upB; rw [zM (by rintro ⟨h0, _⟩; omega)]
     rw [this]
     exact r1.mono hmono (fun _ _ _ hx => hx)
  ·exact .inr ⟨by rw [zM hne]; exact hno, hex⟩
 ·intro d i d' i' blk h1 h2
  exact h.box.inj d i d' i' blk (aGD h1) (aGD h2)
 ·intro b hb hnt
  refine ⟨rfl, fun i => ?_⟩
  unfold frzM
  split
  ·rename_i blk hB
   rw [if_neg]
   rintro ⟨rfl, _⟩
   exact hnt (.inr ⟨0, id, hB⟩)
  ·rfl
 ·intro d i; rw [zM (by rintro ⟨h0, _⟩; omega)]
theorem vN:∀ (l:List Nat) {st st':St} {M:Mem} {B:BM},SR base M B st tm w→tF l st some=some st'→Rch base M B st tm w st' tm w
 | [],st,st',M,B,h,hf=>by cases hf;exact Rch.refl h
 | t::l,st,st',M,B,h,hf=>by
  simp only [tF] at hf
  split at hf
  ·rw [aCe] at hf
   obtain ⟨s1,h1,hf⟩:=aB hf
   exact (aKL h h1).trans fun M' B' h'=>vN l h' hf
  ·rw [aHe] at hf
   obtain ⟨s1,h1,hf⟩:=aB hf
   exact (aPX h h1).trans fun M' B' h'=>vN l h' hf
theorem aHf {l:List (Nat×List Nat)} {i:Nat} {st':St} (h:SR base M B st tm w) (hf:aDo l i st some=some st'):Rch base M B st tm w st' tm w:=by
 unfold aDo at hf
 split at hf
 ·exact vN _ h hf
 ·cases hf;exact Rch.refl h
end
end Go.Ev
