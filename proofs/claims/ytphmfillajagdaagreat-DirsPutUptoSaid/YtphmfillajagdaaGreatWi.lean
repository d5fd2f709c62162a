import Derived.Test.YtphmfillajagdaaGreatWf
import Derived.Test.YtphmfillajagdaaGreatWg
import Derived.Test.YtphmfillajagdaaGreatWb
import Derived.Test.YtphmfillajagdaaGreatWa
import Derived.KernelRfl
import Derived.Test.YtphmfillajagdaaGreatGa
import Derived.Test.YtphmfillajagdaaGreatGd
import Derived.Test.YtphmfillajagdaaGreatRows
import Derived.WalkKit
import Derived.ProofKit
import Derived.OpenShut
import Derived.JoinedCond
import Derived.Test.YtphmfillajagdaaGreatEd
set_option maxRecDepth 100000
set_option linter.unusedVariables false
set_option linter.unusedSimpArgs false
set_option linter.unusedSimpArgs false
open Go Go.Ev Go.RowKit
namespace Go.Proofs.YtphmfillajagdaaGreat
theorem wS s d n v (h:dQ s d n=some v) {M w} S D (f:Cons M w) (k:Rv M noB (.agg [(.slice (List.map aH s.defs) [] false),(.str s.query),(.str s.mutation)]) S) (g:Rv M noB (.agg [(.slice (List.map aU d.ops) [] false),(.slice (List.map aG d.frags) [] false)]) D) :
  Calls Tryz.prog 15 #[S,D,.int .i64 n] w fun e w'=>∃ M',e = .returned (.bool v)/\Cons M' w'/\Quiet M w M' w':=by
 have j:=h;have c  := bH (enc:=fun r=>(aA r,[])) j;have key:=kF pokX xok c (M:=M) (w:=w) (vals := #[S,D,.int .i64 n]) rfl f ⟨rfl,fun i p a=>by
  match i,a with
  | 0,a=>cases a;exact ⟨k,aW rfl⟩
  | 1,a=>cases a;exact ⟨g,aW rfl⟩
  | 2,a=>cases a;exact ⟨.int _ _,aW rfl⟩
  | i+3,a=>grind⟩
 refine key.mono ?_;rintro e w' ⟨u,M',rfl,hv,b,l⟩;cases hv;grind
theorem wT {M w} (b:Cons M w):Calls Tryz.prog 12 #[] w fun e w'=>∃ M',e = .returned (.bool true)/\Cons M' w'/\Quiet M w M' w':=by
 have hk:qT=some true:=aCD 100 (by kernel_rfl);unfold qT at hk;have a  := bH (enc:=fun r=>(aA r,[])) hk;have key:=kF pokX xok a (M:=M) (w:=w) (vals := #[]) rfl b ⟨rfl,fun i p d=>by grind⟩;refine key.mono ?_;rintro e w' ⟨u,M',rfl,hv,hc',c⟩;cases hv;grind
noncomputable def askC:Code:=fstC (sndC (sndC (sndC (sndC (sndC (sndC (sndC (sndC (sndC (aS Tryz.f3))))))))))
theorem ask {M w} X Z0 Z1 V Y xs P ps (R U:Str) d S f j T g I n1 L G m1 N z n2 x s m2 u J n3 A B m3 C (hc:Cons M w) (hX:w.heap[X]?=some (.cells #[.slice xs P ps,.string ⟨R.toArray⟩,.string ⟨U.toArray⟩] 24 (0,0)))
  (hZ0:w.heap[Z0]?=some (.cells #[.slice d S f,.slice j T g] 28 (0,0))) (hZ1:w.heap[Z1]?=some (.cells #[.slice I n1 L,.slice G m1 N] 28 (0,0))) (hZ2:w.heap[V]?=some (.cells #[.slice z n2 x,.slice s m2 u] 28 (0,0))) (W:w.heap[Y]?=some (.cells #[.slice J n3 A,.slice B m3 C] 28 (0,0)))
  (h0:Hid (∀ M' w',Cons M' w'->(∀ b i v,M b i=some v->M' b i=some v)->Calls Tryz.prog 15 #[.agg #[.slice xs P ps,.string ⟨R.toArray⟩,.string ⟨U.toArray⟩],.agg #[.slice d S f,.slice j T g],.int .i64 12] w' fun e a=>∃ c,e = .returned (.bool true)/\Cons c a/\Quiet M' w' c a)) (h1:Hid (∀ M' w',Cons M' w'->(∀ b i v,M b i=some v->M' b i=some v)->Calls Tryz.prog 15 #[.agg #[.slice xs P ps,.string ⟨R.toArray⟩,.string ⟨U.toArray⟩],.agg #[.slice d S f,.slice j T g],.int .i64 13] w' fun e a=>∃ c,e = .returned (.bool true)/\Cons c a/\Quiet M' w' c a)) (h2:Hid (∀ M' w',Cons M' w'->(∀ b i v,M b i=some v->M' b i=some v)->Calls Tryz.prog 15 #[.agg #[.slice xs P ps,.string ⟨R.toArray⟩,.string ⟨U.toArray⟩],.agg #[.slice d S f,.slice j T g],.int .i64 14] w' fun e a=>∃ c,e = .returned (.bool true)/\Cons c a/\Quiet M' w' c a)) (h3:Hid (∀ M' w',Cons M' w'->(∀ b i v,M b i=some v->M' b i=some v)->Calls Tryz.prog 15 #[.agg #[.slice xs P ps,.string ⟨R.toArray⟩,.string ⟨U.toArray⟩],.agg #[.slice I n1 L,.slice G m1 N],.int .i64 14] w' fun e a=>∃ c,e = .returned (.bool false)/\Cons c a/\Quiet M' w' c a)) (h4:Hid (∀ M' w',Cons M' w'->(∀ b i v,M b i=some v->M' b i=some v)->Calls Tryz.prog 15 #[.agg #[.slice xs P ps,.string ⟨R.toArray⟩,.string ⟨U.toArray⟩],.agg #[.slice z n2 x,.slice s m2 u],.int .i64 13] w' fun e a=>∃ c,e = .returned (.bool false)/\Cons c a/\Quiet M' w' c a)) (h5:Hid (∀ M' w',Cons M' w'->(∀ b i v,M b i=some v->M' b i=some v)->Calls Tryz.prog 15 #[.agg #[.slice xs P ps,.string ⟨R.toArray⟩,.string ⟨U.toArray⟩],.agg #[.slice J n3 A,.slice B m3 C],.int .i64 12] w' fun e a=>∃ c,e = .returned (.bool false)/\Cons c a/\Quiet M' w' c a))
  Q l nm (hf:FK l X nm Z0 Z1 V Y)
  (hC:∀ w' M' l',l'.length=192->at_ l' 6 = .bool true->Cons M' w'->Below w.heap.size w w'->(∀ b i v,M b i=some v->M' b i=some v)->(∀ b,b<w.heap.size->∀ i,M' b i=M b i)->Q .normal ⟨l'.toArray,[]⟩ w') :
  Code.wp Tryz.prog askC Q ⟨l.toArray,[]⟩ w:=by
 have m:Hid (∀ w':World,Below w.heap.size w w'->w'.cell? ⟨X,0,none⟩=some (.slice xs P ps)/\w'.cell? ⟨X,1,none⟩=some (.string ⟨R.toArray⟩)/\w'.cell? ⟨X,2,none⟩=some (.string ⟨U.toArray⟩)/\w'.cell? ⟨Z0,0,none⟩=some (.slice d S f)/\w'.cell? ⟨Z0,1,none⟩=some (.slice j T g)/\w'.cell? ⟨Z1,0,none⟩=some (.slice I n1 L)/\w'.cell? ⟨Z1,1,none⟩=some (.slice G m1 N)/\w'.cell? ⟨V,0,none⟩=some (.slice z n2 x)/\w'.cell? ⟨V,1,none⟩=some (.slice s m2 u)/\w'.cell? ⟨Y,0,none⟩=some (.slice J n3 A)/\w'.cell? ⟨Y,1,none⟩=some (.slice B m3 C)):=by
  intro w' hb;have p:∀ b o,w.heap[b]?=some o->w'.heap[b]?=some o:=fun b o h=>(hb.block b (Array.getElem?_eq_some_iff.1 h).1).trans h;refine ⟨by rw [cell_of_row w' X 0 _ _ _ (p _ _ hX)];rfl,by rw [cell_of_row w' X 1 _ _ _ (p _ _ hX)];rfl,by rw [cell_of_row w' X 2 _ _ _ (p _ _ hX)];rfl,by rw [cell_of_row w' Z0 0 _ _ _ (p _ _ hZ0)];rfl,by rw [cell_of_row w' Z0 1 _ _ _ (p _ _ hZ0)];rfl,by rw [cell_of_row w' Z1 0 _ _ _ (p _ _ hZ1)];rfl,by rw [cell_of_row w' Z1 1 _ _ _ (p _ _ hZ1)];rfl,by rw [cell_of_row w' V 0 _ _ _ (p _ _ hZ2)];rfl,by rw [cell_of_row w' V 1 _ _ _ (p _ _ hZ2)];rfl,by rw [cell_of_row w' Y 0 _ _ _ (p _ _ W)];rfl,by rw [cell_of_row w' Y 1 _ _ _ (p _ _ W)];rfl⟩
 have k:Hid (∀ (r H:World) (M1 D:Mem),Below w.heap.size w r->Quiet M1 r D H->Below w.heap.size w H):=fun r H M1 D hb q=>hb.trans ⟨q.os,q.tape,q.output,q.size,fun b hbl=>(q.old b (by have:=hb.size;omega)).1⟩;have n:Hid (∀ r H M1 D,Below w.heap.size w r->Quiet M1 r D H->(∀ b,b<w.heap.size->∀ i,M1 b i=M b i)->(∀ b,b<w.heap.size->∀ i,D b i=M b i)):=fun r H M1 D hb q h b hbl i=>((q.old b (by have:=hb.size;omega)).2 i).trans (h b hbl i);obtain ⟨k0,k1,k2,k3,k4,k5,k6,k7,k8,k9,k10⟩:=m.out w (Below.refl _ _);replace hC:=(id hC:Hid _);clear hX hZ0 hZ1 hZ2 W;have hlen:=hf.len;revert hf;refine jE 192 (fun l=>FK l X nm Z0 Z1 V Y->Code.wp Tryz.prog _ _ ⟨l.toArray,[]⟩ _) ?_ l hlen;simp only [AllL];iterate 192 intro _
 rintro ⟨_,e3,e7,e8,e9,e10,e11⟩;simp [at_] at e3 e7 e8 e9 e10 e11;subst e3 e7 e8 e9 e10 e11;unfold askC;simp [Tryz.f3,aS,sndC,fstC];go_wp2_with (first | (go_at_call_of 15 (.agg #[.slice d S f,.slice j T g]:Value);go_at_call_of 15 (.int .i64 12:Value);refine (h0.out M w hc (fun _ _ _ h=>h)).mono ?_;rintro e' r ⟨M1,rfl,hc1,E⟩;have hb1:Hid _:=k.out _ _ _ _ (Below.refl _ _) E;have ho1:Hid _:=n.out _ _ _ _ (Below.refl _ _) E (fun _ _ _=>rfl);have hm1:Hid (∀ b i v,M b i=some v->M1 b i=some v):=fun b i v hv=>E.mem b i v ((fun _ _ _ h=>h) b i v hv);obtain ⟨k1_0,k1_1,k1_2,k1_3,k1_4,k1_5,k1_6,k1_7,k1_8,k1_9,k1_10⟩:=m.out r hb1.out;clear E) | (go_at_call_of 15 (.agg #[.slice d S f,.slice j T g]:Value);go_at_call_of 15 (.int .i64 13:Value);refine (h1.out M1 r hc1 hm1.out).mono ?_;rintro e' H ⟨D,rfl,hc2,y⟩;have hb2:Hid _:=k.out _ _ _ _ hb1.out y;have ho2:Hid _:=n.out _ _ _ _ hb1.out y ho1.out;have hm2:Hid (∀ b i v,M b i=some v->D b i=some v):=fun b i v hv=>y.mem b i v (hm1.out b i v hv);obtain ⟨k2_0,k2_1,k2_2,k2_3,k2_4,k2_5,k2_6,k2_7,k2_8,k2_9,k2_10⟩:=m.out H hb2.out;clear y) | (go_at_call_of 15 (.agg #[.slice d S f,.slice j T g]:Value);go_at_call_of 15 (.int .i64 14:Value);refine (h2.out D H hc2 hm2.out).mono ?_;rintro e' w3 ⟨M3,rfl,hc3,K⟩;have Z:Hid _:=k.out _ _ _ _ hb2.out K;have ho3:Hid _:=n.out _ _ _ _ hb2.out K ho2.out;have hm3:Hid (∀ b i v,M b i=some v->M3 b i=some v):=fun b i v hv=>K.mem b i v (hm2.out b i v hv);obtain ⟨k3_0,k3_1,k3_2,k3_3,k3_4,k3_5,k3_6,k3_7,k3_8,k3_9,k3_10⟩:=m.out w3 Z.out;clear K) | (go_at_call_of 15 (.agg #[.slice I n1 L,.slice G m1 N]:Value);go_at_call_of 15 (.int .i64 14:Value);refine (h3.out M3 w3 hc3 hm3.out).mono ?_;rintro e' w4 ⟨M4,rfl,hc4,F⟩;have hb4:Hid _:=k.out _ _ _ _ Z.out F;have ho4:Hid _:=n.out _ _ _ _ Z.out F ho3.out;have hm4:Hid (∀ b i v,M b i=some v->M4 b i=some v):=fun b i v hv=>F.mem b i v (hm3.out b i v hv);obtain ⟨k4_0,k4_1,k4_2,k4_3,k4_4,k4_5,k4_6,k4_7,k4_8,k4_9,k4_10⟩:=m.out w4 hb4.out;clear F) | (go_at_call_of 15 (.agg #[.slice z n2 x,.slice s m2 u]:Value);go_at_call_of 15 (.int .i64 13:Value);refine (h4.out M4 w4 hc4 hm4.out).mono ?_;rintro e' w5 ⟨M5,rfl,hc5,O⟩;have hb5:Hid _:=k.out _ _ _ _ hb4.out O;have ho5:Hid _:=n.out _ _ _ _ hb4.out O ho4.out;have hm5:Hid (∀ b i v,M b i=some v->M5 b i=some v):=fun b i v hv=>O.mem b i v (hm4.out b i v hv);obtain ⟨k5_0,k5_1,k5_2,k5_3,k5_4,k5_5,k5_6,k5_7,k5_8,k5_9,k5_10⟩:=m.out w5 hb5.out;clear O) | (go_at_call_of 15 (.agg #[.slice J n3 A,.slice B m3 C]:Value);go_at_call_of 15 (.int .i64 12:Value);refine (h5.out M5 w5 hc5 hm5.out).mono ?_;rintro e' w6 ⟨M6,rfl,hc6,t⟩;have hb6:Hid _:=k.out _ _ _ _ hb5.out t;have ho6:Hid _:=n.out _ _ _ _ hb5.out t ho5.out;have hm6:Hid (∀ b i v,M b i=some v->M6 b i=some v):=fun b i v hv=>t.mem b i v (hm5.out b i v hv);obtain ⟨k6_0,k6_1,k6_2,k6_3,k6_4,k6_5,k6_6,k6_7,k6_8,k6_9,k6_10⟩:=m.out w6 hb6.out;clear t) | (go_at_call 12;refine (wT hc6).mono ?_;rintro e' w7 ⟨M7,rfl,hc7,hq7⟩;have hb7:Hid _:=k.out _ _ _ _ hb6.out hq7;have ho7:Hid _:=n.out _ _ _ _ hb6.out hq7 ho6.out;have hm7:Hid (∀ b i v,M b i=some v->M7 b i=some v):=fun b i v hv=>hq7.mem b i v (hm6.out b i v hv)));exact hC.out w7 M7 _ rfl rfl hc7 hb7.out hm7.out ho7.out
end Go.Proofs.YtphmfillajagdaaGreat
set_option maxHeartbeats 16000000
open Go Go.Ev Go.RowKit
namespace Go.Proofs.YtphmfillajagdaaGreat
noncomputable def bAG:Code:=fstC (sndC (aS Tryz.f3))
theorem guard {M w} X Y xs ls ps (sq sm:Str) a b l p q r b9 c10 k11 (hc:Cons M w) (hX:w.heap[X]?=some (.cells #[.slice xs ls ps,.string ⟨sq.toArray⟩,.string ⟨sm.toArray⟩] 24 (0,0))) (hY:w.heap[Y]?=some (.cells #[.slice a l p,.slice b q r] 28 (0,0)))
  (h9:Hid (∀ M' w',Cons M' w'->(∀ b i v,M b i=some v->M' b i=some v)->Calls Tryz.prog 9 #[.agg #[.slice xs ls ps,.string ⟨sq.toArray⟩,.string ⟨sm.toArray⟩],.agg #[.slice a l p,.slice b q r]] w' fun e E=>∃ F,e = .returned (.bool b9)/\Cons F E/\Quiet M' w' F E))
  (h10:Hid (∀ M' w',Cons M' w'->(∀ b i v,M b i=some v->M' b i=some v)->Calls Tryz.prog 10 #[.agg #[.slice xs ls ps,.string ⟨sq.toArray⟩,.string ⟨sm.toArray⟩]] w' fun e E=>∃ F,e = .returned (.int .i64 c10)/\Cons F E/\Quiet M' w' F E))
  (h11:Hid (∀ M' w',Cons M' w'->(∀ b i v,M b i=some v->M' b i=some v)->Calls Tryz.prog 11 #[.agg #[.slice xs ls ps,.string ⟨sq.toArray⟩,.string ⟨sm.toArray⟩],.agg #[.slice a l p,.slice b q r],.int .i64 15] w' fun e E=>∃ F,e = .returned (.bool k11)/\Cons F E/\Quiet M' w' F E))
  Q fr (hlen:fr.length=192) e2 (g2:at_ fr 2=e2) (g3:at_ fr 3 = .pointer (some ⟨X,0,none⟩)) (g4:at_ fr 4 = .pointer (some ⟨Y,0,none⟩))
  (hR:∀ w' M' l',l'.length=192->Cons M' w'->Below w.heap.size w w'->(∀ b i v,M b i=some v->M' b i=some v)->(∀ b,b<w.heap.size->∀ i,M' b i=M b i)->at_ l' 6 = .bool true->Q .ret ⟨l'.toArray,[]⟩ w')
  (hN:b9=true->l≠0->c10=0->k11=true->∀ w' M' l',l'.length=192->Cons M' w'->Below w.heap.size w w'->(∀ b i v,M b i=some v->M' b i=some v)->(∀ b,b<w.heap.size->∀ i,M' b i=M b i)->at_ l' 2=e2->at_ l' 3 = .pointer (some ⟨X,0,none⟩)->at_ l' 4 = .pointer (some ⟨Y,0,none⟩)->Q .normal ⟨l'.toArray,[]⟩ w') :
  Code.wp Tryz.prog bAG Q ⟨fr.toArray,[]⟩ w:=by
 have j:Hid (∀ w':World,Below w.heap.size w w'->w'.cell? ⟨X,0,none⟩=some (.slice xs ls ps)/\w'.cell? ⟨X,1,none⟩=some (.string ⟨sq.toArray⟩)/\w'.cell? ⟨X,2,none⟩=some (.string ⟨sm.toArray⟩)/\w'.cell? ⟨Y,0,none⟩=some (.slice a l p)/\w'.cell? ⟨Y,1,none⟩=some (.slice b q r)):=by
  intro w' hb;have hl:∀ b o,w.heap[b]?=some o->w'.heap[b]?=some o:=fun b o h=>(hb.block b (Array.getElem?_eq_some_iff.1 h).1).trans h;exact ⟨by rw [cell_of_row w' X 0 _ _ _ (hl _ _ hX)];rfl,by rw [cell_of_row w' X 1 _ _ _ (hl _ _ hX)];rfl,by rw [cell_of_row w' X 2 _ _ _ (hl _ _ hX)];rfl,by rw [cell_of_row w' Y 0 _ _ _ (hl _ _ hY)];rfl,by rw [cell_of_row w' Y 1 _ _ _ (hl _ _ hY)];rfl⟩
 have k:Hid (∀ (x y:World) (M1 u:Mem),Below w.heap.size w x->Quiet M1 x u y->Below w.heap.size w y):=fun x y M1 u hb q=>hb.trans ⟨q.os,q.tape,q.output,q.size,fun b hbl=>(q.old b (by have:=hb.size;omega)).1⟩;have n:Hid (∀ (x y:World) (M1 u:Mem),Below w.heap.size w x->Quiet M1 x u y->(∀ b,b<w.heap.size->∀ i,M1 b i=M b i)->(∀ b,b<w.heap.size->∀ i,u b i=M b i)):=fun x y M1 u hb q h b hbl i=>((q.old b (by have:=hb.size;omega)).2 i).trans (h b hbl i);obtain ⟨k0,k1,k2,k3,k4⟩:=j.out w (Below.refl _ _);replace hR:=(id hR:Hid _);replace hN:=(id hN:Hid _);clear hX hY;revert g2 g3 g4;refine jE 192 (fun fr=>at_ fr 2=e2->at_ fr 3=_->at_ fr 4=_->Code.wp Tryz.prog _ _ ⟨fr.toArray,[]⟩ _) ?_ fr hlen;simp only [AllL];iterate 192 intro _
 intro g2 g3 g4;simp only [at_] at g2 g3 g4;subst g2 g3 g4;unfold bAG;simp [Tryz.f3,aS,sndC,fstC];cases b9 with
 | false =>
  go_wp2_with (first | (go_at_call 9;refine (h9.out M w hc (fun _ _ _ h=>h)).mono ?_;rintro S x ⟨M1,rfl,z,c⟩;have f:Hid _:=k.out _ _ _ _ (Below.refl _ _) c;have B:Hid _:=n.out _ _ _ _ (Below.refl _ _) c (fun _ _ _=>rfl);have s:Hid (∀ b i v,M b i=some v->M1 b i=some v):=fun b i v hv=>c.mem b i v ((fun _ _ _ h=>h) b i v hv);obtain ⟨P,K,G,N,H⟩:=j.out x f.out;clear c) | (go_at_call 12;refine (wT z).mono ?_;rintro S y ⟨u,rfl,D,d⟩;have g:Hid _:=k.out _ _ _ _ f.out d;have C:Hid _:=n.out _ _ _ _ f.out d B.out;have t:Hid (∀ b i v,M b i=some v->u b i=some v):=fun b i v hv=>d.mem b i v (s.out b i v hv);obtain ⟨O,R,L,J,I⟩:=j.out y g.out;clear d));exact hR.out y u _ rfl D g.out t.out C.out rfl
 | true =>
  by_cases hl:l=0;· subst hl;go_wp2_with (first | (go_at_call 9;refine (h9.out M w hc (fun _ _ _ h=>h)).mono ?_;rintro S x ⟨M1,rfl,z,c⟩;have f:Hid _:=k.out _ _ _ _ (Below.refl _ _) c;have B:Hid _:=n.out _ _ _ _ (Below.refl _ _) c (fun _ _ _=>rfl);have s:Hid (∀ b i v,M b i=some v->M1 b i=some v):=fun b i v hv=>c.mem b i v ((fun _ _ _ h=>h) b i v hv);obtain ⟨P,K,G,N,H⟩:=j.out x f.out;clear c) | (go_at_call 12;refine (wT z).mono ?_;rintro S y ⟨u,rfl,D,d⟩;have g:Hid _:=k.out _ _ _ _ f.out d;have C:Hid _:=n.out _ _ _ _ f.out d B.out;have t:Hid (∀ b i v,M b i=some v->u b i=some v):=fun b i v hv=>d.mem b i v (s.out b i v hv);obtain ⟨O,R,L,J,I⟩:=j.out y g.out;clear d));exact hR.out y u _ rfl D g.out t.out C.out rfl
  have hli:¬ (l=0):=by omega
  have hlp:0<l:=by omega
  by_cases hc0:c10=0;case neg =>
   go_wp2_with (first | (go_at_call 9;refine (h9.out M w hc (fun _ _ _ h=>h)).mono ?_;rintro S x ⟨M1,rfl,z,c⟩;have f:Hid _:=k.out _ _ _ _ (Below.refl _ _) c;have B:Hid _:=n.out _ _ _ _ (Below.refl _ _) c (fun _ _ _=>rfl);have s:Hid (∀ b i v,M b i=some v->M1 b i=some v):=fun b i v hv=>c.mem b i v ((fun _ _ _ h=>h) b i v hv);obtain ⟨P,K,G,N,H⟩:=j.out x f.out;clear c) | (go_at_call 10;refine (h10.out M1 x z s.out).mono ?_;rintro S y ⟨u,rfl,D,d⟩;have g:Hid _:=k.out _ _ _ _ f.out d;have C:Hid _:=n.out _ _ _ _ f.out d B.out;have t:Hid (∀ b i v,M b i=some v->u b i=some v):=fun b i v hv=>d.mem b i v (s.out b i v hv);obtain ⟨O,R,L,J,I⟩:=j.out y g.out;clear d) | (go_at_call 12;refine (wT D).mono ?_;rintro S w3 ⟨M3,rfl,V,m⟩;have A:Hid _:=k.out _ _ _ _ g.out m;have U:Hid _:=n.out _ _ _ _ g.out m C.out;have T:Hid (∀ b i v,M b i=some v->M3 b i=some v):=fun b i v hv=>m.mem b i v (t.out b i v hv);obtain ⟨k3_0,k3_1,k3_2,k3_3,Z⟩:=j.out w3 A.out;clear m));exact hR.out w3 M3 _ rfl V A.out T.out U.out rfl
  subst hc0;cases k11 with
  | false =>
   go_wp2_with (first | (go_at_call 9;refine (h9.out M w hc (fun _ _ _ h=>h)).mono ?_;rintro S x ⟨M1,rfl,z,c⟩;have f:Hid _:=k.out _ _ _ _ (Below.refl _ _) c;have B:Hid _:=n.out _ _ _ _ (Below.refl _ _) c (fun _ _ _=>rfl);have s:Hid (∀ b i v,M b i=some v->M1 b i=some v):=fun b i v hv=>c.mem b i v ((fun _ _ _ h=>h) b i v hv);obtain ⟨P,K,G,N,H⟩:=j.out x f.out;clear c) | (go_at_call 10;refine (h10.out M1 x z s.out).mono ?_;rintro S y ⟨u,rfl,D,d⟩;have g:Hid _:=k.out _ _ _ _ f.out d;have C:Hid _:=n.out _ _ _ _ f.out d B.out;have t:Hid (∀ b i v,M b i=some v->u b i=some v):=fun b i v hv=>d.mem b i v (s.out b i v hv);obtain ⟨O,R,L,J,I⟩:=j.out y g.out;clear d) | (go_at_call 11;refine (h11.out u y D t.out).mono ?_;rintro S w3 ⟨M3,rfl,V,m⟩;have A:Hid _:=k.out _ _ _ _ g.out m;have U:Hid _:=n.out _ _ _ _ g.out m C.out;have T:Hid (∀ b i v,M b i=some v->M3 b i=some v):=fun b i v hv=>m.mem b i v (t.out b i v hv);obtain ⟨k3_0,k3_1,k3_2,k3_3,Z⟩:=j.out w3 A.out;clear m) | (go_at_call 12;refine (wT V).mono ?_;rintro S w4 ⟨M4,rfl,hc4,W⟩;have hb4:Hid _:=k.out _ _ _ _ A.out W;have ho4:Hid _:=n.out _ _ _ _ A.out W U.out;have hm4:Hid (∀ b i v,M b i=some v->M4 b i=some v):=fun b i v hv=>W.mem b i v (T.out b i v hv);obtain ⟨k4_0,k4_1,k4_2,k4_3,k4_4⟩:=j.out w4 hb4.out;clear W));exact hR.out w4 M4 _ rfl hc4 hb4.out hm4.out ho4.out rfl
  | true =>
   go_wp2_with (first | (go_at_call 9;refine (h9.out M w hc (fun _ _ _ h=>h)).mono ?_;rintro S x ⟨M1,rfl,z,c⟩;have f:Hid _:=k.out _ _ _ _ (Below.refl _ _) c;have B:Hid _:=n.out _ _ _ _ (Below.refl _ _) c (fun _ _ _=>rfl);have s:Hid (∀ b i v,M b i=some v->M1 b i=some v):=fun b i v hv=>c.mem b i v ((fun _ _ _ h=>h) b i v hv);obtain ⟨P,K,G,N,H⟩:=j.out x f.out;clear c) | (go_at_call 10;refine (h10.out M1 x z s.out).mono ?_;rintro S y ⟨u,rfl,D,d⟩;have g:Hid _:=k.out _ _ _ _ f.out d;have C:Hid _:=n.out _ _ _ _ f.out d B.out;have t:Hid (∀ b i v,M b i=some v->u b i=some v):=fun b i v hv=>d.mem b i v (s.out b i v hv);obtain ⟨O,R,L,J,I⟩:=j.out y g.out;clear d) | (go_at_call 11;refine (h11.out u y D t.out).mono ?_;rintro S w3 ⟨M3,rfl,V,m⟩;have A:Hid _:=k.out _ _ _ _ g.out m;have U:Hid _:=n.out _ _ _ _ g.out m C.out;have T:Hid (∀ b i v,M b i=some v->M3 b i=some v):=fun b i v hv=>m.mem b i v (t.out b i v hv);obtain ⟨k3_0,k3_1,k3_2,k3_3,Z⟩:=j.out w3 A.out;clear m));exact hN.out (by first | rfl | trivial) (by first | exact hl | (simp) | trivial) (by first | rfl | trivial) (by first | rfl | trivial) w3 M3 _ rfl V A.out T.out U.out rfl rfl rfl
open Go Go.Ev Go.RowKit
theorem aFI {B E} {M M' a:Mem} {w w' f j d c l} (h:ChgF B E M w M' w' f j d c l) (off:∀ b,¬ (f.ownBlock=some b∨j.ownBlock=some b∨Own3 d c l b)->∀ i,a b i=M' b i):∀ k,k<w.heap.size->(k<B∨E<=k)->w'.heap[k]?=w.heap[k]?/\∀ i,a k i=M k i:=fun k g m =>
 ⟨h.blk k g m,fun i=>(off k (fun e=>by have:=h.fsh k e;omega) i).trans (h.old k g i)⟩
theorem aIr {n B E M M' a w w' f g d c e} (h:ChgF B E M w M' w' f g d c e) (off:∀ b,¬ (f.ownBlock=some b∨g.ownBlock=some b∨Own3 d c e b)->∀ i,a b i=M' b i) (k:∀ b i v,M' b i=some v->a b i=some v) (m:n<=w.heap.size) (l:n<=B):From n M w a w' :=
 ⟨fun b i v hv=>k b i v (h.mem b i v hv),fun b j i=>(aFI h off b (by omega) (by omega)).2 i,h.os,h.tape,h.output,h.size,fun b j=>h.blk b (by omega) (by omega)⟩
theorem aOz {n M M' w w'} (a:Below w.heap.size w w') (c:∀ b i v,M b i=some v->M' b i=some v) (d:∀ b,b<w.heap.size->∀ i,M' b i=M b i) (e:n<=w.heap.size):From n M w M' w' :=
 ⟨c,fun b h i=>by grind,a.os,a.tape,a.output,a.size,fun b h=>a.block b (by omega)⟩
def nmI (inc:Bool):Str:=bif inc then [105,110,99,108,117,100,101] else [115,107,105,112]
theorem bGs:∀ l i,l.toArray.getD i undef=at_ l i
 | [],i=>by simp [at_]
 | v::l,0=>by simp [at_]
 | v::l,i+1=>by have:=bGs l i;simpa [at_] using this
noncomputable def p0C:Code:=fstC (aS Tryz.f3)
noncomputable def p3C:Code:=fstC (sndC (sndC (aS Tryz.f3)))
noncomputable def p4C:Code:=fstC (sndC (sndC (sndC (aS Tryz.f3))))
noncomputable def pRC:Code:=sndC (sndC (sndC (sndC (sndC (sndC (sndC (sndC (sndC (sndC (aS Tryz.f3))))))))))
theorem bGL:Tryz.f3.body=some (.seq p0C (.seq bAG (.seq p3C (.seq p4C (.seq copC (.seq aRD (.seq aRE (.seq aKr (.seq aRF (.seq askC pRC)))))))))):=by kernel_rfl
def docA (d:GDoc) (x:GOp) (nm:Str):GDoc:=⟨d.ops.set 0 ⟨x.kind,x.name,x.vars,x.dirs,x.sels++[selY [dirY nm]]⟩,d.frags⟩
def docB (d:GDoc) (x:GOp) (nm:Str):GDoc:=⟨d.ops.set 0 ⟨x.kind,x.name,x.vars,x.dirs,x.sels++[selY [dirY nm,dirY nm]]⟩,d.frags⟩
def docC (d:GDoc) (x:GOp) (nm:Str):GDoc:=⟨d.ops.set 0 ⟨x.kind,x.name,x.vars,x.dirs++[dirY nm],x.sels⟩,d.frags⟩
def docE (d:GDoc) (x:GOp) (nm:Str):GDoc:=⟨d.ops.set 0 ⟨x.kind,x.name,x.vars,x.dirs,x.sels++[selY [dirY (nm++[115])]]⟩,d.frags⟩
theorem bAH s d g b9 c10 k11 {M w} xs ls ps a b p q r (hc:Cons M w) (hd:eF d<=1048576)
  (hS:Rv M noB (.agg [(.slice (List.map aH s.defs) [] false),(.str s.query),(.str s.mutation)]) (.agg #[.slice xs ls ps,.string ⟨s.query.toArray⟩,.string ⟨s.mutation.toArray⟩])) (hra:Rv M noB (.slice (List.map aU d.ops) [] false) (.slice a d.ops.length p)) (hrb:Rv M noB (.slice (List.map aG d.frags) [] false) (.slice b q r))
  (h9:Hid (∀ M' w',Cons M' w'->(∀ b i v,M b i=some v->M' b i=some v)->Calls Tryz.prog 9 #[.agg #[.slice xs ls ps,.string ⟨s.query.toArray⟩,.string ⟨s.mutation.toArray⟩],.agg #[.slice a d.ops.length p,.slice b q r]] w' fun e X=>∃ M'',e = .returned (.bool b9)/\Cons M'' X/\Quiet M' w' M'' X))
  (h10:Hid (∀ M' w',Cons M' w'->(∀ b i v,M b i=some v->M' b i=some v)->Calls Tryz.prog 10 #[.agg #[.slice xs ls ps,.string ⟨s.query.toArray⟩,.string ⟨s.mutation.toArray⟩]] w' fun e X=>∃ M'',e = .returned (.int .i64 c10)/\Cons M'' X/\Quiet M' w' M'' X))
  (h11:Hid (∀ M' w',Cons M' w'->(∀ b i v,M b i=some v->M' b i=some v)->Calls Tryz.prog 11 #[.agg #[.slice xs ls ps,.string ⟨s.query.toArray⟩,.string ⟨s.mutation.toArray⟩],.agg #[.slice a d.ops.length p,.slice b q r],.int .i64 15] w' fun e X=>∃ M'',e = .returned (.bool k11)/\Cons M'' X/\Quiet M' w' M'' X))
  (U:b9=true->c10=0->k11=true->∀ x,d.ops[0]?=some x->dQ s (docA d x (nmI g)) 12=some true/\dQ s (docA d x (nmI g)) 13=some true/\dQ s (docA d x (nmI g)) 14=some true/\dQ s (docB d x (nmI g)) 14=some false/\dQ s (docC d x (nmI g)) 13=some false/\dQ s (docE d x (nmI g)) 12=some false) :
  Calls Tryz.prog 3 #[.agg #[.slice xs ls ps,.string ⟨s.query.toArray⟩,.string ⟨s.mutation.toArray⟩],.agg #[.slice a d.ops.length p,.slice b q r],.bool g] w fun e w'=>∃ v M',e = .returned v/\Rv M' noB (.bool true) v/\Cons M' w'/\Quiet M w M' w':=by
 have hb1:Below w.heap.size w ((w.alloc (.cells #[.slice xs ls ps,.string ⟨s.query.toArray⟩,.string ⟨s.mutation.toArray⟩] 24)).alloc (.cells #[.slice a d.ops.length p,.slice b q r] 28)):=((Below.refl _ _).alloc (Nat.le_refl _) _).alloc (by simp) _;have hX:((w.alloc (.cells #[.slice xs ls ps,.string ⟨s.query.toArray⟩,.string ⟨s.mutation.toArray⟩] 24)).alloc (.cells #[.slice a d.ops.length p,.slice b q r] 28)).heap[w.heap.size]?=some (.cells #[.slice xs ls ps,.string ⟨s.query.toArray⟩,.string ⟨s.mutation.toArray⟩] 24 (0,0)):=(heap_alloc_old _ _ (by simp)).trans (heap_alloc_new w _);have hY:((w.alloc (.cells #[.slice xs ls ps,.string ⟨s.query.toArray⟩,.string ⟨s.mutation.toArray⟩] 24)).alloc (.cells #[.slice a d.ops.length p,.slice b q r] 28)).heap[w.heap.size+1]?=some (.cells #[.slice a d.ops.length p,.slice b q r] 28 (0,0)):=by
  have:=heap_alloc_new (w.alloc (.cells #[.slice xs ls ps,.string ⟨s.query.toArray⟩,.string ⟨s.mutation.toArray⟩] 24)) (.cells #[.slice a d.ops.length p,.slice b q r] 28);simpa using this
 have hc1:=kO hc hb1;have hF1:From w.heap.size M w M _:=From.of_below hb1;have hsz1:w.heap.size+2<=((w.alloc (.cells #[.slice xs ls ps,.string ⟨s.query.toArray⟩,.string ⟨s.mutation.toArray⟩] 24)).alloc (.cells #[.slice a d.ops.length p,.slice b q r] 28)).heap.size:=by simp
 refine calls_of_wp Tryz.func3 bGL ?_;simp only [Tryz.ntmps3,List.size_toArray,List.length_cons,List.length_nil,Nat.reduceAdd,Nat.reduceSub,Array.replicate_succ,
   Array.replicate_zero,List.push_toArray,List.append_toArray,List.nil_append,List.cons_append]
 generalize hQ:bodyPost Tryz.prog Tryz.f3 _=Q;replace hQ:=(id hQ:Hid _);replace hX:=(id hX:Hid _);replace hY:=(id hY:Hid _);replace hb1:=(id hb1:Hid _);replace hc1:=(id hc1:Hid _);replace hF1:=(id hF1:Hid _);replace U:=(id U:Hid _);replace hc:=(id hc:Hid _);unfold p0C;simp only [Tryz.f3,aS,fstC];go_wp2;rename_i K0 hK0;have fin:Hid (∀ (V:World) (M2:Mem) fr,Cons M2 V->From w.heap.size M w M2 V->at_ fr 6 = .bool true->Q .ret ⟨fr.toArray,[]⟩ V):=by
  intro V M2 fr k1 k2 k3;rw [<- hQ.out];refine bodyPost_ret (results_tmp (by rfl) _ _ _) rfl ?_;exact ⟨_,M2,rfl,by rw [bGs,k3];exact .bool true,k1,k2.mem,fun b hb=>⟨k2.below.block b hb,fun i=>k2.old b hb i⟩,k2.below.size,k2.below.os,k2.below.tape,k2.below.output⟩
 refine guard w.heap.size (w.heap.size+1) xs ls ps s.query s.mutation a b d.ops.length p q r b9 c10 k11 hc1.out hX.out hY.out h9 h10 h11 _ _ rfl _ rfl rfl rfl (fun V M2 fr hfl k1 k2 k3 k4 s6 => ?_) (fun D j e3 e4 V M2 fr hfl k1 k2 k3 k4 s2 s3 s4 => ?_);· exact fin.out V M2 fr k1 (hF1.out.trans (aOz k2 k3 k4 (by omega))) s6
 have F2:=hF1.out.trans (aOz k2 k3 k4 (by omega));have hX2:=(k2.block _ (Array.getElem?_eq_some_iff.1 hX.out).1).trans hX.out;have hY2:=(k2.block _ (Array.getElem?_eq_some_iff.1 hY.out).1).trans hY.out;have hz2:=k2.size;have hops:0<d.ops.length:=by omega
 obtain ⟨x0,F⟩:∃ x,d.ops[0]?=some x:=⟨_,List.getElem?_eq_getElem hops⟩;obtain ⟨r0,r1,r2,r3,r4,r5⟩:=U.out D e3 e4 x0 F;have hsz:x0.sels.length<1073741824/\x0.dirs.length<1073741824:=by
  have h1:=xH d;have h2:=eA (f:=bkOp) (List.mem_of_getElem? F);rw [kR] at h2;have A:=cK (f:=dC) (fun o=>by rw [gD];omega) x0.sels;have h4:=cK (f:=eZ) (fun o=>by rw [iG];omega) x0.dirs;omega
 replace k1:=(id k1:Hid _);replace F2:=(id F2:Hid _);replace hX2:=(id hX2:Hid _);replace hY2:=(id hY2:Hid _);replace F:=(id F:Hid _);replace hsz:=(id hsz:Hid _);replace hops:=(id hops:Hid _);clear k2 k3 k4 U h9 h10 h11 D j e3 e4 hc hX hY hc1 hF1 hb1;refine hK0 _ _ ?_;clear hK0;have hcop:Hid (∀ fr,fr.length=192->at_ fr 3 = .pointer (some ⟨w.heap.size,0,none⟩)->at_ fr 4 = .pointer (some ⟨w.heap.size+1,0,none⟩)->at_ fr 7 = .string ⟨(nmI g).toArray⟩->Code.wp Tryz.prog (.seq copC (.seq aRD (.seq aRE (.seq aKr (.seq aRF (.seq askC pRC)))))) Q ⟨fr.toArray,[]⟩ V):=by
  intro fr hfl s3 s4 s7;refine wp_seq ?_;refine cop d (w.heap.size+1) w.heap.size (nmI g) M2 V a b d.ops.length p q r hd hops.out k1.out (hra.mono F2.out.mem (fun _ _ _ h=>h)) (hrb.mono F2.out.mem (fun _ _ _ h=>h)) hY2.out _ fr hfl s3 s7 s4 (fun M3 w3 n Z0 ga0 n0 gc0 gb0 m0 gd0 Z1 ga1 n1 gc1 gb1 m1 gd1 Z2 ga2 n2 gc2 gb2 m2 gd2 Z3 ga3 n3 gc3 gb3 m3 gd3 l E hl => ?_);have hwd:V.drew.heap.size=V.heap.size:=rfl;have hs3:=E.frm.below.size;have F3:From w.heap.size M w M3 w3:=F2.out.trans ((aOz ((Below.refl V.heap.size V).drew) (fun _ _ _ h=>h) (fun _ _ _=>rfl) (by omega)).trans ⟨E.frm.mem,fun b hb i=>E.frm.old b (by omega) i,E.frm.below.os,E.frm.below.tape,E.frm.below.output,E.frm.below.size,fun k hk=>E.frm.below.block k (by omega)⟩);have hX3:=(E.frm.below.block w.heap.size (by omega)).trans hX2.out;obtain ⟨ys0,zs0,u20,u30,u40,hD0⟩:=E.doc0;obtain ⟨g0,nn0,cc0,ev0,_⟩:=hD0.at_;obtain ⟨rfl,rfl,rfl⟩:ga0=some ⟨g0,0,none⟩/\n0=nn0/\gc0=cc0:=by injection ev0 with D j e3;exact ⟨D,j,e3⟩
  clear ev0;have hB0:=hD0.hi g0 (.inl rfl);have hL0:V.heap.size<=(n 0).1:=by have:=E.lo 0;omega
  have hE0:=E.ivs.le 0;have hz0:=E.z0;have J:=E.ivs.le 4;rw [hz0] at J;have J:Z0<w3.heap.size:=J;have B:=E.box0;obtain ⟨ys1,zs1,u21,u31,u41,hD1⟩:=E.doc1;obtain ⟨g1,nn1,cc1,ev1,_⟩:=hD1.at_;obtain ⟨rfl,rfl,rfl⟩:ga1=some ⟨g1,0,none⟩/\n1=nn1/\gc1=cc1:=by injection ev1 with D j e3;exact ⟨D,j,e3⟩
  clear ev1;have hB1:=hD1.hi g1 (.inl rfl);have hL1:V.heap.size<=(n 1).1:=by have:=E.lo 1;omega
  have hE1:=E.ivs.le 1;have hz1:=E.z1;have K:=E.ivs.le 5;rw [hz1] at K;have K:Z1<w3.heap.size:=K;have z:=E.box1;obtain ⟨ys2,zs2,u22,u32,u42,Z⟩:=E.doc2;obtain ⟨g2,nn2,cc2,ev2,_⟩:=Z.at_;obtain ⟨rfl,rfl,rfl⟩:ga2=some ⟨g2,0,none⟩/\n2=nn2/\gc2=cc2:=by injection ev2 with D j e3;exact ⟨D,j,e3⟩
  clear ev2;have hB2:=Z.hi g2 (.inl rfl);have hL2:V.heap.size<=(n 2).1:=by have:=E.lo 2;omega
  have hE2:=E.ivs.le 2;have hz2:=E.z2;have I:=E.ivs.le 6;rw [hz2] at I;have I:Z2<w3.heap.size:=I;have y:=E.box2;obtain ⟨ys3,zs3,u23,u33,u43,O⟩:=E.doc3;obtain ⟨g3,nn3,cc3,ev3,_⟩:=O.at_;obtain ⟨rfl,rfl,rfl⟩:ga3=some ⟨g3,0,none⟩/\n3=nn3/\gc3=cc3:=by injection ev3 with D j e3;exact ⟨D,j,e3⟩
  clear ev3;have hB3:=O.hi g3 (.inl rfl);have hL3:V.heap.size<=(n 3).1:=by have:=E.lo 3;omega
  have hE3:=E.ivs.le 3;have hz3:=E.z3;have L:=E.ivs.le 7;rw [hz3] at L;have L:Z3<w3.heap.size:=L;have C:=E.box3;have hd00:(n 0).2<=Z0∨Z0<(n 0).1:=by have h:=E.ivs.dis 0 4 (by decide);rw [hz0] at h;exact h
  have hd01:(n 0).2<=Z1∨Z1<(n 0).1:=by have h:=E.ivs.dis 0 5 (by decide);rw [hz1] at h;exact h
  have hd02:(n 0).2<=Z2∨Z2<(n 0).1:=by have h:=E.ivs.dis 0 6 (by decide);rw [hz2] at h;exact h
  have hd03:(n 0).2<=Z3∨Z3<(n 0).1:=by have h:=E.ivs.dis 0 7 (by decide);rw [hz3] at h;exact h
  have hq01:=E.ivs.dis 0 1 (by decide);have hq02:=E.ivs.dis 0 2 (by decide);have hq03:=E.ivs.dis 0 3 (by decide);have hd10:(n 1).2<=Z0∨Z0<(n 1).1:=by have h:=E.ivs.dis 1 4 (by decide);rw [hz0] at h;exact h
  have hd11:(n 1).2<=Z1∨Z1<(n 1).1:=by have h:=E.ivs.dis 1 5 (by decide);rw [hz1] at h;exact h
  have hd12:(n 1).2<=Z2∨Z2<(n 1).1:=by have h:=E.ivs.dis 1 6 (by decide);rw [hz2] at h;exact h
  have hd13:(n 1).2<=Z3∨Z3<(n 1).1:=by have h:=E.ivs.dis 1 7 (by decide);rw [hz3] at h;exact h
  have hq10:=E.ivs.dis 1 0 (by decide);have hq12:=E.ivs.dis 1 2 (by decide);have hq13:=E.ivs.dis 1 3 (by decide);have hd20:(n 2).2<=Z0∨Z0<(n 2).1:=by have h:=E.ivs.dis 2 4 (by decide);rw [hz0] at h;exact h
  have hd21:(n 2).2<=Z1∨Z1<(n 2).1:=by have h:=E.ivs.dis 2 5 (by decide);rw [hz1] at h;exact h
  have hd22:(n 2).2<=Z2∨Z2<(n 2).1:=by have h:=E.ivs.dis 2 6 (by decide);rw [hz2] at h;exact h
  have hd23:(n 2).2<=Z3∨Z3<(n 2).1:=by have h:=E.ivs.dis 2 7 (by decide);rw [hz3] at h;exact h
  have hq20:=E.ivs.dis 2 0 (by decide);have hq21:=E.ivs.dis 2 1 (by decide);have hq23:=E.ivs.dis 2 3 (by decide);have hd30:(n 3).2<=Z0∨Z0<(n 3).1:=by have h:=E.ivs.dis 3 4 (by decide);rw [hz0] at h;exact h
  have hd31:(n 3).2<=Z1∨Z1<(n 3).1:=by have h:=E.ivs.dis 3 5 (by decide);rw [hz1] at h;exact h
  have hd32:(n 3).2<=Z2∨Z2<(n 3).1:=by have h:=E.ivs.dis 3 6 (by decide);rw [hz2] at h;exact h
  have hd33:(n 3).2<=Z3∨Z3<(n 3).1:=by have h:=E.ivs.dis 3 7 (by decide);rw [hz3] at h;exact h
  have hq30:=E.ivs.dis 3 0 (by decide);have hq31:=E.ivs.dis 3 1 (by decide);have hq32:=E.ivs.dis 3 2 (by decide);have hcE:=E.cons;have S:w.heap.size<V.heap.size:=by clear hd00 hd01 hd02 hd03;omega
  have c:w3.heap.size<=w3.heap.size:=Nat.le_refl _;have Y:w.heap.size<w3.heap.size:=Nat.lt_of_lt_of_le S hs3;replace F:=F.out;clear E;show Code.wp _ _ _ _ _;refine wp_seq ?_;obtain ⟨ax0,cx0,hu0⟩:=((hD0.mrk x0 F).1.o4).form;subst hu0;refine wayA (nmI g) hD0 (Nat.le_trans hE0 c) F hsz.out.1 hcE B hd00 _ _ hl (fun w4 M4 t40 ys0n l h1 h2 A hl => ?_);obtain ⟨M4s,mM4,hcM4,R,off0⟩:=h1.shut h2;have H:=aFI A off0;have F4:From w.heap.size M w M4s w4:=F3.trans (aIr A off0 mM4 (Nat.le_trans (Nat.le_of_lt Y) c) (Nat.le_trans (Nat.le_of_lt S) hL0));have m:w3.heap.size<=w4.heap.size:=Nat.le_trans c A.size;have hX4:=(H w.heap.size (Nat.lt_of_lt_of_le Y c) (.inl (Nat.lt_of_lt_of_le S hL0))).1.trans hX3;have B:=(H Z0 (Nat.lt_of_lt_of_le J c) hd00.symm).1.trans B;have z:=(H Z1 (Nat.lt_of_lt_of_le K c) hd01.symm).1.trans z;have y:=(H Z2 (Nat.lt_of_lt_of_le I c) hd02.symm).1.trans y;have C:=(H Z3 (Nat.lt_of_lt_of_le L c) hd03.symm).1.trans C;have hD1:=hD1.move (M':=M4s) (w':=w4) (fun b i v hv=>mM4 b i v (A.mem b i v hv)) (fun k D j=>(H k (Nat.lt_of_lt_of_le j (Nat.le_trans hE1 c)) (hq01.elim (fun h => .inr (Nat.le_trans h D)) (fun h => .inl (Nat.lt_of_lt_of_le j h)))).1) (fun k D j=>(H k (Nat.lt_of_lt_of_le j (Nat.le_trans hE1 c)) (hq01.elim (fun h => .inr (Nat.le_trans h D)) (fun h => .inl (Nat.lt_of_lt_of_le j h)))).2);have Z:=Z.move (M':=M4s) (w':=w4) (fun b i v hv=>mM4 b i v (A.mem b i v hv)) (fun k D j=>(H k (Nat.lt_of_lt_of_le j (Nat.le_trans hE2 c)) (hq02.elim (fun h => .inr (Nat.le_trans h D)) (fun h => .inl (Nat.lt_of_lt_of_le j h)))).1) (fun k D j=>(H k (Nat.lt_of_lt_of_le j (Nat.le_trans hE2 c)) (hq02.elim (fun h => .inr (Nat.le_trans h D)) (fun h => .inl (Nat.lt_of_lt_of_le j h)))).2);have O:=O.move (M':=M4s) (w':=w4) (fun b i v hv=>mM4 b i v (A.mem b i v hv)) (fun k D j=>(H k (Nat.lt_of_lt_of_le j (Nat.le_trans hE3 c)) (hq03.elim (fun h => .inr (Nat.le_trans h D)) (fun h => .inl (Nat.lt_of_lt_of_le j h)))).1) (fun k D j=>(H k (Nat.lt_of_lt_of_le j (Nat.le_trans hE3 c)) (hq03.elim (fun h => .inr (Nat.le_trans h D)) (fun h => .inl (Nat.lt_of_lt_of_le j h)))).2);clear h1 h2 A off0 H;show Code.wp _ _ _ _ _;refine wp_seq ?_;obtain ⟨ax1,cx1,hu1⟩:=((hD1.mrk x0 F).1.o4).form;subst hu1;refine wayB (nmI g) hD1 (Nat.le_trans hE1 m) F hsz.out.1 hcM4 z hd11 _ _ hl (fun w5 M5 t41 ys1n l h1 h2 A hl => ?_);obtain ⟨M5s,mM5,hcM5,rv1,off1⟩:=h1.shut h2;have P:=aFI A off1;have F5:From w.heap.size M w M5s w5:=F4.trans (aIr A off1 mM5 (Nat.le_trans (Nat.le_of_lt Y) m) (Nat.le_trans (Nat.le_of_lt S) hL1));have u:w3.heap.size<=w5.heap.size:=Nat.le_trans m A.size;have hX5:=(P w.heap.size (Nat.lt_of_lt_of_le Y m) (.inl (Nat.lt_of_lt_of_le S hL1))).1.trans hX4;have B:=(P Z0 (Nat.lt_of_lt_of_le J m) hd10.symm).1.trans B;have z:=(P Z1 (Nat.lt_of_lt_of_le K m) hd11.symm).1.trans z;have y:=(P Z2 (Nat.lt_of_lt_of_le I m) hd12.symm).1.trans y;have C:=(P Z3 (Nat.lt_of_lt_of_le L m) hd13.symm).1.trans C;have Z:=Z.move (M':=M5s) (w':=w5) (fun b i v hv=>mM5 b i v (A.mem b i v hv)) (fun k D j=>(P k (Nat.lt_of_lt_of_le j (Nat.le_trans hE2 m)) (hq12.elim (fun h => .inr (Nat.le_trans h D)) (fun h => .inl (Nat.lt_of_lt_of_le j h)))).1) (fun k D j=>(P k (Nat.lt_of_lt_of_le j (Nat.le_trans hE2 m)) (hq12.elim (fun h => .inr (Nat.le_trans h D)) (fun h => .inl (Nat.lt_of_lt_of_le j h)))).2);have O:=O.move (M':=M5s) (w':=w5) (fun b i v hv=>mM5 b i v (A.mem b i v hv)) (fun k D j=>(P k (Nat.lt_of_lt_of_le j (Nat.le_trans hE3 m)) (hq13.elim (fun h => .inr (Nat.le_trans h D)) (fun h => .inl (Nat.lt_of_lt_of_le j h)))).1) (fun k D j=>(P k (Nat.lt_of_lt_of_le j (Nat.le_trans hE3 m)) (hq13.elim (fun h => .inr (Nat.le_trans h D)) (fun h => .inl (Nat.lt_of_lt_of_le j h)))).2);have R:=R.mono (fun b i v hv=>mM5 b i v (A.mem b i v hv)) (fun _ _ _ h=>h);clear h1 h2 A off1 P;show Code.wp _ _ _ _ _;refine wp_seq ?_;obtain ⟨ax2,cx2,hu2⟩:=((Z.mrk x0 F).1.o3).form;subst hu2;refine bF9 (nmI g) Z (Nat.le_trans hE2 u) F hsz.out.2 hcM5 y hd22 _ _ hl (fun w6 M6 t42 ys2n l h1 h2 A hl => ?_);obtain ⟨M6s,mM6,hcM6,rv2,off2⟩:=h1.shut h2;have W:=aFI A off2;have F6:From w.heap.size M w M6s w6:=F5.trans (aIr A off2 mM6 (Nat.le_trans (Nat.le_of_lt Y) u) (Nat.le_trans (Nat.le_of_lt S) hL2));have G:w3.heap.size<=w6.heap.size:=Nat.le_trans u A.size;have hX6:=(W w.heap.size (Nat.lt_of_lt_of_le Y u) (.inl (Nat.lt_of_lt_of_le S hL2))).1.trans hX5;have B:=(W Z0 (Nat.lt_of_lt_of_le J u) hd20.symm).1.trans B;have z:=(W Z1 (Nat.lt_of_lt_of_le K u) hd21.symm).1.trans z;have y:=(W Z2 (Nat.lt_of_lt_of_le I u) hd22.symm).1.trans y;have C:=(W Z3 (Nat.lt_of_lt_of_le L u) hd23.symm).1.trans C;have O:=O.move (M':=M6s) (w':=w6) (fun b i v hv=>mM6 b i v (A.mem b i v hv)) (fun k D j=>(W k (Nat.lt_of_lt_of_le j (Nat.le_trans hE3 u)) (hq23.elim (fun h => .inr (Nat.le_trans h D)) (fun h => .inl (Nat.lt_of_lt_of_le j h)))).1) (fun k D j=>(W k (Nat.lt_of_lt_of_le j (Nat.le_trans hE3 u)) (hq23.elim (fun h => .inr (Nat.le_trans h D)) (fun h => .inl (Nat.lt_of_lt_of_le j h)))).2);have R:=R.mono (fun b i v hv=>mM6 b i v (A.mem b i v hv)) (fun _ _ _ h=>h);have rv1:=rv1.mono (fun b i v hv=>mM6 b i v (A.mem b i v hv)) (fun _ _ _ h=>h);clear h1 h2 A off2 W;show Code.wp _ _ _ _ _;refine wp_seq ?_;obtain ⟨ax3,cx3,hu3⟩:=((O.mrk x0 F).1.o4).form;subst hu3;refine wayE (nmI g) (by cases g<;>decide) O (Nat.le_trans hE3 G) F hsz.out.1 hcM6 C hd33 _ _ hl (fun w7 M7 t43 ys3n l h1 h2 A hl => ?_);obtain ⟨M7s,mM7,hcM7,rv3,off3⟩:=h1.shut h2;have nx3:=aFI A off3;have F7  := F6.trans (aIr A off3 mM7 (Nat.le_trans (Nat.le_of_lt Y) G) (Nat.le_trans (Nat.le_of_lt S) hL3));have hSZ7  := Nat.le_trans G A.size;have hX7:=(nx3 w.heap.size (Nat.lt_of_lt_of_le Y G) (.inl (Nat.lt_of_lt_of_le S hL3))).1.trans hX6;have B:=(nx3 Z0 (Nat.lt_of_lt_of_le J G) hd30.symm).1.trans B;have z:=(nx3 Z1 (Nat.lt_of_lt_of_le K G) hd31.symm).1.trans z;have y:=(nx3 Z2 (Nat.lt_of_lt_of_le I G) hd32.symm).1.trans y;have C:=(nx3 Z3 (Nat.lt_of_lt_of_le L G) hd33.symm).1.trans C;have R:=R.mono (fun b i v hv=>mM7 b i v (A.mem b i v hv)) (fun _ _ _ h=>h);have rv1:=rv1.mono (fun b i v hv=>mM7 b i v (A.mem b i v hv)) (fun _ _ _ h=>h);have rv2:=rv2.mono (fun b i v hv=>mM7 b i v (A.mem b i v hv)) (fun _ _ _ h=>h);clear h1 h2 A off3 nx3;have hSl:=hS.mono F7.mem (fun _ _ _ h=>h);show Code.wp _ _ _ _ _;refine wp_seq ?_;refine ask w.heap.size Z0 Z1 Z2 Z3 xs ls ps s.query s.mutation _ _ _ _ _ _ _ _ _ _ _ _ _ _ _ _ _ _ _ _ _ _ _ _ hcM7 hX7 B z y C (fun M' w' N t=>wS s (docA d x0 (nmI g)) 12 true r0 _ _ N (hSl.mono t (fun _ _ _ h=>h)) (R.mono t (fun _ _ _ h=>h))) (fun M' w' N t=>wS s (docA d x0 (nmI g)) 13 true r1 _ _ N (hSl.mono t (fun _ _ _ h=>h)) (R.mono t (fun _ _ _ h=>h))) (fun M' w' N t=>wS s (docA d x0 (nmI g)) 14 true r2 _ _ N (hSl.mono t (fun _ _ _ h=>h)) (R.mono t (fun _ _ _ h=>h))) (fun M' w' N t=>wS s (docB d x0 (nmI g)) 14 false r3 _ _ N (hSl.mono t (fun _ _ _ h=>h)) (rv1.mono t (fun _ _ _ h=>h))) (fun M' w' N t=>wS s (docC d x0 (nmI g)) 13 false r4 _ _ N (hSl.mono t (fun _ _ _ h=>h)) (rv2.mono t (fun _ _ _ h=>h))) (fun M' w' N t=>wS s (docE d x0 (nmI g)) 12 false r5 _ _ N (hSl.mono t (fun _ _ _ h=>h)) (rv3.mono t (fun _ _ _ h=>h))) _ _ _ hl (fun w8 M8 l8 j5 j6 j1 j2 j3 j4 => ?_);show Code.wp _ _ _ _ _;have hfin:=fin.out w8 M8 l8 j1 (F7.trans (aOz j2 j3 j4 F7.below.size)) j6;unfold pRC;simp only [Tryz.f3,aS,sndC];go_wp2;exact hfin
 revert s2 s3 s4;refine jE 192 (fun fr=>at_ fr 2=_->at_ fr 3=_->at_ fr 4=_->Code.wp Tryz.prog _ _ ⟨fr.toArray,[]⟩ _) ?_ fr hfl;simp only [AllL];iterate 192 intro _
 intro s2 s3 s4;simp only [at_] at s2 s3 s4;subst s2 s3 s4;generalize (.seq copC (.seq aRD (.seq aRE (.seq aKr (.seq aRF (.seq askC pRC))))):Code)=T at hcop ⊢;refine wp_seq ?_;unfold p3C;simp [Tryz.f3,aS,sndC,fstC];go_wp2;unfold p4C;simp [Tryz.f3,aS,sndC,fstC];cases g with
 | false =>
  go_wp2;refine hcop.out _ ?_ ?_ ?_ ?_<;>rfl
 | true =>
  go_wp2;refine hcop.out _ ?_ ?_ ?_ ?_<;>rfl
open Go Go.Ev Go.Ev.PV
theorem bDb l (h : Sm l) : xN l = some (dupA [] l) := by
 apply aQF;have d : ∀ i x, i < l.length -> nthI l i = some x -> aY (jX l i) 0 = some (bif (l.take i).contains x then (.inr () : Unit ⊕ Unit) else .inl ()) := fun i x t n => by
  have c : (l.take i).length = i := by grind
  exact nL (b := jX l i) (l.take i) (fun r => bif r.contains x then (.inr () : Unit ⊕ Unit) else .inl ()) (by omega)
   (by simp only [jX, c, aEQ]; rfl)
   (fun k y r q e j g => by
    rw [c] at e;have m : nthI l k = some y := by
     rw [tS] at j ⊢;grind
    simp only [jX, e, m, g, n, dZ, List.contains_cons];cases x == y;all_goals simp)
 have f := cR (b := mT l) l (fun k (_ : List Str) => k) (fun r a => bif dupA a r then (.inr () : Unit ⊕ Unit) else .inl ()) (fun k a => a = l.take k) h
  (fun a o => by simp [mT]; rfl)
  (fun k x r a n f p e j g o => by
   subst o;simp only [mT, e, g, d k x f j, dupA, aX0 p f];cases (l.take k).contains x;all_goals simp) (s := 0) (a := []) rfl rfl
 simp [aCp, f];cases dupA [] l <;> rfl
theorem bAI l (h : l.length < 1073741824) : sU l = some (fQ l) := by
 apply aJY;have d := cR (b := gT l) l (fun k a => (a, k)) (fun r a => a ++ fQ r) (fun k a => a.length = k) (by omega)
  (fun a _ => by simp [gT, fQ])
  (fun k x r a g i j f e c m => by
   refine .inr ⟨a ++ [x.name], ?_, by grind, by simp [fQ]⟩;simp only [gT, f, e, c, dZ, qO, oM (show a.length + [x.name].length <= lim by simp [qP]; omega)]) (s := ([], 0)) (a := []) rfl rfl
 simp [rP, d]
theorem bAJ n:∃ p,xO n=some (p,aGU n):=by
 have:xO n=some (bif aGU n then (⟨[105,102],⟨[66,111,111,108,101,97,110],0,1⟩,false,⟨0,0,[],[],[]⟩⟩,true) else (⟨[],⟨[],0,0⟩,false,⟨0,0,[],[],[]⟩⟩,false)):=by
  apply aJU;simp [rO,aGU];cases n==([115,107,105,112]:Str)<;>cases n==([105,110,99,108,117,100,101]:Str)<;>rfl
 grind
def gV (s:GSchema) (d:GDoc):List (List GDir):=ownD d++(jI s d).map (·.x.dirs)
theorem aWn s d (j:eF d<500000000):Sm (gV s d)/\(ownD d).length<=eF d/\(jI s d).length<=eF d:=by
 have h:=fP d;have a:=dI bkOp zD d.ops;have b:=dI dV mY d.frags;have g:=aIm s d.ops;have c:=aGP s d.frags;have i:(ownD d).length=d.ops.length+d.frags.length:=by simp [ownD]
 have e:(jI s d).length=(d.ops.flatMap fun o=>dS s (rQ s o) o.sels).length+(d.frags.flatMap fun f=>dS s f.on_ f.sels).length:=by simp [jI]
 refine ⟨?_,by omega,by omega⟩;show (gV s d).length<_;simp [gV];omega
theorem aKs s d (h : SOk s) (f : eF d < 500000000) : aDs s d = some (gV s d) := by
 have y := fP d;have p := dI bkOp zD d.ops;have t := dI dV mY d.frags;obtain ⟨v, q, w⟩ := aWn s d f;apply aJS;have n := cR (b := gQ d) d.ops (fun k a => (a, k)) (fun r a => a ++ r.map (·.dirs)) (fun k a => a.length = k) (by omega)
  (fun a _ => by simp [gQ])
  (fun k x r a l o f i g c m => by
   refine .inr ⟨a ++ [x.dirs], ?_, by grind, by simp⟩;simp only [gQ, i, g, c, dZ, qO, oM (show a.length + [x.dirs].length <= lim by simp [qP]; omega)]) (s := ([], 0)) (a := []) rfl rfl
 have j := cR (b := gR d) d.frags (fun k a => (a, k)) (fun r a => a ++ r.map (·.dirs)) (fun k a => a.length = d.ops.length + k) (by omega)
  (fun a _ => by simp [gR])
  (fun k x r a l o f i g c m => by
   refine .inr ⟨a ++ [x.dirs], ?_, by grind, by simp⟩;simp only [gR, i, g, c, dZ, qO, oM (show a.length + [x.dirs].length <= lim by simp [qP]; omega)]) (s := ([] ++ d.ops.map (·.dirs), 0)) (a := [] ++ d.ops.map (·.dirs)) rfl (by simp)
 simp at n j;have u := cR (b := gS (jI s d)) (jI s d) (fun k a => (a, k)) (fun r a => a ++ r.map (·.x.dirs)) (fun k a => a.length = (ownD d).length + k) (by omega)
  (fun a _ => by simp [gS])
  (fun k x r a l o f i g c m => by
   refine .inr ⟨a ++ [x.x.dirs], ?_, by grind, by simp⟩;simp only [gS, i, g, c, dZ, qO, oM (show a.length + [x.x.dirs].length <= lim by simp [qP]; omega)]) (s := (ownD d, 0)) (a := ownD d) rfl (by simp)
 simp [rN, n, j, aKb s d h f];have e : d.ops.map (·.dirs) ++ d.frags.map (·.dirs) = ownD d := rfl;rw [e, u];rfl
mutual
theorem bAK (s:GSchema):∀ (x:GSel) (b:Str),∀ q∈aGO s b x,dC q.x<=dC x
 | ⟨k,a,n,f,ds,e,d⟩,b,q,c=>by
  simp [aGO] at c;rcases c with rfl | c;· simp
  have h:=aFJ s d _ q c;have g:=sC ⟨k,a,n,f,ds,e,d⟩;grind
theorem aFJ (s:GSchema):∀ (l:List GSel) (b:Str),∀ q∈dS s b l,dC q.x<=bT l
 | [],b,q,c=>by simp [dS] at c
 | x::l,b,q,c=>by
  simp only [dS,List.mem_append] at c;rcases c with c | c;· have:=bAK s x b q c;simp only [bT];omega
  ·have:=aFJ s l b q c;simp only [bT];omega
end
theorem bDc s d:∀ q∈jI s d,dC q.x<=eF d:=by
 intro q a;have g:=fP d;rcases List.mem_append.1 a with a | a;· obtain ⟨o,b,a⟩:=List.mem_flatMap.1 a;have f:=aFJ s _ _ q a;have e:=aGQ o;have c:=cZ bkOp b;omega
 obtain ⟨o,b,a⟩:=List.mem_flatMap.1 a;have f:=aFJ s _ _ q a;have e:=uJ o;have c:=cZ dV b;omega
theorem aFK s d (i:eF d<500000000):∀ l∈gV s d,l.length<500000000:=by
 have h:=fP d;intro l a;rcases List.mem_append.1 a with a | a
 ·rcases List.mem_append.1 a with a | a;· obtain ⟨o,c,rfl⟩:=List.mem_map.1 a;have b:=cZ bkOp c;rw [kR] at b;have e:=cK (f:=eZ) (fun x=>by rw [iG];omega) o.dirs;omega
  obtain ⟨o,c,rfl⟩:=List.mem_map.1 a;have b:=cZ dV c;rw [gM] at b;have e:=cK (f:=eZ) (fun x=>by rw [iG];omega) o.dirs;omega
 obtain ⟨q,g,rfl⟩:=List.mem_map.1 a;have b:=bDc s d q g;rw [gD] at b;have e:=cK (f:=eZ) (fun x=>by rw [iG];omega) q.x.dirs;omega
theorem aRH s d (b:eF d<500000000):∀ l∈gV s d,Sm l:=fun l a=>by
 have:=aFK s d b l a;omega
theorem bDd d (e:eF d<500000000):IntKind.wrap .i64 ((List.length d.ops:Int)+(List.length d.frags:Int))=((ownD d).length:Int):=by
 have h:=fP d;have a:=dI bkOp zD d.ops;have b:=dI dV mY d.frags;have c:(ownD d).length=d.ops.length+d.frags.length:=by simp [ownD]
 rw [c,wi (by omega)];omega
theorem bAL s d (h : SOk s) (j : eF d < 500000000) : oS s d 12 = some ((gV s d).all jZ) /\ oS s d 13 = some ((ownD d).all fun l => (l.length : Int) == 0) /\ oS s d 14 = some ((gV s d).all fun l => !dupA [] (fQ l)) := by
 obtain ⟨f, _, _⟩ := aWn s d j;have v := aRH s d j;have m : ∀ n i x, (n == 12) = false -> nthI (gV s d) i = some x -> aY (dL n (gV s d) i) 0 = some (.inl ()) := fun n i x J g => by
  refine cG ?_;simp only [dL, g, dZ, J, aDi];cases decide ((0 : Int) < x.length) <;> rfl
 refine ⟨vB ?_, vB ?_, vB ?_⟩
 ·have G : ∀ i x, Sm x -> nthI (gV s d) i = some x -> aY (dL 12 (gV s d) i) 0 = some (bif jZ x then (.inl () : Unit ⊕ Unit) else .inr ()) := fun i x B g =>
   nL (b := dL 12 (gV s d) i) x (fun r => bif r.all fun y => aGU y.name then (.inl () : Unit ⊕ Unit) else .inr ()) B (by simp only [dL, g, dZ, aEQ, aDi]; rfl)
    (fun k y r P o c u => by
     obtain ⟨p, N⟩ := bAJ y.name;have C : ((12 : Int) == 12) = true := rfl;simp only [dL, g, o, c, u, dZ, qO, C, N, List.all_cons];cases aGU y.name;· left; rfl
     right; exact ⟨rfl, rfl⟩)
  have q := nL (b := cD d 12 (gV s d)) (gV s d) (fun r => bif r.all jZ then (.inl () : Unit ⊕ Unit) else .inr ()) f (by simp only [cD, aEQ, aDi]; rfl)
   (fun k x r z o c u => by
    simp [cD, o, qO, G _ x (v x z) c, dZ, List.all_cons];cases jZ x;all_goals simp_all)
  simp [mU, aKs s d h j, dZ, q];cases (gV s d).all jZ <;> rfl
 ·have t : ((13 : Int) == 14) = false := rfl;have w : ((13 : Int) == 13) = true := rfl;have H := bDd d j;have q := cR (b := cD d 13 (gV s d)) (gV s d) (fun k (_ : Nat) => k) (fun r a => bif (r.take a).all (fun l => (l.length : Int) == 0) then (.inl () : Unit ⊕ Unit) else .inr ()) (fun k a => a = (ownD d).length - k) f
   (fun a _ => by simp only [cD, aEQ, aDi]; simp)
   (fun k x r a g O K o c u M => by
    subst M;simp only [cD, o, qO, m 13 _ x rfl c, dZ, aK, w, t, aDi, H, c, u];rcases Nat.lt_or_ge k (ownD d).length with A | D
    ·have e : decide (k < ((ownD d).length : Int)) = true := by simp; exact A
     have F : (ownD d).length - k = ((ownD d).length - (k + 1)) + 1 := by omega
     rw [e, F];simp only [qO, List.take_succ_cons, List.all_cons];cases x with
     | nil => exact by simp
     | cons y ys =>
      left;have L : decide ((((y :: ys).length : Nat) : Int) > 0) = true := by simp
      have I : ((((y :: ys).length : Nat) : Int) == 0) = false := by simp; omega
      rw [L, I];rfl
    have e : decide (k < ((ownD d).length : Int)) = false := by simp; exact D
    have F : (ownD d).length - k = 0 := by omega
    have Q : (ownD d).length - (k + 1) = 0 := by omega
    rw [e, F];simp_all) (s := 0) (a := (ownD d).length) rfl (by omega)
  have e : (gV s d).take (ownD d).length = ownD d := by simp [gV]
  rw [e] at q;simp [mU, aKs s d h j, q];cases (ownD d).all (fun l => (l.length : Int) == 0) <;> rfl
 have t : ((14 : Int) == 14) = true := rfl;have w : ((14 : Int) == 13) = false := rfl;have q := nL (b := cD d 14 (gV s d)) (gV s d) (fun r => bif r.all (fun l => !dupA [] (fQ l)) then (.inl () : Unit ⊕ Unit) else .inr ()) f (by simp only [cD, aEQ]; rfl)
  (fun k x r z o c u => by
   have g := v x z;have E : Sm (fQ x) := by have  := g; simpa [fQ] using this
   simp [cD, c, bAI x (by have := aFK s d j x z; omega), bDb _ E];cases dupA [] (fQ x);all_goals simp_all)
 simp [mU, aKs s d h j, q];cases (gV s d).all (fun l => !dupA [] (fQ l)) <;> rfl
theorem aOA {τ} {v} (h:RsOk τ [⟨false,[.bool]⟩] v):∃ b,v = .bool b:=by
 cases h with | one h=>exact aOh h
theorem bE6 s d n (e:jF s<=1048576) (f:eF d<=1048576) (i:0<=n/\n<=14):∃ b,xL s d n=some b:=by
 have h:=aFt s;have a:=bB7 d;unfold Nr at h a;obtain ⟨r,c,g⟩:=bEK [dB s,oE d,.int .i64 n] (.cons (aOg s e) (.cons (bEp d f) (.cons (.one (.rng i)) .nil))) (.inr fun v hv=>by
  show _<=2097152;rcases List.mem_cons.1 hv with rfl | hv;· omega
  rcases List.mem_cons.1 hv with rfl | hv;· omega
  rw [List.mem_singleton.1 hv];simp [bK])
 obtain ⟨b,rfl⟩:=aOA g;exact ⟨b,aPj (xC aD) c⟩
theorem aX8 d (e:eF d<=1048576):∃ b,aVu d=some b:=by
 have a:=bB7 d;unfold Nr at a;obtain ⟨r,c,f⟩:=bCv [oE d] (.cons (bEp d e) .nil) (.inr fun v hv=>by rw [List.mem_singleton.1 hv];show _<=2097152;omega);obtain ⟨b,rfl⟩:=aOA f;exact ⟨b,aPj (xC aD) c⟩
theorem bAM s d (g:jF s<=1048576) (i:eF d<=1048576):∀ (m k:Nat),15-k=m->k<=15->∃ t,aY (lT s d 15) k=some t/\(t = .inl ()->∀ j,k<=j->j<15->xL s d j=some true):=by
 intro m;induction m with
 | zero =>
  intro k o a;have:k=15:=by omega
  subst this;exact ⟨.inl (),cG rfl,fun _ j c r=>by omega⟩
 | succ m n =>
  intro k o a;obtain ⟨b,e⟩:=bE6 s d k g i (by omega);have c:decide ((k:Int)<15)=true:=by grind
  have f:IntKind.wrap .i64 (k+1)=((k+1:Nat):Int):=by rw [wi (by omega)];omega
  cases b with
  | false=>exact ⟨.inr (),cG (by simp only [lT,c,e];rfl),fun h=>by cases h⟩
  | true =>
   obtain ⟨t,l,v⟩:=n (k+1) (by omega) (by omega);refine ⟨t,?_,fun q j p u => ?_⟩;· rw [aBV (s':=((k+1:Nat):Int)) (by simp only [lT,c,e,f];rfl)];exact l
   grind
theorem bE7 s d (g:jF s<=1048576) (e:eF d<=1048576):∃ b,aSH s d 15=some b/\(b=true->∀ j:Nat,1<=j->j<15->xL s d j=some true):=by
 obtain ⟨r,c⟩:=aX8 d e;obtain ⟨t,a,f⟩:=bAM s d g e 14 1 rfl (by omega);have a:aY (lT s d 15) 1=some t:=a;cases r with
 | false=>exact ⟨false,aDw (by simp only [wD,c];rfl),fun h=>by cases h⟩
 | true =>
  cases t with
  | inl u=>exact ⟨true,aDw (by simp only [wD,c,a];rfl),fun _=>f rfl⟩
  | inr u=>exact ⟨false,aDw (by simp only [wD,c,a];rfl),fun h=>by cases h⟩
theorem aUF {b c:Bool} (h:some b=some c):b=c:=by grind
theorem bDe s d (h:SOk s) (o:eF d<500000000) (k:∀ j:Nat,1<=j->j<15->xL s d j=some true):aHx s d=true/\aMq d=true/\aHy s d=true:=by
 obtain ⟨n,i,b⟩:=bAL s d h o;have f:xL s d 12=some ((gV s d).all jZ):=aDU (by simp only [wK,n];rfl);have m:xL s d 13=some ((ownD d).all fun l=>(l.length:Int)==0):=aDU (by simp only [wK,i];rfl);have e:xL s d 14=some ((gV s d).all fun l => !dupA [] (fQ l)):=aDU (by simp only [wK,b];rfl);have c:=aUF (f.symm.trans (k 12 (by omega) (by omega)));have g:=aUF (m.symm.trans (k 13 (by omega) (by omega)));have a:=aUF (e.symm.trans (k 14 (by omega) (by omega)));refine ⟨?_,g,?_⟩;· unfold aHx;rw [gV,List.all_append,Bool.and_eq_true] at c;grind
 unfold aHy;rw [gV,List.all_append,Bool.and_eq_true] at a;grind
theorem aRI s a l y:dS s a (l++[y])=dS s a l++aGO s a y:=by
 induction l with
 | nil=>simp [dS]
 | cons x l b=>simp [dS,b]
theorem aX9 s a ds:aGO s a (selY ds)=[⟨a,selY ds⟩]:=by
 unfold selY;simp [aGO,dS]
theorem aUG {α β:Type} (f:α->List β) (l:List α) x x' r (b:l[0]?=some x) (c:f x'=f x++r):∀ q,q∈(l.set 0 x').flatMap f↔q∈l.flatMap f∨q∈r:=by
 cases l with
 | nil=>grind
 | cons a l =>
  grind
theorem aKt s d x (a:d.ops[0]?=some x) ds q:q∈jI s ⟨d.ops.set 0 ⟨x.kind,x.name,x.vars,x.dirs,x.sels++[selY ds]⟩,d.frags⟩↔q∈jI s d∨q=⟨rQ s x,selY ds⟩:=by
 have h:=aUG (fun o=>dS s (rQ s o) o.sels) d.ops x ⟨x.kind,x.name,x.vars,x.dirs,x.sels++[selY ds]⟩ [⟨rQ s x,selY ds⟩] a (by
  show dS s (rQ s x) (x.sels++[selY ds])=_;rw [aRI,aX9]) q
 unfold jI;grind
theorem bAN d x (c:d.ops[0]?=some x) b:ownD ⟨d.ops.set 0 ⟨x.kind,x.name,x.vars,x.dirs,b⟩,d.frags⟩=ownD d:=by
 unfold ownD;have:(d.ops.set 0 ⟨x.kind,x.name,x.vars,x.dirs,b⟩).map (·.dirs)=d.ops.map (·.dirs):=by
  cases h:d.ops with
  | nil=>simp
  | cons a l =>
   grind
 grind
theorem bDL d x (b:d.ops[0]?=some x) x':eF ⟨d.ops.set 0 x',d.frags⟩<=eF d+bkOp x':=by
 rw [fP,fP];cases h:d.ops with
 | nil=>simp
 | cons a l=>simp [sumL];omega
theorem aWo {α} (bk:α->Nat) l r:sumL bk (l++r)=sumL bk l+sumL bk r:=by
 induction l with
 | nil=>simp [sumL]
 | cons x l a=>simp [sumL];omega
theorem aFL {s d a p z} (b:∀ q,q∈jI s a↔q∈jI s d∨q=z):(jI s a).all p=((jI s d).all p&&p z):=by
 grind
theorem bAO s d x (hx:d.ops[0]?=some x) (nm:Str) (hs:SOk s) (y:eF d<=1048576) (hnm:nm=[115,107,105,112]∨nm=[105,110,99,108,117,100,101]) (n:aHx s d=true/\aMq d=true/\aHy s d=true) :
  dQ s (docA d x nm) 12=some true/\dQ s (docA d x nm) 13=some true/\dQ s (docA d x nm) 14=some true/\dQ s (docB d x nm) 14=some false/\dQ s (docC d x nm) 13=some false/\dQ s (docE d x nm) 12=some false:=by
 obtain ⟨k12,k13,k14⟩:=n;have k:bkOp x<=eF d:=by
  have:=fP d;have i:=cZ bkOp (List.mem_of_getElem? hx);omega
 have hbd:∀ ds,dC (selY ds)<=2500->eF ⟨d.ops.set 0 ⟨x.kind,x.name,x.vars,x.dirs,x.sels++[selY ds]⟩,d.frags⟩<500000000:=fun ds hds=>by
  have m:=bDL d x hx ⟨x.kind,x.name,x.vars,x.dirs,x.sels++[selY ds]⟩;have i:bkOp ⟨x.kind,x.name,x.vars,x.dirs,x.sels++[selY ds]⟩<=bkOp x+3000:=by
   rw [kR,kR];have q:bkSl dC (x.sels++[selY ds])=sumL dC x.sels+dC (selY ds)+1:=by simp only [bkSl,aWo,sumL];omega
   have w:=hds;have t:bkSl dC x.sels=sumL dC x.sels+1:=rfl;simp;omega
  omega
 have o:aGU nm=true:=by rcases hnm with rfl | rfl<;>rfl
 have p:nm.length<=10:=by rcases hnm with rfl | rfl<;>decide
 have hbd1:dC (selY [dirY nm])<=2500:=by rcases hnm with rfl | rfl<;>exact Nat.le_of_ble_eq_true (by kernel_rfl)
 have hbd2:dC (selY [dirY nm,dirY nm])<=2500:=by rcases hnm with rfl | rfl<;>exact Nat.le_of_ble_eq_true (by kernel_rfl)
 have hbd3:dC (selY [dirY (nm++[115])])<=2500:=by rcases hnm with rfl | rfl<;>exact Nat.le_of_ble_eq_true (by kernel_rfl)
 have g:eZ (dirY nm)<=2500:=by rcases hnm with rfl | rfl<;>exact Nat.le_of_ble_eq_true (by kernel_rfl)
 obtain ⟨c,f,b⟩:=uM s (docA d x nm) hs (hbd _ hbd1);obtain ⟨_,_,b14⟩:=uM s (docB d x nm) hs (hbd _ hbd2);obtain ⟨e12,_,_⟩:=uM s (docE d x nm) hs (hbd _ hbd3);have hbc:eF (docC d x nm)<500000000:=by
  have m:=bDL d x hx ⟨x.kind,x.name,x.vars,x.dirs++[dirY nm],x.sels⟩;have i:bkOp ⟨x.kind,x.name,x.vars,x.dirs++[dirY nm],x.sels⟩<=bkOp x+3000:=by
   rw [kR,kR];have q:bkSl eZ (x.dirs++[dirY nm])=sumL eZ x.dirs+eZ (dirY nm)+1:=by simp only [bkSl,aWo,sumL];omega
   have t:bkSl eZ x.dirs=sumL eZ x.dirs+1:=rfl;simp;omega
  show eF ⟨_,_⟩<_;omega
 obtain ⟨_,c13,_⟩:=uM s (docC d x nm) hs hbc;have j:=aKt s d x hx [dirY nm];have u:=aKt s d x hx [dirY nm,dirY nm];have r:=aKt s d x hx [dirY (nm++[115])];have oA:=bAN d x hx (x.sels++[selY [dirY nm]]);have v:=bAN d x hx (x.sels++[selY [dirY (nm++[115])]]);unfold aHx at k12;unfold aHy at k14;rw [Bool.and_eq_true] at k12 k14;refine ⟨?_,?_,?_,?_,?_,?_⟩;· rw [c];unfold aHx docA;rw [oA,aFL j,k12.1,k12.2];show some (true&&(true&&jZ [dirY nm]))=_;simp only [jZ,List.all_cons,dirY,o];rfl
 ·rw [f];unfold aMq docA;rw [oA];exact congrArg some k13
 ·rw [b];unfold aHy docA;rw [oA,aFL j,k14.1,k14.2];rfl
 ·rw [b14];unfold aHy docB;rw [aFL u];have:(!dupA [] (fQ (selY [dirY nm,dirY nm]).dirs))=false:=by
   show (!dupA [] [nm,nm])=false;simp [dupA]
  rw [this,Bool.and_false,Bool.and_false]
 ·rw [c13];have:aMq (docC d x nm)=false:=by
   unfold aMq ownD docC;cases h:d.ops with
   | nil=>rw [h] at hx;simp at hx
   | cons a l =>
    simp only [List.set_cons_zero,List.map_cons,List.cons_append,List.all_cons];have e:(((x.dirs++[dirY nm]).length:Int)==0)=false:=by simp;omega
    rw [e];rfl
  rw [this]
 rw [e12];unfold aHx docE;rw [aFL r];have:jZ (selY [dirY (nm++[115])]).dirs=false:=by
  rcases hnm with rfl | rfl<;>rfl
 show some (_&&(_&&jZ (selY [dirY (nm++[115])]).dirs))=_;rw [this,Bool.and_false,Bool.and_false]
open Go Go.Ev Go.Ev.PV Go.RowKit
theorem bAP s (h:jF s<=1048576):∃ b,aAV s=some b:=by
 obtain ⟨r,a,c⟩:=bCR [dB s] (.cons (aOg s h) .nil) (.inl rfl);obtain ⟨b,rfl⟩:=aOA c;exact ⟨b,aPj (xC aD) a⟩
theorem bAQ d (h:eF d<=1048576):∃ b,aAW d=some b:=by
 obtain ⟨r,a,c⟩:=bCP [oE d] (.cons (bEp d h) .nil) (.inl rfl);obtain ⟨b,rfl⟩:=aOA c;exact ⟨b,aPj (xC aD) a⟩
theorem bDf s (h:jF s<=1048576):∃ b,aVq s=some b:=by
 have d:=aFt s;unfold Nr at d;obtain ⟨r,a,c⟩:=bCI [dB s] (.cons (aOg s h) .nil) (.inr fun v hv=>by rw [List.mem_singleton.1 hv];show _<=2097152;omega);have  := by
  cases c with | one h=>exact mZ h
 obtain ⟨n,rfl⟩:=this;exact ⟨n,aPj (xC aB5) a⟩
abbrev pvS (s:GSchema):PV := .agg [(.slice (List.map aH s.defs) [] false),(.str s.query),(.str s.mutation)]
abbrev pvD (d:GDoc):PV := .agg [(.slice (List.map aU d.ops) [] false),(.slice (List.map aG d.frags) [] false)]
theorem aYa s d v (h:qS s d=some v) {M w} S D (f:Cons M w) (k:Rv M noB (pvS s) S) (g:Rv M noB (pvD d) D) :
  Calls Tryz.prog 9 #[S,D] w fun e w'=>∃ M',e = .returned (.bool v)/\Cons M' w'/\Quiet M w M' w':=by
 have j:=h;have c  := bH (enc:=fun r=>(aA r,[])) j;have key:=kF pokX xok c (M:=M) (w:=w) (vals := #[S,D]) rfl f ⟨rfl,fun i p a=>by
  match i,a with
  | 0,a=>cases a;exact ⟨k,aW rfl⟩
  | 1,a=>cases a;exact ⟨g,aW rfl⟩
  | i+2,a=>grind⟩
 refine key.mono ?_;rintro e w' ⟨u,M',rfl,hv,b,l⟩;cases hv;grind
theorem aYb s v (h:aVq s=some v) {M w} S (f:Cons M w) (g:Rv M noB (pvS s) S) :
  Calls Tryz.prog 10 #[S] w fun e w'=>∃ M',e = .returned (.int .i64 v)/\Cons M' w'/\Quiet M w M' w':=by
 have c:=h;have d  := bH (enc:=fun r=>(cS r,[])) c;have key:=kF pokX xok d (M:=M) (w:=w) (vals := #[S]) rfl f ⟨rfl,fun i p a=>by
  match i,a with
  | 0,a=>cases a;exact ⟨g,aW rfl⟩
  | i+1,a=>grind⟩
 refine key.mono ?_;rintro e w' ⟨u,M',rfl,hv,b,j⟩;cases hv;grind
theorem bAR s d v (h:aSH s d 15=some v) {M w} S D (f:Cons M w) (k:Rv M noB (pvS s) S) (g:Rv M noB (pvD d) D) :
  Calls Tryz.prog 11 #[S,D,.int .i64 15] w fun e w'=>∃ M',e = .returned (.bool v)/\Cons M' w'/\Quiet M w M' w':=by
 have j:=h;have c  := bH (enc:=fun r=>(aA r,[])) j;have key:=kF pokX xok c (M:=M) (w:=w) (vals := #[S,D,.int .i64 15]) rfl f ⟨rfl,fun i p a=>by
  match i,a with
  | 0,a=>cases a;exact ⟨k,aW rfl⟩
  | 1,a=>cases a;exact ⟨g,aW rfl⟩
  | 2,a=>cases a;exact ⟨.int _ _,aW rfl⟩
  | i+3,a=>grind⟩
 refine key.mono ?_;rintro e w' ⟨u,M',rfl,hv,b,l⟩;cases hv;grind
theorem bDg s d inc (hs:jF s<=1048576) (hd:eF d<=1048576) {M w} S D (f:Cons M w) (a:Rv M noB (pvS s) S) (hD:Rv M noB (pvD d) D) :
  Calls Tryz.prog 3 #[S,D,.bool inc] w fun e w'=>∃ v M',e = .returned v/\Rv M' noB (.bool true) v/\Cons M' w'/\Quiet M w M' w':=by
 obtain ⟨g,n⟩:=bAP s hs;obtain ⟨m,A⟩:=bAQ d hd;have o:qS s d=some (bif g then m else false):=by
  apply aCC;simp [jG,n,A];cases g<;>rfl
 obtain ⟨c,hck⟩:=bDf s hs;obtain ⟨k,hkp,hk2⟩:=bE7 s d hs hd;have hSk:SOk s:=⟨by omega⟩;have hq1:=a;obtain ⟨E,rfl,hL⟩:=bAq a;cases hL with | cons t hL =>
 cases hL with | cons u hL =>
 cases hL with | cons B hL =>
 cases hL;have hq2:=hD;obtain ⟨F,rfl,hL⟩:=bAq hD;cases hL with | cons j hL =>
 cases hL with | cons r1 hL =>
 cases hL;obtain ⟨xs,l,ps,rfl⟩:=mB t;cases u;cases B;obtain ⟨C,cap,rfl,_⟩:=aWk f j;obtain ⟨b,q,r,rfl⟩:=mB r1;have y:Hid (∀ M' w',Cons M' w'->(∀ b i v,M b i=some v->M' b i=some v)->Calls Tryz.prog 9 _ w' _):=fun M' w' hc' hm=>aYa s d _ o _ _ hc' (hq1.mono hm (fun _ _ _ h=>h)) (hq2.mono hm (fun _ _ _ h=>h));have H10:Hid (∀ M' w',Cons M' w'->(∀ b i v,M b i=some v->M' b i=some v)->Calls Tryz.prog 10 _ w' _):=fun M' w' hc' hm=>aYb s _ hck _ hc' (hq1.mono hm (fun _ _ _ h=>h));have H11:Hid (∀ M' w',Cons M' w'->(∀ b i v,M b i=some v->M' b i=some v)->Calls Tryz.prog 11 _ w' _):=fun M' w' hc' hm=>bAR s d _ hkp _ _ hc' (hq1.mono hm (fun _ _ _ h=>h)) (hq2.mono hm (fun _ _ _ h=>h));exact bAH s d inc _ c k xs l ps C b cap q r f hd hq1 j r1 y H10 H11 (fun _ _ z x p=>bAO s d x p _ hSk hd (by cases inc;exact .inl rfl;exact .inr rfl) (bDe s d hSk (by omega) (hk2 z)))
theorem bDh:∀ a b,putA a=putA b->a=b:=by
 rintro ⟨s,d,b⟩ ⟨s',g,b'⟩ h;have f  := List.head_eq_of_cons_eq h;have e:=List.tail_eq_of_cons_eq h;have c  := List.head_eq_of_cons_eq e;cases aSA _ _ f;cases bBA _ _ c;grind
theorem bAS args x r (n:args.map PV.plain=putA x) (b:∀ p∈args,∀ v,dY p v) (a:∀ p∈args,p.solid=true) (h:putF x=some r):bBv Tryz.prog (fun _ _=>none) 3 args (putR r):=by
 unfold putF at h;split at h
 ·rename_i e;cases h;refine aKB b a rfl rfl (fun vals w=>rfl) ?_;intro M w vals l o g;have f:args.length=3:=by have:=congrArg List.length n;grind
  have c:∀ i p,(putA x)[i]?=some p->Rv M noB p (vals.getD i undef):=by
   grind
  have j:=c 0 _ rfl;have k:=c 1 _ rfl;have d:=c 2 _ rfl;have m:vals.getD 2 undef = .bool x.2.2:=by
   generalize vals.getD 2 undef=u at d;cases d;rfl
  have hv:vals = #[vals.getD 0 undef,vals.getD 1 undef,.bool x.2.2]:=by
   apply Array.ext;· grind
   intro i q t;have s:vals[i]=vals.getD i undef:=by simp [q]
   grind
  rw [hv];exact bDg x.1 x.2.1 x.2.2 e.1 e.2 _ _ l j k
 grind
theorem aBM s d b (e:jF s<=1048576) (f:eF d<=1048576):aE0 s d b=some true:=by
 refine aPj (xC aD) ?_;refine bFl (g:=aWQ Tryz.prog (fun _ _=>none) 3 putA putR putF) rfl ?_;have c:putF (s,d,b)=some true:=by unfold putF;grind
 refine bBx bDh (x:=(s,d,b)) rfl c (bAS _ (s,d,b) true rfl ?_ ?_ c);· intro p a v;apply aW;simp at a;rcases a with rfl | rfl | rfl<;>rfl
 intro p a;simp at a;rcases a with rfl | rfl | rfl<;>rfl
open Go Go.Ev
open Go.ChangeShapes Go.WideShapes Go.ChangeAt Go.RowKit
theorem mixed:Tryz.prog.follows .mixedOrders=true:=by kernel_rfl
theorem bGM : (Tryz.prog.funcs.toList.all fun fn => !fn.body.isSome || !(fn.name == "runtime.NumGoroutine")) = true := by kernel_rfl
theorem laid:laidOutB Tryz.prog=true:=by kernel_rfl
theorem pok:POk Tryz.prog:=by
 refine ⟨mixed,fun f fn hf hb => ?_⟩
 have hm:fn∈Tryz.prog.funcs.toList:=by
  have:=Array.mem_of_getElem? hf
  simpa using this
 have:=List.all_eq_true.1 bGM fn hm
 rw [hb] at this
 simpa using this
theorem blOk {H:Type}:BlOk (H:=H) Rows.uptoBulk Rows.uptoBulkAll:=by
 refine ⟨fun l => ?_,fun s => ?_,?_,fun es sp => ?_,fun ps => ?_,fun d r => ?_⟩
 ·cases l<;>simp [Rows.uptoBulk]
 ·simp [Rows.uptoBulk]
 ·simp [Rows.uptoBulk]
 ·simp only [Rows.uptoBulk];omega
 ·simp only [Rows.uptoBulk];omega
 ·simp [Rows.uptoBulkAll]
theorem own:ownKnob Tryz.prog.godebug=none:=by kernel_rfl
end Go.Proofs.YtphmfillajagdaaGreat
