/-
  Contracts of the code that the law reaches, and plain laws. Conditions: as each says.
-/
import Derived.BigQuiet
import Derived.Deep.QuietTactic
import Derived.StillTail
import Derived.Deep.RegionHeld3
set_option linter.all false
set_option maxHeartbeats 40000000
set_option maxRecDepth 100000
namespace Go.Proofs.YtiiekaehbahenaaGreatDoor
section
namespace Qt
open Go
structure In (Cls:World->Prop) where
 w:World
 h:Cls w
theorem wp_region_cls {P:Program} {id:Nat} {Q:Exit->Act->World->Prop} {a:Act} {w:World} {l:List Oper} (Cls:World->Prop) (hm:P.follows .mixedOrders=true) (hB:Region.lexB .any l.toArray=true) (hC:Cls w.drew)
  (h:wpQuiet P l.toArray (fun w'=>∃ z:In Cls,w'=z.w) (fun a'=>∀ w',(∃ z:In Cls,w'=z.w)->Q .normal a' w') l a):(Code.region id l.toArray true).wp P Q a w:=
 wp_region_quiet (C:=fun w'=>∃ z:In Cls,w'=z.w) hm hB ⟨⟨w.drew,hC⟩,rfl⟩ (by simpa using h)
theorem quiet_cls {P:Program} {f:FuncId} {args:Array Value} {Cls:World->Prop} {w:World} {v:Value}
  (h:Calls P f args w fun e w'=>e= .returned v/\Cls w'):Calls P f args w fun e w''=>e= .returned v/\∃ z':In Cls,w''=z'.w:=
 h.mono fun _ w' ⟨he,hc⟩=>⟨he,⟨w',hc⟩,rfl⟩
end Qt
namespace Qt
open Go
section
variable {P:Program} {ops:Array Oper} {md:Region.Mode} {C:World->Prop}
def wpHd (P:Program) (md:Region.Mode) (ops:Array Oper) (C:World->Prop) (n:Nat) (L:Array Bool->Act->Prop):Nat->Array Bool->Act->Prop
 |0,listed,a=>L listed a
 |f+1,listed,a=>Region.ready md ops listed≠[]/\∀ i∈Region.ready md ops listed,i<n/\qOp P ops C i (wpHd P md ops C n L f (listed.setIfInBounds i true)) a
theorem wpAny_of_hd {n g:Nat} {L:Array Bool->Act->Prop} {Q':Exit->Act->World->Prop} (hL:∀ listed a w,C w->L listed a->wpAny P md ops Q' g listed a w):
  ∀ (f:Nat) (listed:Array Bool) (a:Act) (w:World),C w->wpHd P md ops C n L f listed a->wpAny P md ops Q' (f+g) listed a w
 |0,listed,a,w,hC,h=>by rw [Nat.zero_add];exact hL _ _ _ hC h
 |f+1,listed,a,w,hC,h=>by
  rw [show f+1+g=(f+g)+1 by omega]
  exact ⟨fun e=>absurd e h.1,fun i hi=>wpOp_of_qOp hC (fun a' w' hw' h'=>wpAny_of_hd hL f _ a' w' hw' h') (h.2 i hi).2⟩
theorem ready_lt {n i j:Nat} {listed:Array Bool} (hs:Region.sinkB md ops n=true) (hc:Region.chainB md ops n=true) (hn:n<ops.size) (hin:i<n) (inv:HeadInv md ops n listed)
  (hr:i∈Region.ready md ops listed) (hj:j∈Region.ready md ops listed):j<n:=by
 rcases Nat.lt_or_ge j n with h|h
 ·exact h
 ·exact absurd hj (tail_waits hs hc hn inv _ i rfl hin (mem_ready.1 hr).1 j h)
theorem no_edge {i:Nat} {oj:Oper} {listed:Array Bool} (hr:i∈Region.ready md ops listed) (hall:∀ e∈oj.after,Region.binds md e=true->listed.getD e.on false=true):
  ∀ e∈oj.after,Region.binds md e=true->e.on≠i:=fun e he hb heq=>by
 have h1:=hall e he hb;rw [heq,getD_both (mem_ready.1 hr).1] at h1
 cases h1
theorem hd_first {n i:Nat} {oi:Oper} {v:Value} {L:Array Bool->Act->Prop} (hi:ops[i]?=some oi) (hsel:∀ (j:Nat) (o:Oper) cs b,ops[j]?=some o->o.op≠.select cs b)
  (hs:Region.sinkB md ops n=true) (hc:Region.chainB md ops n=true) (hn:n<ops.size) (hin:i<n) (hdone:∀ listed a,L listed a->∀ j∈Region.ready md ops listed,n<=j):
  ∀ (f:Nat) (listed:Array Bool) (a:Act),HeadInv md ops n listed->
   (∀ j oj,ops[j]?=some oj->j≠i->listed.getD j true=false->(∀ e∈oj.after,Region.binds md e=true->e.on≠i)->oi.apart ops oj=true)->
   i∈Region.ready md ops listed->YieldsIn P ops C oi v a->
   wpHd P md ops C n L f (listed.setIfInBounds i true) (a.put oi.dst v)->wpHd P md ops C n L (f+1) listed a:=by
 intro f
 induction f with
 |zero=>
  intro listed a inv _ hr hy H
  refine ⟨fun e=>(by rw [e] at hr;cases hr),fun j hj=>?_⟩
  have hjn:=ready_lt hs hc hn hin inv hr hj
  by_cases hji:j=i
  ·subst hji
   exact ⟨hjn,hy.qOp hi H⟩
  ·have:=hdone _ _ H j (ready_mono hj hji)
   omega
 |succ f ih=>
  intro listed a inv hfree hr hy H
  refine ⟨fun e=>(by rw [e] at hr;cases hr),fun j hj=>?_⟩
  have hjn:=ready_lt hs hc hn hin inv hr hj
  by_cases hji:j=i
  ·subst hji
   exact ⟨hjn,hy.qOp hi H⟩
  ·refine ⟨hjn,?_⟩
   obtain ⟨hjun,oj,hoj,hall⟩:=mem_ready.1 hj;have h2:=qOp_put hoj (hfree j oj hoj hji hjun (no_edge hr hall)) (fun cs b=>hsel i oi cs b hi) (fun cs b=>hsel j oj cs b hoj) hy (H.2 j (ready_mono hj hji)).2
   refine qOp_mono (fun a' h3=>ih (listed.setIfInBounds j true) a' (inv.set hj hjn) (fun k ok hk hki hun hno=>?_) (ready_mono hr (Ne.symm hji)) h3.1 ?_) h2
   ·refine hfree k ok hk hki ?_ hno
    by_cases hjk:j=k
    ·subst hjk;exact hjun
    ·rw [getD_set_ne true hjk] at hun;exact hun
   ·rw [Array.setIfInBounds_comm _ _ hji]
    exact h3.2
theorem hd_lex {n g:Nat} {Lq:Act->Prop} (hsel:Region.noSelect ops=true) (hs:Region.sinkB md ops n=true) (hc:Region.chainB md ops n=true) (hn:n<ops.size):
  ∀ (l:List Oper) (k:Nat) (listed:Array Bool) (a:Act),(∀ j,j<l.length->l[j]?=ops[k+j]?)->k+l.length=n->HeadInv md ops n listed->
  Region.lexHead md ops g l.length k listed=true->wpQuiet P ops C Lq l a->
  wpHd P md ops C n (fun listed' a'=>Region.seqB md ops g n listed'=true/\Lq a') l.length listed a
 |[],k,listed,a,_,hk,_,hB,h=>by
  obtain rfl:k=n:=by simpa using hk
  exact ⟨by simpa [Region.lexHead] using hB,h⟩
 |o :: l,k,listed,a,hl,hk,inv,hB,h=>by
  have h0:ops[k]?=some o:=by simpa using (hl 0 (by simp)).symm
  simp only [List.length_cons,Region.lexHead,Bool.and_eq_true] at hB;obtain ⟨⟨hr,hf⟩,hB'⟩:=hB
  have hkn:k<n:=by simp only [List.length_cons] at hk;omega
  have hr':k∈Region.ready md ops listed:=by simpa using hr
  have hst:qOp P ops C k (wpQuiet P ops C Lq l) a:=by unfold qOp;simp only [h0];exact h
  obtain ⟨v,hy,hK⟩:=yieldsIn_of_qOp h0 hst
  exact hd_first h0 (Region.noSelect_spec hsel) hs hc hn hkn (fun listed' a' hL=>seqB_ready hL.1) l.length listed a inv (Region.free_spec h0 hf) hr' hy
   (hd_lex hsel hs hc hn l (k+1) _ _ (fun j hj=>by have:=hl (j+1) (by simp;omega);simpa [Nat.add_assoc,Nat.add_comm 1 j] using this) (by simp only [List.length_cons] at hk;omega) (inv.set hr' hkn) hB' hK)
end
theorem wp_region_cls_tail {P:Program} {id:Nat} {Q:Exit->Act->World->Prop} {a:Act} {w:World} {l:List Oper} (Cls:World->Prop) (n:Nat) (hm:P.follows .mixedOrders=true) (hB:Region.lexTailB .any l.toArray n=true) (hC:Cls w.drew)
  (h:wpQuiet P l.toArray (fun w'=>∃ z:In Cls,w'=z.w) (fun a'=>∀ w',(∃ z:In Cls,w'=z.w)->wpList P l.toArray Q (l.drop n) a' w') (l.take n) a):(Code.region id l.toArray true).wp P Q a w:=by
 simp only [Region.lexTailB,Bool.and_eq_true,decide_eq_true_eq] at hB;obtain ⟨⟨⟨⟨hsel,hn⟩,hs⟩,hc⟩,hlex⟩:=hB
 have hn':n<l.length:=by simpa using hn
 have htl:(l.take n).length=n:=by simp;omega
 have hdl:(l.drop n).length=l.toArray.size - n:=by simp
 have inv0:HeadInv .any l.toArray n (Array.replicate l.toArray.size false):=
  ⟨by simp,fun j oj _ hl=>(by rw [getD_replicate_false] at hl;cases hl),fun t _ ht=>getD_in (by simpa using ht) (getD_replicate_false _ _)⟩
 have H:=hd_lex (md:= .any) (g:=l.toArray.size - n) hsel hs hc hn (l.take n) 0 _ a (fun j hj=>by
  have hj':j<n:=by rw [htl] at hj;exact hj
  simp [hj']) (by simpa using htl) inv0 (by rw [htl];exact hlex) h
 refine wp_region_any hm ?_
 have:=wpAny_of_hd (C:=fun w'=>∃ z:In Cls,w'=z.w) (Q':=Q) (g:=l.toArray.size - n) (fun listed a' w' hw' hL=>by
  have:=wpAny_of_seq (md:= .any) (Q':=Q) (l.drop n) n listed a' w' (fun j=>by simp [List.getElem?_drop]) (by rw [hdl];exact hL.1) (hL.2 w' hw')
  rwa [hdl] at this) _ _ _ { w with drawn:=w.drawn+1 } ⟨⟨w.drew,hC⟩,rfl⟩ H
 rw [htl,show n+(l.toArray.size - n)=l.toArray.size by omega] at this
 exact this
end Qt
namespace Qt
open Go
section
variable {P:Program} {ops:Array Oper} {md:Region.Mode} {C:World->Prop}
def sinkB1 (md:Region.Mode) (ops:Array Oper) (m:Nat):Bool:=
 (List.range m).all fun i=>(List.range (m+2)).any fun j=>decide (i<j) && decide (j≠m) && Region.waitsFor md ops j i
theorem tail_waits1 {m:Nat} {listed:Array Bool} (hs:sinkB1 md ops m=true) (hc:Region.chainB md ops (m+1)=true) (hn:m+1<ops.size) (inv:HeadInv md ops (m+1) listed):
  ∀ (d i:Nat),m+1 - i=d->i<m->listed.getD i true=false->∀ t,m+1<=t->t ∉ Region.ready md ops listed:=by
 intro d
 induction d using Nat.strongRecOn with
 |_ d ih=>
  intro i hd hi hun t ht hr;obtain ⟨_,ot,hot,hall⟩:=mem_ready.1 hr
  have htlt:t<ops.size:=(Array.getElem?_eq_some_iff.1 hot).1
  rcases Nat.lt_or_ge (m+1) t with htn|htn
  ·have h1:=List.all_eq_true.1 hc t (List.mem_range.2 htlt)
   simp only [Bool.or_eq_true,decide_eq_true_eq] at h1
   rcases h1 with h1|h1
   ·omega
   ·obtain ⟨o',ho',e,he,hb,hon⟩:=Region.waitsFor_spec h1
    obtain rfl:=Option.some.inj (ho'.symm.trans hot);have h2:=hall e he hb
    rw [hon,getD_both (inv.tail (t - 1) (by omega) (by omega))] at h2
    cases h2
  ·obtain rfl:t=m+1:=by omega
   obtain ⟨j,hj,hj2⟩:=List.any_eq_true.1 (List.all_eq_true.1 hs i (List.mem_range.2 hi));simp only [Bool.and_eq_true,decide_eq_true_eq] at hj2;obtain ⟨oj,hoj,e,he,hb,hon⟩:=Region.waitsFor_spec hj2.2;have hjl:=List.mem_range.1 hj
   by_cases hjt:j=m+1
   ·subst hjt
    obtain rfl:=Option.some.inj (hoj.symm.trans hot);have h2:=hall e he hb;rw [hon,getD_both hun] at h2
    cases h2
   ·cases hl:listed.getD j false with
    |true=>
     have h2:=inv.closed j oj hoj hl e he hb;rw [hon,getD_both hun] at h2
     cases h2
    |false=>
     have hjs:j<listed.size:=by rw [inv.size];omega
     exact ih (m+1 - j) (by omega) j rfl (by omega) (getD_in hjs hl) (m+1) (Nat.le_refl _) hr
def Free (md:Region.Mode) (ops:Array Oper) (listed:Array Bool) (i:Nat) (oi:Oper):Prop:=
 ∀ j oj,ops[j]?=some oj->j≠i->listed.getD j true=false->(∀ e∈oj.after,Region.binds md e=true->e.on≠i)->oi.apart ops oj=true
theorem Free.set {listed:Array Bool} {i j:Nat} {oi:Oper} (h:Free md ops listed i oi) (hj:listed.getD j true=false):Free md ops (listed.setIfInBounds j true) i oi:=fun k ok hk hki hun hno=>by
 refine h k ok hk hki ?_ hno
 by_cases hjk:j=k
 ·subst hjk;exact hj
 ·rw [getD_set_ne true hjk] at hun;exact hun
def wpHd1 (P:Program) (md:Region.Mode) (ops:Array Oper) (C:World->Prop) (m:Nat) (L:Array Bool->Act->Prop):Nat->Array Bool->Act->Prop
 |0,listed,a=>L listed a
 |f+1,listed,a=>Region.ready md ops listed≠[]/\(∀ i∈Region.ready md ops listed,i<m+1->qOp P ops C i (wpHd1 P md ops C m L f (listed.setIfInBounds i true)) a)/\
  ((∃ t∈Region.ready md ops listed,m+1<=t)->∃ (u:Nat) (ou:Oper) (v:Value),ops[u]?=some ou/\Free md ops listed u ou/\u∈Region.ready md ops listed/\Yields P ops ou v a/\wpHd1 P md ops C m L f (listed.setIfInBounds u true) (a.put ou.dst v))
theorem wpAny_of_hd1 {m g:Nat} {L:Array Bool->Act->Prop} {Q':Exit->Act->World->Prop} (hsel:∀ (j:Nat) (o:Oper) cs b,ops[j]?=some o->o.op≠.select cs b) (hQ:∀ c a a' w,Q' (.panic c) a w->Q' (.panic c) a' w)
  (hL:∀ listed a w,C w->L listed a->wpAny P md ops Q' g listed a w):
  ∀ (f:Nat) (listed:Array Bool) (a:Act) (w:World),C w->wpHd1 P md ops C m L f listed a->wpAny P md ops Q' (f+g) listed a w
 |0,listed,a,w,hC,h=>by rw [Nat.zero_add];exact hL _ _ _ hC h
 |f+1,listed,a,w,hC,h=>by
  rw [show f+1+g=(f+g)+1 by omega]
  by_cases ht:∃ t∈Region.ready md ops listed,m+1<=t
  ·obtain ⟨u,ou,v,hu,hf,hr,hy,hK⟩:=h.2.2 ht
   exact wpAny_first hu hsel (fun c a w h=>hQ c _ _ w h) (f+g) listed a w hf hr hy (wpAny_of_hd1 hsel hQ hL f _ _ w hC hK)
  ·exact ⟨fun e=>absurd e h.1,fun i hi=>wpOp_of_qOp hC (fun a' w' hw' h'=>wpAny_of_hd1 hsel hQ hL f _ a' w' hw' h') (h.2.1 i hi (by
    rcases Nat.lt_or_ge i (m+1) with h1|h1
    ·exact h1
    ·exact absurd ⟨i,hi,h1⟩ ht))⟩
theorem qOp_put1 {j:Nat} {oi oj:Oper} {v:Value} (hj:ops[j]?=some oj) (hap:oi.apart ops oj=true) (hsi:∀ cs b,oi.op≠.select cs b) (hsj:∀ cs b,oj.op≠.select cs b) {K:Act->Prop} {a:Act}
  (h:qOp P ops C j K (a.put oi.dst v)):qOp P ops C j (fun a'=>(YieldsIn P ops C oi v a->YieldsIn P ops C oi v a')/\(Yields P ops oi v a->Yields P ops oi v a')/\K (a'.put oi.dst v)) a:=by
 obtain ⟨h1,h2,h3⟩:=Oper.apart_spec hap;have k1:∀ u,YieldsIn P ops C oi v a->YieldsIn P ops C oi v (a.put oj.dst u):=fun u hy=>hy.of_same (execOp_put oi hsi a oj.dst u h3) (wanted_put oi a oj.dst u h3);have k2:∀ u,Yields P ops oi v a->Yields P ops oi v (a.put oj.dst u):=fun u hy=>hy.of_same (execOp_put oi hsi a oj.dst u h3) (wanted_put oi a oj.dst u h3);unfold qOp at*;simp only [hj] at*;rw [wanted_put oj a oi.dst v h1] at h
 split
 ·rename_i hw
  simp only [hw,if_true] at h;obtain ⟨u,hu,hn⟩:=h
  refine ⟨u,fun w hw'=>?_,k1 u,k2 u,by rw [<-Act.put_comm a v u h2];exact hn⟩
  have:=hu w hw';unfold Oper.quietAt at*
  rwa [execOp_put oj hsj a oi.dst v h1] at this
 ·rename_i hw
  simp only [hw] at h
  exact ⟨k1 _,k2 _,by rw [<-Act.put_comm a v undef h2];exact h⟩
theorem hd1_first {m i:Nat} {oi:Oper} {v:Value} {L:Array Bool->Act->Prop} (hi:ops[i]?=some oi) (hsel:∀ (j:Nat) (o:Oper) cs b,ops[j]?=some o->o.op≠.select cs b)
  (hs:sinkB1 md ops m=true) (hc:Region.chainB md ops (m+1)=true) (hn:m+1<ops.size) (hin:i<m+1) (hdone:∀ listed a,L listed a->∀ j∈Region.ready md ops listed,m+1<=j):
  ∀ (f:Nat) (listed:Array Bool) (a:Act),HeadInv md ops (m+1) listed->Free md ops listed i oi->
   i∈Region.ready md ops listed->YieldsIn P ops C oi v a->(i=m->Yields P ops oi v a)->
   wpHd1 P md ops C m L f (listed.setIfInBounds i true) (a.put oi.dst v)->wpHd1 P md ops C m L (f+1) listed a:=by
 have last:∀ (f:Nat) (listed:Array Bool) (a:Act),HeadInv md ops (m+1) listed->Free md ops listed i oi->i∈Region.ready md ops listed->(i=m->Yields P ops oi v a)->
   wpHd1 P md ops C m L f (listed.setIfInBounds i true) (a.put oi.dst v)->(∃ t∈Region.ready md ops listed,m+1<=t)->
   ∃ (u:Nat) (ou:Oper) (v:Value),ops[u]?=some ou/\Free md ops listed u ou/\u∈Region.ready md ops listed/\Yields P ops ou v a/\wpHd1 P md ops C m L f (listed.setIfInBounds u true) (a.put ou.dst v):=by
  intro f listed a inv hf hr hy H ⟨t,ht,htm⟩
  have him:i=m:=by
   rcases Nat.lt_or_ge i m with h|h
   ·exact absurd ht (tail_waits1 hs hc hn inv _ i rfl h (mem_ready.1 hr).1 t htm)
   ·omega
  exact ⟨i,oi,v,hi,hf,hr,hy him,H⟩
 intro f
 induction f with
 |zero=>
  intro listed a inv hf hr hy hy1 H
  refine ⟨fun e=>(by rw [e] at hr;cases hr),fun j hj hjn=>?_,last _ _ _ inv hf hr hy1 H⟩
  by_cases hji:j=i
  ·subst hji
   exact hy.qOp hi H
  ·have:=hdone _ _ H j (ready_mono hj hji)
   omega
 |succ f ih=>
  intro listed a inv hf hr hy hy1 H
  refine ⟨fun e=>(by rw [e] at hr;cases hr),fun j hj hjn=>?_,last _ _ _ inv hf hr hy1 H⟩
  by_cases hji:j=i
  ·subst hji
   exact hy.qOp hi H
  ·obtain ⟨hjun,oj,hoj,hall⟩:=mem_ready.1 hj
   have h2:=qOp_put1 hoj (hf j oj hoj hji hjun (no_edge hr hall)) (fun cs b=>hsel i oi cs b hi) (fun cs b=>hsel j oj cs b hoj) (H.2.1 j (ready_mono hj hji) hjn)
   refine qOp_mono (fun a' h3=>ih (listed.setIfInBounds j true) a' (inv.set hj hjn) (hf.set hjun) (ready_mono hr (Ne.symm hji)) (h3.1 hy) (fun e=>h3.2.1 (hy1 e)) ?_) h2
   rw [Array.setIfInBounds_comm _ _ hji];exact h3.2.2
theorem hd1_lex {m g:Nat} {Lq:Act->Prop} {p:Oper} (hp:ops[m]?=some p) (hsel:Region.noSelect ops=true) (hs:sinkB1 md ops m=true) (hc:Region.chainB md ops (m+1)=true) (hn:m+1<ops.size):
  ∀ (l:List Oper) (k:Nat) (listed:Array Bool) (a:Act),(∀ j,j<l.length->l[j]?=ops[k+j]?)->k+l.length=m->HeadInv md ops (m+1) listed->
  Region.lexHead md ops g (l.length+1) k listed=true->wpQuiet P ops C (fun a1=>∃ v,YieldsIn P ops C p v a1/\Yields P ops p v a1/\Lq (a1.put p.dst v)) l a->
  wpHd1 P md ops C m (fun listed' a'=>Region.seqB md ops g (m+1) listed'=true/\Lq a') (l.length+1) listed a
 |[],k,listed,a,_,hk,inv,hB,⟨v,hy,hy1,h⟩=>by
  obtain rfl:k=m:=by simpa using hk
  simp only [List.length_nil,Region.lexHead,Bool.and_eq_true] at hB;obtain ⟨⟨hr,hf⟩,hB'⟩:=hB
  exact hd1_first hp (Region.noSelect_spec hsel) hs hc hn (by omega) (fun listed' a' hL=>seqB_ready hL.1) 0 listed a inv (Region.free_spec hp hf) (by simpa using hr) hy (fun _=>hy1) ⟨hB',h⟩
 |o :: l,k,listed,a,hl,hk,inv,hB,h=>by
  have h0:ops[k]?=some o:=by simpa using (hl 0 (by simp)).symm
  simp only [List.length_cons,Region.lexHead,Bool.and_eq_true] at hB;obtain ⟨⟨hr,hf⟩,hB'⟩:=hB
  have hkn:k<m:=by simp only [List.length_cons] at hk;omega
  have hr':k∈Region.ready md ops listed:=by simpa using hr
  have hst:qOp P ops C k (wpQuiet P ops C (fun a1=>∃ v,YieldsIn P ops C p v a1/\Yields P ops p v a1/\Lq (a1.put p.dst v)) l) a:=by unfold qOp;simp only [h0];exact h
  obtain ⟨v,hy,hK⟩:=yieldsIn_of_qOp h0 hst
  exact hd1_first h0 (Region.noSelect_spec hsel) hs hc hn (by omega) (fun listed' a' hL=>seqB_ready hL.1) (l.length+1) listed a inv (Region.free_spec h0 hf) hr' hy (fun e=>by omega)
   (hd1_lex hp hsel hs hc hn l (k+1) _ _ (fun j hj=>by have:=hl (j+1) (by simp;omega);simpa [Nat.add_assoc,Nat.add_comm 1 j] using this) (by simp only [List.length_cons] at hk;omega) (inv.set hr' (by omega)) (by simpa [Region.lexHead] using hB') hK)
theorem quiet_mono {Q Q2:Act->Prop} (hq:∀ a,Q a->Q2 a):∀ (l:List Oper) (a:Act),wpQuiet P ops C Q l a->wpQuiet P ops C Q2 l a
 |[],_,h=>hq _ h
 |o :: l,a,h=>by
  unfold wpQuiet at h ⊢
  split
  ·rename_i hw
   rw [if_pos hw] at h;exact Oper.quiet_mono (fun a' h'=>quiet_mono hq l a' h') h
  ·rename_i hw
   rw [if_neg hw] at h;exact quiet_mono hq l _ h
theorem yieldsIn_of {o:Oper} {v:Value} {a:Act} (h:Yields P ops o v a):YieldsIn P ops C o v a:=by
 rcases h with ⟨h1,h2⟩|h
 ·refine .inl ⟨h1,fun w _=>?_⟩
  unfold Oper.quietAt;rw [h2 w];exact ⟨rfl,rfl⟩
 ·exact .inr h
def lexB1 (md:Region.Mode) (ops:Array Oper) (m:Nat):Bool:=
 Region.noSelect ops && decide (m+1<ops.size) && sinkB1 md ops m && Region.chainB md ops (m+1) && Region.lexHead md ops (ops.size - (m+1)) (m+1) 0 (Array.replicate ops.size false)
end
theorem wp_region_cls_pick {P:Program} {id:Nat} {Q:Exit->Act->World->Prop} {a:Act} {w:World} {l:List Oper} (Cls:World->Prop) (m:Nat) (p:Oper) (hp:l.toArray[m]?=some p) (hm:P.follows .mixedOrders=true) (hB:lexB1 .any l.toArray m=true)
  (hC:Cls w.drew)
  (h:wpQuiet P l.toArray (fun w'=>∃ z:In Cls,w'=z.w) (fun a1=>∃ v,Yields P l.toArray p v a1/\∀ w',(∃ z:In Cls,w'=z.w)->wpList P l.toArray (NoPanic Q) (l.drop (m+1)) (a1.put p.dst v) w') (l.take m) a):(Code.region id l.toArray true).wp P Q a w:=by
 refine wp_region_noPanic ?_
 simp only [lexB1,Bool.and_eq_true,decide_eq_true_eq] at hB;obtain ⟨⟨⟨⟨hsel,hn⟩,hs⟩,hc⟩,hlex⟩:=hB
 have hn':m+1<l.length:=by simpa using hn
 have htl:(l.take m).length=m:=by simp;omega
 have hdl:(l.drop (m+1)).length=l.toArray.size - (m+1):=by simp
 have inv0:HeadInv .any l.toArray (m+1) (Array.replicate l.toArray.size false):=
  ⟨by simp,fun j oj _ hl=>(by rw [getD_replicate_false] at hl;cases hl),fun t _ ht=>getD_in (by simpa using ht) (getD_replicate_false _ _)⟩
 have h':wpQuiet P l.toArray (fun w'=>∃ z:In Cls,w'=z.w) (fun a1=>∃ v,YieldsIn P l.toArray (fun w'=>∃ z:In Cls,w'=z.w) p v a1/\Yields P l.toArray p v a1/\(fun a'=>∀ w',(∃ z:In Cls,w'=z.w)->wpList P l.toArray (NoPanic Q) (l.drop (m+1)) a' w') (a1.put p.dst v)) (l.take m) a:=
  quiet_mono (fun a1 ⟨v,h1,h2⟩=>⟨v,yieldsIn_of h1,h1,h2⟩) _ _ h
 have H:=hd1_lex (md:= .any) (C:=fun w'=>∃ z:In Cls,w'=z.w) (Lq:=fun a'=>∀ w',(∃ z:In Cls,w'=z.w)->wpList P l.toArray (NoPanic Q) (l.drop (m+1)) a' w') (g:=l.toArray.size - (m+1)) hp hsel hs hc hn (l.take m) 0 _ a (fun j hj=>by
  have hj':j<m:=by rw [htl] at hj;exact hj
  simp [hj']) (by simpa using htl) inv0 (by rw [htl];exact hlex) h'
 refine wp_region_any hm ?_
 have:=wpAny_of_hd1 (C:=fun w'=>∃ z:In Cls,w'=z.w) (Q':=NoPanic Q) (g:=l.toArray.size - (m+1)) (Region.noSelect_spec hsel) (fun c a a' w h=>h) (fun listed a' w' hw' hL=>by
  have:=wpAny_of_seq (md:= .any) (Q':=NoPanic Q) (l.drop (m+1)) (m+1) listed a' w' (fun j=>by simp [List.getElem?_drop]) (by rw [hdl];exact hL.1) (hL.2 w' hw')
  rwa [hdl] at this) _ _ _ { w with drawn:=w.drawn+1 } ⟨⟨w.drew,hC⟩,rfl⟩ H
 rw [htl,show m+1+(l.toArray.size - (m+1))=l.toArray.size by omega] at this
 exact this
end Qt
end
end Go.Proofs.YtiiekaehbahenaaGreatDoor
