/-
  Contracts of the code that the law reaches, and plain laws. Conditions: as each says.
-/
import Derived.Test.YtiiekaehbahenaaGreatDoorV02
set_option linter.all false
set_option maxHeartbeats 40000000
set_option maxRecDepth 100000
namespace Go.Proofs.YtiiekaehbahenaaGreatDoor
section
namespace Qt
open Go
section
variable {P:Program} {ops:Array Oper} {md:Region.Mode} {C:World->Prop}
def sinkF (md:Region.Mode) (ops:Array Oper) (n:Nat):Bool:=
 (List.range n).all fun i=>decide (i=0) || (List.range (n+1)).any fun j=>decide (i<j) && Region.waitsFor md ops j i
structure HeadF (md:Region.Mode) (ops:Array Oper) (n:Nat) (listed:Array Bool):Prop where
 inv:HeadInv md ops n listed
 first:listed.getD 0 false=true
theorem HeadF.set {n i:Nat} {listed:Array Bool} (h:HeadF md ops n listed) (hi:i∈Region.ready md ops listed) (hin:i<n):HeadF md ops n (listed.setIfInBounds i true):=
 ⟨h.inv.set hi hin,getD_set_true h.first⟩
theorem tail_waitsF {n:Nat} {listed:Array Bool} (hs:sinkF md ops n=true) (hc:Region.chainB md ops n=true) (hn:n<ops.size) (hF:HeadF md ops n listed):
  ∀ (d i:Nat),n - i=d->i<n->listed.getD i true=false->∀ t,n<=t->t ∉ Region.ready md ops listed:=by
 have inv:=hF.inv;intro d
 induction d using Nat.strongRecOn with
 |_ d ih=>
  intro i hd hi hun t ht hr;obtain ⟨_,ot,hot,hall⟩:=mem_ready.1 hr
  have htlt:t<ops.size:=(Array.getElem?_eq_some_iff.1 hot).1
  by_cases htn:t=n
  ·subst htn
   have h1:=List.all_eq_true.1 hs i (List.mem_range.2 hi)
   have hi0:i≠0:=by
    rintro rfl;have:=getD_both hun
    rw [hF.first] at this
    cases this
   simp only [Bool.or_eq_true,decide_eq_true_eq,hi0,false_or] at h1;obtain ⟨j,hj,hj2⟩:=List.any_eq_true.1 h1;simp only [Bool.and_eq_true,decide_eq_true_eq] at hj2;obtain ⟨oj,hoj,e,he,hb,hon⟩:=Region.waitsFor_spec hj2.2
   have hjle:j<=t:=by have:=List.mem_range.1 hj;omega
   by_cases hjt:j=t
   ·subst hjt
    have:oj=ot:=Option.some.inj (hoj.symm.trans hot);subst this;have h2:=hall e he hb;rw [hon,getD_both hun] at h2
    cases h2
   ·cases hl:listed.getD j false with
    |true=>
     have h2:=inv.closed j oj hoj hl e he hb;rw [hon,getD_both hun] at h2
     cases h2
    |false=>
     have hjs:j<listed.size:=by rw [inv.size];omega
     exact ih (t - j) (by omega) j rfl (by omega) (getD_in hjs hl) t (Nat.le_refl _) hr
  ·have h1:=List.all_eq_true.1 hc t (List.mem_range.2 htlt)
   simp only [Bool.or_eq_true,decide_eq_true_eq] at h1
   rcases h1 with h1|h1
   ·omega
   ·obtain ⟨o',ho',e,he,hb,hon⟩:=Region.waitsFor_spec h1
    have:o'=ot:=Option.some.inj (ho'.symm.trans hot);subst this;have h2:=hall e he hb
    rw [hon,getD_both (inv.tail (t - 1) (by omega) (by omega))] at h2
    cases h2
theorem ready_ltF {n i j:Nat} {listed:Array Bool} (hs:sinkF md ops n=true) (hc:Region.chainB md ops n=true) (hn:n<ops.size) (hin:i<n) (inv:HeadF md ops n listed)
  (hr:i∈Region.ready md ops listed) (hj:j∈Region.ready md ops listed):j<n:=by
 rcases Nat.lt_or_ge j n with h|h
 ·exact h
 ·exact absurd hj (tail_waitsF hs hc hn inv _ i rfl hin (mem_ready.1 hr).1 j h)
theorem hd_firstF {n i:Nat} {oi:Oper} {v:Value} {L:Array Bool->Act->Prop} (hi:ops[i]?=some oi) (hsel:∀ (j:Nat) (o:Oper) cs b,ops[j]?=some o->o.op≠.select cs b)
  (hs:sinkF md ops n=true) (hc:Region.chainB md ops n=true) (hn:n<ops.size) (hin:i<n) (hdone:∀ listed a,L listed a->∀ j∈Region.ready md ops listed,n<=j):
  ∀ (f:Nat) (listed:Array Bool) (a:Act),HeadF md ops n listed->
   (∀ j oj,ops[j]?=some oj->j≠i->listed.getD j true=false->(∀ e∈oj.after,Region.binds md e=true->e.on≠i)->oi.apart ops oj=true)->
   i∈Region.ready md ops listed->YieldsIn P ops C oi v a->
   wpHd P md ops C n L f (listed.setIfInBounds i true) (a.put oi.dst v)->wpHd P md ops C n L (f+1) listed a:=by
 intro f
 induction f with
 |zero=>
  intro listed a inv _ hr hy H
  refine ⟨fun e=>(by rw [e] at hr;cases hr),fun j hj=>?_⟩
  have hjn:=ready_ltF hs hc hn hin inv hr hj
  by_cases hji:j=i
  ·subst hji
   exact ⟨hjn,hy.qOp hi H⟩
  ·have:=hdone _ _ H j (ready_mono hj hji)
   omega
 |succ f ih=>
  intro listed a inv hfree hr hy H
  refine ⟨fun e=>(by rw [e] at hr;cases hr),fun j hj=>?_⟩
  have hjn:=ready_ltF hs hc hn hin inv hr hj
  by_cases hji:j=i
  ·subst hji
   exact ⟨hjn,hy.qOp hi H⟩
  ·refine ⟨hjn,?_⟩
   obtain ⟨hjun,oj,hoj,hall⟩:=mem_ready.1 hj;have h2:=qOp_put hoj (hfree j oj hoj hji hjun (no_edge hr hall)) (fun cs b=>hsel i oi cs b hi) (fun cs b=>hsel j oj cs b hoj) hy (H.2 j (ready_mono hj hji)).2
   refine qOp_mono (fun a' h3=>ih (listed.setIfInBounds j true) a' (inv.set hj hjn) (fun k ok hk hki hun hno=>?_) (ready_mono hr (Ne.symm hji)) h3.1 ?_) h2
   ·refine hfree k ok hk hki ?_ hno
    by_cases hjk:j=k
    ·subst hjk;exact hjun
    ·rw [getD_set_ne true hjk] at hun;exact hun
   ·rw [Array.setIfInBounds_comm _ _ hji]
    exact h3.2
theorem hd_lexF {n g:Nat} {Lq:Act->Prop} (hsel:Region.noSelect ops=true) (hs:sinkF md ops n=true) (hc:Region.chainB md ops n=true) (hn:n<ops.size):
  ∀ (l:List Oper) (k:Nat) (listed:Array Bool) (a:Act),(∀ j,j<l.length->l[j]?=ops[k+j]?)->k+l.length=n->HeadF md ops n listed->
  Region.lexHead md ops g l.length k listed=true->wpQuiet P ops C Lq l a->
  wpHd P md ops C n (fun listed' a'=>Region.seqB md ops g n listed'=true/\Lq a') l.length listed a
 |[],k,listed,a,_,hk,_,hB,h=>by
  obtain rfl:k=n:=by simpa using hk
  exact ⟨by simpa [Region.lexHead] using hB,h⟩
 |o :: l,k,listed,a,hl,hk,inv,hB,h=>by
  have h0:ops[k]?=some o:=by simpa using (hl 0 (by simp)).symm
  simp only [List.length_cons,Region.lexHead,Bool.and_eq_true] at hB;obtain ⟨⟨hr,hf⟩,hB'⟩:=hB
  have hkn:k<n:=by simp only [List.length_cons] at hk;omega
  have hr':k∈Region.ready md ops listed:=by simpa using hr
  have hst:qOp P ops C k (wpQuiet P ops C Lq l) a:=by unfold qOp;simp only [h0];exact h
  obtain ⟨v,hy,hK⟩:=yieldsIn_of_qOp h0 hst
  exact hd_firstF h0 (Region.noSelect_spec hsel) hs hc hn hkn (fun listed' a' hL=>seqB_ready hL.1) l.length listed a inv (Region.free_spec h0 hf) hr' hy
   (hd_lexF hsel hs hc hn l (k+1) _ _ (fun j hj=>by have:=hl (j+1) (by simp;omega);simpa [Nat.add_assoc,Nat.add_comm 1 j] using this) (by simp only [List.length_cons] at hk;omega) (inv.set hr' hkn) hB' hK)
end
def lexF (md:Region.Mode) (ops:Array Oper) (n:Nat):Bool:=
 Region.noSelect ops && decide (0<n) && decide (n<ops.size) && sinkF md ops n && Region.chainB md ops n && (Region.ready md ops (Array.replicate ops.size false)).contains 0 && Region.free md ops (Array.replicate ops.size false) 0 &&
  Region.lexHead md ops (ops.size - n) (n - 1) 1 ((Array.replicate ops.size false).setIfInBounds 0 true)
theorem wp_region_cls_float {P:Program} {id:Nat} {Q:Exit->Act->World->Prop} {a:Act} {w:World} {p:Oper} {l:List Oper} {v:Value} (Cls:World->Prop) (n:Nat) (hm:P.follows .mixedOrders=true) (hB:lexF .any (p :: l).toArray n=true) (hC:Cls w.drew)
  (hy:Yields P (p :: l).toArray p v a)
  (h:wpQuiet P (p :: l).toArray (fun w'=>∃ z:In Cls,w'=z.w) (fun a'=>∀ w',(∃ z:In Cls,w'=z.w)->wpList P (p :: l).toArray (NoPanic Q) (l.drop (n - 1)) a' w') (l.take (n - 1)) (a.put p.dst v)):(Code.region id (p :: l).toArray true).wp P Q a w:=by
 refine wp_region_noPanic ?_
 simp only [lexF,Bool.and_eq_true,decide_eq_true_eq] at hB;obtain ⟨⟨⟨⟨⟨⟨⟨hsel,hn0⟩,hn⟩,hs⟩,hc⟩,hr⟩,hf⟩,hlex⟩:=hB
 have hn':n<l.length+1:=by simpa using hn
 obtain ⟨m,rfl⟩:∃ m,n=m+1:=⟨n - 1,by omega⟩
 simp only [Nat.add_sub_cancel] at h hlex
 have htl:(l.take m).length=m:=by simp;omega
 have hdl:(l.drop m).length=(p :: l).toArray.size - (m+1):=by simp
 have hr':0∈Region.ready .any (p :: l).toArray (Array.replicate (p :: l).toArray.size false):=by simpa using hr
 have inv0:HeadInv .any (p :: l).toArray (m+1) (Array.replicate (p :: l).toArray.size false):=
  ⟨by simp,fun j oj _ hl=>(by rw [getD_replicate_false] at hl;cases hl),fun t _ ht=>getD_in (by simpa using ht) (getD_replicate_false _ _)⟩
 have invF:HeadF .any (p :: l).toArray (m+1) ((Array.replicate (p :: l).toArray.size false).setIfInBounds 0 true):=⟨inv0.set hr' hn0,by simp⟩
 have H:=hd_lexF (md:= .any) (g:=(p :: l).toArray.size - (m+1)) hsel hs hc hn (l.take m) 1 _ _ (fun j hj=>by
  have hj':j<m:=by rw [htl] at hj;exact hj
  simp [hj',Nat.add_comm 1 j]) (by rw [htl];omega) invF (by rw [htl];exact hlex) h
 refine wp_region_any hm ?_
 have:=wpAny_of_hd (C:=fun w'=>∃ z:In Cls,w'=z.w) (Q':=NoPanic Q) (g:=(p :: l).toArray.size - (m+1)) (fun listed a' w' hw' hL=>by
  have:=wpAny_of_seq (md:= .any) (Q':=NoPanic Q) (l.drop m) (m+1) listed a' w' (fun j=>by simp [List.getElem?_drop,Nat.add_right_comm]) (by rw [hdl];exact hL.1) (hL.2 w' hw')
  rwa [hdl] at this) _ _ _ { w with drawn:=w.drawn+1 } ⟨⟨w.drew,hC⟩,rfl⟩ H
 rw [htl] at this
 have hsz:(p :: l).toArray.size=(m+((p :: l).toArray.size - (m+1)))+1:=by omega
 rw [show (p :: l).toArray.size=(m+((p :: l).toArray.size - (m+1)))+1 from hsz];rw [<-hsz]
 have t:=wpAny_take (Q:=NoPanic Q) (fuel:=m+((p :: l).toArray.size - (m+1))) (i:=0) (oi:=p) (by simp) hsel hf hr (fun c a w h=>h) hy this
 rwa [<-hsz] at t
end Qt
end
end Go.Proofs.YtiiekaehbahenaaGreatDoor
