/-
  Contracts of the code that the law reaches, and plain laws. Conditions: as each says.
-/
import Derived.Test.YtiiekaehbahenaaGreatDoorV17
set_option linter.all false
set_option maxHeartbeats 40000000
set_option maxRecDepth 100000
namespace Go.Proofs.YtiiekaehbahenaaGreatDoor
open Lib (hid)
open Tryz
section
section
namespace Qt
open Go
section
variable {P:Program} {ops:Array Oper} {md:Region.Mode} {C:World->Prop}
def sinkF (md:Region.Mode) (ops:Array Oper) (n:Nat):Bool:=
 (List.range n).all fun i=>decide (i=0) || (List.range (n+1)).any fun j=>decide (i<j) && Region.waitsFor md ops j i
structure HeadF (md:Region.Mode) (ops:Array Oper) (n:Nat) (listed:Array Bool):Prop where
 inv:HeadInv md ops n listed
 first:listed.getD 0 false=true
theorem HeadF.set {n i:Nat} {listed:Array Bool} (h:HeadF md ops n listed) (hi:i∈Region.ready md ops listed) (hin:i<n):HeadF md ops n (listed.setIfInBounds i true):=
 ⟨h.inv.set hi hin,getD_set_true h.first⟩
theorem tail_waitsF {n:Nat} {listed:Array Bool} (hs:sinkF md ops n=true) (hc:Region.chainB md ops n=true) (hn:n<ops.size) (hF:HeadF md ops n listed):
  ∀ (d i:Nat),n - i=d->i<n->listed.getD i true=false->∀ t,n<=t->t ∉ Region.ready md ops listed:=by
 have inv:=hF.inv;intro d
 induction d using Nat.strongRecOn with
 |_ d ih=>
  intro i hd hi hun t ht hr;obtain ⟨_,ot,hot,hall⟩:=mem_ready.1 hr
  have htlt:t<ops.size:=(Array.getElem?_eq_some_iff.1 hot).1
  by_cases htn:t=n
  ·subst htn
   have h1:=List.all_eq_true.1 hs i (List.mem_range.2 hi)
   have hi0:i≠0:=by
    rintro rfl;have:=getD_both hun
    rw [hF.first] at this
    cases this
   simp only [Bool.or_eq_true,decide_eq_true_eq,hi0,false_or] at h1;obtain ⟨j,hj,hj2⟩:=List.any_eq_true.1 h1;simp only [Bool.and_eq_true,decide_eq_true_eq] at hj2;obtain ⟨oj,hoj,e,he,hb,hon⟩:=Region.waitsFor_spec hj2.2
   have hjle:j<=t:=by have:=List.mem_range.1 hj;omega
   by_cases hjt:j=t
   ·subst hjt
    have:oj=ot:=Option.some.inj (hoj.symm.trans hot);subst this;have h2:=hall e he hb;rw [hon,getD_both hun] at h2
    cases h2
   ·cases hl:listed.getD j false with
    |true=>
     have h2:=inv.closed j oj hoj hl e he hb;rw [hon,getD_both hun] at h2
     cases h2
    |false=>
     have hjs:j<listed.size:=by rw [inv.size];omega
     exact ih (t - j) (by omega) j rfl (by omega) (getD_in hjs hl) t (Nat.le_refl _) hr
  ·have h1:=List.all_eq_true.1 hc t (List.mem_range.2 htlt)
   simp only [Bool.or_eq_true,decide_eq_true_eq] at h1
   rcases h1 with h1|h1
   ·omega
   ·obtain ⟨o',ho',e,he,hb,hon⟩:=Region.waitsFor_spec h1
    have:o'=ot:=Option.some.inj (ho'.symm.trans hot);subst this;have h2:=hall e he hb
    rw [hon,getD_both (inv.tail (t - 1) (by omega) (by omega))] at h2
    cases h2
theorem ready_ltF {n i j:Nat} {listed:Array Bool} (hs:sinkF md ops n=true) (hc:Region.chainB md ops n=true) (hn:n<ops.size) (hin:i<n) (inv:HeadF md ops n listed)
  (hr:i∈Region.ready md ops listed) (hj:j∈Region.ready md ops listed):j<n:=by
 rcases Nat.lt_or_ge j n with h|h
 ·exact h
 ·exact absurd hj (tail_waitsF hs hc hn inv _ i rfl hin (mem_ready.1 hr).1 j h)
theorem hd_firstF {n i:Nat} {oi:Oper} {v:Value} {L:Array Bool->Act->Prop} (hi:ops[i]?=some oi) (hsel:∀ (j:Nat) (o:Oper) cs b,ops[j]?=some o->o.op≠.select cs b)
  (hs:sinkF md ops n=true) (hc:Region.chainB md ops n=true) (hn:n<ops.size) (hin:i<n) (hdone:∀ listed a,L listed a->∀ j∈Region.ready md ops listed,n<=j):
  ∀ (f:Nat) (listed:Array Bool) (a:Act),HeadF md ops n listed->
   (∀ j oj,ops[j]?=some oj->j≠i->listed.getD j true=false->(∀ e∈oj.after,Region.binds md e=true->e.on≠i)->oi.apart ops oj=true)->
   i∈Region.ready md ops listed->YieldsIn P ops C oi v a->
   wpHd P md ops C n L f (listed.setIfInBounds i true) (a.put oi.dst v)->wpHd P md ops C n L (f+1) listed a:=by
 intro f
 induction f with
 |zero=>
  intro listed a inv _ hr hy H
  refine ⟨fun e=>(by rw [e] at hr;cases hr),fun j hj=>?_⟩
  have hjn:=ready_ltF hs hc hn hin inv hr hj
  by_cases hji:j=i
  ·subst hji
   exact ⟨hjn,hy.qOp hi H⟩
  ·have:=hdone _ _ H j (ready_mono hj hji)
   omega
 |succ f ih=>
  intro listed a inv hfree hr hy H
  refine ⟨fun e=>(by rw [e] at hr;cases hr),fun j hj=>?_⟩
  have hjn:=ready_ltF hs hc hn hin inv hr hj
  by_cases hji:j=i
  ·subst hji
   exact ⟨hjn,hy.qOp hi H⟩
  ·refine ⟨hjn,?_⟩
   obtain ⟨hjun,oj,hoj,hall⟩:=mem_ready.1 hj;have h2:=qOp_put hoj (hfree j oj hoj hji hjun (no_edge hr hall)) (fun cs b=>hsel i oi cs b hi) (fun cs b=>hsel j oj cs b hoj) hy (H.2 j (ready_mono hj hji)).2
   refine qOp_mono (fun a' h3=>ih (listed.setIfInBounds j true) a' (inv.set hj hjn) (fun k ok hk hki hun hno=>?_) (ready_mono hr (Ne.symm hji)) h3.1 ?_) h2
   ·refine hfree k ok hk hki ?_ hno
    by_cases hjk:j=k
    ·subst hjk;exact hjun
    ·rw [getD_set_ne true hjk] at hun;exact hun
   ·rw [Array.setIfInBounds_comm _ _ hji]
    exact h3.2
theorem hd_lexF {n g:Nat} {Lq:Act->Prop} (hsel:Region.noSelect ops=true) (hs:sinkF md ops n=true) (hc:Region.chainB md ops n=true) (hn:n<ops.size):
  ∀ (l:List Oper) (k:Nat) (listed:Array Bool) (a:Act),(∀ j,j<l.length->l[j]?=ops[k+j]?)->k+l.length=n->HeadF md ops n listed->
  Region.lexHead md ops g l.length k listed=true->wpQuiet P ops C Lq l a->
  wpHd P md ops C n (fun listed' a'=>Region.seqB md ops g n listed'=true/\Lq a') l.length listed a
 |[],k,listed,a,_,hk,_,hB,h=>by
  obtain rfl:k=n:=by simpa using hk
  exact ⟨by simpa [Region.lexHead] using hB,h⟩
 |o :: l,k,listed,a,hl,hk,inv,hB,h=>by
  have h0:ops[k]?=some o:=by simpa using (hl 0 (by simp)).symm
  simp only [List.length_cons,Region.lexHead,Bool.and_eq_true] at hB;obtain ⟨⟨hr,hf⟩,hB'⟩:=hB
  have hkn:k<n:=by simp only [List.length_cons] at hk;omega
  have hr':k∈Region.ready md ops listed:=by simpa using hr
  have hst:qOp P ops C k (wpQuiet P ops C Lq l) a:=by unfold qOp;simp only [h0];exact h
  obtain ⟨v,hy,hK⟩:=yieldsIn_of_qOp h0 hst
  exact hd_firstF h0 (Region.noSelect_spec hsel) hs hc hn hkn (fun listed' a' hL=>seqB_ready hL.1) l.length listed a inv (Region.free_spec h0 hf) hr' hy
   (hd_lexF hsel hs hc hn l (k+1) _ _ (fun j hj=>by have:=hl (j+1) (by simp;omega);simpa [Nat.add_assoc,Nat.add_comm 1 j] using this) (by simp only [List.length_cons] at hk;omega) (inv.set hr' hkn) hB' hK)
end
def lexF (md:Region.Mode) (ops:Array Oper) (n:Nat):Bool:=
 Region.noSelect ops && decide (0<n) && decide (n<ops.size) && sinkF md ops n && Region.chainB md ops n && (Region.ready md ops (Array.replicate ops.size false)).contains 0 && Region.free md ops (Array.replicate ops.size false) 0 &&
  Region.lexHead md ops (ops.size - n) (n - 1) 1 ((Array.replicate ops.size false).setIfInBounds 0 true)
theorem wp_region_cls_float {P:Program} {id:Nat} {Q:Exit->Act->World->Prop} {a:Act} {w:World} {p:Oper} {l:List Oper} {v:Value} (Cls:World->Prop) (n:Nat) (hm:P.follows .mixedOrders=true) (hB:lexF .any (p :: l).toArray n=true) (hC:Cls w.drew)
  (hy:Yields P (p :: l).toArray p v a)
  (h:wpQuiet P (p :: l).toArray (fun w'=>∃ z:In Cls,w'=z.w) (fun a'=>∀ w',(∃ z:In Cls,w'=z.w)->wpList P (p :: l).toArray (NoPanic Q) (l.drop (n - 1)) a' w') (l.take (n - 1)) (a.put p.dst v)):(Code.region id (p :: l).toArray true).wp P Q a w:=by
 refine wp_region_noPanic ?_
 simp only [lexF,Bool.and_eq_true,decide_eq_true_eq] at hB;obtain ⟨⟨⟨⟨⟨⟨⟨hsel,hn0⟩,hn⟩,hs⟩,hc⟩,hr⟩,hf⟩,hlex⟩:=hB
 have hn':n<l.length+1:=by simpa using hn
 obtain ⟨m,rfl⟩:∃ m,n=m+1:=⟨n - 1,by omega⟩
 simp only [Nat.add_sub_cancel] at h hlex
 have htl:(l.take m).length=m:=by simp;omega
 have hdl:(l.drop m).length=(p :: l).toArray.size - (m+1):=by simp
 have hr':0∈Region.ready .any (p :: l).toArray (Array.replicate (p :: l).toArray.size false):=by simpa using hr
 have inv0:HeadInv .any (p :: l).toArray (m+1) (Array.replicate (p :: l).toArray.size false):=
  ⟨by simp,fun j oj _ hl=>(by rw [getD_replicate_false] at hl;cases hl),fun t _ ht=>getD_in (by simpa using ht) (getD_replicate_false _ _)⟩
 have invF:HeadF .any (p :: l).toArray (m+1) ((Array.replicate (p :: l).toArray.size false).setIfInBounds 0 true):=⟨inv0.set hr' hn0,by simp⟩
 have H:=hd_lexF (md:= .any) (g:=(p :: l).toArray.size - (m+1)) hsel hs hc hn (l.take m) 1 _ _ (fun j hj=>by
  have hj':j<m:=by rw [htl] at hj;exact hj
  simp [hj',Nat.add_comm 1 j]) (by rw [htl];omega) invF (by rw [htl];exact hlex) h
 refine wp_region_any hm ?_
 have:=wpAny_of_hd (C:=fun w'=>∃ z:In Cls,w'=z.w) (Q':=NoPanic Q) (g:=(p :: l).toArray.size - (m+1)) (fun listed a' w' hw' hL=>by
  have:=wpAny_of_seq (md:= .any) (Q':=NoPanic Q) (l.drop m) (m+1) listed a' w' (fun j=>by simp [List.getElem?_drop,Nat.add_right_comm]) (by rw [hdl];exact hL.1) (hL.2 w' hw')
  rwa [hdl] at this) _ _ _ { w with drawn:=w.drawn+1 } ⟨⟨w.drew,hC⟩,rfl⟩ H
 rw [htl] at this
 have hsz:(p :: l).toArray.size=(m+((p :: l).toArray.size - (m+1)))+1:=by omega
 rw [show (p :: l).toArray.size=(m+((p :: l).toArray.size - (m+1)))+1 from hsz];rw [<-hsz]
 have t:=wpAny_take (Q:=NoPanic Q) (fuel:=m+((p :: l).toArray.size - (m+1))) (i:=0) (oi:=p) (by simp) hsel hf hr (fun c a w h=>h) hy this
 rwa [<-hsz] at t
end Qt
end
end
section
section
namespace Wid
open Go.RowKit Mem Atl
def lenU:Nat->Nat
 |4=>86400000000000|5=>3600000000000|6=>60000000000|7=>1000000000|8=>1|_=>0
theorem lenI0 (w:World):(Instr.index 150 (.agg #[.int .i64 86400000000000,.int .i64 3600000000000,.int .i64 60000000000,.int .i64 1000000000,.int .i64 1]) (.int .i64 0)).run prog w= .ok (.int .i64 86400000000000) w:=by kernel_rfl
theorem lenI1 (w:World):(Instr.index 150 (.agg #[.int .i64 86400000000000,.int .i64 3600000000000,.int .i64 60000000000,.int .i64 1000000000,.int .i64 1]) (.int .i64 1)).run prog w= .ok (.int .i64 3600000000000) w:=by kernel_rfl
theorem lenI2 (w:World):(Instr.index 150 (.agg #[.int .i64 86400000000000,.int .i64 3600000000000,.int .i64 60000000000,.int .i64 1000000000,.int .i64 1]) (.int .i64 2)).run prog w= .ok (.int .i64 60000000000) w:=by kernel_rfl
theorem lenI3 (w:World):(Instr.index 150 (.agg #[.int .i64 86400000000000,.int .i64 3600000000000,.int .i64 60000000000,.int .i64 1000000000,.int .i64 1]) (.int .i64 3)).run prog w= .ok (.int .i64 1000000000) w:=by kernel_rfl
theorem lenI4 (w:World):(Instr.index 150 (.agg #[.int .i64 86400000000000,.int .i64 3600000000000,.int .i64 60000000000,.int .i64 1000000000,.int .i64 1]) (.int .i64 4)).run prog w= .ok (.int .i64 1) w:=by kernel_rfl
theorem length_any (u:Nat) (h1:4<=u) (h2:u<=8) (w:World):Calls prog 58 #[.int .i64 u] w fun e w'=>e= .returned (.int .i64 (lenU u))/\w=w':=by
 have:u=4\/u=5\/u=6\/u=7\/u=8:=by omega
 rcases this with rfl|rfl|rfl|rfl|rfl
 ·show Calls prog 58 #[.int .i64 4] w fun e w'=>e= .returned (.int .i64 86400000000000)/\w=w'
  have l:=lenI0;go_enter func58,ntmps58;go_wp2;go_ret;exact ⟨rfl,rfl⟩
 ·show Calls prog 58 #[.int .i64 5] w fun e w'=>e= .returned (.int .i64 3600000000000)/\w=w'
  have l:=lenI1;go_enter func58,ntmps58;go_wp2;go_ret;exact ⟨rfl,rfl⟩
 ·show Calls prog 58 #[.int .i64 6] w fun e w'=>e= .returned (.int .i64 60000000000)/\w=w'
  have l:=lenI2;go_enter func58,ntmps58;go_wp2;go_ret;exact ⟨rfl,rfl⟩
 ·show Calls prog 58 #[.int .i64 7] w fun e w'=>e= .returned (.int .i64 1000000000)/\w=w'
  have l:=lenI3;go_enter func58,ntmps58;go_wp2;go_ret;exact ⟨rfl,rfl⟩
 ·show Calls prog 58 #[.int .i64 8] w fun e w'=>e= .returned (.int .i64 1)/\w=w'
  have l:=lenI4;go_enter func58,ntmps58;go_wp2;go_ret;exact ⟨rfl,rfl⟩
theorem limit_any (w:World):Calls prog 66 #[] w fun e w'=>e= .returned (wN 9007199254740992000000000)/\Below w.heap.size w w':=by
 have hm:=fun z=>mul_nn 9007199254740992 1000000000 (by decide) (by decide) z
 rw [show 9007199254740992*1000000000=9007199254740992000000000 from rfl] at hm;obtain ⟨hi,hhi⟩:∃ y,9007199254740992000000000 / 18446744073709551616=y:=⟨_,rfl⟩;obtain ⟨lo,hlo⟩:∃ y,9007199254740992000000000 % 18446744073709551616=y:=⟨_,rfl⟩;rw [wN,hiN,loN,hhi,hlo] at hm;rw [wN,hiN,loN,hhi,hlo];clear hhi hlo;have HM:=hid (show ∀ z,Calls prog 101 #[.int .i64 9007199254740992,.int .i64 1000000000] z fun e w'=>e= .returned (.agg #[.int .i64 hi,.int .u64 lo])/\Below z.heap.size z w' from hm);clear hm;have h1:=Blk.new w 112 #[.int .i64 0,.int .u64 0];have H1:=hid h1;clear h1;go_enter func66,ntmps66
 go_wp2_with (go_at_call 101;refine (HM.out _).mono ?_;rintro e w1 ⟨rfl,hb⟩;have h2:=H1.out.below hb (by simp);have HB2:=hid (((Below.refl w.heap.size w).alloc (Nat.le_refl _) _).trans (hb.mono (by simp)));have c2:=h2.cell;have f2:=h2.frozen;have H2:=hid h2;clear hb h2 H1)
 have bF:=set2 (x0:= .int .i64 hi) (x1:= .int .u64 lo) H2.out;have hF:=(HB2.out.setCell (p:=⟨w.heap.size,0,none⟩) (Nat.le_refl _) (.int .i64 hi)).setCell (p:=⟨w.heap.size,1,none⟩) (Nat.le_refl _) (.int .u64 lo);clear c2 f2 H2 HB2;generalize World.setCell _ ⟨w.heap.size,1,none⟩ _=WF at*;have cF:=bF.cell
 exact bodyPost_ret (v:= .agg #[.int .i64 hi,.int .u64 lo]) (by simp [results,Tryz.results66,go_sem,cF]) rfl ⟨rfl,hF⟩
def totL (D:Nat->Nat) (k:Nat):List Nat:=(List.range k).map fun i=>D (i+3)*lenU (i+4)
def totN (D:Nat->Nat):Nat:=(totL D 5).sum
theorem totL_succ (D:Nat->Nat) (k:Nat):totL D (k+1)=totL D k++[D (k+3)*lenU (k+4)]:=by
 rw [totL,List.range_succ,List.map_append];rfl
theorem lenU_lt (u:Nat):lenU u<9223372036854775808:=by unfold lenU;split<;>decide
theorem sum5 {a b c d e K:Nat} (ha:a<K) (hb:b<K) (hc:c<K) (hd:d<K) (he:e<K):a+(b+(c+(d+(e+0))))<5*K:=by omega
theorem lenU_le (u:Nat):lenU u<=1000000000000000:=by unfold lenU;split<;>decide
theorem totN_lt {D:Nat->Nat} (hD:∀ k,D k<9223372036854775808):totN D<85070591730234615865843651857942052864:=by
 have key:∀ L:Nat->Nat,(∀ u,L u<=1000000000000000)->((List.range 5).map fun i=>D (i+3)*L (i+4)).sum<85070591730234615865843651857942052864:=by
  intro L hL
  have one (k u:Nat):D k*L u<9223372036854775808*1000000000000000:=
   Nat.lt_of_le_of_lt (Nat.mul_le_mul_left _ (hL u)) (Nat.mul_lt_mul_of_pos_right (hD k) (by decide))
  have h:=sum5 (one 3 4) (one 4 5) (one 5 6) (one 6 7) (one 7 8)
  exact Nat.lt_of_lt_of_le h (by decide)
 exact key lenU lenU_le
theorem own_below {base n size:Nat} {e:TypeId} {v:Value} {xs:List Value} {W X:World} (h:W.ownsRow base e size v n xs) (hb:Below W.heap.size W X):X.ownsRow base e size v n xs:=by
 obtain ⟨h1,h2⟩:=h
 refine ⟨h1,?_⟩
 rcases h2 with h2|⟨g,cap,cur,hv,hbl,hg,r⟩
 ·exact .inl h2
 ·exact .inr ⟨g,cap,cur,hv,hbl,(hb.block g (Array.getElem?_eq_some_iff.1 hg).1).trans hg,r⟩
theorem own_sl {w:World} {base size n:Nat} {e:TypeId} {v:Value} {xs:List Value} (h:w.ownsRow base e size v n xs):∃ A c,v= .slice A n c:=by
 rcases h.2 with ⟨hv,h0⟩|⟨g,cap,cur,hv,_⟩
 ·exact ⟨none,0,by rw [hv,h0]⟩
 ·exact ⟨_,_,hv⟩
theorem info_wide:(prog.info? 112).map (fun i=>(i.zero,i.size,i.bytes))=some (some (.agg #[.int .i64 0,.int .u64 0]),2,16):=by kernel_rfl
theorem wide_one {x y:Int}:∀ u∈(#[Value.int .i64 x,.int .u64 y]:Array Value).toList,u.oneCell'=true:=by
 intro u hu;simp at hu
 rcases hu with rfl|rfl<;>rfl
theorem total_any (a b c d e f g h:Nat) (hD:∀ k,oct a b c d e f g h k<9223372036854775808) (w:World):
  Calls prog 63 #[.agg (durV a b c d e f g h)] w fun r w'=>r= .returned (wN (totN (oct a b c d e f g h)))/\Below w.heap.size w w':=by
 obtain ⟨i0,hi0,hz0,hz1,hz2⟩:=info_parts info_wide;obtain ⟨bX,bR,hbX,hzX⟩:=box2 w 32 112 (durV a b c d e f g h) #[.int .i64 0,.int .u64 0];have HX:=hid (And.intro bX (And.intro bR hbX));clear bX bR hbX;obtain ⟨D,hDD⟩:∃ D,oct a b c d e f g h=D:=⟨_,rfl⟩;have HDc:=hid (fun (z:World) (k:Nat) (hz:Blk z w.heap.size 32 (durV a b c d e f g h)) (hk:k<8)=>oct_cell hz hk);rw [hDD] at HDc hD ⊢;have HD:=hid hD;have HT:=hid (totN_lt hD);obtain ⟨hi,hhi⟩:∃ y,totN D / 18446744073709551616=y:=⟨_,rfl⟩;obtain ⟨lo,hlo⟩:∃ y,totN D % 18446744073709551616=y:=⟨_,rfl⟩;rw [wN,hiN,loN,hhi,hlo];have HH:=hid (And.intro hhi hlo);clear hhi hlo;clear hDD hD;go_enter func63,ntmps63
 go_wp2_with fail
 generalize (w.alloc (.cells (durV a b c d e f g h) 32)).alloc (.cells #[.int .i64 0,.int .u64 0] 112)=W at*
 go_at_call 45
 refine (fields_any w.heap.size W).mono ?_
 rintro r w1 ⟨rfl,bF,hb⟩;have HW:=hid (And.intro (HX.out.1.below hb HX.out.1.lt) (And.intro bF (And.intro (HX.out.2.1.below hb HX.out.2.1.lt) (HX.out.2.2.trans (hb.mono HX.out.2.2.size)))));have hF1:=bF.lt;clear bF hb;obtain ⟨F,hF⟩:∃ F,W.heap.size=F:=⟨_,rfl⟩;rw [hF] at HW hF1 hzX ⊢;clear HX hF
 go_wp2_with fail
 go_loopw [3,5] (fun v i wr=>∃ k:Nat,k<=5/\i= .int .i64 ((k+4:Nat):Int)/\wr.ownsRow w1.heap.size 112 2 v k ((totL D k).flatMap wCells)/\Below w1.heap.size w1 wr) (fun _ i _=>9 - (intOf i).toNat)
 case atStart=>exact ⟨0,by omega,rfl,World.ownsRow_nil _ _ _ _,Below.refl _ _⟩
 case round=>
  obtain ⟨k,hk,rfl,hown,hb⟩:=hrel;have HO:=hid hown;have HB:=hid hb;have hsz:=hb.size;clear hown hb
  by_cases hk5:k<5
  ·obtain ⟨x,hx⟩:∃ x,D (k+3)=x:=⟨_,rfl⟩
   obtain ⟨y,hy⟩:∃ y,lenU (k+4)=y:=⟨_,rfl⟩
   have hx2:x<9223372036854775808:=by rw [<-hx];exact HD.out _
   have hy2:y<9223372036854775808:=by rw [<-hy];exact lenU_lt _
   obtain ⟨Cls,hCls⟩:∃ C:World->Prop,C=fun z=>Below wr.heap.size wr z:=⟨_,rfl⟩
   have hC:∀ z,Cls z->Below wr.heap.size wr z:=fun z h=>by rw [hCls] at h;exact h
   have hstart:Cls wr.drew:=by rw [hCls];exact (Below.refl _ _).drew
   have inst:Nonempty (Qt.In Cls):=⟨⟨_,hstart⟩⟩
   have p1:∀ z:Qt.In Cls,z.w.cell? ⟨F,k+4,none⟩=some (.pointer (some ⟨w.heap.size,k+3,none⟩)):=fun z=>by
    have:=ptr_cell ((HW.out.2.1.below HB.out hF1).below (hC z.w z.h) (by omega)) (k:=k+3) (by omega)
    rwa [show 1+(k+3)=k+4 from by omega] at this
   have p2:∀ z:Qt.In Cls,z.w.cell? ⟨w.heap.size,k+3,none⟩=some (.int .i64 x):=fun z=>by
    rw [<-hx]
    exact HDc.out z.w (k+3) ((HW.out.1.below HB.out (by have:=HW.out.1.lt;omega)).below (hC z.w z.h) (by have:=HW.out.1.lt;omega)) (by omega)
   have hL:∀ z,Cls z->Calls prog 58 #[.int .i64 ((k+4:Nat):Int)] z fun e z'=>e= .returned (.int .i64 y)/\Cls z':=fun z hz=>by
    rw [<-hy]
    refine (length_any (k+4) (by omega) (by omega) z).mono ?_
    rintro e w' ⟨rfl,rfl⟩;exact ⟨rfl,hz⟩
   have hM:∀ z,Cls z->Calls prog 101 #[.int .i64 x,.int .i64 y] z fun e z'=>e= .returned (wN (x*y))/\Cls z':=fun z hz=>by
    refine (mul_nn x y hx2 hy2 z).mono ?_
    rintro e w' ⟨rfl,hb⟩
    exact ⟨rfl,by rw [hCls];exact (hC z hz).trans (hb.mono (hC z hz).size)⟩
   have HC:=hid hC;have HSt:=hid hstart;have HLn:=hid hL;have HMl:=hid hM
   have Hxy:=hid (show x*y=D (k+3)*lenU (k+4) from by rw [hx,hy])
   clear hC hstart hCls hL hM hx hy
   have ad:Addr.add ⟨F,0,none⟩ (k+4)=⟨F,k+4,none⟩:=by unfold Addr.add;split<;>simp_all
   have hk4:decide (((k+4:Nat):Int)<=8)=true:=decide_eq_true (by omega)
   go_wp2_with fail
   refine Qt.wp_region_cls_float Cls 10 (by kernel_rfl) (by kernel_rfl) HSt.out (.inl ⟨by rfl,fun w9=>by simp [execOp,Act.eval,go_sem];rfl⟩) ?_
   simp only [List.take_succ_cons,List.take_zero,List.drop_succ_cons,List.drop_zero,Nat.reduceSub,Act.put,List.setIfInBounds_toArray,List.set_cons_succ,List.set_cons_zero]
   repeat (go_big_quiet_step (first
    |(go_at_call 58;exact Qt.quiet_cls (HLn.out _ (Qt.In.h _)))
    |(go_at_call 101;exact Qt.quiet_cls (HMl.out _ (Qt.In.h _)))))
   refine wpQuiet_nil ?_
   rintro wq ⟨⟨w9,hq⟩,e9⟩
   have hbq:=HC.out wq (by rw [e9];exact hq)
   clear hq e9 p1 p2 inst HC HSt HLn HMl;have HO2:=hid (own_below HO.out hbq);have HB2:=hid (HB.out.trans (hbq.mono HB.out.size))
   have M1:=hid (show k+1<=maxLen from by simp only [maxLen];omega)
   have M2:=hid (show (k+1)*16<=140737488355328 from by omega)
   clear hbq HO HB
   go_wp2_with (at_builtin;refine wpList_append1 wq rfl (.tmp 13) (.tmp 23) 155 rfl w1.heap.size 112 i0 _ 2 16 underlying155 hi0 hz0 hz1 hz2 rfl (by decide) _ k ((totL D k).flatMap wCells) rfl HO2.out (by simp [Act.eval]) rfl wide_one M1.out M2.out HB2.out.size ?_;intro v' w3 ho3 hb3;have HO3:=hid ho3;have HB3:=hid (HB2.out.trans hb3);clear ho3 hb3)
   refine NoPanic.normal ?_
   go_wp2
   refine ⟨⟨k+1,by omega,by go_num,?_,HB3.out⟩,by simp [intOf];omega⟩
   rw [totL_succ,List.flatMap_append,<-Hxy.out];exact HO3.out
  ·obtain rfl:k=5:=by omega
   obtain ⟨A,c,rfl⟩:=own_sl HO.out
   have hS:∀ z,Below wr.heap.size wr z->Calls prog 102 #[.slice A 5 c] z fun e w'=>e= .returned (.tuple #[.agg #[.int .i64 hi,.int .u64 lo],.int .i64 0])/\Below z.heap.size z w':=fun z hz=>by
    refine (sum_nn (totL D 5) A c z (Reads.of_own (own_below HO.out hz)) (show 5<=1000000 by decide) HT.out).mono ?_
    rintro e w' ⟨he,hb⟩;have he:e= .returned (.tuple #[wN (totN D),.int .i64 0]):=he;rw [wN,hiN,loN,HH.out.1,HH.out.2] at he;exact ⟨he,hb⟩
   have HSm:=hid hS;have HR0:=hid (And.intro (HW.out.2.2.1.below HB.out HW.out.2.2.1.lt) (HW.out.2.2.2.trans (HB.out.mono HW.out.2.2.2.size)));clear hS HO HT
   go_wp2_with (go_at_call 102;refine (HSm.out _ (Below.refl _ _)).mono ?_;rintro e w2 ⟨rfl,hb⟩;have h2:=HR0.out.1.below hb HR0.out.1.lt;have HB2:=hid (HR0.out.2.trans (hb.mono HR0.out.2.size));have c2:=h2.cell;have f2:=h2.frozen;have hz2:=h2.lt;have H2:=hid h2;clear hb h2 HR0)
   have bF:=(set2 (x0:= .int .i64 hi) (x1:= .int .u64 lo) H2.out).alloc (.cells #[.int .i64 hi,.int .u64 lo] 112)
   have hF:=((HB2.out.setCell (p:=⟨w.heap.size+1,0,none⟩) (by simp) (.int .i64 hi)).setCell (p:=⟨w.heap.size+1,1,none⟩) (by simp) (.int .u64 lo)).alloc (by simp;omega) (.cells #[.int .i64 hi,.int .u64 lo] 112)
   clear c2 f2 H2 HB2;generalize World.alloc _ _=WF at*;have cF:=bF.cell
   exact bodyPost_ret (v:= .agg #[.int .i64 hi,.int .u64 lo]) (by simp [results,Tryz.results63,go_sem,cF]) rfl ⟨rfl,hF⟩
end Wid
end
end
end Go.Proofs.YtiiekaehbahenaaGreatDoor
