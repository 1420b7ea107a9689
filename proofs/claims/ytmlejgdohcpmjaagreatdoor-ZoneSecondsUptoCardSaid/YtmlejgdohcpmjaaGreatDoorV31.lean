/-
  Contracts of the code that the law reaches, and plain laws. Conditions: as each says.
-/
import Derived.Test.YtmlejgdohcpmjaaGreatDoorV30
import Derived.Test.YtmlejgdohcpmjaaGreatDoorV00
import Derived.OrdersIn
import Derived.AtR
set_option linter.all false
set_option maxHeartbeats 40000000
set_option maxRecDepth 100000
namespace Go.Proofs.YtmlejgdohcpmjaaGreatDoor
section
section
namespace Rng
open Go Go.RowKit
def AbidesK {β:Type} (cls:Nat->Obj->Prop) (J:β->World->Prop):Prop:=
 ∀ s W W' row,J s W->W.grownBy W' row->(∀ r,row=some r->∃ o:Obj,W.heap[r]?=some o/\cls r o)->J s W'
def SeqS {α:Type} (cls:Nat->Obj->Prop) (F:Fence) (n:Nat) (P:Program) (g:Nat) (lb:Array Value) (encs:α->Array Value) (Kp:World->World->Prop) (G:α->Prop) (S Sp:List α->Prop) (w:World):Prop:=
 ∀ (l:Nat) (J Jx:List α->World->Prop) (W:World),Below w.heap.size w W->AbidesK cls J->AbidesK cls Jx->(∀ pre x W1,J (pre++[x]) W1->G x)->
  (∀ pre x W1,J pre W1->Sp (pre++[x])->YieldAt F (n - 1) P l (encs x) W1 fun e W'=>
   (e= .returned (.bool true)/\J (pre++[x]) W'/\Kp W1 W')\/(e= .returned (.bool false)/\Jx (pre++[x]) W'))->
  J [] W->
  CallsIn F n P g (#[.func (.yield l) #[] #[]]++lb) W fun e W'=>(∃ v,e= .returned v)/\((∃ xs,S xs/\J xs W')\/(∃ pre,Sp pre/\Jx pre W'))
variable {F:Fence} {n:Nat} {P:Program}
theorem wpIn_rangeS {α:Type} {cls:Nat->Obj->Prop} (hcls:∀ k o,cls k o->(∀ r,o≠.loop r)/\∀ d,o≠.deferred d) {g:Operand} {ps:Array Tmp} {assign body:Code} {Q:Exit->Act->World->Prop} {a:Act} {w:World}
  (hro:F.round=none) (h1:1<=n) {gf:Nat} {lb:Array Value} (hg:a.eval g= .func (.func gf) #[] lb) (hFg:F.fn gf) (eg:∀ args w,(callFunc gf args).run P w= .ok (.enter gf args) w)
  {encs:α->Array Value} {Kp:World->World->Prop} {G:α->Prop} {S Sp:List α->Prop} {w0:World} (hseq:SeqS cls F (n - 1) P gf lb encs Kp G S Sp w0)
  (hKt:∀ {A B C:World},Kp A B->Kp B C->Kp A C) (hKb:∀ (W:World) (l:Nat) (r:Loop) (o':Obj),w.heap.size<=l->W.heap[l]?=some (.loop r)->Kp W (W.putObj l o')) (hb0:Below w0.heap.size w0 w) (hps:∀ x,(encs x).size=ps.size)
  (I:List α->World->Prop) (Ix:Code->List α->World->Prop)
  (hI:∀ s W W' row,I s W->W.grownBy W' row->(∀ r,row=some r->∃ o:Obj,W.heap[r]?=some o/\((w.heap.size<=r/\o.isCells=false)\/cls r o))->I s W')
  (hIx:∀ c s W W' row,Ix c s W->W.grownBy W' row->(∀ r,row=some r->∃ o:Obj,W.heap[r]?=some o/\((w.heap.size<=r/\o.isCells=false)\/cls r o))->Ix c s W')
  (hG:∀ pre x W,I (pre++[x]) W->G x) (h0:I [] w) (Ax:α->Act->World->Prop)
  (hAx:∀ x a' W l r o',Ax x a' W->w.heap.size<=l->W.heap[l]?=some (.loop r)->Ax x a' (W.putObj l o'))
  (hassign:∀ (l:Nat) (pre:List α) (x:α) (W:World) (K:Act->World->Prop),I pre W->(∀ a' W',KeepsFrom w.heap.size W W'->Kp W W'->I pre W'->Ax x a' W'->K a' W')->
   assign.wpIn (F.inRound l) (n - 1 - 1) P (Exit.then K (fun _ _ _=>False)) { tmps:=(ps.zip (encs x)).foldl (fun t (p,v)=>t.setIfInBounds p v) a.tmps,defers:=[] } W)
  (hbody:∀ (l:Nat) (pre:List α) (x:α) (a':Act) (W:World),I pre W->Ax x a' W->Sp (pre++[x])->body.wpIn (F.inRound l) (n - 1 - 1) P (ownPostG w.heap.size Kp I Ix (pre++[x]) W) a' W)
  (hdone:∀ (D:Nat) (xs:List α) (W:World),w.heap.size<=D->S xs->I xs W->W.heap[D]?=some (.deferred (some []))->Q .normal { a with defers:={ target:= .collected D,args:=#[] } :: a.defers } W)
  (hstop:∀ (D:Nat) (c:Code) (pre:List α) (W:World),w.heap.size<=D->Sp pre->Ix c pre W->W.heap[D]?=some (.deferred (some []))->c.wpIn F n P Q { a with defers:={ target:= .collected D,args:=#[] } :: a.defers } W):
  (Code.rangeFunc g ps assign body).wpIn F n P Q a w:=by
 have putI:∀ (s:List α) (W:World) (l:Nat) (r:Loop) (o':Obj),I s W->w.heap.size<=l->W.heap[l]?=some (.loop r)->I s (W.putObj l o'):=fun s W l r o' hs hB hl=>
  hI s W _ (some l) hs (grownBy_putObj' W l o') (fun k e=>by cases e;exact ⟨_,hl,.inl ⟨hB,rfl⟩⟩)
 have putIx:∀ (c:Code) (s:List α) (W:World) (l:Nat) (r:Loop) (o':Obj),Ix c s W->w.heap.size<=l->W.heap[l]?=some (.loop r)->Ix c s (W.putObj l o'):=fun c s W l r o' hs hB hl=>
  hIx c s W _ (some l) hs (grownBy_putObj' W l o') (fun k e=>by cases e;exact ⟨_,hl,.inl ⟨hB,rfl⟩⟩)
 refine wpIn_rangeFunc ?_
 intro fn hfn;rw [hro]
 let rec_:LoopState->Option Code->Loop:=fun st pe=>{ state:=st,pending:=pe,fn,tmps:=a.tmps,params:=ps,assign,body,defers:=w.heap.size }
 obtain ⟨L,hL⟩:∃ L,L=w.heap.size+1:=⟨_,rfl⟩;obtain ⟨V,hV⟩:∃ V,(w.alloc (.deferred (some []))).alloc (.loop (rec_ .ready none))=V:=⟨_,rfl⟩
 have rdy:V.heap[L]?=some (.loop (rec_ .ready none))/\V.heap[w.heap.size]?=some (.deferred (some [])):=by
  have e:=World.alloc_heap_new (w.alloc (.deferred (some []))) (.loop (rec_ .ready none));rw [World.size_alloc] at e;rw [<-hV,hL]
  exact ⟨e,(Below.heap_alloc _ _ _ (by simp)).trans (World.alloc_heap_new w _)⟩
 have hVz:w.heap.size<=V.heap.size:=by rw [<-hV];simp;omega
 have iV:I [] V:=by
  rw [<-hV]
  exact hI _ _ _ none (hI _ _ _ none h0 (World.grownBy_alloc _ _ none) (fun r e=>by cases e)) (World.grownBy_alloc _ _ none) (fun r e=>by cases e)
 have bV:Below w0.heap.size w0 V:=by
  rw [<-hV];exact hb0.trans ((((Below.refl _ w).alloc (Nat.le_refl _) _).alloc (by simp) _).mono hb0.size)
 refine ⟨L,[{ target:= .collected w.heap.size,args:=#[] }],V,{ target:= .fn (.func gf) lb,args:=#[.func (.yield L) #[] #[]] },V,gf,#[.func (.yield L) #[] #[]]++lb,V,?_,?_,?_,?_,fun _=>h1,?_⟩
 ·rw [<-hV,hL];exact run_enterLoop_outer _ _ _ _ _
 ·simp only [resolve,hg]
  simp [go_sem]
 ·intro f' hf';simp [Target.leads] at hf';subst hf';exact hFg
 ·simp [invoke,go_sem,eg]
 ·have stay:∀ {A B:World} {row:Option Nat} {k:Nat} {o:Obj},A.grownBy B row->(∀ r,row=some r->∃ o:Obj,A.heap[r]?=some o/\cls r o)->A.heap[k]?=some o->((∃ r,o= .loop r)\/∃ d,o= .deferred d)->B.heap[k]?=some o:=by
   intro A B row k o hgr hr hk ho
   rw [hgr.block k (Array.getElem?_eq_some_iff.1 hk).1 ?_]
   ·exact hk
   ·intro e
    obtain ⟨o2,h2,h3⟩:=hr k e.symm;rw [hk] at h2
    injection h2 with h2
    subst h2
    rcases ho with ⟨r,rfl⟩|⟨d,rfl⟩
    ·exact (hcls _ _ h3).1 r rfl
    ·exact (hcls _ _ h3).2 d rfl
  have widen:∀ {A:World} {row:Option Nat},(∀ r,row=some r->∃ o:Obj,A.heap[r]?=some o/\cls r o)->(∀ r,row=some r->∃ o:Obj,A.heap[r]?=some o/\((w.heap.size<=r/\o.isCells=false)\/cls r o)):=
   fun hr r e=>by obtain ⟨o,ho,hw⟩:=hr r e;exact ⟨o,ho,.inr hw⟩
  refine (hseq L (fun pre W=>I pre W/\W.heap[L]?=some (.loop (rec_ .ready none))/\W.heap[w.heap.size]?=some (.deferred (some [])))
   (fun pre W=>∃ c,Ix c pre W/\W.heap[L]?=some (.loop (rec_ .done (some c)))/\W.heap[w.heap.size]?=some (.deferred (some []))) V bV
   (fun s A B row hs hgr hr=>⟨hI s A B row hs.1 hgr (widen hr),stay hgr hr hs.2.1 (.inl ⟨_,rfl⟩),stay hgr hr hs.2.2 (.inr ⟨_,rfl⟩)⟩)
   (fun s A B row hs hgr hr=>by
    obtain ⟨c,hc,hl,hk⟩:=hs
    exact ⟨c,hIx c s A B row hc hgr (widen hr),stay hgr hr hl (.inl ⟨_,rfl⟩),stay hgr hr hk (.inr ⟨_,rfl⟩)⟩)
   (fun pre x W1 h=>hG pre x W1 h.1) ?_ ⟨iV,rdy⟩).mono ?_
  ·rintro pre x W ⟨hi,hl,hk⟩ hsp
   have hlt:L<W.heap.size:=(Array.getElem?_eq_some_iff.1 hl).1
   have hy:=run_yield (P:=P) (args:=encs x) hl (hps x)
   refine ⟨fn,_,assign,body,hy,roundIn_of_wpIn hfn (hassign L pre x W _ hi ?_)⟩
   intro a' Wa kfa kpa hia hxa
   replace hl:=kfa.same _ _ (by omega) hl rfl
   replace hk:=kfa.same _ _ (Nat.le_refl _) hk rfl
   replace hlt:L<Wa.heap.size:=(Array.getElem?_eq_some_iff.1 hl).1
   refine ⟨_,run_beginRound hl rfl,?_⟩
   obtain ⟨Wb,hWb⟩:∃ Wb,Wa.putObj L (.loop { rec_ .ready none with state:= .busy })=Wb:=⟨_,rfl⟩
   have hl2:Wb.heap[L]?=some (.loop { rec_ .ready none with state:= .busy }):=by rw [<-hWb];exact World.putObj_heap_same hlt
   have hk2:Wb.heap[w.heap.size]?=some (.deferred (some [])):=by rw [<-hWb];exact (World.putObj_heap_other (by omega)).trans hk
   have ib:I pre Wb:=by rw [<-hWb];exact putI _ _ _ _ _ hia (by omega) hl
   have kb:Kp W Wb:=by rw [<-hWb];exact hKt kpa (hKb _ _ _ _ (by omega) hl)
   have xb:Ax x a' Wb:=by rw [<-hWb];exact hAx _ _ _ _ _ _ hxa (by omega) hl
   rw [hWb]
   have fin:∀ (jump:Option Code) (W3:World),KeepsFrom w.heap.size Wb W3->
     (Instr.endRound L jump).run P W3= .ok (.bool jump.isNone) (W3.putObj L (.loop (rec_ (if jump.isNone then .ready else .done) jump)))/\
     W3.heap[L]?=some (.loop { rec_ .ready none with state:= .busy })/\
     (W3.putObj L (.loop (rec_ (if jump.isNone then .ready else .done) jump))).heap[L]?=some (.loop (rec_ (if jump.isNone then .ready else .done) jump))/\
     (W3.putObj L (.loop (rec_ (if jump.isNone then .ready else .done) jump))).heap[w.heap.size]?=some (.deferred (some [])):=fun jump W3 hk3=>by
    have hl3:=hk3.same _ _ (by omega) hl2 rfl
    exact ⟨run_endRound (P:=P) jump hl3,hl3,World.putObj_heap_same (Array.getElem?_eq_some_iff.1 hl3).1,(World.putObj_heap_other (by omega)).trans (hk3.same _ _ (Nat.le_refl _) hk2 rfl)⟩
   refine wpIn_mono (hbody L pre x a' Wb ib xb hsp) ?_
   rintro e a3 W3 hp
   cases e with
   |normal=>
    obtain ⟨hk3,hkp3,hi3⟩:=hp;obtain ⟨hr,hl3,hl4,hk4⟩:=fin none W3 hk3
    exact ⟨_,_,hr,.inl ⟨rfl,⟨putI _ _ _ _ _ hi3 (by omega) hl3,hl4,hk4⟩,hKt kb (hKt hkp3 (hKb _ _ _ _ (by omega) hl3))⟩⟩
   |ret=>
    obtain ⟨hk3,hi3⟩:=hp;obtain ⟨hr,hl3,hl4,hk4⟩:=fin (some .ret) W3 hk3
    exact ⟨_,_,hr,.inr ⟨rfl,.ret,putIx _ _ _ _ _ _ hi3 (by omega) hl3,hl4,hk4⟩⟩
   |exit id=>
    obtain ⟨hk3,hi3⟩:=hp;obtain ⟨hr,hl3,hl4,hk4⟩:=fin (some (.exit id)) W3 hk3
    exact ⟨_,_,hr,.inr ⟨rfl,.exit id,putIx _ _ _ _ _ _ hi3 (by omega) hl3,hl4,hk4⟩⟩
   |goto t=>
    obtain ⟨hk3,hi3⟩:=hp;obtain ⟨hr,hl3,hl4,hk4⟩:=fin (some (.goto t)) W3 hk3
    exact ⟨_,_,hr,.inr ⟨rfl,.goto t,putIx _ _ _ _ _ _ hi3 (by omega) hl3,hl4,hk4⟩⟩
   |panic ch=>exact hp.elim
   |outgrown=>exact hp.elim
  ·rintro e W2 ⟨⟨v,rfl⟩,(⟨xs,hS,hi,hl,hk⟩|⟨pre,hSp,c,hi,hl,hk⟩)⟩
   ·exact ⟨none,_,run_endLoop (P:=P) hl (by simp [rec_]),hdone _ xs _ (Nat.le_refl _) hS (putI _ _ _ _ _ hi (by omega) hl) ((World.putObj_heap_other (by omega)).trans hk)⟩
   ·exact ⟨some c,_,run_endLoop (P:=P) hl (by simp [rec_]),hstop _ c pre _ (Nat.le_refl _) hSp (putIx _ _ _ _ _ _ hi (by omega) hl) ((World.putObj_heap_other (by omega)).trans hk)⟩
end Rng
end
end
section
section
namespace Qt
open Go
theorem upon_in {P:Program} {o:Oper} {a:Act} {K:Act->World->Prop} {Q:Exit->Act->World->Prop} {l n:Nat} (hQ:¬ LetsOut Q):∀ (r:Result Next),o.upon P a K Q r->o.uponIn (Fence.wide.inRound l) n P a K Q r
 | .ok (.value _) _,h=>h
 | .ok .skip _,h=>h
 | .ok (.defer _) _,h=>h
 | .ok (.enter f args) w',h=>⟨fun h=>(by cases h),CallsIn.inRound l (callsIn_wide.2 h)⟩
 | .ok (.row row args) w',h=>⟨fun h=>(by cases h),fun c cs _=>by
   obtain ⟨v,w'',r,s⟩:=h c cs
   exact ⟨v,w'',r,stepsIn_wide.2 s⟩⟩
 | .halt (.panic _) _,h=>h
theorem any_in {P:Program} {md:Region.Mode} {ops:Array Oper} {Q:Exit->Act->World->Prop} {l n:Nat} (hd:∀ (i:Nat) o,ops[i]?=some o->∀ c,o.op≠.defer c) (hQ:¬ LetsOut Q):∀ (fuel:Nat) (listed:Array Bool) (a:Act) (w:World),
  wpAny P md ops Q fuel listed a w->wpAnyIn (Fence.wide.inRound l) n P md ops Q fuel listed a w
 |0,_,_,_,h=>h
 |fuel+1,listed,a,w,h=>by
  refine ⟨h.1,fun i hi=>?_⟩
  have hi2:=h.2 i hi;unfold wpOp at hi2;unfold wpOpIn
  cases ho:ops[i]? with
  |none=>
   rw [ho] at hi2;exact any_in hd hQ fuel _ a w hi2
  |some o=>
   rw [ho] at hi2;simp only at hi2 ⊢
   split
   ·next hw=>
    rw [if_pos hw] at hi2;have h3:=hi2.resolve_right fun h=>hQ h.2;have h4:o.wp P a w (wpAnyIn (Fence.wide.inRound l) n P md ops Q fuel (listed.setIfInBounds i true)) Q:=Oper.wp_mono (fun a w=>any_in hd hQ fuel _ a w) h3
    refine ⟨fun _ _=>trivial,?_⟩
    rw [Oper.semAt_eq _ _ _ (hd i o ho)];exact upon_in hQ _ h4
   ·next hw=>
    rw [if_neg hw] at hi2;exact ⟨fun _ _=>trivial,any_in hd hQ fuel _ _ w hi2⟩
theorem upon_wide {P:Program} {o:Oper} {a:Act} {K:Act->World->Prop} {Q:Exit->Act->World->Prop} {n:Nat} (hQ:¬ LetsOut Q):∀ (r:Result Next),o.upon P a K Q r->o.uponIn Fence.wide n P a K Q r
 | .ok (.value _) _,h=>h
 | .ok .skip _,h=>h
 | .ok (.defer _) _,h=>h
 | .ok (.enter f args) w',h=>⟨fun h=>(by cases h),callsIn_wide.2 h⟩
 | .ok (.row row args) w',h=>⟨fun h=>(by cases h),fun c cs _=>by
   obtain ⟨v,w'',r,s⟩:=h c cs
   exact ⟨v,w'',r,stepsIn_wide.2 s⟩⟩
 | .halt (.panic _) _,h=>h
theorem any_wide {P:Program} {md:Region.Mode} {ops:Array Oper} {Q:Exit->Act->World->Prop} {n:Nat} (hd:∀ (i:Nat) o,ops[i]?=some o->∀ c,o.op≠.defer c) (hQ:¬ LetsOut Q):∀ (fuel:Nat) (listed:Array Bool) (a:Act) (w:World),
  wpAny P md ops Q fuel listed a w->wpAnyIn Fence.wide n P md ops Q fuel listed a w
 |0,_,_,_,h=>h
 |fuel+1,listed,a,w,h=>by
  refine ⟨h.1,fun i hi=>?_⟩
  have hi2:=h.2 i hi;unfold wpOp at hi2;unfold wpOpIn
  cases ho:ops[i]? with
  |none=>
   rw [ho] at hi2;exact any_wide hd hQ fuel _ a w hi2
  |some o=>
   rw [ho] at hi2;simp only at hi2 ⊢
   split
   ·next hw=>
    rw [if_pos hw] at hi2;have h3:=hi2.resolve_right fun h=>hQ h.2;have h4:o.wp P a w (wpAnyIn Fence.wide n P md ops Q fuel (listed.setIfInBounds i true)) Q:=Oper.wp_mono (fun a w=>any_wide hd hQ fuel _ a w) h3
    refine ⟨fun _ _=>trivial,?_⟩
    rw [Oper.semAt_eq _ _ _ (hd i o ho)];exact upon_wide hQ _ h4
   ·next hw=>
    rw [if_neg hw] at hi2;exact ⟨fun _ _=>trivial,any_wide hd hQ fuel _ _ w hi2⟩
theorem region_wide {P:Program} {id n:Nat} {ops:Array Oper} {Q:Exit->Act->World->Prop} {a:Act} {w:World} (hm:P.follows .mixedOrders=true) (hd:ops.all (fun o=>match o.op with| .defer _=>false|_=>true)=true) (hQ:¬ LetsOut Q)
  (h:wpAny P .any ops Q ops.size (Array.replicate ops.size false) a { w with drawn:=w.drawn+1 }):(Code.region id ops true).wpIn Fence.wide n P Q a w:=
 wpIn_region_any hm (any_wide (fun i o ho c e=>by
  obtain ⟨hi,e2⟩:=Array.getElem?_eq_some_iff.1 ho
  rw [Array.all_eq_true] at hd;have:=hd i hi;rw [e2,e] at this
  cases this) hQ _ _ _ _ h)
theorem any_cls_tail {P:Program} {Q:Exit->Act->World->Prop} {a:Act} {w:World} {l:List Oper} (Cls:World->Prop) (n:Nat) (hB:Region.lexTailB .any l.toArray n=true) (hC:Cls w.drew)
  (h:wpQuiet P l.toArray (fun w'=>∃ z:In Cls,w'=z.w) (fun a'=>∀ w',(∃ z:In Cls,w'=z.w)->wpList P l.toArray Q (l.drop n) a' w') (l.take n) a):wpAny P .any l.toArray Q l.toArray.size (Array.replicate l.toArray.size false) a { w with drawn:=w.drawn+1 }:=by
 simp only [Region.lexTailB,Bool.and_eq_true,decide_eq_true_eq] at hB;obtain ⟨⟨⟨⟨hsel,hn⟩,hs⟩,hc⟩,hlex⟩:=hB
 have hn':n<l.length:=by simpa using hn
 have htl:(l.take n).length=n:=by simp;omega
 have hdl:(l.drop n).length=l.toArray.size - n:=by simp
 have inv0:HeadInv .any l.toArray n (Array.replicate l.toArray.size false):=
  ⟨by simp,fun j oj _ hl=>(by rw [getD_replicate_false] at hl;cases hl),fun t _ ht=>getD_in (by simpa using ht) (getD_replicate_false _ _)⟩
 have H:=hd_lex (md:= .any) (g:=l.toArray.size - n) hsel hs hc hn (l.take n) 0 _ a (fun j hj=>by
  have hj':j<n:=by rw [htl] at hj;exact hj
  simp [hj']) (by simpa using htl) inv0 (by rw [htl];exact hlex) h
 have:=wpAny_of_hd (C:=fun w'=>∃ z:In Cls,w'=z.w) (Q':=Q) (g:=l.toArray.size - n) (fun listed a' w' hw' hL=>by
  have:=wpAny_of_seq (md:= .any) (Q':=Q) (l.drop n) n listed a' w' (fun j=>by simp [List.getElem?_drop]) (by rw [hdl];exact hL.1) (hL.2 w' hw')
  rwa [hdl] at this) _ _ _ { w with drawn:=w.drawn+1 } ⟨⟨w.drew,hC⟩,rfl⟩ H
 rw [htl,show n+(l.toArray.size - n)=l.toArray.size by omega] at this
 exact this
theorem region_round {P:Program} {id n L:Nat} {ops:Array Oper} {Q:Exit->Act->World->Prop} {a:Act} {w:World} (hm:P.follows .mixedOrders=true) (hd:ops.all (fun o=>match o.op with| .defer _=>false|_=>true)=true) (hQ:¬ LetsOut Q)
  (h:wpAny P .any ops Q ops.size (Array.replicate ops.size false) a { w with drawn:=w.drawn+1 }):(Code.region id ops true).wpIn (Fence.wide.inRound L) n P Q a w:=
 wpIn_region_any hm (any_in (fun i o ho c e=>by
  obtain ⟨hi,e2⟩:=Array.getElem?_eq_some_iff.1 ho
  rw [Array.all_eq_true] at hd;have:=hd i hi;rw [e2,e] at this
  cases this) hQ _ _ _ _ h)
end Qt
end
end
end Go.Proofs.YtmlejgdohcpmjaaGreatDoor
