/-
  Contracts of the code that the law reaches, and plain laws. Conditions: as each says.
-/
import Derived.RangeFuncNested
import Derived.RangeFuncBound
import Derived.RangeFuncCalls
import Derived.RangeFuncLeaves
set_option linter.all false
set_option maxHeartbeats 40000000
set_option maxRecDepth 100000
namespace Go.Proofs.YtmlejgdohcpmjaaGreatDoor
section
namespace Rng
open Go Go.RowKit
def AbidesC {β:Type} (cls:Obj->Prop) (B:Nat) (J:β->World->Prop):Prop:=
 ∀ s W W' row,J s W->W.grownBy W' row->(∀ r,row=some r->B<=r/\∃ o:Obj,W.heap[r]?=some o/\cls o)->J s W'
theorem AbidesC.mono {β:Type} {cls:Obj->Prop} {B B':Nat} {J:β->World->Prop} (h:AbidesC cls B J) (hb:B<=B'):AbidesC cls B' J:=
 fun s W W' row hs hg hr=>h s W W' row hs hg fun r e=>⟨Nat.le_trans hb (hr r e).1,(hr r e).2⟩
def SeqC {α:Type} (cls:Obj->Prop) (F:Fence) (n:Nat) (P:Program) (g:Nat) (lb:Array Value) (encs:α->Array Value) (Kp:World->World->Prop) (S Sp:List α->Prop) (N:Nat) (w:World):Prop:=
 ∀ (l:Nat) (J Jx:List α->World->Prop) (W:World),Below w.heap.size w W->AbidesC cls W.heap.size J->AbidesC cls W.heap.size Jx->
  (∀ pre x W1,J pre W1->pre.length<N->Sp (pre++[x])->YieldAt F (n - 1) P l (encs x) W1 fun e W'=>
   (e= .returned (.bool true)/\J (pre++[x]) W'/\Kp W1 W')\/(e= .returned (.bool false)/\Jx (pre++[x]) W'))->
  J [] W->
  CallsIn F n P g (#[.func (.yield l) #[] #[]]++lb) W fun e W'=>(∃ v,e= .returned v)/\((∃ xs,S xs/\J xs W')\/(∃ pre,Sp pre/\Jx pre W'))
variable {F:Fence} {n:Nat} {P:Program}
theorem wpIn_rangeC {α:Type} {cls:Obj->Prop} (hcls:∀ o,cls o->(∀ r,o≠.loop r)/\∀ d,o≠.deferred d) {g:Operand} {ps:Array Tmp} {assign body:Code} {Q:Exit->Act->World->Prop} {a:Act} {w:World}
  (hro:F.round=none) (h1:1<=n) {gf:Nat} {lb:Array Value} (hg:a.eval g= .func (.func gf) #[] lb) (hFg:F.fn gf) (eg:∀ args w,(callFunc gf args).run P w= .ok (.enter gf args) w)
  {encs:α->Array Value} {Kp:World->World->Prop} {S Sp:List α->Prop} {N:Nat} {w0:World} (hseq:SeqC cls F (n - 1) P gf lb encs Kp S Sp N w0)
  (hKt:∀ {A B C:World},Kp A B->Kp B C->Kp A C) (hKb:∀ (W:World) (l:Nat) (r:Loop) (o':Obj),w.heap.size<=l->W.heap[l]?=some (.loop r)->Kp W (W.putObj l o')) (hb0:Below w0.heap.size w0 w) (hps:∀ x,(encs x).size=ps.size)
  (I:List α->World->Prop)
  (hI:∀ s W W' row,I s W->W.grownBy W' row->(∀ r,row=some r->w.heap.size<=r/\∃ o:Obj,W.heap[r]?=some o/\(o.isCells=false\/cls o))->I s W') (h0:I [] w) (Ax:α->Act->World->Prop)
  (hAx:∀ x a' W l r o',Ax x a' W->w.heap.size<=l->W.heap[l]?=some (.loop r)->Ax x a' (W.putObj l o'))
  (hassign:∀ (l:Nat) (pre:List α) (x:α) (W:World) (K:Act->World->Prop),I pre W->(∀ a' W',KeepsFrom w.heap.size W W'->Kp W W'->I pre W'->Ax x a' W'->K a' W')->
   assign.wpIn (F.inRound l) (n - 1 - 1) P (Exit.then K (fun _ _ _=>False)) { tmps:=(ps.zip (encs x)).foldl (fun t (p,v)=>t.setIfInBounds p v) a.tmps,defers:=[] } W)
  (hbody:∀ (l:Nat) (pre:List α) (x:α) (a':Act) (W:World),I pre W->Ax x a' W->pre.length<N->Sp (pre++[x])->body.wpIn (F.inRound l) (n - 1 - 1) P (ownPostG w.heap.size Kp I (fun _ _ _=>False) (pre++[x]) W) a' W)
  (hdone:∀ (D:Nat) (xs:List α) (W:World),w.heap.size<=D->S xs->I xs W->W.heap[D]?=some (.deferred (some []))->Q .normal { a with defers:={ target:= .collected D,args:=#[] } :: a.defers } W):
  (Code.rangeFunc g ps assign body).wpIn F n P Q a w:=by
 have putI:∀ (s:List α) (W:World) (l:Nat) (r:Loop) (o':Obj),I s W->w.heap.size<=l->W.heap[l]?=some (.loop r)->I s (W.putObj l o'):=fun s W l r o' hs hB hl=>
  hI s W _ (some l) hs (grownBy_putObj' W l o') (fun k e=>by cases e;exact ⟨hB,_,hl,.inl rfl⟩)
 refine wpIn_rangeFunc ?_
 intro fn hfn;rw [hro]
 let rec_:LoopState->Option Code->Loop:=fun st pe=>{ state:=st,pending:=pe,fn,tmps:=a.tmps,params:=ps,assign,body,defers:=w.heap.size }
 obtain ⟨L,hL⟩:∃ L,L=w.heap.size+1:=⟨_,rfl⟩;obtain ⟨V,hV⟩:∃ V,(w.alloc (.deferred (some []))).alloc (.loop (rec_ .ready none))=V:=⟨_,rfl⟩
 have rdy:V.heap[L]?=some (.loop (rec_ .ready none))/\V.heap[w.heap.size]?=some (.deferred (some [])):=by
  have e:=World.alloc_heap_new (w.alloc (.deferred (some []))) (.loop (rec_ .ready none));rw [World.size_alloc] at e;rw [<-hV,hL]
  exact ⟨e,(Below.heap_alloc _ _ _ (by simp)).trans (World.alloc_heap_new w _)⟩
 have hVz:w.heap.size<=V.heap.size:=by rw [<-hV];simp;omega
 have iV:I [] V:=by
  rw [<-hV]
  exact hI _ _ _ none (hI _ _ _ none h0 (World.grownBy_alloc _ _ none) (fun r e=>by cases e)) (World.grownBy_alloc _ _ none) (fun r e=>by cases e)
 have bV:Below w0.heap.size w0 V:=by
  rw [<-hV];exact hb0.trans ((((Below.refl _ w).alloc (Nat.le_refl _) _).alloc (by simp) _).mono hb0.size)
 refine ⟨L,[{ target:= .collected w.heap.size,args:=#[] }],V,{ target:= .fn (.func gf) lb,args:=#[.func (.yield L) #[] #[]] },V,gf,#[.func (.yield L) #[] #[]]++lb,V,?_,?_,?_,?_,fun _=>h1,?_⟩
 ·rw [<-hV,hL];exact run_enterLoop_outer _ _ _ _ _
 ·simp only [resolve,hg]
  simp [go_sem]
 ·intro f' hf';simp [Target.leads] at hf';subst hf';exact hFg
 ·simp [invoke,go_sem,eg]
 ·
  have stay:∀ {A B:World} {row:Option Nat} {k:Nat} {o:Obj},A.grownBy B row->(∀ r,row=some r->V.heap.size<=r/\∃ o:Obj,A.heap[r]?=some o/\cls o)->A.heap[k]?=some o->((∃ r,o= .loop r)\/∃ d,o= .deferred d)->B.heap[k]?=some o:=by
   intro A B row k o hgr hr hk ho
   rw [hgr.block k (Array.getElem?_eq_some_iff.1 hk).1 ?_]
   ·exact hk
   ·intro e
    obtain ⟨_,o2,h2,h3⟩:=hr k e.symm;rw [hk] at h2
    injection h2 with h2
    subst h2
    rcases ho with ⟨r,rfl⟩|⟨d,rfl⟩
    ·exact (hcls _ h3).1 r rfl
    ·exact (hcls _ h3).2 d rfl
  have widen:∀ {A:World} {row:Option Nat},(∀ r,row=some r->V.heap.size<=r/\∃ o:Obj,A.heap[r]?=some o/\cls o)->(∀ r,row=some r->w.heap.size<=r/\∃ o:Obj,A.heap[r]?=some o/\(o.isCells=false\/cls o)):=
   fun hr r e=>by obtain ⟨hB,o,ho,hw⟩:=hr r e;exact ⟨Nat.le_trans hVz hB,o,ho,.inr hw⟩
  refine (hseq L (fun pre W=>I pre W/\W.heap[L]?=some (.loop (rec_ .ready none))/\W.heap[w.heap.size]?=some (.deferred (some []))) (fun _ _=>False) V bV
   (fun s A B row hs hgr hr=>⟨hI s A B row hs.1 hgr (widen hr),stay hgr hr hs.2.1 (.inl ⟨_,rfl⟩),stay hgr hr hs.2.2 (.inr ⟨_,rfl⟩)⟩)
   (fun _ _ _ _ hs _ _=>hs.elim) ?_ ⟨iV,rdy⟩).mono ?_
  ·rintro pre x W ⟨hi,hl,hk⟩ hlen hsp
   have hlt:L<W.heap.size:=(Array.getElem?_eq_some_iff.1 hl).1
   have hy:=run_yield (P:=P) (args:=encs x) hl (hps x)
   refine ⟨fn,_,assign,body,hy,roundIn_of_wpIn hfn (hassign L pre x W _ hi ?_)⟩
   intro a' Wa kfa kpa hia hxa
   replace hl:=kfa.same _ _ (by omega) hl rfl
   replace hk:=kfa.same _ _ (Nat.le_refl _) hk rfl
   replace hlt:L<Wa.heap.size:=(Array.getElem?_eq_some_iff.1 hl).1
   refine ⟨_,run_beginRound hl rfl,?_⟩
   obtain ⟨Wb,hWb⟩:∃ Wb,Wa.putObj L (.loop { rec_ .ready none with state:= .busy })=Wb:=⟨_,rfl⟩
   have hl2:Wb.heap[L]?=some (.loop { rec_ .ready none with state:= .busy }):=by rw [<-hWb];exact World.putObj_heap_same hlt
   have hk2:Wb.heap[w.heap.size]?=some (.deferred (some [])):=by rw [<-hWb];exact (World.putObj_heap_other (by omega)).trans hk
   have ib:I pre Wb:=by rw [<-hWb];exact putI _ _ _ _ _ hia (by omega) hl
   have kb:Kp W Wb:=by rw [<-hWb];exact hKt kpa (hKb _ _ _ _ (by omega) hl)
   have xb:Ax x a' Wb:=by rw [<-hWb];exact hAx _ _ _ _ _ _ hxa (by omega) hl
   rw [hWb]
   refine wpIn_mono (hbody L pre x a' Wb ib xb hlen hsp) ?_
   rintro e a3 W3 hp
   cases e with
   |normal=>
    obtain ⟨hk3,hkp3,hi3⟩:=hp
    have hl3:=hk3.same _ _ (by omega) hl2 rfl
    have hd3:=hk3.same _ _ (Nat.le_refl _) hk2 rfl;have hr:=run_endRound (P:=P) none hl3
    exact ⟨_,_,hr,.inl ⟨rfl,⟨putI _ _ _ _ _ hi3 (by omega) hl3,World.putObj_heap_same (Array.getElem?_eq_some_iff.1 hl3).1,(World.putObj_heap_other (by omega)).trans hd3⟩,hKt kb (hKt hkp3 (hKb _ _ _ _ (by omega) hl3))⟩⟩
   |ret=>exact hp.2.elim
   |exit id=>exact hp.2.elim
   |goto t=>exact hp.2.elim
   |panic ch=>exact hp.elim
   |outgrown=>exact hp.elim
  ·rintro e W2 ⟨⟨v,rfl⟩,(⟨xs,hS,hi,hl,hk⟩|⟨pre,_,h⟩)⟩
   ·exact ⟨none,_,run_endLoop (P:=P) hl (by simp [rec_]),hdone _ xs _ (Nat.le_refl _) hS (putI _ _ _ _ _ hi (by omega) hl) ((World.putObj_heap_other (by omega)).trans hk)⟩
   ·exact h.elim
end Rng
end
end Go.Proofs.YtmlejgdohcpmjaaGreatDoor
