/-
  Contracts of the code that the law reaches, and plain laws. Conditions: as each says.
-/
import Derived.Test.YtadamccojdocbaaGreatDoorV19
import Derived.Test.YtadamccojdocbaaGreatDoorV17
set_option linter.all false
set_option maxHeartbeats 40000000
set_option maxRecDepth 100000
namespace Go.Proofs.YtadamccojdocbaaGreatDoor
open Lib (hid)
open Tryz
section
section
namespace Rng
open Go Go.RowKit
def AbidesC {β:Type} (cls:Obj->Prop) (B:Nat) (J:β->World->Prop):Prop:=
 ∀ s W W' row,J s W->W.grownBy W' row->(∀ r,row=some r->B<=r/\∃ o:Obj,W.heap[r]?=some o/\cls o)->J s W'
def SeqC {α:Type} (cls:Obj->Prop) (F:Fence) (n:Nat) (P:Program) (g:Nat) (lb:Array Value) (encs:α->Array Value) (Kp:World->World->Prop) (S Sp:List α->Prop) (N:Nat) (w:World):Prop:=
 ∀ (l:Nat) (J Jx:List α->World->Prop) (W:World),Below w.heap.size w W->AbidesC cls W.heap.size J->AbidesC cls W.heap.size Jx->
  (∀ pre x W1,J pre W1->pre.length<N->Sp (pre++[x])->YieldAt F (n - 1) P l (encs x) W1 fun e W'=>
   (e= .returned (.bool true)/\J (pre++[x]) W'/\Kp W1 W')\/(e= .returned (.bool false)/\Jx (pre++[x]) W'))->
  J [] W->
  CallsIn F n P g (#[.func (.yield l) #[] #[]]++lb) W fun e W'=>(∃ v,e= .returned v)/\((∃ xs,S xs/\J xs W')\/(∃ pre,Sp pre/\Jx pre W'))
variable {F:Fence} {n:Nat} {P:Program}
theorem wpIn_rangeC {α:Type} {cls:Obj->Prop} (hcls:∀ o,cls o->(∀ r,o≠.loop r)/\∀ d,o≠.deferred d) {g:Operand} {ps:Array Tmp} {assign body:Code} {Q:Exit->Act->World->Prop} {a:Act} {w:World}
  (hro:F.round=none) (h1:1<=n) {gf:Nat} {lb:Array Value} (hg:a.eval g= .func (.func gf) #[] lb) (hFg:F.fn gf) (eg:∀ args w,(callFunc gf args).run P w= .ok (.enter gf args) w)
  {encs:α->Array Value} {Kp:World->World->Prop} {S Sp:List α->Prop} {N:Nat} {w0:World} (hseq:SeqC cls F (n - 1) P gf lb encs Kp S Sp N w0)
  (hKt:∀ {A B C:World},Kp A B->Kp B C->Kp A C) (hKb:∀ (W:World) (l:Nat) (r:Loop) (o':Obj),w.heap.size<=l->W.heap[l]?=some (.loop r)->Kp W (W.putObj l o')) (hb0:Below w0.heap.size w0 w) (hps:∀ x,(encs x).size=ps.size)
  (I:List α->World->Prop)
  (hI:∀ s W W' row,I s W->W.grownBy W' row->(∀ r,row=some r->w.heap.size<=r/\∃ o:Obj,W.heap[r]?=some o/\(o.isCells=false\/cls o))->I s W') (h0:I [] w) (Ax:α->Act->World->Prop)
  (hAx:∀ x a' W l r o',Ax x a' W->w.heap.size<=l->W.heap[l]?=some (.loop r)->Ax x a' (W.putObj l o'))
  (hassign:∀ (l:Nat) (pre:List α) (x:α) (W:World) (K:Act->World->Prop),I pre W->(∀ a' W',KeepsFrom w.heap.size W W'->Kp W W'->I pre W'->Ax x a' W'->K a' W')->
   assign.wpIn (F.inRound l) (n - 1 - 1) P (Exit.then K (fun _ _ _=>False)) { tmps:=(ps.zip (encs x)).foldl (fun t (p,v)=>t.setIfInBounds p v) a.tmps,defers:=[] } W)
  (hbody:∀ (l:Nat) (pre:List α) (x:α) (a':Act) (W:World),I pre W->Ax x a' W->pre.length<N->Sp (pre++[x])->body.wpIn (F.inRound l) (n - 1 - 1) P (ownPostG w.heap.size Kp I (fun _ _ _=>False) (pre++[x]) W) a' W)
  (hdone:∀ (D:Nat) (xs:List α) (W:World),w.heap.size<=D->S xs->I xs W->W.heap[D]?=some (.deferred (some []))->Q .normal { a with defers:={ target:= .collected D,args:=#[] } :: a.defers } W):
  (Code.rangeFunc g ps assign body).wpIn F n P Q a w:=by
 have putI:∀ (s:List α) (W:World) (l:Nat) (r:Loop) (o':Obj),I s W->w.heap.size<=l->W.heap[l]?=some (.loop r)->I s (W.putObj l o'):=fun s W l r o' hs hB hl=>
  hI s W _ (some l) hs (grownBy_putObj' W l o') (fun k e=>by cases e;exact ⟨hB,_,hl,.inl rfl⟩)
 refine wpIn_rangeFunc ?_
 intro fn hfn;rw [hro]
 let rec_:LoopState->Option Code->Loop:=fun st pe=>{ state:=st,pending:=pe,fn,tmps:=a.tmps,params:=ps,assign,body,defers:=w.heap.size }
 obtain ⟨L,hL⟩:∃ L,L=w.heap.size+1:=⟨_,rfl⟩;obtain ⟨V,hV⟩:∃ V,(w.alloc (.deferred (some []))).alloc (.loop (rec_ .ready none))=V:=⟨_,rfl⟩
 have rdy:V.heap[L]?=some (.loop (rec_ .ready none))/\V.heap[w.heap.size]?=some (.deferred (some [])):=by
  have e:=World.alloc_heap_new (w.alloc (.deferred (some []))) (.loop (rec_ .ready none));rw [World.size_alloc] at e;rw [<-hV,hL]
  exact ⟨e,(Below.heap_alloc _ _ _ (by simp)).trans (World.alloc_heap_new w _)⟩
 have hVz:w.heap.size<=V.heap.size:=by rw [<-hV];simp;omega
 have iV:I [] V:=by
  rw [<-hV]
  exact hI _ _ _ none (hI _ _ _ none h0 (World.grownBy_alloc _ _ none) (fun r e=>by cases e)) (World.grownBy_alloc _ _ none) (fun r e=>by cases e)
 have bV:Below w0.heap.size w0 V:=by
  rw [<-hV];exact hb0.trans ((((Below.refl _ w).alloc (Nat.le_refl _) _).alloc (by simp) _).mono hb0.size)
 refine ⟨L,[{ target:= .collected w.heap.size,args:=#[] }],V,{ target:= .fn (.func gf) lb,args:=#[.func (.yield L) #[] #[]] },V,gf,#[.func (.yield L) #[] #[]]++lb,V,?_,?_,?_,?_,fun _=>h1,?_⟩
 ·rw [<-hV,hL];exact run_enterLoop_outer _ _ _ _ _
 ·simp only [resolve,hg]
  simp [go_sem]
 ·intro f' hf';simp [Target.leads] at hf';subst hf';exact hFg
 ·simp [invoke,go_sem,eg]
 ·
  have stay:∀ {A B:World} {row:Option Nat} {k:Nat} {o:Obj},A.grownBy B row->(∀ r,row=some r->V.heap.size<=r/\∃ o:Obj,A.heap[r]?=some o/\cls o)->A.heap[k]?=some o->((∃ r,o= .loop r)\/∃ d,o= .deferred d)->B.heap[k]?=some o:=by
   intro A B row k o hgr hr hk ho
   rw [hgr.block k (Array.getElem?_eq_some_iff.1 hk).1 ?_]
   ·exact hk
   ·intro e
    obtain ⟨_,o2,h2,h3⟩:=hr k e.symm;rw [hk] at h2
    injection h2 with h2
    subst h2
    rcases ho with ⟨r,rfl⟩|⟨d,rfl⟩
    ·exact (hcls _ h3).1 r rfl
    ·exact (hcls _ h3).2 d rfl
  have widen:∀ {A:World} {row:Option Nat},(∀ r,row=some r->V.heap.size<=r/\∃ o:Obj,A.heap[r]?=some o/\cls o)->(∀ r,row=some r->w.heap.size<=r/\∃ o:Obj,A.heap[r]?=some o/\(o.isCells=false\/cls o)):=
   fun hr r e=>by obtain ⟨hB,o,ho,hw⟩:=hr r e;exact ⟨Nat.le_trans hVz hB,o,ho,.inr hw⟩
  refine (hseq L (fun pre W=>I pre W/\W.heap[L]?=some (.loop (rec_ .ready none))/\W.heap[w.heap.size]?=some (.deferred (some []))) (fun _ _=>False) V bV
   (fun s A B row hs hgr hr=>⟨hI s A B row hs.1 hgr (widen hr),stay hgr hr hs.2.1 (.inl ⟨_,rfl⟩),stay hgr hr hs.2.2 (.inr ⟨_,rfl⟩)⟩)
   (fun _ _ _ _ hs _ _=>hs.elim) ?_ ⟨iV,rdy⟩).mono ?_
  ·rintro pre x W ⟨hi,hl,hk⟩ hlen hsp
   have hlt:L<W.heap.size:=(Array.getElem?_eq_some_iff.1 hl).1
   have hy:=run_yield (P:=P) (args:=encs x) hl (hps x)
   refine ⟨fn,_,assign,body,hy,roundIn_of_wpIn hfn (hassign L pre x W _ hi ?_)⟩
   intro a' Wa kfa kpa hia hxa
   replace hl:=kfa.same _ _ (by omega) hl rfl
   replace hk:=kfa.same _ _ (Nat.le_refl _) hk rfl
   replace hlt:L<Wa.heap.size:=(Array.getElem?_eq_some_iff.1 hl).1
   refine ⟨_,run_beginRound hl rfl,?_⟩
   obtain ⟨Wb,hWb⟩:∃ Wb,Wa.putObj L (.loop { rec_ .ready none with state:= .busy })=Wb:=⟨_,rfl⟩
   have hl2:Wb.heap[L]?=some (.loop { rec_ .ready none with state:= .busy }):=by rw [<-hWb];exact World.putObj_heap_same hlt
   have hk2:Wb.heap[w.heap.size]?=some (.deferred (some [])):=by rw [<-hWb];exact (World.putObj_heap_other (by omega)).trans hk
   have ib:I pre Wb:=by rw [<-hWb];exact putI _ _ _ _ _ hia (by omega) hl
   have kb:Kp W Wb:=by rw [<-hWb];exact hKt kpa (hKb _ _ _ _ (by omega) hl)
   have xb:Ax x a' Wb:=by rw [<-hWb];exact hAx _ _ _ _ _ _ hxa (by omega) hl
   rw [hWb]
   refine wpIn_mono (hbody L pre x a' Wb ib xb hlen hsp) ?_
   rintro e a3 W3 hp
   cases e with
   |normal=>
    obtain ⟨hk3,hkp3,hi3⟩:=hp
    have hl3:=hk3.same _ _ (by omega) hl2 rfl
    have hd3:=hk3.same _ _ (Nat.le_refl _) hk2 rfl;have hr:=run_endRound (P:=P) none hl3
    exact ⟨_,_,hr,.inl ⟨rfl,⟨putI _ _ _ _ _ hi3 (by omega) hl3,World.putObj_heap_same (Array.getElem?_eq_some_iff.1 hl3).1,(World.putObj_heap_other (by omega)).trans hd3⟩,hKt kb (hKt hkp3 (hKb _ _ _ _ (by omega) hl3))⟩⟩
   |ret=>exact hp.2.elim
   |exit id=>exact hp.2.elim
   |goto t=>exact hp.2.elim
   |panic ch=>exact hp.elim
   |outgrown=>exact hp.elim
  ·rintro e W2 ⟨⟨v,rfl⟩,(⟨xs,hS,hi,hl,hk⟩|⟨pre,_,h⟩)⟩
   ·exact ⟨none,_,run_endLoop (P:=P) hl (by simp [rec_]),hdone _ xs _ (Nat.le_refl _) hS (putI _ _ _ _ _ hi (by omega) hl) ((World.putObj_heap_other (by omega)).trans hk)⟩
   ·exact h.elim
end Rng
end
end
section
section
namespace Trn
open Go.RowKit Mem Civ Mom Img Rul Ahd Slo Rng Rgt
attribute [local go_sem] Oper.semAt_some
def isTurn (o:Obj):Prop:=∃ c fz,o= .cells c 133 fz
theorem isTurn_not (o:Obj) (h:isTurn o):(∀ r,o≠.loop r)/\∀ d,o≠.deferred d:=by
 obtain ⟨c,fz,rfl⟩:=h
 exact ⟨fun r e=>(by cases e),fun d e=>(by cases e)⟩
structure Kq (B0:Nat) (W W':World):Prop where
 size:W.heap.size<=W'.heap.size
 old:∀ k,k<B0->W'.heap[k]?=W.heap[k]?
 cells:∀ (k:Nat) cs t fz,W.heap[k]?=some (.cells cs t fz)->t≠97->t≠81->W'.heap[k]?=some (.cells cs t fz)
structure Kr (B0:Nat) (W W':World):Prop where
 size:W.heap.size<=W'.heap.size
 old:∀ k,k<B0->W'.heap[k]?=W.heap[k]?
 cells:∀ (k:Nat) cs t fz,W.heap[k]?=some (.cells cs t fz)->t≠97->t≠81->t≠133->W'.heap[k]?=some (.cells cs t fz)
theorem Kq.trans {B0:Nat} {A B C:World} (h:Kq B0 A B) (k:Kq B0 B C):Kq B0 A C:=
 ⟨Nat.le_trans h.size k.size,fun i hi=>(k.old i hi).trans (h.old i hi),fun i cs t fz hi h1 h2=>k.cells i cs t fz (h.cells i cs t fz hi h1 h2) h1 h2⟩
theorem Kr.refl (B0:Nat) (A:World):Kr B0 A A:=⟨Nat.le_refl _,fun _ _=>rfl,fun _ _ _ _ h _ _ _=>h⟩
theorem Kr.trans {B0:Nat} {A B C:World} (h:Kr B0 A B) (k:Kr B0 B C):Kr B0 A C:=
 ⟨Nat.le_trans h.size k.size,fun i hi=>(k.old i hi).trans (h.old i hi),fun i cs t fz hi h1 h2 h3=>k.cells i cs t fz (h.cells i cs t fz hi h1 h2 h3) h1 h2 h3⟩
theorem Kq.kr {B0:Nat} {A B:World} (h:Kq B0 A B):Kr B0 A B:=⟨h.size,h.old,fun i cs t fz hi h1 h2 _=>h.cells i cs t fz hi h1 h2⟩
theorem Kr.below {B0:Nat} {A B:World} (h:Below A.heap.size A B) (hB:B0<=A.heap.size):Kr B0 A B:=
 ⟨h.size,fun i hi=>h.block i (Nat.lt_of_lt_of_le hi hB),fun i cs t fz hi _ _ _=>(h.block i (Array.getElem?_eq_some_iff.1 hi).1).trans hi⟩
theorem Kr.grown {B0:Nat} {A B:World} {row:Option Nat} (h:A.grownBy B row) (hB:B0<=A.heap.size) (hr:∀ b,row=some b->B0<=b/\∃ o,A.heap[b]?=some o/\isTurn o):Kr B0 A B:=
 ⟨h.size,fun i hi=>h.block i (Nat.lt_of_lt_of_le hi hB) (fun e=>by have:=(hr i e.symm).1;omega),fun i cs t fz hi _ _ h3=>(h.block i (Array.getElem?_eq_some_iff.1 hi).1 (fun e=>by
  obtain ⟨_,o,ho,c,f2,he⟩:=hr i e.symm;rw [hi] at ho
  injection ho with ho
  rw [<-ho] at he
  injection he with _ he2
  exact h3 he2)).trans hi⟩
theorem Kr.blk {B0 b:Nat} {A B:World} {t:TypeId} {cs:Array Value} (h:Kr B0 A B) (hb:Blk A b t cs) (h1:t≠97) (h2:t≠81) (h3:t≠133):Blk B b t cs:=h.cells b cs t (0,0) hb h1 h2 h3
theorem own_cls {w:World} {base:Nat} {e:TypeId} {size n c:Nat} {A:Option Addr} {xs:List Value} (h:OwnO w base e size A n c xs) {b:Nat} (hb:blockO A c=some b):base<=b/\∃ o,w.heap[b]?=some o/\∃ cur fz,o= .cells cur e fz:=by
 refine ⟨(h.base_lt hb).1,?_⟩
 rcases h with ⟨_,rfl,_⟩|⟨g,k,ps,rfl,_,ho⟩
 ·simp [blockO] at hb
 ·unfold blockO at hb
  split at hb
  ·cases hb
  ·simp only [Option.map_some,Option.some.injEq] at hb
   subst hb
   rcases ho.2 with ⟨hv,_⟩|⟨g',cap,cur,hv,_,hg,_⟩
   ·cases hv
   ·injection hv with hv _ _
    injection hv with hv
    injection hv with hv
    subst hv;exact ⟨_,hg,_,_,rfl⟩
theorem own_kq {B0:Nat} {w w':World} {base:Nat} {size n c:Nat} {A:Option Addr} {xs:List Value} (h:OwnO w base 133 size A n c xs) (hk:Kq B0 w w'):OwnO w' base 133 size A n c xs:=by
 rcases h with h|⟨g,k,ps,rfl,hp,ho⟩
 ·exact .inl h
 ·refine .inr ⟨g,k,ps,rfl,hp,ho.1,?_⟩
  rcases ho.2 with ⟨hv,_⟩|⟨g',cap,cur,hv,h1,hg,h2⟩
  ·cases hv
  ·exact .inr ⟨g',cap,cur,hv,h1,hk.cells g' _ _ _ hg (by decide) (by decide),h2⟩
def encU (t:TurnU):Array Value:=#[.agg #[.int .i64 t.at_,.int .i64 t.save,.string t.letter]]
def lenV:Value->Nat
 | .slice _ n _=>n
 |_=>0
theorem info_turn2:(prog.info? 133).map (fun i=>(i.zero,i.size,i.bytes))=some (some (.agg #[.int .i64 0,.int .i64 0,.int .i64 0,.string ⟨#[]⟩]),4,40):=by kernel_rfl
theorem field_lo (a0 a10:ByteArray) (a1 a2 a3 a4 a5 a6 a7 a8 a9:Int) (w:World):(Instr.field 69 (.agg #[.string a0,.int .i64 a1,.int .i64 a2,.int .i64 a3,.int .i64 a4,.int .i64 a5,.int .i64 a6,.int .i64 a7,.int .i64 a8,.int .i64 a9,.string a10]) 1).run prog w= .ok (.int .i64 a1) w:=by kernel_rfl
theorem turns_call (A:Option Addr) (n c:Nat) (off last:Int) (w:World):
  Calls prog 42 #[.slice A n c,.int .i64 off,.int .i64 last] w fun e w'=>e= .returned (.func (.func 86) #[] #[.pointer (some ⟨w.heap.size,0,none⟩),.pointer (some ⟨w.heap.size+1+1,0,none⟩),.pointer (some ⟨w.heap.size+1,0,none⟩)])/\
   w'=((w.alloc (.cells #[.slice A n c] 22)).alloc (.cells #[.int .i64 off] 3)).alloc (.cells #[.int .i64 last] 3):=by
 go_enter func42,ntmps42
 go_wp2_with fail
 go_ret;exact ⟨rfl,rfl⟩
theorem one_turns (l:List Turn):∀ u∈l.flatMap Turn.cells,u.oneCell'=true:=by
 intro u hu;obtain ⟨t,_,ht⟩:=List.mem_flatMap.1 hu;simp only [Turn.cells,List.mem_cons,List.not_mem_nil,or_false] at ht
 rcases ht with rfl|rfl|rfl|rfl<;>rfl
def tOk (t:Turn):Prop:=(-9000000000000<=t.at_/\t.at_<=9000000000000)/\(0<=t.ref/\t.ref<=2)/\(-43200<=t.save/\t.save<=43200)
theorem tOk_of {rs:List Rule} (hr:rulesB rs=true) {t:Turn} (h:∃ r∈rs,∃ z,turnL z r=some t):tOk t:=by
 obtain ⟨r,hrm,z,hz⟩:=h;have h1:=turn_bd hz;have h2:=rule_save hr hrm;obtain ⟨_,e1,_,e2⟩:=turnL_at hz
 exact ⟨h1,by omega,by omega⟩
theorem sort_wait {rs:List Rule} {y:Int} {ws:List Turn} (A:Option Addr) (c base:Nat) (w:World) (hr:rulesB rs=true) (hcr:crowdB rs=false) (hwo:WaitOk rs y ws)
  (h:OwnO w base 133 4 A (ws.length+(turnsL rs y).length) c (ws.flatMap Turn.cells++(turnsL rs y).flatMap Turn.cells)):
  Calls prog 90 #[.slice A (ws.length+(turnsL rs y).length) c,.func (Fn.func 91) #[] #[]] w fun e w'=>
   e= .returned (.tuple #[])/\OwnO w' base 133 4 A (waitL rs y ws).length c ((waitL rs y ws).flatMap Turn.cells)/\w.grownBy w' (blockO A c):=by
 have hl:=waitL_len hwo hcr
 have hle:(waitL rs y ws).length=ws.length+(turnsL rs y).length:=by unfold waitL;rw [sortT_length,List.length_append]
 rw [<-List.flatMap_append,<-List.length_append] at h
 have hs:=sortO_any (ws++turnsL rs y) A c base w h (by rw [List.length_append];omega) (fun t ht=>(tOk_of hr (by
  rcases List.mem_append.1 ht with ht|ht
  ·obtain ⟨r,h1,h2⟩:=hwo.1 t ht
   exact ⟨r,h1,_,h2⟩
  ·obtain ⟨r,h1,h2⟩:=turnsL_mem ht
   exact ⟨r,h1,_,h2⟩)).1)
 rw [List.length_append] at hs
 refine hs.mono fun e w' ⟨h1,h2,h3⟩=>⟨h1,?_,h3⟩
 rw [List.length_append,<-hle] at h2;exact h2
theorem day_there {y:Int} (h1:1<=y) (h2:y<=20000):daysO y 10 1=some (countI y 10 1)/\-10000000<=countI y 10 1/\countI y 10 1<=10000000:=by
 have hm:mlen y 10=31:=by simp [mlen]
 have ho:=october y
 have ha:janI 1= -719162:=by decide
 have hb:janI 20001=6585688:=by decide
 have h3:=jan_mono (a:=1) (b:=y+1) (by omega)
 have h4:=jan_mono (a:=y+1) (b:=20001) (by omega)
 refine ⟨?_,by omega,by omega⟩
 unfold daysO
 rw [hm,if_neg (by omega),if_neg (by omega)]
theorem turns1_in (rs:List Rule) (A:Option Addr) (c:Nat) (off last:Int) (n l Bl Bt Bo B0 N:Nat) (J Jx:List TurnU->World->Prop) (W:World)
  (hJ:AbidesC isTurn W.heap.size J)
  (hY:∀ pre x W1,J pre W1->pre.length<N->pre++[x] <+: turnsP rs off last->YieldAt Fence.wide (n - 1) prog l (encU x) W1 fun e W'=>
   (e= .returned (.bool true)/\J (pre++[x]) W'/\Kq B0 W1 W')\/(e= .returned (.bool false)/\Jx (pre++[x]) W'))
  (hl:Blk W Bl 22 #[.slice A rs.length c]) (ht:Blk W Bt 3 #[.int .i64 last]) (ho:Blk W Bo 3 #[.int .i64 off]) (hB0:B0<=W.heap.size)
  (hR:∀ z,Kr B0 W z->Reads z z.heap.size 11 A rs.length (rs.flatMap Rule.cells)) (hn:rs.length<=1000000) (hr:rulesB rs=true) (hcr:crowdB rs=false)
  (hl1:1<=last) (hl2:last<=15000) (ho1: -86400<off) (ho2:off<86400) (hN:(turnsP rs off last).length<=N) (h0:J [] W):
  CallsIn Fence.wide n prog 86 #[.func (.yield l) #[] #[],.pointer (some ⟨Bl,0,none⟩),.pointer (some ⟨Bt,0,none⟩),.pointer (some ⟨Bo,0,none⟩)] W fun e W'=>(∃ v,e= .returned v)/\
   ((∃ ys,ys=turnsP rs off last/\J ys W')\/(∃ pre,pre <+: turnsP rs off last/\Jx pre W')):=by
 have HJb:Hid (∀ pre A C,J pre A->Below A.heap.size A C->J pre C):=fun pre A C h hb=>hJ pre A C none h (gr_of_below hb) (fun r e=>by cases e)
 have HJr:Hid (∀ pre A C row,J pre A->A.grownBy C row->(∀ b,row=some b->W.heap.size<=b/\∃ o,A.heap[b]?=some o/\isTurn o)->J pre C):=fun pre A C row h hg hr=>hJ pre A C row h hg hr;have HMin:=hid (fun (hp:0<rs.length) z (hk:Kr B0 W z)=>minFunc_any rs A c z (hR z hk) hn hp hr)
 have HTu:=hid (fun y z (hk:Kr B0 W z)=>Rul.turns_any rs A c y z (hR z hk) hn ((turnsL_le hcr y).imp (fun h=>by omega) id))
 have HD:=hid (fun y z=>days_any y 10 1 z);have HL:=hid hl;have HT:=hid ht;have HO:=hid ho;have HY:=hid hY;have hf1:=years_bd rs hr rs.length;rw [List.take_of_length_le (Nat.le_refl _)] at hf1;obtain ⟨⟨hf1,hf2⟩,_⟩:=hf1
 have hlc:((((rs.length:Nat):Int)) == 0)=rs.isEmpty:=by cases rs with
  |nil=>rfl
  |cons a t=>simp;omega
 have c0:=hl.cell 0
 simp only [List.getElem?_toArray,List.getElem?_cons_zero] at c0
 obtain ⟨i0,hi0,hz0,hz1,hz2⟩:=info_parts info_turn2
 refine callsIn_of_wp func86 rfl trivial ?_ rfl
 simp only [ntmps86,List.size_toArray,List.length_cons,List.length_nil,Nat.reduceAdd,Nat.reduceSub,Array.replicate_succ,Array.replicate_zero,List.push_toArray,List.append_toArray,List.nil_append,List.cons_append]
 rcases Nat.eq_zero_or_pos rs.length with hz|hp
 ·have hrs:rs=[]:=List.eq_nil_of_length_eq_zero hz
  have htp:turnsP rs off last=[]:=by unfold turnsP;rw [if_pos hz]
  have Htp:=hid htp;subst hrs;simp only [List.length_nil] at c0 hlc;clear htp hJ hY hl ht ho hR hr hcr hN hz HMin HTu
  gi_wp2
  refine bodyPost_ret (results_none rfl _ _ _) rfl ?_
  exact ⟨⟨_,rfl⟩,.inl ⟨_,Htp.out.symm,h0⟩⟩
 ·have hzb:rs.isEmpty=false:=by
   cases rs with
   |nil=>simp at hp
   |cons a t=>rfl
  rw [hzb] at hlc
  have htp:turnsP rs off last=turnsGo rs off (last+3 - firstY rs).toNat (firstY rs) [] 0:=by unfold turnsP;rw [if_neg (by omega)]
  obtain ⟨TOT,hTOT⟩:∃ TOT,turnsP rs off last=TOT:=⟨_,rfl⟩;rw [hTOT] at htp hN ⊢;have HTT:=hid hTOT;have HN:=hid hN;have HMn:=hid (HMin.out hp);have HB0:=hid hB0;have H0:=hid h0;have HR:=hid hR;have Hcr:=hid hcr;have Hru:=hid hr;obtain ⟨fY,hfY⟩:∃ fY,firstY rs=fY:=⟨_,rfl⟩;rw [hfY] at htp hf1 hf2;have Htp:=hid htp;have HfY:=hid hfY;clear htp hJ hY hl ht ho hR hr hcr hN HMin hTOT hfY hzb hB0 h0
  gi_wp2_with (refine ⟨trivial,fun h=>(by cases h),?_⟩;refine (callsIn_wide.2 (HMn.out _ (Kr.refl _ _))).mono ?_;rintro e w1 ⟨r,rfl,hlo,hb⟩;have HB:=hid hb;have Hlo:=hid hlo;have hfl:=fun z=>field_lo r.name r.letter r.lo r.hi r.month r.kind r.weekday r.day r.time r.ref r.save z;clear hb hlo)
  have htp2:=Htp.out;rw [<-HfY.out,<-Hlo.out] at htp2;have Htp2:=hid htp2
  have hr1:1<=r.lo/\r.lo<=9999:=by rw [Hlo.out,HfY.out];exact ⟨hf1,hf2⟩
  have hJ1:=HJb.out _ _ _ H0.out HB.out;have HJ1:=hid hJ1;clear htp2 hJ1 Htp c0 hf1 hf2 HMn hfl;generalize r.lo=y0 at*
  gi_loopw [5,6,7] (fun y v s wr=>∃ (yy:Int) (Aw:Option Addr) (cw:Nat) (ws:List Turn) (sv:Int) (pre:List TurnU),y= .int .i64 yy/\v= .slice Aw ws.length cw/\s= .int .i64 sv/\J pre wr/\pre++turnsGo rs off (last+3 - yy).toNat yy ws sv=TOT/\WaitOk rs yy ws/\OwnO wr W.heap.size 133 4 Aw ws.length cw (ws.flatMap Turn.cells)/\Kr B0 W wr/\(1<=yy/\yy<=15003)/\(-43200<=sv/\sv<=43200)) (fun y _ _ _=>(last+4 - intOf y).toNat)
  case atStart=>exact ⟨y0,none,0,[],0,[],rfl,rfl,rfl,HJ1.out,Htp2.out.symm,wait_nil _ _,OwnO.nil _ _ _ _,Kr.below HB.out HB0.out,⟨hr1.1,by have:=hr1.2;omega⟩,by omega⟩
  case round=>
   clear HJ1 Htp2 HB hr1 Hlo HfY;obtain ⟨yy,Aw,cw,ws,sv,pre,rfl,rfl,rfl,hj,htot,hwo,hown,hkr,⟨hy1,hy2⟩,hs1,hs2⟩:=hrel;have HJ:=hid hj;have HTot:=hid htot;have HWo:=hid hwo;have HOwn:=hid hown;have HKr:=hid hkr
   have bl:=hkr.blk HL.out (by decide) (by decide) (by decide)
   have bt:=hkr.blk HT.out (by decide) (by decide) (by decide)
   have cl:=bl.cell 0;have ct:=bt.cell 0
   simp only [List.getElem?_toArray,List.getElem?_cons_zero] at cl ct
   have Hbl:=hid bl;have Hbt:=hid bt;clear hj htot hwo hown hkr bl bt
   by_cases hle:yy<=last+2
   ·have hleb:decide (yy<=last+2)=true:=decide_eq_true hle
    have htu:=fun z hk=>HTu.out yy z hk;have HTy:=hid htu
    have hday:=day_there hy1 (by omega)
    have hda:=fun z=>HD.out yy z;rw [hday.1] at hda;simp only [dayV] at hda;have HDa:=hid hda;obtain ⟨_,hd1,hd2⟩:=hday;clear htu hda;generalize hdd:countI yy 10 1=dd at*;have Hdd:=hid hdd;clear hdd
    gi_wp2_with (first
     |(refine ⟨trivial,fun h=>(by cases h),?_⟩;gi_at_call 89;refine (callsIn_wide.2 (HTy.out _ HKr.out)).mono ?_;rintro e w2 ⟨A2,c2,rfl,ho2,hb2⟩;have HO2:=hid ho2;have HB2:=hid hb2;clear ho2 hb2)
     |(gi_at_builtin;refine wpListIn_append_o _ rfl (.tmp 24) (.tmp 27) 129 rfl W.heap.size 133 i0 _ 4 40 underlying129 hi0 hz0 hz1 hz2 rfl (by omega) Aw ws.length cw (ws.flatMap Turn.cells) rfl (HOwn.out.below HB2.out) w2.heap.size A2 (turnsL rs yy).length c2 ((turnsL rs yy).flatMap Turn.cells) rfl (Reads.of_own HO2.out) (one_turns _) (by have h1:=HWo.out.2;have h2:=turnsL_ten Hcr.out yy;simp only [maxLen];omega) (by have h1:=HWo.out.2;have h2:=turnsL_ten Hcr.out yy;omega) (Nat.le_trans HKr.out.size HB2.out.size) ?_;intro A3 c3 w3 ho3 hg3;have HO3:=hid ho3;have HG3:=hid hg3;clear ho3 hg3)
     |(refine ⟨trivial,fun h=>(by cases h),?_⟩;gi_at_call 90;refine (callsIn_wide.2 (sort_wait A3 c3 W.heap.size w3 Hru.out Hcr.out HWo.out HO3.out)).mono ?_;rintro e w4 ⟨rfl,ho4,hg4⟩;have HO4:=hid ho4;have HG4:=hid hg4;clear ho4 hg4)
     |(refine ⟨trivial,fun h=>(by cases h),?_⟩;gi_at_call 37;refine (callsIn_wide.2 (HDa.out _)).mono ?_;rintro e w5 ⟨rfl,hb5⟩;have HB5:=hid hb5;clear hb5))
    obtain ⟨m,hm⟩:∃ m,m+1=(last+3 - yy).toNat:=⟨(last+3 - yy).toNat - 1,by omega⟩
    have hm2:(last+3 - (yy+1)).toNat=m:=by omega
    have hbo:borderI yy=dd*86400:=by rw [border_is hy1 (by omega),Hdd.out]
    have hnext:=wait_next HWo.out Hcr.out hy1 (by omega:yy<=20000)
    have htk:∀ t∈waitL rs yy ws,tOk t:=fun t ht=>tOk_of Hru.out (waitL_bd HWo.out ht);have htot:=HTot.out;rw [<-hm] at htot;simp only [turnsGo] at htot;rw [hbo] at htot hnext
    have hle2:(waitL rs yy ws).length=ws.length+(turnsL rs yy).length:=by unfold waitL;rw [sortT_length,List.length_append]
    rw [<-hle2];obtain ⟨WL,hWL⟩:∃ WL,waitL rs yy ws=WL:=⟨_,rfl⟩;have ho4:=HO4.out;rw [hWL] at htot hnext htk ho4 ⊢;obtain ⟨LEFT,hLEFT⟩:∃ L,leftL (dd*86400) WL=L:=⟨_,rfl⟩;obtain ⟨SAVE,hSAVE⟩:∃ L,saveL (dd*86400) WL sv=L:=⟨_,rfl⟩;rw [hLEFT,hSAVE] at htot;rw [hLEFT] at hnext;obtain ⟨REST,hREST⟩:∃ R,turnsGo rs off m (yy+1) LEFT SAVE=R:=⟨_,rfl⟩;rw [hREST] at htot
    have hgo:Kr B0 W w5:=by
     have k2:=HKr.out.trans (Kr.below HB2.out (Nat.le_trans HB0.out HKr.out.size));have k3:=k2.trans (Kr.grown HG3.out (Nat.le_trans HB0.out k2.size) (fun b e=>⟨Nat.le_trans HB0.out (own_cls (HOwn.out.below HB2.out) e).1,(own_cls (HOwn.out.below HB2.out) e).2.imp fun o h=>⟨h.1,h.2⟩⟩));have k4:=k3.trans (Kr.grown HG4.out (Nat.le_trans HB0.out k3.size) (fun b e=>⟨Nat.le_trans HB0.out (own_cls HO3.out e).1,(own_cls HO3.out e).2.imp fun o h=>⟨h.1,h.2⟩⟩));exact k4.trans (Kr.below HB5.out (Nat.le_trans HB0.out k4.size))
    have hj5:J pre w5:=HJb.out _ _ _ (HJr.out _ _ _ _ (HJr.out _ _ _ _ (HJb.out _ _ _ HJ.out HB2.out) HG3.out (fun b e=>(own_cls (HOwn.out.below HB2.out) e).imp id fun h=>h.imp fun o h=>⟨h.1,h.2⟩)) HG4.out (fun b e=>(own_cls HO3.out e).imp id fun h=>h.imp fun o h=>⟨h.1,h.2⟩)) HB5.out;have HJ5:=hid hj5;have HK5:=hid hgo;have HO5:=hid (ho4.below HB5.out);have HTot5:=hid htot;have HTk:=hid htk;have HNext:=hid hnext;have HLeft:=hid hLEFT;have HSave:=hid hSAVE;have HRest:=hid hREST;have Hm2:=hid hm2;clear hj5 hgo ho4 htot htk hnext hLEFT hSAVE hREST hm2 hm hbo hle2 hWL HO4 HG4 HO3 HG3 HB5 HB2 HO2 HKr HJ HTot HOwn cl ct Hbl Hbt hleb HTy HDa Hdd
    gi_loopw [6,7] (fun v s wr=>∃ (Ar:Option Addr) (cr:Nat) (rem:List Turn) (s4:Int) (pr:List TurnU),v= .slice Ar rem.length cr/\s= .int .i64 s4/\J pr wr/\pr++(giveL off (dd*86400) rem s4++REST)=TOT/\leftL (dd*86400) rem=LEFT/\saveL (dd*86400) rem s4=SAVE/\OwnO wr W.heap.size 133 4 Ar rem.length cr (rem.flatMap Turn.cells)/\Kr B0 W wr/\(∀ t∈rem,tOk t)/\(-43200<=s4/\s4<=43200)) (fun v _ _=>lenV v)
    case atStart=>exact ⟨A3,c3,WL,sv,pre,rfl,rfl,HJ5.out,HTot5.out,HLeft.out,HSave.out,HO5.out,HK5.out,HTk.out,hs1,hs2⟩
    case round=>
     clear HJ5 HTot5 HTk HLeft HSave HO5 HK5 hs1 hs2;obtain ⟨Ar,cr,rem,s4,pr,rfl,rfl,hj,htot,hleft,hsave,hown,hkr,htk,hs1,hs2⟩:=hrel;have HJ:=hid hj;have HTot:=hid htot;have HLeft:=hid hleft;have HSave:=hid hsave;have HOwn:=hid hown;have HKr:=hid hkr;have HTk:=hid htk;clear hj htot hleft hsave hown hkr htk
     cases rem with
     |nil=>
      simp only [List.length_nil]
      gi_wp2
      exact ⟨⟨yy+1,Ar,cr,[],s4,pr,rfl,rfl,rfl,HJ.out,by rw [Hm2.out];have h1:=HTot.out;rw [<-HRest.out,<-HLeft.out,<-HSave.out] at h1;exact h1,wait_nil _ _,HOwn.out,HKr.out,⟨by omega,by omega⟩,hs1,hs2⟩,by simp [intOf];omega⟩
     |cons t ts=>
      obtain ⟨ta,tr,tv,tl⟩:=t;obtain ⟨g,o,rfl,hg,hgb,hc⟩:=HOwn.out.cellAt (Nat.succ_pos _)
      have hc0:=hc 0 (by simp only [List.length_cons];omega);have hc1:=hc 1 (by simp only [List.length_cons];omega);have hc2:=hc 2 (by simp only [List.length_cons];omega);have hc3:=hc 3 (by simp only [List.length_cons];omega)
      simp only [List.flatMap_cons,Turn.cells,List.cons_append,List.getElem?_cons_zero,List.getElem?_cons_succ,Nat.add_zero] at hc0 hc1 hc2 hc3
      obtain ⟨⟨hta1,hta2⟩,⟨htr1,htr2⟩,hts1,hts2⟩:=HTk.out _ List.mem_cons_self;simp only at hta1 hta2 htr1 htr2 hts1 hts2;simp only [List.length_cons];clear hc
      by_cases hlt:ta<dd*86400
      ·have hltb:decide (ta<dd*86400)=true:=decide_eq_true hlt
       have hgive:giveL off (dd*86400) (⟨ta,tr,tv,tl⟩ :: ts) s4=⟨uniS off s4 ⟨ta,tr,tv,tl⟩,tv,tl⟩ :: giveL off (dd*86400) ts tv:=by simp only [giveL,if_pos hlt]
       have hleft:leftL (dd*86400) ts=LEFT:=by have:=HLeft.out;simp only [leftL,if_pos hlt] at this;exact this
       have hsave:saveL (dd*86400) ts tv=SAVE:=by have:=HSave.out;simp only [saveL,if_pos hlt] at this;exact this
       have htot:=HTot.out;rw [hgive] at htot
       have htot2:(pr++[⟨uniS off s4 ⟨ta,tr,tv,tl⟩,tv,tl⟩])++(giveL off (dd*86400) ts tv++REST)=TOT:=by rw [<-htot];simp
       have hlen:pr.length<N:=by
        have h1:=HN.out;rw [<-htot] at h1;simp only [List.length_append,List.length_cons] at h1;omega
       have co:=(HKr.out.blk HO.out (by decide) (by decide) (by decide)).cell 0
       have hBo:=(HKr.out.blk HO.out (by decide) (by decide) (by decide)).lt
       simp only [List.getElem?_toArray,List.getElem?_cons_zero] at co
       have hb1:Below wr.heap.size wr (wr.alloc (.cells #[.int .i64 ta,.int .i64 tr,.int .i64 tv,.string tl] 133)):=(Below.refl _ _).alloc (Nat.le_refl _) _;have htl:=(HOwn.out.below hb1).tail (x:=Turn.cells ⟨ta,tr,tv,tl⟩) rfl
       obtain ⟨fn,tmps,assign,body,hy,hRr⟩:=HY.out pr ⟨uniS off s4 ⟨ta,tr,tv,tl⟩,tv,tl⟩ (wr.alloc (.cells #[.int .i64 ta,.int .i64 tr,.int .i64 tv,.string tl] 133)) (HJb.out _ _ _ HJ.out hb1) hlen (by rw [HTT.out];exact ⟨_,htot2⟩)
       simp only [encU] at hy;have HRr:=hid hRr;have HTl:=hid htl;have HT2:=hid htot2;have HL2:=hid hleft;have HS2:=hid hsave;have HB1:=hid hb1;have HKr2:=hid (fun W3 (hk3:Kq B0 (wr.alloc (.cells #[.int .i64 ta,.int .i64 tr,.int .i64 tv,.string tl] 133)) W3)=>(HKr.out.trans (Kr.below hb1 (Nat.le_trans HB0.out HKr.out.size))).trans hk3.kr);clear hgive hleft hsave htot htot2 hlen hb1 htl hRr HTot HLeft HSave
       have hun0:tr=0->uniS off s4 ⟨ta,tr,tv,tl⟩=ta - off - s4:=fun h=>by simp [uniS,h]
       have hun1:tr=1->uniS off s4 ⟨ta,tr,tv,tl⟩=ta - off:=fun h=>by simp [uniS,h]
       have hun2:tr=2->uniS off s4 ⟨ta,tr,tv,tl⟩=ta:=fun h=>by simp [uniS,h]
       have HU0:=hid hun0;have HU1:=hid hun1;have HU2:=hid hun2;clear hun0 hun1 hun2;have HTk2:=hid (fun x hx=>HTk.out x (List.mem_cons_of_mem _ hx))
       by_cases hc1':cr=1
       ·subst hc1'
        obtain ⟨htn,hown3⟩:=HTl.out.1 rfl;have HOw3:=hid hown3;clear hown3 HTl
        rcases (by omega:tr=0\/tr=1\/tr=2) with rfl|rfl|rfl
        ·have hu:=HU0.out rfl
         rw [hu] at hy
         gi_wp2
         refine ⟨fun h=>(by cases h),HRr.out.mono ?_⟩
         rintro e W3 (⟨rfl,hJ3,hk3⟩|⟨rfl,hJx3⟩)
         ·have HK3:=hid (HKr2.out W3 hk3);have HOz:=hid (own_kq HOw3.out hk3)
          clear hk3 HOw3 HKr2
          gi_wp2
          go_roundw
          case rel=>exact ⟨_,_,ts,tv,_,(by rw [htn]),rfl,hJ3,HT2.out,HL2.out,HS2.out,(by rw [htn];exact HOz.out),HK3.out,HTk2.out,hts1,hts2⟩
          case measure=>simp only [lenV];omega
         ·gi_wp2
          refine bodyPost_ret (results_none rfl _ _ _) rfl ?_
          exact ⟨⟨_,rfl⟩,.inr ⟨_,⟨_,HT2.out⟩,hJx3⟩⟩
        ·have hu:=HU1.out rfl
         rw [hu] at hy
         gi_wp2
         refine ⟨fun h=>(by cases h),HRr.out.mono ?_⟩
         rintro e W3 (⟨rfl,hJ3,hk3⟩|⟨rfl,hJx3⟩)
         ·have HK3:=hid (HKr2.out W3 hk3);have HOz:=hid (own_kq HOw3.out hk3)
          clear hk3 HOw3 HKr2
          gi_wp2
          go_roundw
          case rel=>exact ⟨_,_,ts,tv,_,(by rw [htn]),rfl,hJ3,HT2.out,HL2.out,HS2.out,(by rw [htn];exact HOz.out),HK3.out,HTk2.out,hts1,hts2⟩
          case measure=>simp only [lenV];omega
         ·gi_wp2
          refine bodyPost_ret (results_none rfl _ _ _) rfl ?_
          exact ⟨⟨_,rfl⟩,.inr ⟨_,⟨_,HT2.out⟩,hJx3⟩⟩
        ·have hu:=HU2.out rfl
         rw [hu] at hy
         gi_wp2
         refine ⟨fun h=>(by cases h),HRr.out.mono ?_⟩
         rintro e W3 (⟨rfl,hJ3,hk3⟩|⟨rfl,hJx3⟩)
         ·have HK3:=hid (HKr2.out W3 hk3);have HOz:=hid (own_kq HOw3.out hk3)
          clear hk3 HOw3 HKr2
          gi_wp2
          go_roundw
          case rel=>exact ⟨_,_,ts,tv,_,(by rw [htn]),rfl,hJ3,HT2.out,HL2.out,HS2.out,(by rw [htn];exact HOz.out),HK3.out,HTk2.out,hts1,hts2⟩
          case measure=>simp only [lenV];omega
         ·gi_wp2
          refine bodyPost_ret (results_none rfl _ _ _) rfl ?_
          exact ⟨⟨_,rfl⟩,.inr ⟨_,⟨_,HT2.out⟩,hJx3⟩⟩
       ·obtain ⟨g',o',ho',hown3⟩:=HTl.out.2 hc1'
        have HOw3:=hid hown3;simp only [Option.some.injEq,Addr.mk.injEq,and_true] at ho';obtain ⟨rfl,rfl⟩:=ho';clear hown3 HTl
        rcases (by omega:tr=0\/tr=1\/tr=2) with rfl|rfl|rfl
        ·have hu:=HU0.out rfl
         rw [hu] at hy
         gi_wp2
         refine ⟨fun h=>(by cases h),HRr.out.mono ?_⟩
         rintro e W3 (⟨rfl,hJ3,hk3⟩|⟨rfl,hJx3⟩)
         ·have HK3:=hid (HKr2.out W3 hk3);have HOz:=hid (own_kq HOw3.out hk3)
          clear hk3 HOw3 HKr2
          gi_wp2
          go_roundw
          case rel=>exact ⟨_,_,ts,tv,_,rfl,rfl,hJ3,HT2.out,HL2.out,HS2.out,HOz.out,HK3.out,HTk2.out,hts1,hts2⟩
          case measure=>simp only [lenV];omega
         ·gi_wp2
          refine bodyPost_ret (results_none rfl _ _ _) rfl ?_
          exact ⟨⟨_,rfl⟩,.inr ⟨_,⟨_,HT2.out⟩,hJx3⟩⟩
        ·have hu:=HU1.out rfl
         rw [hu] at hy
         gi_wp2
         refine ⟨fun h=>(by cases h),HRr.out.mono ?_⟩
         rintro e W3 (⟨rfl,hJ3,hk3⟩|⟨rfl,hJx3⟩)
         ·have HK3:=hid (HKr2.out W3 hk3);have HOz:=hid (own_kq HOw3.out hk3)
          clear hk3 HOw3 HKr2
          gi_wp2
          go_roundw
          case rel=>exact ⟨_,_,ts,tv,_,rfl,rfl,hJ3,HT2.out,HL2.out,HS2.out,HOz.out,HK3.out,HTk2.out,hts1,hts2⟩
          case measure=>simp only [lenV];omega
         ·gi_wp2
          refine bodyPost_ret (results_none rfl _ _ _) rfl ?_
          exact ⟨⟨_,rfl⟩,.inr ⟨_,⟨_,HT2.out⟩,hJx3⟩⟩
        ·have hu:=HU2.out rfl
         rw [hu] at hy
         gi_wp2
         refine ⟨fun h=>(by cases h),HRr.out.mono ?_⟩
         rintro e W3 (⟨rfl,hJ3,hk3⟩|⟨rfl,hJx3⟩)
         ·have HK3:=hid (HKr2.out W3 hk3);have HOz:=hid (own_kq HOw3.out hk3)
          clear hk3 HOw3 HKr2
          gi_wp2
          go_roundw
          case rel=>exact ⟨_,_,ts,tv,_,rfl,rfl,hJ3,HT2.out,HL2.out,HS2.out,HOz.out,HK3.out,HTk2.out,hts1,hts2⟩
          case measure=>simp only [lenV];omega
         ·gi_wp2
          refine bodyPost_ret (results_none rfl _ _ _) rfl ?_
          exact ⟨⟨_,rfl⟩,.inr ⟨_,⟨_,HT2.out⟩,hJx3⟩⟩
      ·have hltb:decide (ta<dd*86400)=false:=decide_eq_false hlt
       have hleft:⟨ta,tr,tv,tl⟩ :: ts=LEFT:=by have:=HLeft.out;simp only [leftL,if_neg hlt] at this;exact this
       have hsave:s4=SAVE:=by have:=HSave.out;simp only [saveL,if_neg hlt] at this;exact this
       have htot:=HTot.out
       rw [show giveL off (dd*86400) (⟨ta,tr,tv,tl⟩ :: ts) s4=[] from by simp only [giveL,if_neg hlt],List.nil_append,<-HRest.out,<-hleft,<-hsave] at htot
       have hnx:=HNext.out;rw [<-hleft] at hnx;have HT2:=hid htot;have HN2:=hid hnx;clear hleft hsave htot hnx
       gi_wp2
       exact ⟨⟨yy+1,some ⟨g,o,none⟩,cr,⟨ta,tr,tv,tl⟩ :: ts,s4,pr,rfl,rfl,rfl,HJ.out,by rw [Hm2.out];exact HT2.out,HN2.out,HOwn.out,HKr.out,⟨by omega,by omega⟩,hs1,hs2⟩,by simp [intOf];omega⟩
   ·have hleb:decide (yy<=last+2)=false:=decide_eq_false hle
    have htot:=HTot.out
    rw [show (last+3 - yy).toNat=0 from by omega] at htot
    have HT2:=hid htot;clear htot
    gi_wp2
    go_end0
    have:=HT2.out;rw [show turnsGo rs off 0 yy ws sv=[] from rfl,List.append_nil] at this;exact ⟨⟨_,rfl⟩,.inl (this ▸ HJ.out)⟩
theorem turns_seq (rs:List Rule) (A:Option Addr) (c:Nat) (off last:Int) (n Bl Bt Bo B0 N:Nat) (w:World)
  (hl:Blk w Bl 22 #[.slice A rs.length c]) (ht:Blk w Bt 3 #[.int .i64 last]) (ho:Blk w Bo 3 #[.int .i64 off]) (hB0:B0<=w.heap.size)
  (hR:∀ z,Kr B0 w z->Reads z z.heap.size 11 A rs.length (rs.flatMap Rule.cells)) (hn:rs.length<=1000000) (hr:rulesB rs=true) (hcr:crowdB rs=false)
  (hl1:1<=last) (hl2:last<=15000) (ho1: -86400<off) (ho2:off<86400) (hN:(turnsP rs off last).length<=N):
  SeqC isTurn Fence.wide n prog 86 #[.pointer (some ⟨Bl,0,none⟩),.pointer (some ⟨Bt,0,none⟩),.pointer (some ⟨Bo,0,none⟩)] encU (Kq B0) (fun ys=>ys=turnsP rs off last) (fun pre=>pre <+: turnsP rs off last) N w:=
 fun l J Jx W hW hJ _ hY h0=>turns1_in rs A c off last n l Bl Bt Bo B0 N J Jx W hJ hY (hl.below hW hl.lt) (ht.below hW ht.lt) (ho.below hW ho.lt) (Nat.le_trans hB0 hW.size)
  (fun z hk=>hR z ((Kr.below hW hB0).trans hk)) hn hr hcr hl1 hl2 ho1 ho2 hN h0
end Trn
end
end
end Go.Proofs.YtadamccojdocbaaGreatDoor
