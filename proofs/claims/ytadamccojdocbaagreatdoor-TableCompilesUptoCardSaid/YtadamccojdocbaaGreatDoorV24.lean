/-
  Contracts of the code that the law reaches, and plain laws. Conditions: as each says.
-/
import Derived.Test.YtadamccojdocbaaGreatDoorV23
set_option linter.all false
set_option maxHeartbeats 40000000
set_option maxRecDepth 100000
namespace Go.Proofs.YtadamccojdocbaaGreatDoor
open Lib (hid)
open Tryz
section
section
namespace Cmq
open Go.RowKit Mem Civ Mom Img Rul Ahd Trn Src Snd Att Rgt Abr
def phaseG (x:Era) (f:Int×ByteArray):Phase:=⟨x.off+f.1,f.1,abbrB x.format f.2 (x.off+f.1) f.1⟩
theorem phaseE_is (rs:List Rule) (x:Era) (t:Int):phaseE rs x t=phaseG x (savE rs x t):=rfl
def foldP (p0:Phase) (F:List TurnU) (x:Era) (t:Int):Phase:=F.foldl (fun p u=>if u.at_<=t then phaseU x u else p) p0
theorem fold_none {x:Era} {t:Int}:∀ {F:List TurnU} {p0:Phase},(∀ u∈F,¬ u.at_<=t)->foldP p0 F x t=p0
 |[],_,_=>rfl
 |u :: F,p0,h=>by
  unfold foldP;rw [List.foldl_cons,if_neg (h u List.mem_cons_self)];exact fold_none fun v hv=>h v (List.mem_cons_of_mem _ hv)
theorem fold_last {x:Era} {t:Int} {v:TurnU} (hv:v.at_<=t):∀ {F:List TurnU} {p0:Phase},F.Pairwise (fun a b=>a.at_<b.at_)->v∈F->(∀ u∈F,u.at_<=t->u.at_<=v.at_)->foldP p0 F x t=phaseU x v
 |[],_,_,h,_=>by simp at h
 |u :: F,p0,hp,hm,hl=>by
  have hp2:=List.pairwise_cons.1 hp;unfold foldP;rw [List.foldl_cons]
  rcases List.mem_cons.1 hm with rfl|hm
  ·rw [if_pos hv]
   exact fold_none fun w hw h=>by
    have h1:=hp2.1 w hw;have h2:=hl w (List.mem_cons_of_mem _ hw) h;omega
  ·exact fold_last hv hp2.2 hm fun w hw h=>hl w (List.mem_cons_of_mem _ hw) h
theorem puts_spec {first:Phase} {till:Int} {x:Era}:∀ (F:List TurnU) (ss:List Shift) (a:Int),Gd first till a ss->F.Pairwise (fun a b=>a.at_<b.at_)->(∀ u∈F,a<=u.at_)->ss.length+(F.filter fun u=>decide (u.at_<till)).length<30000->
  (F.foldl (fun m u=>putP first till m u.at_ (phaseU x u)) (ss,false)).2=false/\
  (∀ e,a<=e->(∀ u∈F,u.at_<=e)->Gd first till e (F.foldl (fun m u=>putP first till m u.at_ (phaseU x u)) (ss,false)).1)/\
  (F.foldl (fun m u=>putP first till m u.at_ (phaseU x u)) (ss,false)).1.length<=ss.length+(F.filter fun u=>decide (u.at_<till)).length/\
  (∀ t,t<till->tellL first (F.foldl (fun m u=>putP first till m u.at_ (phaseU x u)) (ss,false)).1 t=foldP (tellL first ss t) F x t)
 |[],ss,a,h,_,_,_=>⟨rfl,fun e he _=>h.mono he,Nat.le_add_right _ _,fun _ _=>rfl⟩
 |u :: F,ss,a,h,hp,ha,hn=>by
  have hp2:=List.pairwise_cons.1 hp;have hau:=ha u List.mem_cons_self;rw [List.filter_cons] at hn ⊢
  obtain ⟨q1,q2,q3,q4,q5⟩:=put_spec (p:=phaseU x u) h hau (by omega)
  obtain ⟨m1,hm1⟩:∃ m1,putP first till (ss,false) u.at_ (phaseU x u)=m1:=⟨_,rfl⟩
  rw [hm1] at q1 q2 q3 q4 q5;obtain ⟨s1,o1⟩:=m1;simp only at q1 q2 q3 q4;subst q1;rw [List.foldl_cons,hm1]
  by_cases hut:u.at_<till
  ·rw [decide_eq_true hut] at hn ⊢
   simp only [if_true,List.length_cons] at hn ⊢
   obtain ⟨r1,r2,r3,r4⟩:=puts_spec F s1 u.at_ q2 hp2.2 (fun v hv=>Int.le_of_lt (hp2.1 v hv)) (by omega)
   refine ⟨r1,fun e he hF=>r2 e (hF u List.mem_cons_self) (fun v hv=>hF v (List.mem_cons_of_mem _ hv)),by omega,fun t ht=>?_⟩
   rw [r4 t ht,q4 t ht]
   rfl
  ·have e5:=q5 (by omega)
   injection e5 with e5 _
   subst e5;rw [decide_eq_false hut] at hn ⊢;simp only [Bool.false_eq_true,if_false] at hn ⊢;obtain ⟨r1,r2,r3,r4⟩:=puts_spec F s1 u.at_ q2 hp2.2 (fun v hv=>Int.le_of_lt (hp2.1 v hv)) hn
   refine ⟨r1,fun e he hF=>r2 e (hF u List.mem_cons_self) (fun v hv=>hF v (List.mem_cons_of_mem _ hv)),r3,fun t ht=>?_⟩
   rw [r4 t ht];unfold foldP
   rw [List.foldl_cons,if_neg (by omega)]
def inE (x:Era) (a b:Int) (u:TurnU):Bool:=decide (a<u.at_/\¬ (x.till=true/\b<=u.at_))
theorem turnPut_fold (first:Phase) (till:Int) (x:Era) (a b:Int):∀ (L:List TurnU) (m:List Shift×Bool),L.foldl (turnPut first till x a b) m=(L.filter (inE x a b)).foldl (fun m u=>putP first till m u.at_ (phaseU x u)) m
 |[],_=>rfl
 |u :: L,m=>by
  rw [List.foldl_cons,List.filter_cons,turnPut_fold first till x a b L]
  unfold turnPut inE
  by_cases h:u.at_<=a\/x.till=true/\b<=u.at_
  ·rw [if_pos h,if_neg (by rw [decide_eq_true_eq];rintro ⟨h1,h2⟩;rcases h with h|h;omega;exact h2 h)]
  ·rw [if_neg h,if_pos (by rw [decide_eq_true_eq];exact ⟨by have:=fun h1=>h (.inl h1);omega,fun h1=>h (.inr h1)⟩),List.foldl_cons]
structure EraOk (rs:List Rule) (year:Int) (x:Era):Prop where
 kind:x.kind=0\/x.kind=1\/x.kind=2
 off: -86400<x.off/\x.off<86400
 none_:x.kind≠2->setL rs x.rules=[]
 right:rulesB (setL rs x.rules)=true
 crowd:crowdB (setL rs x.rules)=false
 far:∀ y,FarY (setL rs x.rules) y
 last:lastY (setL rs x.rules)<=year
theorem until_is {year:Int} (h1:1<=year) (h2:year<=10000):untilZ year=janI (year+3)*86400:=by
 have hm:mlen (year+3) 1=31:=by simp [mlen]
 have ha:janI 1= -719162:=by decide
 have hb:janI 20001=6585688:=by decide
 have h3:=jan_mono (a:=1) (b:=year+3) (by omega)
 have h4:=jan_mono (a:=year+3) (b:=20001) (by omega)
 have hj:janI (year+3)=countI (year+3) 1 1:=rfl;unfold untilZ daysO
 rw [hm,if_neg (by omega),if_neg (by omega),hj]
 rfl
theorem era_tells {rs:List Rule} {year:Int} {x:Era} (he:EraOk rs year x) (hy1:1<=year) (hy2:year<=10000) {a b t:Int} (hat:a<=t) (htt:t<untilZ year) (htb:x.till=true->t<b):
  foldP (phaseE rs x a) ((turnsE rs year x).filter (inE x a b)) x t=phaseE rs x t:=by
 by_cases hk:x.kind=2
 ·have hso:setOf rs x=setL rs x.rules:=by unfold setOf;rw [if_pos hk]
  obtain ⟨S,hS⟩:∃ S,setL rs x.rules=S:=⟨_,rfl⟩;have hr:=he.right;have hc:=he.crowd;have hf:=he.far;have hl:=he.last;rw [hS] at hr hc hf hl hso;obtain ⟨o1,o2⟩:=he.off
  have hsav:∀ t,savE rs x t=giveO S (latestL (fun y=>decide (uniT S x.off y<=t)) (yearI t) S):=by
   intro t;unfold savE;rw [if_pos hk,hso];unfold forceP;rw [if_pos ⟨hr,o1,o2⟩]
  obtain ⟨l,l1,l2,l3⟩:=turns_list (last:=year+3) hr hc hf o1 o2 (by omega) (by omega)
  have hbd:=border_is (y:=year+3+2) (by omega) (by omega)
  have hoc:=october (year+3+2);have hu:=until_is hy1 hy2
  have hj:=jan_mono (a:=year+3) (b:=year+3+2+1) (by omega)
  unfold turnsE;rw [hS,l1]
  have hmem:∀ u,u∈(l.map fun t=>(⟨uniT S x.off t,t.save,t.letter⟩:TurnU)).filter (inE x a b)↔∃ y∈l,u=⟨uniT S x.off y,y.save,y.letter⟩/\a<u.at_/\¬ (x.till=true/\b<=u.at_):=by
   intro u;rw [List.mem_filter,List.mem_map];unfold inE;rw [decide_eq_true_eq]
   constructor
   ·rintro ⟨⟨y,hy,rfl⟩,h⟩;exact ⟨y,hy,rfl,h⟩
   ·rintro ⟨y,hy,rfl,h⟩;exact ⟨⟨y,hy,rfl⟩,h⟩
  have hrise:((l.map fun t=>(⟨uniT S x.off t,t.save,t.letter⟩:TurnU)).filter (inE x a b)).Pairwise (fun a b=>a.at_<b.at_):=by
   refine List.Pairwise.sublist List.filter_sublist ?_
   rw [List.pairwise_map]
   exact List.Pairwise.imp_of_mem (fun {y z} hy hz h=>uni_less hr hf o1 o2 ((l3 y).1 hy).1 ((l3 z).1 hz).1 (by omega)) l2
  have hle:∀ {y z:Turn},Gt S y->Gt S z->y.at_<=z.at_->uniT S x.off y<=uniT S x.off z:=by
   intro y z hy hz h
   rcases Int.lt_or_eq_of_le h with h|h
   ·exact Int.le_of_lt (uni_less hr hf o1 o2 hy hz h)
   ·rcases spaced hf hy hz with rfl|hs
    ·exact Int.le_refl _
    ·unfold Far at hs;omega
  obtain ⟨s1,s2⟩:=force_spec (rs:=S) (off:=x.off) (t:=t) hr o1 o2;obtain ⟨a1,a2⟩:=force_spec (rs:=S) (off:=x.off) (t:=a) hr o1 o2;rw [phaseE_is rs x t,phaseE_is rs x a,hsav t,hsav a]
  cases hlt:latestL (fun y=>decide (uniT S x.off y<=t)) (yearI t) S with
  |none=>
   have hno:=s2 hlt
   have hla:latestL (fun y=>decide (uniT S x.off y<=a)) (yearI a) S=none:=by
    cases hq:latestL (fun y=>decide (uniT S x.off y<=a)) (yearI a) S with
    |none=>rfl
    |some z=>
     obtain ⟨g1,g2,_⟩:=a1 z hq
     have g2:uniT S x.off z<=a:=by simpa using g2
     exact absurd (by omega:uniT S x.off z<=t) (hno z g1)
   rw [hla]
   refine fold_none fun u hu h=>?_
   obtain ⟨y,hy,rfl,_⟩:=(hmem u).1 hu;exact hno y ((l3 y).1 hy).1 h
  |some y=>
   have hyl:=s1 y hlt;obtain ⟨g1,g2,g3⟩:=hyl
   have g2:uniT S x.off y<=t:=by simpa using g2
   obtain ⟨al,hal,hal2⟩:=uni_bd hr o1 o2 g1
   have hyin:y∈l:=(l3 y).2 ⟨g1,by omega⟩
   by_cases hya:a<uniT S x.off y
   ·have hm:(⟨uniT S x.off y,y.save,y.letter⟩:TurnU)∈(l.map fun t=>(⟨uniT S x.off t,t.save,t.letter⟩:TurnU)).filter (inE x a b):=
     (hmem _).2 ⟨y,hyin,rfl,hya,fun ⟨h1,h2⟩=>by have:=htb h1;simp only at h2;omega⟩
    rw [fold_last (v:=⟨uniT S x.off y,y.save,y.letter⟩) g2 hrise hm (fun u hu h=>by
     obtain ⟨z,hz,rfl,_⟩:=(hmem u).1 hu
     exact hle ((l3 z).1 hz).1 g1 (g3 z ((l3 z).1 hz).1 (by simpa using h)))]
    rfl
   ·have hla:latestL (fun y=>decide (uniT S x.off y<=a)) (yearI a) S=some y:=by
     cases hq:latestL (fun y=>decide (uniT S x.off y<=a)) (yearI a) S with
     |none=>exact absurd (by omega:uniT S x.off y<=a) (a2 hq y g1)
     |some z=>
      obtain ⟨q1,q2,q3⟩:=a1 z hq
      have q2:uniT S x.off z<=a:=by simpa using q2
      have e1:=g3 z q1 (by simp;omega)
      have e2:=q3 y g1 (by simp;omega)
      rcases spaced hf q1 g1 with h|h
      ·rw [h]
      ·unfold Far at h;omega
    rw [hla]
    refine fold_none fun u hu h=>?_
    obtain ⟨z,hz,rfl,h2,_⟩:=(hmem u).1 hu
    have:=hle ((l3 z).1 hz).1 g1 (g3 z ((l3 z).1 hz).1 (by simpa using h))
    simp only at h2;omega
 ·have hS:=he.none_ hk
  have hT:turnsE rs year x=[]:=by unfold turnsE turnsP;rw [hS];rfl
  rw [hT]
  show phaseE rs x a=phaseE rs x t
  unfold phaseE savE;rw [if_neg hk,if_neg hk]
def refL (rs:List Rule) (sv:Era->Int):List Era->Int->Phase
 |[],_=>⟨0,0,⟨#[]⟩⟩
 |x :: es,t=>if x.till=true/\endP sv x<=t then refL rs sv es t else phaseE rs x t
def EndsOk (sv:Era->Int):Int->List Era->Prop
 |_,[]=>False
 |_,[x]=>x.till=false
 |a,x :: y :: es=>x.till=true/\a<endP sv x/\EndsOk sv (endP sv x) (y :: es)
def cntE (rs:List Rule) (sv:Era->Int) (year:Int):Int->List Era->Nat
 |_,[]=>0
 |a,x :: es=>1+(((turnsE rs year x).filter (inE x a (endP sv x))).filter fun u=>decide (u.at_<untilZ year)).length+cntE rs sv year (endP sv x) es
theorem turns_rise {rs:List Rule} {year:Int} {x:Era} (he:EraOk rs year x) (hy1:1<=year) (hy2:year<=10000):(turnsE rs year x).Pairwise (fun a b=>a.at_<b.at_):=by
 obtain ⟨l,l1,l2,l3⟩:=turns_list (last:=year+3) he.right he.crowd he.far he.off.1 he.off.2 (by have:=he.last;omega) (by omega)
 unfold turnsE;rw [l1,List.pairwise_map]
 exact List.Pairwise.imp_of_mem (fun {y z} hy hz h=>uni_less he.right he.far he.off.1 he.off.2 ((l3 y).1 hy).1 ((l3 z).1 hz).1 (by omega)) l2
theorem era_put {s:Src} {first:Phase} {year:Int} {x:Era} (he:EraOk s.rules year x) (hy1:1<=year) (hy2:year<=10000) {a:Int} {ss:List Shift} (h:Gd first (untilZ year) a ss) (h0:∀ t,t<untilZ year->a<=t->tellL first ss t=phaseE s.rules x a)
  (hn:ss.length+(((turnsE s.rules year x).filter (inE x a (eraEnd s x))).filter fun u=>decide (u.at_<untilZ year)).length<30000):
  ((turnsE s.rules year x).foldl (turnPut first (untilZ year) x a (eraEnd s x)) (ss,false)).2=false/\
  (∀ e,a<=e->(x.till=true->eraEnd s x<=e)->(x.till=false->∀ u∈turnsE s.rules year x,u.at_<=e)->Gd first (untilZ year) e ((turnsE s.rules year x).foldl (turnPut first (untilZ year) x a (eraEnd s x)) (ss,false)).1)/\
  ((turnsE s.rules year x).foldl (turnPut first (untilZ year) x a (eraEnd s x)) (ss,false)).1.length<=ss.length+(((turnsE s.rules year x).filter (inE x a (eraEnd s x))).filter fun u=>decide (u.at_<untilZ year)).length/\
  (∀ t,t<untilZ year->tellL first ((turnsE s.rules year x).foldl (turnPut first (untilZ year) x a (eraEnd s x)) (ss,false)).1 t=if a<=t then (if x.till=true/\eraEnd s x<=t then tellL first ((turnsE s.rules year x).foldl (turnPut first (untilZ year) x a (eraEnd s x)) (ss,false)).1 t else phaseE s.rules x t) else tellL first ss t):=by
 have hF:∀ u∈(turnsE s.rules year x).filter (inE x a (eraEnd s x)),a<u.at_/\¬ (x.till=true/\eraEnd s x<=u.at_):=fun u hu=>by
  have:=(List.mem_filter.1 hu).2;unfold inE at this;exact of_decide_eq_true this
 rw [turnPut_fold];obtain ⟨r1,r2,r3,r4⟩:=puts_spec (x:=x) ((turnsE s.rules year x).filter (inE x a (eraEnd s x))) ss a h ((turns_rise he hy1 hy2).sublist List.filter_sublist) (fun u hu=>Int.le_of_lt (hF u hu).1) hn
 refine ⟨r1,fun e h1 h2 h3=>r2 e h1 fun u hu=>?_,r3,fun t ht=>?_⟩
 ·cases hx:x.till with
  |true=>
   have:=h2 hx;have:=(hF u hu).2
   by_cases hle:eraEnd s x<=u.at_
   ·exact absurd ⟨hx,hle⟩ this
   ·omega
  |false=>exact h3 hx u (List.mem_filter.1 hu).1
 ·by_cases hat:a<=t
  ·rw [if_pos hat]
   by_cases hend:x.till=true/\eraEnd s x<=t
   ·rw [if_pos hend]
   ·rw [if_neg hend,r4 t ht,h0 t ht hat]
    exact era_tells he hy1 hy2 hat ht (fun hx=>by
     by_cases hle:eraEnd s x<=t
     ·exact absurd ⟨hx,hle⟩ hend
     ·omega)
  ·rw [if_neg hat,r4 t ht]
   exact fold_none fun u hu h=>by have:=(hF u hu).1;omega
theorem bound_of:∀ (L:List TurnU) (a:Int),∃ e,a<=e/\∀ u∈L,u.at_<=e
 |[],a=>⟨a,Int.le_refl _,fun _ h=>by simp at h⟩
 |u :: L,a=>by
  obtain ⟨e,h1,h2⟩:=bound_of L (max a u.at_)
  refine ⟨e,by omega,fun v hv=>?_⟩
  rcases List.mem_cons.1 hv with rfl|hv
  ·omega
  ·exact h2 v hv
def Told (s:Src) (first:Phase) (year a:Int) (es:List Era) (ss:List Shift) (r:(List Shift×Bool)×Int):Prop:=
 r.1.2=false/\(∃ e,Gd first (untilZ year) e r.1.1)/\r.1.1.length<=ss.length+cntE s.rules (svF s) year a es/\
 ∀ t,t<untilZ year->tellL first r.1.1 t=if a<=t then refL s.rules (svF s) es t else tellL first ss t
theorem eras_one {s:Src} {first:Phase} {year:Int} (hy1:1<=year) (hy2:year<=10000) {x:Era} {es:List Era}
  (ih:∀ (ss:List Shift) (a:Int),Gd first (untilZ year) a ss->EndsOk (svF s) a es->(∀ x∈es,EraOk s.rules year x)->ss.length+cntE s.rules (svF s) year a es<30000->Told s first year a es ss (erasPut s first (untilZ year) year es true ((ss,false),a)))
  (he:∀ y∈x :: es,EraOk s.rules year y) {ss:List Shift} {a:Int} (h:Gd first (untilZ year) a ss) (hE:EndsOk (svF s) a (x :: es)) (h0:∀ t,t<untilZ year->a<=t->tellL first ss t=phaseE s.rules x a)
  (hn:ss.length+(((turnsE s.rules year x).filter (inE x a (endP (svF s) x))).filter fun u=>decide (u.at_<untilZ year)).length+cntE s.rules (svF s) year (endP (svF s) x) es<30000):
  (erasPut s first (untilZ year) year es true ((turnsE s.rules year x).foldl (turnPut first (untilZ year) x a (eraEnd s x)) (ss,false),eraEnd s x)).1.2=false/\
  (∃ e,Gd first (untilZ year) e (erasPut s first (untilZ year) year es true ((turnsE s.rules year x).foldl (turnPut first (untilZ year) x a (eraEnd s x)) (ss,false),eraEnd s x)).1.1)/\
  (erasPut s first (untilZ year) year es true ((turnsE s.rules year x).foldl (turnPut first (untilZ year) x a (eraEnd s x)) (ss,false),eraEnd s x)).1.1.length<=ss.length+(((turnsE s.rules year x).filter (inE x a (endP (svF s) x))).filter fun u=>decide (u.at_<untilZ year)).length+cntE s.rules (svF s) year (endP (svF s) x) es/\
  ∀ t,t<untilZ year->tellL first (erasPut s first (untilZ year) year es true ((turnsE s.rules year x).foldl (turnPut first (untilZ year) x a (eraEnd s x)) (ss,false),eraEnd s x)).1.1 t=if a<=t then refL s.rules (svF s) (x :: es) t else tellL first ss t:=by
 have hex:=he x List.mem_cons_self;have hee:eraEnd s x=endP (svF s) x:=rfl
 obtain ⟨q1,q2,q3,q4⟩:=era_put hex hy1 hy2 h h0 (by rw [hee];omega)
 obtain ⟨m,hm⟩:∃ m,(turnsE s.rules year x).foldl (turnPut first (untilZ year) x a (eraEnd s x)) (ss,false)=m:=⟨_,rfl⟩
 rw [hm] at q1 q2 q3 q4 ⊢;obtain ⟨s2,o2⟩:=m;simp only at q1 q2 q3 q4;subst q1;rw [hee] at q3
 cases es with
 |nil=>
  have hx:x.till=false:=hE;obtain ⟨e,e1,e2⟩:=bound_of (turnsE s.rules year x) a
  refine ⟨rfl,⟨e,q2 e e1 (fun h=>by rw [hx] at h;cases h) (fun _=>e2)⟩,Nat.le_trans q3 (Nat.le_add_right _ _),fun t ht=>?_⟩
  show tellL first s2 t=_
  rw [q4 t ht]
  by_cases hat:a<=t
  ·rw [if_pos hat,if_pos hat,if_neg (fun h=>by rw [hx] at h;cases h.1)]
   simp only [refL]
   rw [if_neg (fun h=>by rw [hx] at h;cases h.1)]
  ·rw [if_neg hat,if_neg hat]
 |cons y es=>
  obtain ⟨hx,hab,hE2⟩:=hE
  have hgd:=q2 (eraEnd s x) (Int.le_of_lt hab) (fun _=>Int.le_refl _) (fun h=>by rw [hx] at h;cases h)
  obtain ⟨r1,r2,r3,r4⟩:=ih s2 (eraEnd s x) hgd hE2 (fun z hz=>he z (List.mem_cons_of_mem _ hz)) (by rw [hee];omega)
  rw [hee] at r3
  refine ⟨r1,r2,by rw [hee];omega,fun t ht=>?_⟩
  rw [r4 t ht]
  have hr:refL s.rules (svF s) (x :: y :: es) t=if x.till=true/\endP (svF s) x<=t then refL s.rules (svF s) (y :: es) t else phaseE s.rules x t:=rfl
  by_cases hbt:eraEnd s x<=t
  ·rw [if_pos hbt,if_pos (by rw [hee] at hbt;omega),hr,if_pos ⟨hx,hbt⟩]
  ·rw [if_neg hbt,q4 t ht]
   by_cases hat:a<=t
   ·rw [if_pos hat,if_pos hat,hr,if_neg (fun h=>hbt h.2),if_neg (fun h=>hbt (hee ▸ h.2))]
   ·rw [if_neg hat,if_neg hat]
theorem eras_true {s:Src} {first:Phase} {year:Int} (hy1:1<=year) (hy2:year<=10000):∀ (es:List Era) (ss:List Shift) (a:Int),Gd first (untilZ year) a ss->EndsOk (svF s) a es->(∀ x∈es,EraOk s.rules year x)->ss.length+cntE s.rules (svF s) year a es<30000->
  Told s first year a es ss (erasPut s first (untilZ year) year es true ((ss,false),a))
 |[],_,_,_,hE,_,_=>hE.elim
 |x :: es,ss,a,h,hE,he,hn=>by
  have hc:cntE s.rules (svF s) year a (x :: es)=1+(((turnsE s.rules year x).filter (inE x a (endP (svF s) x))).filter fun u=>decide (u.at_<untilZ year)).length+cntE s.rules (svF s) year (endP (svF s) x) es:=rfl
  obtain ⟨p1,p2,p3,p4,_⟩:=put_spec (p:=phaseE s.rules x a) h (Int.le_refl a) (by omega)
  obtain ⟨m,hm⟩:∃ m,putP first (untilZ year) (ss,false) a (phaseE s.rules x a)=m:=⟨_,rfl⟩
  rw [hm] at p1 p2 p3 p4;obtain ⟨s1,o1⟩:=m;simp only at p1 p2 p3 p4;subst p1
  have hput:erasPut s first (untilZ year) year (x :: es) true ((ss,false),a)=erasPut s first (untilZ year) year es true ((turnsE s.rules year x).foldl (turnPut first (untilZ year) x a (eraEnd s x)) (s1,false),eraEnd s x):=by
   show erasPut s first (untilZ year) year es true (eraPut s first (untilZ year) year true ((ss,false),a) x)=_
   unfold eraPut;simp only [if_true,hm]
  rw [hput]
  obtain ⟨r1,r2,r3,r4⟩:=eras_one hy1 hy2 (fun ss a=>eras_true hy1 hy2 es ss a) he p2 hE (fun t ht hat=>by rw [p4 t ht,if_pos hat]) (by omega)
  refine ⟨r1,r2,by omega,fun t ht=>?_⟩
  rw [r4 t ht]
  by_cases hat:a<=t
  ·rw [if_pos hat,if_pos hat]
  ·rw [if_neg hat,if_neg hat,p4 t ht,if_neg hat]
theorem phase_early {rs:List Rule} {year:Int} {x:Era} (he:EraOk rs year x) {t:Int} (ht:t<=everT):phaseE rs x t=phaseE rs x everT:=by
 unfold everT at*
 by_cases hk:x.kind=2
 ·have hso:setOf rs x=setL rs x.rules:=by unfold setOf;rw [if_pos hk]
  have hr:=he.right;obtain ⟨o1,o2⟩:=he.off
  have hno:∀ t,t<=-9000000000000->latestL (fun y=>decide (uniT (setL rs x.rules) x.off y<=t)) (yearI t) (setL rs x.rules)=none:=by
   intro t ht;obtain ⟨s1,s2⟩:=force_spec (rs:=setL rs x.rules) (off:=x.off) (t:=t) hr o1 o2
   cases hq:latestL (fun y=>decide (uniT (setL rs x.rules) x.off y<=t)) (yearI t) (setL rs x.rules) with
   |none=>rfl
   |some y=>
    exfalso
    obtain ⟨g1,g2,_⟩:=s1 y hq
    have g2:uniT (setL rs x.rules) x.off y<=t:=by simpa using g2
    obtain ⟨a,ha,ha2⟩:=uni_bd hr o1 o2 g1;obtain ⟨r,_,z,hz⟩:=g1;have hn:=local_near (turnL_at hz).1;obtain ⟨_,hz1,_,_⟩:=local_form (turnL_at hz).1;have hj:=jan_mono (a:=1) (b:=z) hz1
    have h1:janI 1= -719162:=by decide
    omega
  rw [phaseE_is,phaseE_is];unfold savE;rw [if_pos hk,if_pos hk,hso];unfold forceP;rw [if_pos ⟨hr,o1,o2⟩,if_pos ⟨hr,o1,o2⟩,hno t ht,hno _ (Int.le_refl _)]
 ·unfold phaseE savE
  rw [if_neg hk,if_neg hk]
theorem zone_told {s:Src} {z:ZoneM} (hy1:1<=lastZ s.rules z.eras) (hy2:lastZ s.rules z.eras<=10000) (hE:EndsOk (svF s) everT z.eras) (he:∀ x∈z.eras,EraOk s.rules (lastZ s.rules z.eras) x)
  (hn:cntE s.rules (svF s) (lastZ s.rules z.eras) everT z.eras<=29999):
  (madeZ s z).1.2=false/\(∃ e,Gd (firstZ s.rules z.eras) (untilZ (lastZ s.rules z.eras)) e (madeZ s z).1.1)/\(madeZ s z).1.1.length<=29999/\
  ∀ t,t<untilZ (lastZ s.rules z.eras)->tellL (firstZ s.rules z.eras) (madeZ s z).1.1 t=refL s.rules (svF s) z.eras t:=by
 unfold madeZ;generalize lastZ s.rules z.eras=year at*
 cases hz:z.eras with
 |nil=>rw [hz] at hE;exact hE.elim
 |cons x es=>
  rw [hz] at hE he hn;have hfirst:firstZ s.rules (x :: es)=phaseE s.rules x everT:=rfl
  have hput:erasPut s (firstZ s.rules (x :: es)) (untilZ year) year (x :: es) false (([],false),everT)=erasPut s (firstZ s.rules (x :: es)) (untilZ year) year es true ((turnsE s.rules year x).foldl (turnPut (firstZ s.rules (x :: es)) (untilZ year) x everT (eraEnd s x)) ([],false),eraEnd s x):=by
   show erasPut s _ (untilZ year) year es true (eraPut s _ (untilZ year) year false (([],false),everT) x)=_
   unfold eraPut;simp
  rw [hput,hfirst];simp only [cntE] at hn
  obtain ⟨r1,r2,r3,r4⟩:=eras_one (first:=phaseE s.rules x everT) hy1 hy2 (fun ss a=>eras_true hy1 hy2 es ss a) he (gd_nil _ _ everT) hE (fun t ht hat=>rfl) (by simp only [List.length_nil];omega)
  refine ⟨r1,r2,by simp only [List.length_nil] at r3;omega,fun t ht=>?_⟩
  rw [r4 t ht]
  by_cases hat:everT<=t
  ·rw [if_pos hat]
  ·rw [if_neg hat]
   have h1:phaseE s.rules x t=phaseE s.rules x everT:=phase_early (he x List.mem_cons_self) (by omega)
   show phaseE s.rules x everT=refL s.rules (svF s) (x :: es) t
   rw [<-h1]
   show _=if x.till=true/\endP (svF s) x<=t then refL s.rules (svF s) es t else phaseE s.rules x t
   rw [if_neg];rintro ⟨h2,h3⟩
   cases es with
   |nil=>
    have h4:x.till=false:=hE;rw [h4] at h2;cases h2
   |cons y es=>
    have:=hE.2.1;omega
end Cmq
end
end
section
section
namespace Snd
open Go.RowKit Mem Civ Mom Img Plc Rul Src
theorem flaw_ne {e k a r:Int} (h:¬ e=0\/¬ k=0):(⟨e,k,a,r⟩:Flaw)≠noFlaw:=fun he=>by
 unfold noFlaw at he;injection he;omega
theorem firstF_no:∀ {l:List Flaw},firstF l=noFlaw->∀ f∈l,f=noFlaw
 |[],_,f,hf=>by cases hf
 |a :: t,h,f,hf=>by
  unfold firstF at h
  split at h
  ·next ha=>
   rcases List.mem_cons.1 hf with rfl|hf
   ·exact ha
   ·exact firstF_no h f hf
  ·next ha=>exact absurd h ha
theorem clean_parts {s:Src} (h:checkB s=noFlaw):srcB s=true/\ordersB s=noFlaw/\setsB s=noFlaw/\zonesB s (svF s)=noFlaw/\linksB s=noFlaw/\targetsB s=noFlaw:=by
 unfold checkB at h
 split at h
 ·next hs=>
  have h2:=firstF_no h
  exact ⟨hs,h2 _ (by simp),h2 _ (by simp),h2 _ (by simp),h2 _ (by simp),h2 _ (by simp)⟩
 ·exact absurd h (flaw_ne (.inl (by decide)))
theorem inL_no {l:List ByteArray} {s:ByteArray}:inL l s=false↔¬ s∈l:=by
 rw [<-inL_iff]
 cases inL l s<;>simp
theorem zonesL_no {rs:List Rule} {sv:Era->Int}:∀ {zs:List ZoneM} {seen:List ByteArray} {i:Nat},zonesL rs sv seen zs i=noFlaw->(∀ z∈zs,¬ z.name∈seen)/\(zs.map (·.name)).Nodup/\∀ z∈zs,zErr rs sv z.eras=none
 |[],_,_,_=>⟨by simp,by simp,by simp⟩
 |z :: t,seen,i,h=>by
  unfold zonesL at h
  split at h
  ·exact absurd h (flaw_ne (.inl (by decide)))
  ·next hin=>
   split at h
   ·exact absurd h (flaw_ne (.inr (by decide)))
   ·next hz=>
    obtain ⟨h1,h2,h3⟩:=zonesL_no h
    have hz':¬ z.name∈seen:=inL_no.1 (by simpa using hin)
    refine ⟨fun y hy=>?_,?_,fun y hy=>?_⟩
    ·rcases List.mem_cons.1 hy with rfl|hy
     ·exact hz'
     ·exact fun hm=>h1 y hy (List.mem_append_left _ hm)
    ·rw [List.map_cons,List.nodup_cons]
     refine ⟨fun hm=>?_,h2⟩
     obtain ⟨y,hy,e⟩:=List.mem_map.1 hm
     exact h1 y hy (by rw [e];simp)
    ·rcases List.mem_cons.1 hy with rfl|hy
     ·exact hz
     ·exact h3 y hy
theorem setsL_no {all:List Rule}:∀ {l:List Rule} {seen:List ByteArray} {i:Nat},setsL all seen l i=noFlaw->∀ r∈l,¬ r.name∈seen->setErr (setL all r.name)=0
 |[],_,_,_,r,hr,_=>by cases hr
 |x :: t,seen,i,h,r,hr,hn=>by
  unfold setsL at h
  split at h
  ·next hin=>
   rcases List.mem_cons.1 hr with rfl|hr
   ·exact absurd (inL_iff.1 hin) hn
   ·exact setsL_no h r hr hn
  ·split at h
   ·next h0=>
    by_cases e:r.name=x.name
    ·rw [e];exact h0
    ·rcases List.mem_cons.1 hr with rfl|hr
     ·exact h0
     ·refine setsL_no h r hr fun hm=>?_
      rcases List.mem_append.1 hm with hm|hm
      ·exact hn hm
      ·exact e (by simpa using hm)
   ·exact absurd h (flaw_ne (.inr (by decide)))
end Snd
end
end
section
section
namespace Cmq
open Go.RowKit Mem Civ Mom Img Plc Rul Ahd Trn Src Snd Att Rgt Abr
theorem setL_mem {rs:List Rule} {nm:ByteArray} {r:Rule}:r∈setL rs nm↔r∈rs/\r.name=nm:=by
 unfold setL;simp [List.mem_filter]
theorem ruleR_parts {r:Rule} (h:ruleR r=true):setB r.name=true/\Rul.ruleB r=true:=by
 unfold ruleR at h;simp only [Bool.and_eq_true,Bool.or_eq_true,yearB,savingB,decide_eq_true_eq] at h;obtain ⟨h1,⟨h2,h3⟩,h4,h5,⟨h6,h7⟩,h8⟩:=h
 refine ⟨h1,decide_eq_true ⟨⟨h2,h3⟩,?_,spotB_ok h5,h6,h7⟩⟩
 rcases h4 with h4|h4
 ·exact .inl h4
 ·exact .inr h4
theorem src_rules {s:Src} (h:srcB s=true):∀ r∈s.rules,ruleR r=true:=by
 unfold srcB at h;simp only [Bool.and_eq_true] at h;exact List.all_eq_true.1 h.2.1
theorem src_zones {s:Src} (h:srcB s=true):∀ z∈s.zones,zoneB z=true:=by
 unfold srcB at h;simp only [Bool.and_eq_true] at h;exact List.all_eq_true.1 h.2.2.1
theorem src_right {s:Src} (h:srcB s=true) (nm:ByteArray):rulesB (setL s.rules nm)=true:=
 List.all_eq_true.2 fun r hr=>(ruleR_parts (src_rules h r (setL_mem.1 hr).1)).2
theorem setB_some {nm:ByteArray} (h:setB nm=true):nm≠⟨#[]⟩:=by
 rintro rfl
 revert h
 decide
theorem text_none {x:ByteArray} (h:x.toList.isEmpty=true):x=⟨#[]⟩:=by
 rw [ByteArray.toList_eq] at h
 cases x with
 |mk d=>
  congr 1
  simpa using h
theorem set_none {s:Src} (h:srcB s=true):setL s.rules ⟨#[]⟩=[]:=by
 rw [List.eq_nil_iff_forall_not_mem];intro r hr;obtain ⟨h1,h2⟩:=setL_mem.1 hr;exact setB_some (ruleR_parts (src_rules h r h1)).1 h2
theorem set_ok {s:Src} (h:checkB s=noFlaw) (nm:ByteArray):crowdB (setL s.rules nm)=false/\nearB (setL s.rules nm)=false/\everN (setL s.rules nm)<=2:=by
 obtain ⟨_,_,h2,_⟩:=clean_parts h
 cases hl:setL s.rules nm with
 |nil=>exact ⟨rfl,rfl,by decide⟩
 |cons r t=>
  obtain ⟨hr,hn⟩:=setL_mem.1 (show r∈setL s.rules nm by rw [hl];simp)
  have he:=setsL_no h2 r hr (by simp)
  rw [hn,hl] at he;unfold setErr at he
  split at he
  ·omega
  ·next h1=>
   split at he
   ·omega
   ·split at he
    ·omega
    ·next h3 h4=>exact ⟨by simpa using h1,by simpa using h4,by omega⟩
theorem set_far {s:Src} (h:checkB s=noFlaw) (nm:ByteArray) (y:Int):FarY (setL s.rules nm) y:=
 far_all (src_right (clean_parts h).1 nm) (set_ok h nm).2.1 (set_ok h nm).1 y
theorem erasOk_at {es:List Era}:∀ {n:Nat},erasOk es n=true->∀ k,k<n->∀ x,es[k]?=some x->eraB x=true/\x.till=decide (((k:Nat):Int)<(es.length:Int) - 1)
 |0,_,k,hk,_,_=>by omega
 |n+1,h,k,hk,x,hx=>by
  rw [erasOk,Bool.and_eq_true] at h
  rcases Nat.lt_or_ge k n with h1|h1
  ·exact erasOk_at h.1 k h1 x hx
  ·obtain rfl:k=n:=by omega
   have h2:=h.2;rw [hx] at h2;simp only [Bool.and_eq_true,beq_iff_eq] at h2;exact h2
structure ZoneW (s:Src) (z:ZoneM):Prop where
 ne:0<z.eras.length
 le:z.eras.length<=40
 era:∀ x∈z.eras,eraB x=true
 till:∀ k x,z.eras[k]?=some x->x.till=decide (k+1<z.eras.length)
 err:∀ k x,z.eras[k]?=some x->eraE s.rules x (prevP (svF s) z.eras k).1 (prevP (svF s) z.eras k).2 (endP (svF s) x) x.till=0
theorem zone_w {s:Src} (h:checkB s=noFlaw) {z:ZoneM} (hz:z∈s.zones):ZoneW s z:=by
 obtain ⟨h1,_,_,h3,_⟩:=clean_parts h;have hb:=src_zones h1 z hz;have he:=(zonesL_no h3).2.2 z hz;unfold zoneB at hb;simp only [Bool.and_eq_true,Bool.not_eq_true',decide_eq_false_iff_not,beq_eq_false_iff_ne] at hb;obtain ⟨_,b1,b2,b3⟩:=hb
 have hlt:∀ {k:Nat} {x:Era},z.eras[k]?=some x->k<z.eras.length:=fun hx=>(List.getElem?_eq_some_iff.1 hx).1
 refine ⟨by omega,by omega,fun x hx=>?_,fun k x hx=>?_,fun k x hx=>?_⟩
 ·obtain ⟨k,hk,e⟩:=List.mem_iff_getElem.1 hx
  exact (erasOk_at b3 k hk x (by rw [List.getElem?_eq_getElem hk,e])).1
 ·rw [(erasOk_at b3 k (hlt hx) x hx).2]
  exact decide_eq_decide.2 (by omega)
 ·unfold zErr at he
  rw [List.find?_eq_none] at he
  have:=he k (List.mem_range.2 (hlt hx));unfold eraAt at this;rw [hx] at this
  simpa using this
theorem era_parts {x:Era} (h:eraB x=true):(-86400<x.off/\x.off<86400)/\x.format.size<=20/\(x.kind=0\/x.kind=1\/x.kind=2)/\(-43200<=x.save/\x.save<=43200)/\(x.kind≠2->x.rules=⟨#[]⟩)/\(x.kind=0\/x.kind=2->x.save=0)/\(x.till=true->yearB x.year=true/\spotB x.spot=true)/\(x.till=false->x.year=0):=by
 unfold eraB at h;simp only [Bool.and_eq_true] at h;obtain ⟨⟨h1,h2⟩,h3,h4⟩:=h;unfold dayB at h1;simp only [Bool.and_eq_true,decide_eq_true_eq] at h1;unfold formatB madeB at h2;simp only [Bool.and_eq_true,decide_eq_true_eq] at h2;have hsz:x.format.size=x.format.data.toList.length:=Lib.size_eq _
 refine ⟨h1,by have:=h2.1.2.2;omega,?_⟩
 have ht:(x.till=true->yearB x.year=true/\spotB x.spot=true)/\(x.till=false->x.year=0):=by
  unfold tillB at h4
  cases hx:x.till<;>rw [hx] at h4
  ·rw [if_neg (by decide),Bool.and_eq_true,decide_eq_true_eq] at h4
   exact ⟨fun e=>(by cases e),fun _=>h4.1⟩
  ·rw [if_pos rfl,Bool.and_eq_true] at h4
   exact ⟨fun _=>h4,fun e=>(by cases e)⟩
 unfold kindB at h3
 split at h3
 ·next hk=>
  rw [Bool.and_eq_true,decide_eq_true_eq] at h3
  exact ⟨.inl hk,by omega,fun _=>text_none h3.2,fun _=>h3.1,ht⟩
 ·next hk=>
  split at h3
  ·next hk2=>
   unfold savingB at h3;simp only [Bool.and_eq_true,decide_eq_true_eq] at h3
   exact ⟨.inr (.inl hk2),h3.1,fun _=>text_none h3.2,fun e=>(by omega),ht⟩
  ·split at h3
   ·next hk3=>
    rw [Bool.and_eq_true,decide_eq_true_eq] at h3
    exact ⟨.inr (.inr hk3),by omega,fun e=>absurd hk3 e,fun _=>h3.1,ht⟩
   ·cases h3
theorem svF_bd {s:Src} (h:srcB s=true) (x:Era): -43200<=svF s x/\svF s x<=43200:=by
 have hr:rulesB (setOf s.rules x)=true:=by
  unfold setOf
  split
  ·exact src_right h _
  ·rfl
 exact ahead_save hr (endT x)
theorem endP_bd {s:Src} (h:srcB s=true) {x:Era} (hx:eraB x=true): -8999999999999<=endP (svF s) x/\endP (svF s) x<=8999999999999:=by
 obtain ⟨⟨o1,o2⟩,_,_,⟨s1,s2⟩,_⟩:=era_parts hx;obtain ⟨v1,v2⟩:=svF_bd h x
 have ht: -8900000000000<=endT x/\endT x<=8900000000000:=by
  unfold endT localO
  cases ho:onO x.spot x.year with
  |none=>simp
  |some n=>
   obtain ⟨⟨h1,h2⟩,h3,_⟩:=onO_bd ho;obtain ⟨_,_,_,_,h5,h6,_⟩:=h3;simp only [Option.map_some,Option.getD_some];omega
 have hsv: -43200<=savI x (svF s x)/\savI x (svF s x)<=43200:=by
  unfold savI
  split<;>omega
 have ha: -8900000086400<=endA x/\endA x<=8900000086400:=by
  unfold endA
  split
  ·omega
  ·unfold wrap64;omega
 unfold endP
 split
 ·unfold endI
  split
  ·unfold wrap64;omega
  ·omega
 ·omega
theorem era_w {s:Src} (h:checkB s=noFlaw) {z:ZoneM} (hz:z∈s.zones) {x:Era} (hx:x∈z.eras):EraW s x:=by
 have hs:=(clean_parts h).1;have hb:=(zone_w h hz).era x hx;obtain ⟨h1,h2,h3,h4,_⟩:=era_parts hb;have he:=endP_bd hs hb
 exact ⟨h3,h1,h4,by omega,src_right hs _,(set_ok h _).1,by omega⟩
theorem lastY_fold_mono:∀ (l:List Rule) {a b:Int},a<=b->l.foldl lastY1 a<=l.foldl lastY1 b
 |[],_,_,h=>h
 |r :: l,a,b,h=>by
  rw [List.foldl_cons,List.foldl_cons]
  refine lastY_fold_mono l ?_
  unfold lastY1
  split<;>omega
theorem lastY_fold_ge:∀ (l:List Rule) (a:Int),a<=l.foldl lastY1 a
 |[],_=>Int.le_refl _
 |r :: l,a=>by
  rw [List.foldl_cons]
  refine Int.le_trans ?_ (lastY_fold_ge l _)
  unfold lastY1
  split<;>omega
theorem lastY_fold_le:∀ (l:List Rule) (a b:Int),a<=b->(∀ r∈l,r.lo<=b/\(r.hi=1000000\/r.hi<=b))->l.foldl lastY1 a<=b
 |[],_,_,h,_=>h
 |r :: l,a,b,h,hr=>by
  rw [List.foldl_cons]
  refine lastY_fold_le l _ b ?_ (fun q hq=>hr q (by simp [hq]))
  have:=hr r (by simp)
  unfold lastY1
  split<;>omega
theorem lastZ_ge (rs:List Rule):∀ (es:List Era) (y:Int),1<=y->y<=es.foldl (lastE rs) y/\∀ x∈es,lastY (setL rs x.rules)<=es.foldl (lastE rs) y/\x.year<=es.foldl (lastE rs) y
 |[],y,_=>⟨Int.le_refl _,by simp⟩
 |x :: es,y,h=>by
  rw [List.foldl_cons];have h1:max y x.year<=lastE rs y x:=lastY_fold_ge _ _
  have h2:lastY (setL rs x.rules)<=lastE rs y x:=lastY_fold_mono _ (by omega)
  obtain ⟨g1,g2⟩:=lastZ_ge rs es (lastE rs y x) (by omega)
  refine ⟨by omega,fun u hu=>?_⟩
  rcases List.mem_cons.1 hu with rfl|hu
  ·exact ⟨by omega,by omega⟩
  ·exact g2 u hu
theorem lastZ_le (rs:List Rule) (hr:∀ r∈rs,r.lo<=9999/\(r.hi=1000000\/r.hi<=9999)):∀ (es:List Era) (y:Int),y<=9999->(∀ x∈es,x.year<=9999)->es.foldl (lastE rs) y<=9999
 |[],_,h,_=>h
 |x :: es,y,h,hx=>by
  rw [List.foldl_cons]
  refine lastZ_le rs hr es _ ?_ (fun u hu=>hx u (by simp [hu]))
  have:=hx x (by simp)
  exact lastY_fold_le _ _ _ (by omega) (fun r hm=>hr r (setL_mem.1 hm).1)
theorem zone_year {s:Src} (h:checkB s=noFlaw) {z:ZoneM} (hz:z∈s.zones):2037<=lastZ s.rules z.eras/\lastZ s.rules z.eras<=9999:=by
 have hs:=(clean_parts h).1
 refine ⟨(lastZ_ge _ _ _ (by omega)).1,lastZ_le _ (fun r hr=>?_) _ _ (by omega) fun x hx=>?_⟩
 ·have hp:ruleP r:=of_decide_eq_true (ruleR_parts (src_rules hs r hr)).2
  obtain ⟨⟨_,p1⟩,p2,_⟩:=hp
  refine ⟨p1,?_⟩
  rcases p2 with p2|p2
  ·exact .inr p2.2
  ·exact .inl p2
 ·obtain ⟨_,_,_,_,_,_,h1,h2⟩:=era_parts ((zone_w h hz).era x hx)
  cases ht:x.till
  ·have:=h2 ht;omega
  ·have:=(h1 ht).1
   unfold yearB at this;simp only [Bool.and_eq_true,decide_eq_true_eq] at this;exact this.2
theorem era_ok {s:Src} (h:checkB s=noFlaw) {z:ZoneM} (hz:z∈s.zones) {x:Era} (hx:x∈z.eras):EraOk s.rules (lastZ s.rules z.eras) x:=by
 have hs:=(clean_parts h).1;obtain ⟨h1,_,h3,_,h5,_⟩:=era_parts ((zone_w h hz).era x hx)
 exact ⟨h3,h1,fun hk=>by rw [h5 hk];exact set_none hs,src_right hs _,(set_ok h _).1,set_far h _,((lastZ_ge s.rules z.eras 2037 (by omega)).2 x hx).1⟩
theorem ends_of {sv:Era->Int}:∀ (es:List Era) (a:Int),0<es.length->(∀ k x,es[k]?=some x->x.till=decide (k+1<es.length))->(∀ k x y,es[k]?=some x->es[k+1]?=some y->y.till=true->endP sv x<endP sv y)->
  (∀ x,es[0]?=some x->x.till=true->a<endP sv x)->EndsOk sv a es
 |[],_,h,_,_,_=>by simp at h
 |[x],a,_,h1,_,_=>by
  have:=h1 0 x rfl
  simpa [EndsOk] using this
 |x :: y :: es,a,_,h1,h2,h3=>by
  have ht:x.till=true:=by
   have:=h1 0 x rfl
   simpa using this
  refine ⟨ht,h3 x rfl ht,ends_of (y :: es) _ (by simp) (fun k u hu=>?_) (fun k u v hu hv=>h2 (k+1) u v hu hv) fun u hu hut=>?_⟩
  ·have:=h1 (k+1) u hu
   rw [this]
   exact decide_eq_decide.2 (by simp only [List.length_cons];omega)
  ·exact h2 0 x u rfl hu hut
theorem ends_ok {s:Src} (h:checkB s=noFlaw) {z:ZoneM} (hz:z∈s.zones):EndsOk (svF s) everT z.eras:=by
 have hw:=zone_w h hz;have hs:=(clean_parts h).1
 refine ends_of _ _ hw.ne hw.till (fun k x y hx hy hyt=>?_) fun x hx hxt=>?_
 ·have he:=hw.err (k+1) y hy
  have hxt:x.till=true:=by
   rw [hw.till k x hx,decide_eq_true_eq]
   exact (List.getElem?_eq_some_iff.1 hy).1
  unfold eraE at he;simp only [prevP,hx] at he
  split at he
  ·omega
  ·split at he
   ·omega
   ·split at he
    ·omega
    ·split at he
     ·omega
     ·next hn=>
      rcases Int.lt_or_le (endP (svF s) x) (endP (svF s) y) with h1|h1
      ·exact h1
      ·exact absurd ⟨hxt,hyt,h1⟩ hn
 ·have:=endP_bd hs (hw.era x (List.mem_of_getElem? hx))
  unfold everT;omega
end Cmq
end
end
section
section
namespace Cmq
open Go.RowKit Mem Civ Mom Img Plc Rul Ahd Trn Src Snd Att Rgt Abr
def wgt (lo hi n:Int):Int:=10*(max 0 (min (n - lo) (hi+1 - lo)))+2*max 0 (n - hi - 1)
theorem wgt_step {lo hi:Int} (h:lo<=hi) (n:Int):wgt lo hi (n+1)=wgt lo hi n+(if n<lo then 0 else if n<=hi then 10 else 2):=by
 unfold wgt
 split
 ·omega
 ·split<;>omega
theorem wgt_three {lo hi:Int} (h:lo<=hi) (n:Int):wgt lo hi (n+2)<=wgt lo hi (n - 1)+30:=by
 unfold wgt;omega
theorem fm_len {α β:Type} {f:α->Option β} {q:α->Bool}:∀ {l:List α},(∀ a∈l,(f a).isSome=true->q a=true)->(l.filterMap f).length<=(l.filter q).length
 |[],_=>by simp
 |a :: l,h=>by
  have ih:=fm_len (l:=l) (fun b hb=>h b (by simp [hb]))
  cases hf:f a with
  |none=>
   rw [List.filterMap_cons_none hf,List.filter_cons]
   split
   ·simp only [List.length_cons];omega
   ·exact ih
  |some b=>
   rw [List.filterMap_cons_some hf,List.filter_cons,if_pos (h a (by simp) (by rw [hf];rfl))]
   simp only [List.length_cons];omega
theorem nodup_len:∀ (l m:List Int),l.Nodup->(∀ a∈l,a∈m)->l.length<=m.length
 |[],_,_,_=>Nat.zero_le _
 |a :: l,m,hn,hs=>by
  have h0:=List.nodup_cons.1 hn
  have h1:=nodup_len l (m.erase a) h0.2 (fun b hb=>(List.mem_erase_of_ne (fun e=>h0.1 (by rw [<-e];exact hb))).2 (hs b (by simp [hb])))
  have hm:=hs a (by simp)
  have h2:=List.length_erase_of_mem hm;have h3:=List.length_pos_of_mem hm;simp only [List.length_cons];omega
structure Few (lo hi:Int) (S:List Rule):Prop where
 right:rulesB S=true
 crowd:crowdB S=false
 ever:everN S<=2
 yrs:∀ r∈S,lo<=r.lo/\(r.hi=1000000\/r.hi<=hi)
theorem turnL_in {r:Rule} {y:Int} (h:(turnL y r).isSome=true):r.lo<=y/\y<=r.hi:=by
 unfold turnL turnO at h
 split at h
 ·next h2=>
  simp only [Bool.and_eq_true,decide_eq_true_eq] at h2;exact h2.2
 ·cases h
theorem raw_len {lo hi:Int} {S:List Rule} (h:Few lo hi S) (y:Int):((rawT S y).length:Int)<=if y<lo then 0 else if y<=hi then 10 else 2:=by
 split
 ·next hy=>
  have:=fm_len (f:=turnL y) (q:=fun _=>false) (l:=S) (fun r hr hs=>by
   have h1:=turnL_in hs;have h2:=(h.yrs r hr).1
   omega)
  unfold rawT
  rw [List.filter_eq_nil_iff.2 (by simp),List.length_nil] at this
  omega
 ·split
  ·have h1:=fm_len (f:=turnL y) (q:=fun r=>forceB r y) (l:=S) (fun r hr hs=>decide_eq_true (turnL_in hs))
   have hc:=h.crowd;unfold crowdB at hc;rw [h.right,Bool.true_and] at hc;have h2:=force_le hc y;unfold rawT;omega
  ·next h1 h2=>
   have h3:=fm_len (f:=turnL y) (q:=fun r=>decide (r.hi=1000000)) (l:=S) (fun r hr hs=>by
    have h4:=turnL_in hs
    rcases (h.yrs r hr).2 with h5|h5
    ·exact decide_eq_true h5
    ·omega)
   have h6:=h.ever;unfold everN at h6;unfold rawT;omega
theorem years_len {lo hi:Int} {S:List Rule} (hlh:lo<=hi) (h:Few lo hi S) (off A:Int):∀ n:Nat,(((List.range n).flatMap fun i=>(rawT S (A+(i:Nat))).map (uniT S off)).length:Int)<=wgt lo hi (A+n) - wgt lo hi A
 |0=>by simp
 |n+1=>by
  have ih:=years_len hlh h off A n;have h1:=raw_len h (A+n);have h2:=wgt_step hlh (A+n);rw [List.range_succ,List.flatMap_append,List.length_append];simp only [List.flatMap_cons,List.flatMap_nil,List.append_nil,List.length_map]
  rw [show A+((n+1:Nat):Int)=A+n+1 from by omega,h2]
  omega
theorem yearD_mono {a b:Int} (h:a<=b):yearD a<=yearD b:=by
 have h1:=year_in a;have h2:=year_in b
 by_cases hc:yearD a<=yearD b
 ·exact hc
 ·have:=jan_mono (a:=yearD b+1) (b:=yearD a) (by omega)
  omega
theorem uni_near {S:List Rule} {off:Int} (hr:rulesB S=true) (h1: -86400<off) (h2:off<86400) {r:Rule} (hm:r∈S) {y:Int} {t:Turn} (ht:turnL y r=some t):(janI y - 15)*86400<uniT S off t/\uniT S off t<(janI y+381)*86400:=by
 obtain ⟨a,e,ha⟩:=uni_bd hr h1 h2 ⟨r,hm,y,ht⟩;have:=local_near (turnL_at ht).1;omega
theorem win_len {lo hi:Int} {S:List Rule} (hlh:lo<=hi) (h:Few lo hi S) {off:Int} (h1: -86400<off) (h2:off<86400) {W:List TurnU} (hp:W.Pairwise fun u v=>u.at_<v.at_) {a b:Int} (hab:a<=b)
  (hW:∀ u∈W,a<u.at_/\u.at_<b/\∃ t,Gt S t/\u.at_=uniT S off t):(W.length:Int)<=wgt lo hi (yearD (b / 86400) - 1) - wgt lo hi (yearD (a / 86400) - 1)+30:=by
 have ha:=year_in (a / 86400);have hb:=year_in (b / 86400)
 have hm:=yearD_mono (a:=a / 86400) (b:=b / 86400) (by omega)
 have h3:=wgt_three hlh (yearD (b / 86400));have hy:=years_len hlh h off (yearD (a / 86400) - 1) (yearD (b / 86400)+2 - (yearD (a / 86400) - 1)).toNat
 rw [show yearD (a / 86400) - 1+((yearD (b / 86400)+2 - (yearD (a / 86400) - 1)).toNat:Int)=yearD (b / 86400)+2 from by omega] at hy
 have hn:(W.map (·.at_)).Nodup:=by
  rw [List.nodup_iff_pairwise_ne,List.pairwise_map]
  exact hp.imp fun h=>by omega
 have hs:=nodup_len (W.map (·.at_)) ((List.range (yearD (b / 86400)+2 - (yearD (a / 86400) - 1)).toNat).flatMap fun i=>(rawT S (yearD (a / 86400) - 1+(i:Nat))).map (uniT S off)) hn (fun v hv=>by
  obtain ⟨u,hu,rfl⟩:=List.mem_map.1 hv;obtain ⟨u1,u2,t,⟨r,hr,y,hy⟩,e⟩:=hW u hu;have hq:=uni_near h.right h1 h2 hr hy;rw [<-e] at hq
  have hlo:yearD (a / 86400) - 1<=y:=by
   by_cases hc:yearD (a / 86400) - 1<=y
   ·exact hc
   ·have g1:=jan_mono (a:=y+2) (b:=yearD (a / 86400)) (by omega)
    have g2:=jan_mono (a:=y) (b:=y+2) (by omega)
    omega
  have hhi:y<=yearD (b / 86400)+1:=by
   by_cases hc:y<=yearD (b / 86400)+1
   ·exact hc
   ·have g1:=jan_mono (a:=yearD (b / 86400)+2) (b:=y) (by omega)
    have g2:=jan_mono (a:=yearD (b / 86400)+1) (b:=yearD (b / 86400)+2) (by omega)
    omega
  refine List.mem_flatMap.2 ⟨(y - (yearD (a / 86400) - 1)).toNat,List.mem_range.2 (by omega),List.mem_map.2 ⟨t,?_,e.symm⟩⟩
  rw [show yearD (a / 86400) - 1+((y - (yearD (a / 86400) - 1)).toNat:Int)=y from by omega]
  exact rawT_mem.2 ⟨r,hr,hy⟩)
 rw [List.length_map] at hs;omega
theorem turns_from {rs:List Rule} {year:Int} {x:Era} (he:EraOk rs year x) (hy1:1<=year) (hy2:year<=10000) {u:TurnU} (hu:u∈turnsE rs year x):∃ t,Gt (setL rs x.rules) t/\u.at_=uniT (setL rs x.rules) x.off t:=by
 obtain ⟨l,l1,_,l3⟩:=turns_list (last:=year+3) he.right he.crowd he.far he.off.1 he.off.2 (by have:=he.last;omega) (by omega)
 unfold turnsE at hu;rw [l1] at hu;obtain ⟨t,ht,rfl⟩:=List.mem_map.1 hu;exact ⟨t,((l3 t).1 ht).1,rfl⟩
theorem cnt_le {rs:List Rule} {sv:Era->Int} {year lo hi:Int} (hy1:1<=year) (hy2:year<=10000) (hlh:lo<=hi):∀ (es:List Era) (a:Int),a<=untilZ year->EndsOk sv a es->(∀ x∈es,EraOk rs year x/\Few lo hi (setL rs x.rules)/\endP sv x<=untilZ year)->
  (cntE rs sv year a es:Int)<=31*(es.length:Int)+(wgt lo hi (yearD (untilZ year / 86400) - 1) - wgt lo hi (yearD (a / 86400) - 1))
 |[],_,_,hE,_=>hE.elim
 |[x],a,ha,hE,hx=>by
  obtain ⟨he,hf,_⟩:=hx x (by simp)
  have hw:=win_len hlh hf he.off.1 he.off.2 (W:=((turnsE rs year x).filter (inE x a (endP sv x))).filter fun u=>decide (u.at_<untilZ year)) ((turns_rise he hy1 hy2).sublist (List.filter_sublist.trans List.filter_sublist)) ha (fun u hu=>by
   obtain ⟨h1,h2⟩:=List.mem_filter.1 hu;obtain ⟨h3,h4⟩:=List.mem_filter.1 h1;unfold inE at h4;rw [decide_eq_true_eq] at h2 h4
   exact ⟨h4.1,h2,turns_from he hy1 hy2 h3⟩)
  simp only [cntE,List.length_cons,List.length_nil];omega
 |x :: y :: es,a,ha,hE,hx=>by
  obtain ⟨he,hf,hend⟩:=hx x (by simp)
  obtain ⟨ht,hab,hE2⟩:=hE;have ih:=cnt_le hy1 hy2 hlh (y :: es) (endP sv x) hend hE2 fun u hu=>hx u (List.mem_cons_of_mem _ hu)
  have hw:=win_len hlh hf he.off.1 he.off.2 (W:=((turnsE rs year x).filter (inE x a (endP sv x))).filter fun u=>decide (u.at_<untilZ year)) ((turns_rise he hy1 hy2).sublist (List.filter_sublist.trans List.filter_sublist)) (Int.le_of_lt hab) (fun u hu=>by
   obtain ⟨h1,_⟩:=List.mem_filter.1 hu;obtain ⟨h3,h4⟩:=List.mem_filter.1 h1;unfold inE at h4;rw [decide_eq_true_eq] at h4
   refine ⟨h4.1,?_,turns_from he hy1 hy2 h3⟩
   rcases Int.lt_or_le u.at_ (endP sv x) with h5|h5
   ·exact h5
   ·exact absurd ⟨ht,h5⟩ h4.2)
  have e:cntE rs sv year a (x :: y :: es)=1+(((turnsE rs year x).filter (inE x a (endP sv x))).filter fun u=>decide (u.at_<untilZ year)).length+cntE rs sv year (endP sv x) (y :: es):=rfl;rw [e];simp only [List.length_cons] at ih ⊢;omega
theorem end_early {s:Src} (h:checkB s=noFlaw) {z:ZoneM} (hz:z∈s.zones) {x:Era} (hx:x∈z.eras):endP (svF s) x<janI (lastZ s.rules z.eras+2)*86400:=by
 have hs:=(clean_parts h).1;have hb:=(zone_w h hz).era x hx;have hy:=zone_year h hz
 have hxy:=((lastZ_ge s.rules z.eras 2037 (by omega)).2 x hx).2
 have hxy2:x.year<=lastZ s.rules z.eras:=hxy;obtain ⟨⟨o1,o2⟩,_,_,⟨s1,s2⟩,_⟩:=era_parts hb;obtain ⟨v1,v2⟩:=svF_bd hs x
 have hj:=jan_mono (a:=2039) (b:=lastZ s.rules z.eras+2) (by omega)
 have h39:janI 2039=25202:=by decide
 have h40:=jan_mono (a:=lastZ s.rules z.eras+2) (b:=10001) (by omega)
 have h41:janI 10001=2933263:=by decide
 have ht: -8900000000000<=endT x/\endT x<(janI (lastZ s.rules z.eras+2) - 349)*86400:=by
  unfold endT
  cases ho:localO x.spot x.year with
  |none=>simp only [Option.getD_none];omega
  |some n=>
   have hn:=local_near ho;obtain ⟨_,hx1,_,_⟩:=local_form ho;have g0:=jan_mono (a:=1) (b:=x.year) hx1
   have g00:janI 1= -719162:=by decide
   have g1:=jan_mono (a:=x.year+2) (b:=lastZ s.rules z.eras+2) (by omega)
   have g2:=jan_mono (a:=x.year) (b:=x.year+2) (by omega)
   simp only [Option.getD_some];omega
 have hsv: -43200<=savI x (svF s x)/\savI x (svF s x)<=43200:=by
  unfold savI
  split<;>omega
 have ha: -8900000086400<=endA x/\endA x<(janI (lastZ s.rules z.eras+2) - 347)*86400:=by
  unfold endA
  split
  ·omega
  ·unfold wrap64;omega
 unfold endP
 split
 ·unfold endI
  split
  ·unfold wrap64;omega
  ·omega
 ·omega
def YrsP (rs:List Rule):Prop:=∃ lo hi:Int,(lo<=hi/\0<=hi/\hi - lo<=600)/\∀ r∈rs,lo<=r.lo/\(r.hi=1000000\/r.hi<=hi)
theorem cnt_ok {s:Src} (h:checkB s=noFlaw) {z:ZoneM} (hz:z∈s.zones) (hy:YrsP s.rules):cntE s.rules (svF s) (lastZ s.rules z.eras) everT z.eras<=29999:=by
 obtain ⟨lo,hi,⟨h1,h2,h3⟩,h4⟩:=hy;have hyr:=zone_year h hz;have hw:=zone_w h hz
 have hu:=until_is (year:=lastZ s.rules z.eras) (by omega) (by omega)
 have hj3:=jan_mono (a:=lastZ s.rules z.eras+2) (b:=lastZ s.rules z.eras+3) (by omega)
 have hj1:=jan_mono (a:=2040) (b:=lastZ s.rules z.eras+3) (by omega)
 have h40:janI 2040=25567:=by decide
 have hc:=cnt_le (rs:=s.rules) (sv:=svF s) (year:=lastZ s.rules z.eras) (by omega) (by omega) h1 z.eras everT (by rw [hu];unfold everT;omega) (ends_ok h hz) (fun x hx=>⟨era_ok h hz hx,⟨src_right (clean_parts h).1 _,(set_ok h _).1,(set_ok h _).2.2,fun r hr=>h4 r (setL_mem.1 hr).1⟩,by
  have:=end_early h hz hx;rw [hu]
  omega⟩)
 have hyd:yearD (untilZ (lastZ s.rules z.eras) / 86400)<=lastZ s.rules z.eras+3:=by
  rw [hu]
  have e:janI (lastZ s.rules z.eras+3)*86400 / 86400=janI (lastZ s.rules z.eras+3):=by omega
  rw [e];have hi1:=(year_in (janI (lastZ s.rules z.eras+3))).1
  by_cases hc:yearD (janI (lastZ s.rules z.eras+3))<=lastZ s.rules z.eras+3
  ·exact hc
  ·have:=jan_mono (a:=lastZ s.rules z.eras+3) (b:=yearD (janI (lastZ s.rules z.eras+3))) (by omega)
   omega
 have hle:=hw.le
 have g1:0<=wgt lo hi (yearD (everT / 86400) - 1):=by unfold wgt;omega
 have g2:wgt lo hi (yearD (untilZ (lastZ s.rules z.eras) / 86400) - 1)<=6010+2*10002:=by unfold wgt;omega
 omega
end Cmq
end
end
section
section
namespace Cmq
open Go.RowKit Mem Civ Mom Img Plc Rul Ahd Trn Src Snd Att Rgt Abr
def InR (rs:List Rule):Prop:=∀ r∈rs,(1<=r.lo/\r.lo<=9999)/\(r.hi=1000000\/r.hi<=9999)
theorem in_clean {s:Src} (h:checkB s=noFlaw):InR s.rules:=fun r hr=>by
 have h1:=src_rules (clean_parts h).1 r hr;unfold ruleR yearB at h1;simp only [Bool.and_eq_true,Bool.or_eq_true,decide_eq_true_eq] at h1
 exact ⟨h1.2.1,by omega⟩
structure InvY (rs:List Rule) (k:Nat) (lo hi:Int):Prop where
 blo:0<=lo/\lo<=10000
 bhi:0<=hi/\hi<=9999
 all:∀ (j:Nat) (r:Rule),j<k->rs[j]?=some r->lo<=r.lo/\r.lo<=hi/\(r.hi=1000000\/r.hi<=hi)
theorem InvY.zero (rs:List Rule):InvY rs 0 10000 0:=⟨by omega,by omega,fun _ _ h=>by omega⟩
theorem InvY.step {rs:List Rule} {k:Nat} {lo hi:Int} (h:InvY rs k lo hi) (hin:InR rs) (hk:k<rs.length) (lo' hi':Int) (h1:lo'<=lo/\lo'<=(rs[k]'hk).lo) (h2:lo'=lo\/lo'=(rs[k]'hk).lo) (h3:hi<=hi'/\(rs[k]'hk).lo<=hi') (h4:(rs[k]'hk).hi<10000->(rs[k]'hk).hi<=hi') (h5:hi'=hi\/hi'=(rs[k]'hk).lo\/((rs[k]'hk).hi<10000/\hi'=(rs[k]'hk).hi)):InvY rs (k+1) lo' hi':=by
 have ⟨a1,a2⟩:=h.blo;have ⟨b1,b2⟩:=h.bhi;have ⟨⟨c1,c2⟩,c3⟩:=hin _ (List.getElem_mem hk)
 refine ⟨by omega,by omega,fun j r hj hr=>?_⟩
 rcases Nat.lt_or_ge j k with hjk|hjk
 ·obtain ⟨d1,d2,d3⟩:=h.all j r hjk hr
  exact ⟨by omega,by omega,by omega⟩
 ·obtain rfl:j=k:=by omega
  rw [List.getElem?_eq_getElem hk] at hr
  injection hr with hr
  subst hr
  exact ⟨by omega,by omega,by omega⟩
theorem InvY.fin {rs:List Rule} {lo hi:Int} (h:InvY rs rs.length lo hi) (hb:hi<lo\/(1<=lo/\hi - lo<=600)):YrsP rs:=by
 have hall:∀ r∈rs,lo<=r.lo/\r.lo<=hi/\(r.hi=1000000\/r.hi<=hi):=fun r hr=>by
  obtain ⟨k,hk,e⟩:=List.mem_iff_getElem.1 hr
  exact h.all k r hk (by rw [List.getElem?_eq_getElem hk,e])
 rcases Int.lt_or_le hi lo with hl|hl
 ·refine ⟨0,0,by omega,fun r hr=>?_⟩
  have:=hall r hr;omega
 ·exact ⟨lo,hi,⟨hl,h.bhi.1,by omega⟩,fun r hr=>⟨(hall r hr).1,(hall r hr).2.2⟩⟩
theorem light_in (s:Src) (A A2 A3:Option Addr) (c c2 c3:Nat) (w:World) (h:SrcOk s A A2 A3 w) (hin:InR s.rules):
  Calls prog 31 #[.agg #[.slice A s.rules.length c,.slice A2 s.zones.length c2,.slice A3 s.links.length c3]] w fun e w'=>∃ b,e= .returned (.bool b)/\(b=true->YrsP s.rules)/\Below w.heap.size w w':=by
 have hrr:=h.rr;have hrz:=h.rz;have nr:=h.nr;have nz:=h.nz;have nl:=h.nl;have ne:=h.ne;clear h;obtain ⟨rs,zs,ls⟩:=s;simp only at hrr hrz nr nz nl ne hin ⊢;have hone:=One.new w 26 #[.slice A rs.length c,.slice A2 zs.length c2,.slice A3 ls.length c3];obtain ⟨W,hW⟩:∃ W,w.alloc (.cells #[.slice A rs.length c,.slice A2 zs.length c2,.slice A3 ls.length c3] 26)=W:=⟨_,rfl⟩;rw [hW] at hone;have HO:=hid hone;have HR:=hid (hrr.below hone.2);have HZ:=hid (hrz.below hone.2);have HE:=hid ne;have HIn:=hid hin;have c0:=hone.1.cell;clear hone hrr hrz ne hin;go_enter func31,ntmps31
 by_cases h1:rs.length<=60
 rotate_left
 ·have h1b:decide ((60:Int)<(rs.length:Nat))=true:=decide_eq_true (by omega)
  go_wp2_with fail
  go_ret
  exact ⟨false,rfl,by simp,HO.out.2⟩
 have h1b:decide ((60:Int)<(rs.length:Nat))=false:=decide_eq_false (by omega)
 by_cases h2:zs.length<=60
 rotate_left
 ·have h2b:decide ((60:Int)<(zs.length:Nat))=true:=decide_eq_true (by omega)
  go_wp2_with fail
  go_ret
  exact ⟨false,rfl,by simp,HO.out.2⟩
 have h2b:decide ((60:Int)<(zs.length:Nat))=false:=decide_eq_false (by omega)
 by_cases h3:ls.length<=200
 rotate_left
 ·have h3b:decide ((200:Int)<(ls.length:Nat))=true:=decide_eq_true (by omega)
  go_wp2_with fail
  go_ret
  exact ⟨false,rfl,by simp,HO.out.2⟩
 have h3b:decide ((200:Int)<(ls.length:Nat))=false:=decide_eq_false (by omega)
 go_wp2_with fail
 go_loopw [3,4,5] (fun l g i wr=>∃ (k:Nat) (lo hi:Int),k<=rs.length/\l= .int .i64 lo/\g= .int .i64 hi/\i= .int .i64 k/\wr=W/\InvY rs k lo hi) (fun _ _ i _=>rs.length - (intOf i).toNat)
 case atStart=>exact ⟨0,10000,0,Nat.zero_le _,rfl,rfl,rfl,rfl,InvY.zero rs⟩
 case round=>
  obtain ⟨k,lo,hi,hk,rfl,rfl,rfl,rfl,hinv⟩:=hrel;have HInv:=hid hinv;clear hinv
  by_cases hkn:k<rs.length
  ·obtain ⟨ad,hA,hadb,a0,a1,a2,a3,a4,a5,a6,a7,a8,a9,a10⟩:=rule_cells HR.out hkn
   subst hA;have hst:=HInv.out.step HIn.out hkn;generalize (rs[k]'hkn)=r at*;have HSt:=hid hst;clear hst
   cases hd:decide (r.hi<10000)
   all_goals go_wp2_with fail
   ·exact ⟨⟨k+1,_,_,by omega,rfl,rfl,by go_num,trivial,HSt.out _ _ (by omega) (by omega) (by omega) (by have:=of_decide_eq_false hd;omega) (by omega)⟩,by simp [intOf];omega⟩
   ·exact ⟨⟨k+1,_,_,by omega,rfl,rfl,by go_num,trivial,HSt.out _ _ (by omega) (by omega) (by omega) (by omega) (by have:=of_decide_eq_true hd;omega)⟩,by simp [intOf];omega⟩
  ·obtain rfl:k=rs.length:=by omega
   have hfin:=HInv.out.fin;have hlo:=HInv.out.blo;have hhi:=HInv.out.bhi;have HFin:=hid hfin;clear hfin
   go_wp2_with fail
   go_loopw [6,7] (fun n i wz=>∃ (k m:Nat),k<=zs.length/\m<=k*60/\n= .int .i64 m/\i= .int .i64 k/\wz=wr) (fun _ i _=>zs.length - (intOf i).toNat)
   case atStart=>exact ⟨0,0,Nat.zero_le _,Nat.zero_le _,rfl,rfl,rfl⟩
   case round=>
    obtain ⟨j,m,hj,hm,rfl,rfl,rfl⟩:=hrel
    by_cases hjn:j<zs.length
    ·obtain ⟨ad,hA,hadb,a0,a1⟩:=zone_cells HZ.out hjn rfl
     subst hA;obtain ⟨z,hz⟩:∃ z,z=zs[j]:=⟨_,rfl⟩;rw [<-hz] at a0 a1;clear hz
     by_cases h4:z.eras.length<=60
     ·have h4b:decide ((60:Int)<(z.eras.length:Nat))=false:=decide_eq_false (by omega)
      go_wp2_with fail
      exact ⟨⟨j+1,m+z.eras.length,by omega,by omega,by go_num,by go_num,trivial⟩,by simp [intOf];omega⟩
     ·have h4b:decide ((60:Int)<(z.eras.length:Nat))=true:=decide_eq_true (by omega)
      go_wp2_with fail
      go_ret
      exact ⟨false,rfl,by simp,HO.out.2⟩
    ·obtain rfl:j=zs.length:=by omega
     have hwr:wrap64 (hi - lo)=hi - lo:=by unfold wrap64;omega
     cases h5:decide (((m:Nat):Int)<=300)<;>cases h6:decide (hi<lo)<;>cases h7:decide (1<=lo)<;>cases h8:decide (hi - lo<=600)
     all_goals go_wp2_with fail
     all_goals go_ret
     all_goals exact ⟨_,rfl,fun hb=>HFin.out (by first|exact .inl (of_decide_eq_true h6)|exact .inr ⟨of_decide_eq_true h7,of_decide_eq_true h8⟩|cases hb|simp at hb),HO.out.2⟩
theorem light_yrs (s:Src) (A A2 A3:Option Addr) (c c2 c3:Nat) (w:World) (h:SrcOk s A A2 A3 w):
  Calls prog 31 #[.agg #[.slice A s.rules.length c,.slice A2 s.zones.length c2,.slice A3 s.links.length c3]] w fun e w'=>∃ b,e= .returned (.bool b)/\(b=true->checkB s=noFlaw->YrsP s.rules)/\Below w.heap.size w w':=by
 by_cases hck:checkB s=noFlaw
 ·refine (light_in s A A2 A3 c c2 c3 w h (in_clean hck)).mono ?_
  rintro e w' ⟨b,he,hb,hw⟩;exact ⟨b,he,fun h _=>hb h,hw⟩
 ·refine (light_any s A A2 A3 c c2 c3 w h).mono ?_
  rintro e w' ⟨b,he,hb,hw⟩;exact ⟨b,he,fun _ h=>absurd h hck,hw⟩
end Cmq
end
end
end Go.Proofs.YtadamccojdocbaaGreatDoor
