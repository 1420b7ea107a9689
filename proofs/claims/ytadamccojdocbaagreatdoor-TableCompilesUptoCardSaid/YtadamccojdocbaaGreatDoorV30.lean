/-
  Contracts of the code that the law reaches, and plain laws. Conditions: as each says.
-/
import Derived.Test.YtadamccojdocbaaGreatDoorV29
import Derived.Test.YtadamccojdocbaaGreatDoorV25
set_option linter.all false
set_option maxHeartbeats 40000000
set_option maxRecDepth 100000
namespace Go.Proofs.YtadamccojdocbaaGreatDoor
open Lib (hid)
open Tryz
section
section
namespace Cmq
open Go.RowKit Mem Civ Mom Img Plc Rul Ahd Trn Src Snd Att Rgt Abr
theorem comp14_results {w:World} {R0:Nat} {a0 a1 a2 a3 a4 a5 a6 a7 a8:Value} {n:Int} (h:Blk w R0 33 #[a0,a1,a2,a3,a4,a5,a6,a7,a8]) (tmps:Array Value) (ht:tmps[4]?=some (.pointer (some ⟨R0,0,none⟩))) (h5:tmps[5]?=some (.int .i64 n)):
  (results Tryz.f13 tmps).run prog w= .ok (.tuple #[.agg #[a0,a1,a2,a3,a4,a5,a6,a7,a8],.int .i64 n]) w:=by
 have hc:=h.cell;simp [results,Tryz.results13,go_sem,hc,ht,h5]
theorem comp14_no (s:Src) (A A2 A3:Option Addr) (c c2 c3:Nat) (i:Int) (w:World) (h:SrcOk s A A2 A3 w) (hno:¬ (checkB s=noFlaw/\0<=i/\i<s.zones.length)):
  Calls prog 13 #[.agg #[.slice A s.rules.length c,.slice A2 s.zones.length c2,.slice A3 s.links.length c3],.int .i64 i] w (CompP noTable 1 w):=by
 have hC:=fun z (hb:Below w.heap.size w z)=>rcheck_any s A A2 A3 c c2 c3 z (h.below hb);clear h;obtain ⟨F,hF⟩:∃ F,checkB s=F:=⟨_,rfl⟩;rw [hF] at hC hno;clear hF;obtain ⟨rs,zs,ls⟩:=s;simp only at hC hno ⊢;have hb2:=box2 w 26 33 #[.slice A rs.length c,.slice A2 zs.length c2,.slice A3 ls.length c3] #[.string ⟨#[]⟩,.int .i64 0,.int .i64 0,.string ⟨#[]⟩,.slice none 0 0,.int .i64 0,.slice none 0 0,.int .i64 0,.string ⟨#[]⟩];obtain ⟨W,hW⟩:∃ W,(w.alloc (.cells #[.slice A rs.length c,.slice A2 zs.length c2,.slice A3 ls.length c3] 26)).alloc (.cells #[.string ⟨#[]⟩,.int .i64 0,.int .i64 0,.string ⟨#[]⟩,.slice none 0 0,.int .i64 0,.slice none 0 0,.int .i64 0,.string ⟨#[]⟩] 33)=W:=⟨_,rfl⟩;rw [hW] at hb2;obtain ⟨b0,b1,hbw,hsz⟩:=hb2;have HB0:=hid b0;have HB1:=hid b1;have HBw:=hid hbw;have c0:=b0.cell
 have hfin:∀ z,Blk z (w.heap.size+1) 33 #[.string ⟨#[]⟩,.int .i64 0,.int .i64 0,.string ⟨#[]⟩,.slice none 0 0,.int .i64 0,.slice none 0 0,.int .i64 0,.string ⟨#[]⟩]->Below w.heap.size w z->CompP noTable 1 w (.returned (.tuple #[.agg (tabV noTable (.slice none 0 0) (.slice none 0 0)),.int .i64 1])) z:=fun z hbz hbl=>
  ⟨_,_,rfl,⟨by simp [noTable],.inl ⟨rfl,rfl⟩⟩,⟨by simp [noTable],.inl ⟨rfl,rfl⟩⟩,hbl⟩
 have HFin:=hid hfin;have heq:=fun z=>eq_flaw F noFlaw z;clear b0 b1 hbw hsz hfin
 by_cases hfl:F=noFlaw
 ·rw [decide_eq_true hfl] at heq
  by_cases hi0:i<0
  ·have hib:decide (i<0)=true:=decide_eq_true hi0
   obtain ⟨f0,f1,f2,f3⟩:=F;simp only [Flaw.cells,noFlaw] at hC heq;have HC:=hid hC;clear hC hno hfl;go_enter func13,ntmps13
   go_wp2_with (go_at_call 44;refine (HC.out _ HBw.out).mono ?_;rintro e w1 ⟨rfl,hb⟩;have hx1:=HB1.out.below hb HB1.out.lt;have d1:=hx1.cell;have g1:=hx1.frozen;have hx0:=HB0.out.below hb HB0.out.lt;have d0:=hx0.cell;have HX1:=hid hx1;have HBx:=hid (HBw.out.trans (hb.mono HBw.out.size));clear hb hx1 hx0 c0)
   refine bodyPost_ret (comp14_results (tab_set HX1.out _ _ _ _ _ _ _ _ _) _ rfl rfl) rfl ?_
   exact HFin.out _ (tab_set HX1.out _ _ _ _ _ _ _ _ _) (tab_bel HBx.out (Nat.le_succ _) _ _ _ _ _ _ _ _ _)
  ·have hib:decide (i<0)=false:=decide_eq_false hi0
   have hil:decide ((zs.length:Int)<=i)=true:=decide_eq_true (by
    by_cases h:(zs.length:Int)<=i
    ·exact h
    ·exact absurd ⟨hfl,by omega,by omega⟩ hno)
   obtain ⟨f0,f1,f2,f3⟩:=F;simp only [Flaw.cells,noFlaw] at hC heq;have HC:=hid hC;clear hC hno hfl;go_enter func13,ntmps13
   go_wp2_with (go_at_call 44;refine (HC.out _ HBw.out).mono ?_;rintro e w1 ⟨rfl,hb⟩;have hx1:=HB1.out.below hb HB1.out.lt;have d1:=hx1.cell;have g1:=hx1.frozen;have hx0:=HB0.out.below hb HB0.out.lt;have d0:=hx0.cell;have HX1:=hid hx1;have HBx:=hid (HBw.out.trans (hb.mono HBw.out.size));clear hb hx1 hx0 c0)
   refine bodyPost_ret (comp14_results (tab_set HX1.out _ _ _ _ _ _ _ _ _) _ rfl rfl) rfl ?_
   exact HFin.out _ (tab_set HX1.out _ _ _ _ _ _ _ _ _) (tab_bel HBx.out (Nat.le_succ _) _ _ _ _ _ _ _ _ _)
 ·rw [decide_eq_false hfl] at heq
  obtain ⟨f0,f1,f2,f3⟩:=F;simp only [Flaw.cells,noFlaw] at hC heq;have HC:=hid hC;clear hC hno hfl;go_enter func13,ntmps13
  go_wp2_with (go_at_call 44;refine (HC.out _ HBw.out).mono ?_;rintro e w1 ⟨rfl,hb⟩;have hx1:=HB1.out.below hb HB1.out.lt;have d1:=hx1.cell;have g1:=hx1.frozen;have hx0:=HB0.out.below hb HB0.out.lt;have d0:=hx0.cell;have HX1:=hid hx1;have HBx:=hid (HBw.out.trans (hb.mono HBw.out.size));clear hb hx1 hx0 c0)
  refine bodyPost_ret (comp14_results (tab_set HX1.out _ _ _ _ _ _ _ _ _) _ rfl rfl) rfl ?_
  exact HFin.out _ (tab_set HX1.out _ _ _ _ _ _ _ _ _) (tab_bel HBx.out (Nat.le_succ _) _ _ _ _ _ _ _ _ _)
end Cmq
end
end
section
section
namespace Cmq
open Go.RowKit Mem Civ Mom Img Plc Rul Ahd Trn Src Snd Att Rgt Abr Sch
def pickD (f:Int->Phase) (till:Int):Option Int->List Int->List Shift
 |_,[]=>[]
 |p,t :: l=>if till<=t\/p=some t\/f t=f (t - 1) then pickD f till (some t) l else ⟨t,f t⟩ :: pickD f till (some t) l
theorem pick_mem {f:Int->Phase} {till:Int}:∀ {l:List Int} {p:Option Int},l.Pairwise (·<=·)->(∀ q,p=some q->∀ t∈l,q<=t)->
  (pickD f till p l).Pairwise (fun a b=>a.sec<b.sec)/\(∀ s,s∈pickD f till p l↔s.sec∈l/\(∀ q,p=some q->q<s.sec)/\s.sec<till/\f s.sec≠f (s.sec - 1)/\s.ph=f s.sec)
 |[],_,_,_=>⟨List.Pairwise.nil,fun s=>by simp [pickD]⟩
 |t :: l,p,hp,hq=>by
  obtain ⟨hp1,hp2⟩:=List.pairwise_cons.1 hp
  obtain ⟨i1,i2⟩:=pick_mem (f:=f) (till:=till) (l:=l) (p:=some t) hp2 (fun q e u hu=>by injection e with e;subst e;exact hp1 u hu)
  have hpt:∀ q,p=some q->q<=t:=fun q e=>hq q e t (by simp)
  rw [pickD]
  split
  ·next hc=>
   refine ⟨i1,fun s=>?_⟩
   rw [i2 s]
   constructor
   ·rintro ⟨h1,h2,h3⟩
    exact ⟨List.mem_cons_of_mem _ h1,fun q e=>by have:=h2 t rfl;have:=hpt q e;omega,h3⟩
   ·rintro ⟨h1,h2,h3,h4,h5⟩
    rcases List.mem_cons.1 h1 with h1|h1
    ·rw [h1] at h3 h4
     rcases hc with hc|hc|hc
     ·omega
     ·have:=h2 t hc;omega
     ·exact absurd hc h4
    ·refine ⟨h1,fun q e=>?_,h3,h4,h5⟩
     injection e with e
     subst e
     rcases Int.lt_or_eq_of_le (hp1 _ h1) with h|h
     ·exact h
     ·rw [<-h] at h3 h4 h2
      rcases hc with hc|hc|hc
      ·omega
      ·have:=h2 t hc;omega
      ·exact absurd hc h4
  ·next hc=>
   have hc1:¬ till<=t:=fun h=>hc (.inl h);have hc2:¬ p=some t:=fun h=>hc (.inr (.inl h));have hc3:¬ f t=f (t - 1):=fun h=>hc (.inr (.inr h))
   refine ⟨List.pairwise_cons.2 ⟨fun s hs=>((i2 s).1 hs).2.1 t rfl,i1⟩,fun s=>?_⟩
   rw [List.mem_cons,i2 s]
   constructor
   ·rintro (rfl|⟨h1,h2,h3⟩)
    ·exact ⟨by simp,fun q e=>by
      have:=hpt q e
      rcases Int.lt_or_eq_of_le this with h|h
      ·exact h
      ·subst h;exact absurd e hc2,by simpa using hc1,hc3,rfl⟩
    ·exact ⟨List.mem_cons_of_mem _ h1,fun q e=>by have:=h2 t rfl;have:=hpt q e;omega,h3⟩
   ·rintro ⟨h1,h2,h3,h4,h5⟩
    rcases List.mem_cons.1 h1 with h1|h1
    ·left
     cases s
     simp only at h1 h5;subst h1 h5
     rfl
    ·rcases Int.lt_or_eq_of_le (hp1 _ h1) with h|h
     ·exact .inr ⟨h1,fun q e=>by injection e with e;omega,h3,h4,h5⟩
     ·left
      cases s
      simp only at h h5;subst h h5
      rfl
theorem rise_eq:∀ {l m:List Shift},l.Pairwise (fun a b=>a.sec<b.sec)->m.Pairwise (fun a b=>a.sec<b.sec)->(∀ s,s∈l↔s∈m)->l=m
 |[],m,_,_,h=>by
  cases m with
  |nil=>rfl
  |cons b m=>have:=(h b).2 (by simp);simp at this
 |a :: l,m,hl,hm,h=>by
  cases m with
  |nil=>have:=(h a).1 (by simp);simp at this
  |cons b m=>
   obtain ⟨l1,l2⟩:=List.pairwise_cons.1 hl;obtain ⟨m1,m2⟩:=List.pairwise_cons.1 hm
   have hab:a=b:=by
    rcases List.mem_cons.1 ((h a).1 (by simp)) with e|e
    ·exact e
    ·rcases List.mem_cons.1 ((h b).2 (by simp)) with e2|e2
     ·exact e2.symm
     ·have:=m1 a e;have:=l1 b e2;omega
   subst hab
   have:l=m:=rise_eq l2 m2 fun s=>by
    have:=h s;simp only [List.mem_cons] at this
    constructor
    ·intro hs
     have hne:s≠a:=fun e=>by subst e;have:=l1 s hs;omega
     exact (this.1 (.inr hs)).resolve_left hne
    ·intro hs
     have hne:s≠a:=fun e=>by subst e;have:=m1 s hs;omega
     exact (this.2 (.inr hs)).resolve_left hne
   rw [this]
theorem tell_here {first:Phase}:∀ {ss:List Shift},ss.Pairwise (fun x y=>x.sec<y.sec)->Diff first ss->∀ s∈ss,tellL first ss s.sec=s.ph/\tellL first ss (s.sec - 1)≠s.ph:=by
 intro ss hr hd s hs;obtain ⟨k,hk,e⟩:=List.mem_iff_getElem.1 hs
 have h1:tellL first ss s.sec=hadAt first ss (k+1):=tell_at (by omega) (fun i hi hin=>by
  rcases Nat.eq_or_lt_of_le (Nat.le_of_lt_succ hin) with rfl|hlt
  ·rw [e];exact Int.le_refl _
  ·have:=List.pairwise_iff_getElem.1 hr i k hi hk hlt
   rw [e] at this
   omega) (fun i hi hin=>by
  have:=List.pairwise_iff_getElem.1 hr k i hk hi (by omega)
  rw [e] at this
  exact this)
 have h2:tellL first ss (s.sec - 1)=hadAt first ss k:=tell_at (by omega) (fun i hi hin=>by
  have:=List.pairwise_iff_getElem.1 hr i k hi hk hin;rw [e] at this
  omega) (fun i hi hin=>by
  rcases Nat.eq_or_lt_of_le hin with rfl|hlt
  ·rw [e];omega
  ·have:=List.pairwise_iff_getElem.1 hr k i hk hi hlt
   rw [e] at this
   omega)
 have h3:=diff_at hd k s (by rw [List.getElem?_eq_getElem hk,e])
 refine ⟨?_,by rw [h2];exact fun h=>h3 h.symm⟩
 rw [h1]
 simp only [hadAt,List.getElem?_eq_getElem hk,Option.map_some,Option.getD_some,e]
theorem tell_turns {first:Phase} {t:Int}:∀ {ss:List Shift},tellL first ss t≠tellL first ss (t - 1)->∃ s∈ss,s.sec=t:=by
 intro ss h
 by_cases hc:∃ s∈ss,s.sec=t
 ·exact hc
 ·exfalso
  refine h ?_
  unfold tellL
  have:∀ (l:List Shift) (p:Phase),(∀ s∈l,s.sec≠t)->l.foldl (fun p s=>if s.sec<=t then s.ph else p) p=l.foldl (fun p s=>if s.sec<=t - 1 then s.ph else p) p:=by
   intro l
   induction l with
   |nil=>intro _ _;rfl
   |cons a l ih=>
    intro p hl
    rw [List.foldl_cons,List.foldl_cons,ih _ fun s hs=>hl s (by simp [hs])]
    congr 1
    have:=hl a (by simp)
    by_cases h1:a.sec<=t
    ·rw [if_pos h1,if_pos (by omega)]
    ·rw [if_neg h1,if_neg (by omega)]
  exact this ss first fun s hs e=>hc ⟨s,hs,e⟩
def secsE (s:Src) (lo:Era->Int) (year:Int) (x:Era):List Int:=
 (if x.till=true then [endP (svF s) x] else [])++(if x.kind=2 then (List.range (year+4 - lo x).toNat).flatMap fun (i:Nat)=>(turnsL (setL s.rules x.rules) (lo x+i)).map (uniT (setL s.rules x.rules) x.off) else [])
def loE (rs:List Rule) (year:Int) (x:Era):Int:=(setL rs x.rules).foldl (fun m r=>min m r.lo) year
def secsZ (s:Src) (year:Int) (es:List Era):List Int:=es.flatMap (secsE s (loE s.rules year) year)
theorem lo_le:∀ (l:List Rule) (y:Int),l.foldl (fun m r=>min m r.lo) y<=y/\∀ r∈l,l.foldl (fun m r=>min m r.lo) y<=r.lo
 |[],y=>⟨Int.le_refl _,fun r h=>by simp at h⟩
 |a :: l,y=>by
  rw [List.foldl_cons];obtain ⟨h1,h2⟩:=lo_le l (min y a.lo)
  refine ⟨by omega,fun r hr=>?_⟩
  rcases List.mem_cons.1 hr with rfl|hr
  ·omega
  ·exact h2 r hr
def MayPut (s:Src) (year:Int) (es:List Era) (t:Int):Prop:=∃ x∈es,(x.till=true/\t=endP (svF s) x)\/∃ u∈turnsE s.rules year x,t=u.at_
theorem cut_sec {a:Int} {l:List Shift} {s:Shift} (h:s∈cutAt a l):s∈l:=by
 unfold cutAt at h
 split at h
 ·split at h
  ·exact (List.dropLast_sublist _).subset h
  ·exact h
 ·exact h
theorem put_sec {first:Phase} {till:Int} {m:List Shift×Bool} {a:Int} {p:Phase} {s:Shift} (h:s∈(putP first till m a p).1):s∈m.1\/s.sec=a:=by
 unfold putP at h
 split at h
 ·exact .inl (cut_sec h)
 ·split at h
  ·exact .inl (cut_sec h)
  ·rcases List.mem_append.1 h with h|h
   ·exact .inl (cut_sec h)
   ·have:s=⟨a,p⟩:=by simpa using h
    subst this;exact .inr rfl
theorem turns_sec {first:Phase} {till:Int} {x:Era} {a b:Int} {s:Shift}:∀ {l:List TurnU} {m:List Shift×Bool},s∈(l.foldl (turnPut first till x a b) m).1->s∈m.1\/∃ u∈l,s.sec=u.at_
 |[],m,h=> .inl h
 |t :: l,m,h=>by
  rw [List.foldl_cons] at h
  rcases turns_sec h with h|⟨u,hu,e⟩
  ·unfold turnPut at h
   split at h
   ·exact .inl h
   ·rcases put_sec h with h|h
    ·exact .inl h
    ·exact .inr ⟨t,by simp,h⟩
  ·exact .inr ⟨u,by simp [hu],e⟩
theorem era_sec {s:Src} {first:Phase} {till year:Int} {sh:Shift} {x:Era} {i:Bool} {m:(List Shift×Bool)×Int} (h:sh∈(eraPut s first till year i m x).1.1):sh∈m.1.1\/(i=true/\sh.sec=m.2)\/∃ u∈turnsE s.rules year x,sh.sec=u.at_:=by
 unfold eraPut at h
 rcases turns_sec h with h|h
 ·split at h
  ·next hi=>
   rcases put_sec h with h|h
   ·exact .inl h
   ·exact .inr (.inl ⟨hi,h⟩)
  ·exact .inl h
 ·exact .inr (.inr h)
theorem eras_sec {s:Src} {first:Phase} {till year:Int} {sh:Shift}:∀ {es:List Era} {i:Bool} {m:(List Shift×Bool)×Int},sh∈(erasPut s first till year es i m).1.1->(∀ k x,es[k]?=some x->k+1<es.length->x.till=true)->
  sh∈m.1.1\/(i=true/\sh.sec=m.2)\/MayPut s year es sh.sec
 |[],_,_,h,_=> .inl h
 |[x],i,m,h,_=>by
  rw [erasPut,erasPut] at h
  rcases era_sec h with h|h|⟨u,hu,e⟩
  ·exact .inl h
  ·exact .inr (.inl h)
  ·exact .inr (.inr ⟨x,by simp,.inr ⟨u,hu,e⟩⟩)
 |x :: y :: es,i,m,h,ht=>by
  rw [erasPut] at h
  rcases eras_sec h (fun k z hk hl=>ht (k+1) z (by rw [List.getElem?_cons_succ];exact hk) (by simp only [List.length_cons] at hl ⊢;omega)) with h|⟨_,h⟩|⟨z,hz,h⟩
  ·rcases era_sec h with h|h|⟨u,hu,e⟩
   ·exact .inl h
   ·exact .inr (.inl h)
   ·exact .inr (.inr ⟨x,by simp,.inr ⟨u,hu,e⟩⟩)
  ·exact .inr (.inr ⟨x,by simp,.inl ⟨ht 0 x rfl (by simp),h⟩⟩)
  ·exact .inr (.inr ⟨z,List.mem_cons_of_mem _ hz,h⟩)
theorem secs_mem {s:Src} (h:checkB s=noFlaw) {z:ZoneM} (hz:z∈s.zones) {t:Int} (hm:MayPut s (lastZ s.rules z.eras) z.eras t) (ht:t<untilZ (lastZ s.rules z.eras)):t∈secsZ s (lastZ s.rules z.eras) z.eras:=by
 have hy:=zone_year h hz
 have hu:=until_is (year:=lastZ s.rules z.eras) (by omega) (by omega)
 obtain ⟨x,hx,hm⟩:=hm
 refine List.mem_flatMap.2 ⟨x,hx,?_⟩
 unfold secsE
 rcases hm with ⟨h1,h2⟩|⟨u,hu1,h2⟩
 ·exact List.mem_append_left _ (by rw [if_pos h1,h2];simp)
 ·have he:=era_ok h hz hx
  refine List.mem_append_right _ ?_
  obtain ⟨w,⟨r,hr,y,hy⟩,e⟩:=turns_from he (by omega) (by omega) hu1
  have hk:x.kind=2:=by
   by_cases hk:x.kind=2
   ·exact hk
   ·rw [he.none_ hk] at hr;simp at hr
  rw [if_pos hk];have hn:=uni_near he.right he.off.1 he.off.2 hr hy
  have hyl:=turnL_in (by rw [hy];rfl:(turnL y r).isSome=true)
  have hlo:=(lo_le (setL s.rules x.rules) (lastZ s.rules z.eras)).2 r hr
  have hyy:y<=lastZ s.rules z.eras+3:=by
   by_cases hc:y<=lastZ s.rules z.eras+3
   ·exact hc
   ·have:=jan_mono (a:=lastZ s.rules z.eras+3+1) (b:=y) (by omega)
    have:=jan_mono (a:=lastZ s.rules z.eras+3) (b:=lastZ s.rules z.eras+3+1) (by omega)
    omega
  have hlo2:loE s.rules (lastZ s.rules z.eras) x<=r.lo:=hlo
  refine List.mem_flatMap.2 ⟨(y - loE s.rules (lastZ s.rules z.eras) x).toNat,List.mem_range.2 (by omega),List.mem_map.2 ⟨w,?_,by rw [h2,e]⟩⟩
  rw [show loE s.rules (lastZ s.rules z.eras) x+((y - loE s.rules (lastZ s.rules z.eras) x).toNat:Int)=y from by omega]
  exact (turnsL_perm he.right y).symm.subset (rawT_mem.2 ⟨r,hr,hy⟩)
theorem shifts_are {s:Src} (h:checkB s=noFlaw) {z:ZoneM} (hz:z∈s.zones) (hn:cntE s.rules (svF s) (lastZ s.rules z.eras) everT z.eras<=29999) {l:List Int} (hl:l.Pairwise (·<=·)) (hp:∀ t,t∈l↔t∈secsZ s (lastZ s.rules z.eras) z.eras):
  pickD (refL s.rules (svF s) z.eras) (untilZ (lastZ s.rules z.eras)) none l=(madeZ s z).1.1:=by
 have hy:=zone_year h hz;have hw:=zone_w h hz
 obtain ⟨_,⟨e,hg⟩,_,htold⟩:=zone_told (s:=s) (z:=z) (by omega) (by omega) (ends_ok h hz) (fun x hx=>era_ok h hz hx) hn
 obtain ⟨k1,k2⟩:=pick_mem (f:=refL s.rules (svF s) z.eras) (till:=untilZ (lastZ s.rules z.eras)) (p:=none) hl (fun q e=>by cases e)
 refine rise_eq k1 hg.rise fun sh=>?_
 rw [k2 sh]
 constructor
 ·rintro ⟨_,_,h3,h4,h5⟩
  rw [<-htold _ h3,<-htold _ (by omega)] at h4
  obtain ⟨s2,hs2,e2⟩:=tell_turns h4;have h6:=(tell_here hg.rise hg.diff s2 hs2).1;rw [e2,htold _ h3,<-h5] at h6
  have:sh=s2:=by
   cases sh;cases s2
   simp only at e2 h6;subst e2 h6
   rfl
  rw [this];exact hs2
 ·intro hs
  have h1:=hg.till sh hs;obtain ⟨h2,h3⟩:=tell_here hg.rise hg.diff sh hs;rw [htold _ h1] at h2
  rw [htold _ (by omega)] at h3
  refine ⟨(hp _).2 (secs_mem h hz ?_ h1),(fun q e=>(by cases e)),h1,(by rw [h2];exact fun e=>h3 e.symm),h2.symm⟩
  have hmem:sh∈(erasPut s (firstZ s.rules z.eras) (untilZ (lastZ s.rules z.eras)) (lastZ s.rules z.eras) z.eras false (([],false),everT)).1.1:=hs
  rcases eras_sec hmem (fun k x hk hl=>by rw [hw.till k x hk];exact decide_eq_true hl) with h4|h4|h4
  ·simp at h4
  ·cases h4.1
  ·exact h4
end Cmq
end
end
end Go.Proofs.YtadamccojdocbaaGreatDoor
