/-
  Contracts of the code that the law reaches, and plain laws. Conditions: as each says.
-/
import Derived.Test.YtmlejgdohcpmjaaGreatDoorV24
import Derived.Test.YtmlejgdohcpmjaaGreatDoorV22
import Derived.Test.YtmlejgdohcpmjaaGreatDoorV23
set_option linter.all false
set_option maxHeartbeats 40000000
set_option maxRecDepth 100000
namespace Go.Proofs.YtmlejgdohcpmjaaGreatDoor
section
section
namespace R14
open Go.RowKit Mem Img Rgt Plc Src Civ Mom Rul
def hdB (x:Table):Bool:=placeB x.name && (phaseB x.first && (!(decide ((30000:Int)<x.shifts.length)) && !(decide ((2:Int)<x.tail.length))))
def lettT (s:ByteArray):Bool:= !(s.toList == [45]) && (s.toList.isEmpty || madeB s.data.toList 8 [43,45])
def ruleT (off:Int) (r:Rule):Bool:=(r.hi == 1000000) && (setB r.name && (lettT r.letter && dayB (wrap64 (off+r.save))))
def tailT (x:Table):Bool:=
 if x.tail.length=0 then (x.off == 0) && x.format.toList.isEmpty
 else dayB x.off && (formatB x.format.data.toList && (rulesB x.tail && (x.tail.all (ruleT x.off) && !R11.nearR x.tail)))
def rightT (x:Table):Bool:=hdB x && (shiftsB x && tailT x)
theorem lett_is (s:ByteArray):letterB s=lettT s:=by
 unfold letterB lettT
 by_cases h:s.toList=[]
 ·rw [decide_eq_true h,h];rfl
 ·have h2:s.toList.isEmpty=false:=by rw [List.isEmpty_eq_false_iff];exact h
  rw [decide_eq_false h,h2,Bool.false_or,Bool.false_or]
  congr 1
  by_cases h3:s.toList=[45]
  ·rw [decide_eq_true h3,h3];rfl
  ·rw [decide_eq_false h3]
   have:(s.toList == [45])=false:=by rw [beq_eq_false_iff_ne];exact h3
   rw [this]
theorem year_is (n:Int):yearB n=decide (yearP n):=by
 unfold yearB yearP;rw [<-Bool.decide_and]
theorem spot_is (s:Spot):spotB s=decide s.okP:=by
 by_cases h:s.okP
 ·rw [decide_eq_true h,spotB_true h]
 ·rw [decide_eq_false h]
  cases hs:spotB s
  ·rfl
  ·exact absurd (spotB_ok hs) h
theorem rule_two (off:Int) (r:Rule):(tailR off r && ruleR r)=(Rul.ruleB r && ruleT off r):=by
 unfold tailR ruleR ruleT Rul.ruleB;rw [lett_is,year_is,year_is,spot_is]
 have h:decide (ruleP r)=(decide (yearP r.lo) && ((decide (yearP r.hi) || decide (r.hi=1000000)) && (decide (spotOf r).okP && savingB r.save))):=by
  unfold ruleP savingB;rw [<-Bool.decide_and,<-Bool.decide_and,<-Bool.decide_or,<-Bool.decide_and,<-Bool.decide_and]
 rw [h]
 have h2:decide (r.hi=1000000)=(r.hi == 1000000):=by rw [Bool.eq_iff_iff];simp
 rw [h2];generalize dayB (wrap64 (off+r.save))=a1;generalize (r.hi == 1000000)=a2;generalize setB r.name=a3;generalize decide (yearP r.lo)=a4;generalize decide (yearP r.hi)=a5;generalize decide (spotOf r).okP=a6;generalize savingB r.save=a7;generalize lettT r.letter=a8
 cases a1<;>cases a2<;>cases a3<;>cases a4<;>cases a5<;>cases a6<;>cases a7<;>cases a8<;>rfl
theorem rules_two (off:Int) (rs:List Rule):(rs.all (tailR off) && rs.all ruleR)=(rulesB rs && rs.all (ruleT off)):=by
 unfold rulesB
 induction rs with
 |nil=>rfl
 |cons a l ih=>
  rw [List.all_cons,List.all_cons,List.all_cons,List.all_cons];have h:=rule_two off a;generalize tailR off a=b1 at*;generalize ruleR a=b2 at*;generalize Rul.ruleB a=b3 at*;generalize ruleT off a=b4 at*;generalize l.all (tailR off)=c1 at*;generalize l.all ruleR=c2 at*;generalize l.all Rul.ruleB=c3 at*;generalize l.all (ruleT off)=c4 at*
  revert h ih
  revert b1 b2 b3 b4 c1 c2 c3 c4
  decide
theorem src_try (x:Table):srcB (tryOf x)=(!decide (200<x.tail.length) && (x.tail.all ruleR && (placeB x.name && (dayB x.off && formatB x.format.data.toList)))):=by
 unfold srcB tryOf;simp only [List.length_singleton,List.length_nil,List.all_cons,List.all_nil,Bool.and_true]
 have h:zoneB ⟨x.name,[eraOf x],none,0⟩=(placeB x.name && (dayB x.off && formatB x.format.data.toList)):=by
  unfold zoneB
  simp only [List.length_singleton,erasOk,List.getElem?_cons_zero]
  have he:eraB (eraOf x)=(dayB x.off && formatB x.format.data.toList):=by
   unfold eraB kindB tillB eraOf;simp
  rw [he];have h2:((eraOf x).till == decide (((0:Nat):Int)<((1:Nat):Int) - 1))=true:=rfl;rw [h2];have h3:(!(((1:Nat):Int) == 0))=true:=rfl;have h4:(!decide ((40:Int)<((1:Nat):Int)))=true:=rfl;rw [h3,h4,Bool.true_and,Bool.true_and,Bool.true_and,Bool.and_true]
 rw [h];have h5:(!decide (50<1))=true:=rfl;have h6:(!decide (100<0))=true:=rfl;rw [h5,h6,Bool.true_and,Bool.and_true]
theorem crowd_two {rs:List Rule} (h:rs.length<=10):crowdB rs=false:=by
 unfold crowdB
 have:(rs.any fun x=>decide (10<crowdAt rs x))=false:=by
  rw [List.any_eq_false];intro x _;have:crowdAt rs x<=rs.length:=List.length_filter_le _ _;simp only [decide_eq_true_eq];omega
 rw [this,Bool.and_false]
theorem tail_two (x:Table) (hp:placeB x.name=true):(!(decide ((2:Int)<x.tail.length)) && tailT x)=tailB x:=by
 unfold tailT tailB
 by_cases h0:x.tail.length=0
 ·rw [if_pos h0,if_pos h0,decide_eq_false (by omega)];rfl
 ·rw [if_neg h0,if_neg h0,src_try,hp,Bool.true_and]
  by_cases h2:x.tail.length<=2
  ·rw [decide_eq_false (show ¬ ((2:Int)<x.tail.length) by omega),decide_eq_true h2,decide_eq_false (show ¬ 200<x.tail.length by omega)]
   have hr:=rules_two x.off x.tail
   have hn:rulesB x.tail=true->R11.nearR x.tail=nearB x.tail:=fun h=>R11.near_same h (crowd_two (by omega)) (fun e=>h0 (by rw [e];rfl))
   generalize x.tail.all (tailR x.off)=c1 at*;generalize x.tail.all ruleR=c2 at*;generalize rulesB x.tail=c3 at*;generalize x.tail.all (ruleT x.off)=c4 at*;generalize R11.nearR x.tail=n1 at*;generalize nearB x.tail=n2 at*;generalize dayB x.off=d1 at*;generalize formatB x.format.data.toList=d2 at*
   revert hr hn
   revert c1 c2 c3 c4 n1 n2 d1 d2
   decide
  ·rw [decide_eq_true (show ((2:Int)<x.tail.length) by omega),decide_eq_false h2]
   simp
theorem right_is (x:Table):rightT x=rightB x (tailB x):=by
 unfold rightT rightB hdB
 cases hp:placeB x.name
 ·rfl
 ·rw [<-tail_two x hp]
  generalize phaseB x.first=a1
  generalize decide ((30000:Int)<x.shifts.length)=a2;generalize decide ((2:Int)<x.tail.length)=a3;generalize shiftsB x=a4;generalize tailT x=a5
  revert a1 a2 a3 a4 a5
  decide
end R14
end
end
section
section
namespace Zon
open Go.RowKit Mem Civ Mom Img Plc Rul Ahd Trn Src Snd Att Rgt Abr Sch Cmq
theorem rise_of {ss:List Shift} (h:∀ k,k<ss.length->secOk ss k=true):ss.Pairwise fun x y=>x.sec<y.sec:=by
 rw [List.pairwise_iff_getElem]
 have hs:∀ k (hk:k+1<ss.length),(ss[k]'(by omega)).sec<ss[k+1].sec:=fun k hk=>by
  have h1:=h (k+1) hk
  simp only [secOk,List.getElem?_eq_getElem hk,List.getElem?_eq_getElem (show k<ss.length by omega),Bool.not_eq_true',decide_eq_false_iff_not] at h1
  omega
 intro i j hi hj hij
 obtain ⟨d,rfl⟩:∃ d,j=i+1+d:=⟨j - i - 1,by omega⟩
 clear hij
 induction d with
 |zero=>exact hs i hj
 |succ d ih=>
  have h2:=ih (by omega)
  have h3:=hs (i+1+d) (by omega)
  simp only [Nat.add_assoc] at h2 h3 ⊢;omega
theorem at_doc (x:Table) (t:Int):atP x t=(if rightB x (tailB x)=true then tellD x t else ⟨0,0,⟨#[]⟩⟩,rightB x (tailB x)):=by
 unfold atP
 by_cases hr:rightB x (tailB x)=true
 ·rw [if_pos hr,if_pos hr,hr]
  have hsh:shiftP x t=tellL x.first x.shifts t:=by
   refine shift_tell (rise_of fun k hk=>?_)
   unfold rightB shiftsB at hr;rw [Bool.and_eq_true,List.all_eq_true] at hr;have h1:=hr.2 k (List.mem_range.2 hk);unfold okAt at h1
   rw [List.getElem?_eq_getElem hk] at h1
   simp only [Bool.and_eq_true] at h1;exact h1.2.2.2
  unfold tellD;rw [hsh]
 ·rw [if_neg hr,if_neg hr]
  simp only [Bool.not_eq_true] at hr;rw [hr]
structure TailT (x:Table):Prop where
 len:x.tail.length<=2
 right:rulesB x.tail=true
 off: -86400<x.off/\x.off<86400
 far:∀ y,FarY x.tail y
 ever:∀ r∈x.tail,r.hi=1000000
 day:∀ r∈x.tail,-86400<x.off+r.save/\x.off+r.save<86400
theorem day_is {n:Int} (h:dayB n=true): -86400<n/\n<86400:=by
 simp only [dayB,Bool.and_eq_true,decide_eq_true_eq] at h;omega
theorem tailT_of {x:Table} (h:rightB x (tailB x)=true) (h0:x.tail.length≠0):TailT x:=by
 obtain ⟨ho,hr⟩:=right_tail h h0
 have ht:tailB x=true:=by
  unfold rightB at h;simp only [Bool.and_eq_true] at h;exact h.1.2.2.2
 unfold tailB at ht;rw [if_neg h0] at ht;simp only [Bool.and_eq_true,decide_eq_true_eq,Bool.not_eq_true'] at ht;obtain ⟨h1,h2,_,h4⟩:=ht;rw [List.all_eq_true] at h1
 refine ⟨h2,hr,ho,far_all hr h4 (R14.crowd_two (by omega)),fun r hm=>?_,fun r hm=>?_⟩
 ·have:=h1 r hm;simp only [tailR,Bool.and_eq_true,beq_iff_eq] at this;exact this.1
 ·have h3:=h1 r hm
  simp only [tailR,Bool.and_eq_true] at h3;have h5:=day_is h3.2;have hs:=rule_save hr hm
  have:wrap64 (x.off+r.save)=x.off+r.save:=by unfold wrap64;omega
  omega
theorem same_latest {S:List Rule} {so:Turn->Bool} (hf:∀ y,FarY S y) {x y:Turn} (hx:IsLatest S so x) (hy:IsLatest S so y):x=y:=by
 have h1:=hx.2.2 y hy.1 hy.2.1;have h2:=hy.2.2 x hx.1 hx.2.1
 rcases spaced hf hx.1 hy.1 with h|h
 ·exact h
 ·unfold Far at h;omega
theorem force_same {S:List Rule} {off a b:Int} (hr:rulesB S=true) (hf:∀ y,FarY S y) (h1: -86400<off) (h2:off<86400) (hn:∀ u,Gt S u->(uniT S off u<=a↔uniT S off u<=b)):forceP S off a=forceP S off b:=by
 obtain ⟨s1,s2⟩:=force_spec (rs:=S) (off:=off) (t:=a) hr h1 h2;obtain ⟨t1,t2⟩:=force_spec (rs:=S) (off:=off) (t:=b) hr h1 h2;unfold forceP;rw [if_pos ⟨hr,h1,h2⟩,if_pos ⟨hr,h1,h2⟩]
 cases hl:latestL (fun y=>decide (uniT S off y<=a)) (yearI a) S with
 |none=>
  cases hm:latestL (fun y=>decide (uniT S off y<=b)) (yearI b) S with
  |none=>rfl
  |some y=>
   obtain ⟨g1,g2,_⟩:=t1 y hm;exact absurd ((hn y g1).2 (of_decide_eq_true g2)) (s2 hl y g1)
 |some x=>
  obtain ⟨g1,g2,g3⟩:=s1 x hl
  cases hm:latestL (fun y=>decide (uniT S off y<=b)) (yearI b) S with
  |none=>exact absurd ((hn x g1).1 (of_decide_eq_true g2)) (t2 hm x g1)
  |some y=>
   have e:=same_latest hf (t1 y hm) ⟨g1,decide_eq_true ((hn x g1).1 (of_decide_eq_true g2)),fun u hu hb=>g3 u hu (decide_eq_true ((hn u hu).2 (of_decide_eq_true hb)))⟩;rw [e]
theorem tail_same {x:Table} (h:TailT x) {a b:Int} (hn:∀ u,Gt x.tail u->(uniT x.tail x.off u<=a↔uniT x.tail x.off u<=b)):tailP x a=tailP x b:=by
 unfold tailP;rw [force_same h.right h.far h.off.1 h.off.2 hn]
def Sh (x:Table) (t:Int):Prop:=tellD x t≠tellD x (t - 1)
instance (x:Table) (t:Int):Decidable (Sh x t):=by unfold Sh;infer_instance
theorem tell_moved {first:Phase} {t:Int} {ss:List Shift} (h:tellL first ss t≠tellL first ss (t - 1)):∃ s∈ss,s.sec=t:=by
 by_cases hc:∃ s∈ss,s.sec=t
 ·exact hc
 ·exfalso
  refine h ?_
  unfold tellL
  have:∀ (l:List Shift) (p:Phase),(∀ s∈l,s.sec≠t)->l.foldl (fun p s=>if s.sec<=t then s.ph else p) p=l.foldl (fun p s=>if s.sec<=t - 1 then s.ph else p) p:=by
   intro l
   induction l with
   |nil=>intro p _;rfl
   |cons a l ih=>
    intro p hl;have ha:=hl a List.mem_cons_self;rw [List.foldl_cons,List.foldl_cons,ih _ fun s hs=>hl s (List.mem_cons_of_mem _ hs)]
    by_cases hle:a.sec<=t
    ·rw [if_pos hle,if_pos (by omega)]
    ·rw [if_neg hle,if_neg (by omega)]
  exact this ss first fun s hs e=>hc ⟨s,hs,e⟩
def TurnAt (x:Table) (z t:Int):Prop:=∃ r∈x.tail,∃ u,turnL z r=some u/\uniT x.tail x.off u=t
theorem tell_early {x:Table} {t:Int} (h:t<x.till\/x.tail.length=0):tellD x t=tellL x.first x.shifts t:=by
 unfold tellD
 rw [if_neg (by omega)]
theorem tell_late' {x:Table} {t:Int} (h:x.till<=t) (h0:x.tail.length≠0):tellD x t=tailP x t:=by
 unfold tellD;rw [if_pos ⟨h,h0⟩]
theorem shift_cases {x:Table} (hr:rightB x (tailB x)=true) {t:Int} (h:Sh x t):
  (∃ s∈x.shifts,s.sec=t)\/(x.tail.length≠0/\(t=x.till\/(x.till<t/\∃ z,TurnAt x z t))):=by
 unfold Sh at h
 by_cases h0:x.tail.length=0
 ·rw [tell_early (.inr h0),tell_early (.inr h0)] at h
  exact .inl (tell_moved h)
 ·rcases (by omega:t<x.till\/t=x.till\/x.till<t) with hlt|he|hgt
  ·rw [tell_early (.inl hlt),tell_early (.inl (by omega))] at h
   exact .inl (tell_moved h)
  ·exact .inr ⟨h0,.inl he⟩
  ·rw [tell_late' (by omega) h0,tell_late' (by omega) h0] at h
   refine .inr ⟨h0,.inr ⟨hgt,?_⟩⟩
   by_cases hc:∃ z,TurnAt x z t
   ·exact hc
   ·exfalso
    refine h (tail_same (tailT_of hr h0) fun u hu=>?_)
    have:uniT x.tail x.off u≠t:=fun e=>by
     obtain ⟨r,hm,z,hz⟩:=hu;exact hc ⟨z,r,hm,u,hz,e⟩
    omega
theorem tell_const {x:Table} {a:Int}:∀ (n:Nat),(∀ u,a<u->u<=a+n->¬ Sh x u)->tellD x (a+n)=tellD x a
 |0,_=>by simp
 |n+1,h=>by
  have ih:=tell_const n fun u h1 h2=>h u h1 (by omega)
  have h3:=h (a+(n+1:Nat)) (by omega) (by omega)
  unfold Sh at h3
  rw [show a+((n+1:Nat):Int) - 1=a+n from by omega] at h3
  rw [<-ih];exact Decidable.not_not.1 h3
theorem tell_flat {x:Table} {a b:Int} (hab:a<=b) (h:∀ u,a<u->u<=b->¬ Sh x u):tellD x b=tellD x a:=by
 have:=tell_const (x:=x) (a:=a) (b - a).toNat fun u h1 h2=>h u h1 (by omega)
 rwa [show a+((b - a).toNat:Int)=b from by omega] at this
def offT (x:Table) (t:Int):Int:=(tellD x t).off
theorem tellL_from {first:Phase} {t:Int} (ss:List Shift):tellL first ss t=first\/∃ s∈ss,tellL first ss t=s.ph:=by
 unfold tellL
 have:∀ (l:List Shift) (p:Phase),(∀ s∈l,s∈ss)->(p=first\/∃ s∈ss,p=s.ph)->(l.foldl (fun p s=>if s.sec<=t then s.ph else p) p=first\/∃ s∈ss,l.foldl (fun p s=>if s.sec<=t then s.ph else p) p=s.ph):=by
  intro l
  induction l with
  |nil=>intro p _ h;exact h
  |cons a l ih=>
   intro p hl h;rw [List.foldl_cons]
   refine ih _ (fun s hs=>hl s (List.mem_cons_of_mem _ hs)) ?_
   split
   ·exact .inr ⟨a,hl a List.mem_cons_self,rfl⟩
   ·exact h
 exact this ss first (fun _ h=>h) (.inl rfl)
theorem force_off (rs:List Rule) (off t:Int):(∃ r∈rs,(forceP rs off t).1=r.save)\/(forceP rs off t).1=0:=by
 unfold forceP
 split
 ·cases hx:latestL (fun x=>decide (uniT rs off x<=t)) (yearI t) rs with
  |some x=>
   obtain ⟨r,hm,z,hz⟩:=latest_from hx;obtain ⟨_,e1,_,_⟩:=turnL_at hz
   exact .inl ⟨r,hm,by simp only [giveO,e1]⟩
  |none=>exact .inr rfl
 ·exact .inr rfl
theorem off_from (x:Table) (t:Int):offT x t=x.first.off\/(∃ s∈x.shifts,offT x t=s.ph.off)\/(x.tail.length≠0/\(offT x t=x.off\/∃ r∈x.tail,offT x t=x.off+r.save)):=by
 unfold offT tellD
 split
 ·next h=>
  refine .inr (.inr ⟨h.2,?_⟩)
  simp only [tailP]
  rcases force_off x.tail x.off t with ⟨r,hm,e⟩|e
  ·exact .inr ⟨r,hm,by rw [e]⟩
  ·exact .inl (by rw [e];omega)
 ·rcases tellL_from (first:=x.first) (t:=t) x.shifts with h|⟨s,hs,h⟩
  ·exact .inl (by rw [h])
  ·exact .inr (.inl ⟨s,hs,by rw [h]⟩)
theorem ph_day {p:Phase} (h:phaseB p=true): -86400<p.off/\p.off<86400:=by
 simp only [phaseB,Bool.and_eq_true] at h;exact day_is h.2.1.1.1
theorem right_ph {x:Table} (hr:rightB x (tailB x)=true):phaseB x.first=true/\∀ s∈x.shifts,phaseB s.ph=true:=by
 unfold rightB at hr;simp only [Bool.and_eq_true] at hr
 refine ⟨hr.1.2.1,fun s hs=>?_⟩
 obtain ⟨k,hk,e⟩:=List.mem_iff_getElem.1 hs;have h1:=hr.2;unfold shiftsB at h1;rw [List.all_eq_true] at h1;have h2:=h1 k (List.mem_range.2 hk);unfold okAt at h2
 rw [List.getElem?_eq_getElem hk,e] at h2
 simp only [Bool.and_eq_true] at h2;exact h2.1
theorem off_bd {x:Table} (hr:rightB x (tailB x)=true) (t:Int): -86400<offT x t/\offT x t<86400:=by
 obtain ⟨p1,p2⟩:=right_ph hr
 rcases off_from x t with h|⟨s,hs,h⟩|⟨h0,h|⟨r,hm,h⟩⟩
 ·rw [h];exact ph_day p1
 ·rw [h];exact ph_day (p2 s hs)
 ·rw [h];exact (tailT_of hr h0).off
 ·rw [h];exact (tailT_of hr h0).day r hm
def yearZ (t:Int):Int:=yearD (max (min (t.tdiv 86400) 100000000) (-100000001))
theorem tdiv_day (t:Int):t / 86400<=t.tdiv 86400/\t.tdiv 86400<=t / 86400+1:=by
 rcases Int.le_total 0 t with h|h
 ·rw [Int.tdiv_eq_ediv_of_nonneg h];omega
 ·have h2:t.tdiv 86400= -((-t) / 86400):=by
   rw [show t= -(-t) from by omega,Int.neg_tdiv,Int.tdiv_eq_ediv_of_nonneg (by omega)];simp
  omega
theorem turn_last {z:Int} {r:Rule} {u:Turn} (h:turnL z r=some u):1<=z/\z<=275760:=by
 obtain ⟨h1,_,_,_⟩:=turnL_at h;obtain ⟨_,h2,h3,_⟩:=local_form h1;exact ⟨h2,h3⟩
theorem uni_near' {x:Table} (h:TailT x) {z t:Int} (ht:TurnAt x z t):(janI z - 15)*86400<t/\t<(janI z+381)*86400:=by
 obtain ⟨r,hm,u,hu,rfl⟩:=ht;obtain ⟨a,e,ha⟩:=uni_bd h.right h.off.1 h.off.2 ⟨r,hm,z,hu⟩;have:=local_near (turnL_at hu).1;have:=h.off;omega
theorem turn_near {x:Table} (h:TailT x) {z t u:Int} (ht:TurnAt x z u) (h1:t<u) (h2:u<=t+200000):yearZ t - 2<=z/\z<=yearZ t+3:=by
 have hn:=uni_near' h ht;obtain ⟨r,hm,v,hv,_⟩:=ht;have hz:=turn_last hv;have hd:=tdiv_day t;have j1:=jan_mono (a:=1) (b:=z) hz.1;have j0:=jan_at;have hy:=year_in (max (min (t.tdiv 86400) 100000000) (-100000001));have hlast:=yearD_last;unfold yearZ;generalize hq:max (min (t.tdiv 86400) 100000000) (-100000001)=q at*
 constructor
 ·by_cases hc:yearD q - 2<=z
  ·exact hc
  ·have g1:=jan_mono (a:=z) (b:=yearD q) (by omega)
   have g2:=jan_mono (a:=z+2) (b:=yearD q) (by omega)
   have g3:=jan_next z;have g4:=jan_next (z+1)
   rw [show z+1+1=z+2 from by omega] at g4
   omega
 ·by_cases hc:z<=yearD q+3
  ·exact hc
  ·have g2:=jan_mono (a:=yearD q+1) (b:=z) (by omega)
   by_cases hb:t.tdiv 86400<=100000000
   ·omega
   ·have:q=100000000:=by omega
    rw [this,hlast] at hc;omega
end Zon
end
end
end Go.Proofs.YtmlejgdohcpmjaaGreatDoor
