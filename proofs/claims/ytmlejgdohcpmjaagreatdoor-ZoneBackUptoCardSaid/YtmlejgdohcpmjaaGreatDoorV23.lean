/-
  Contracts of the code that the law reaches, and plain laws. Conditions: as each says.
-/
import Derived.Test.YtmlejgdohcpmjaaGreatDoorV09
set_option linter.all false
set_option maxHeartbeats 40000000
set_option maxRecDepth 100000
namespace Go.Proofs.YtmlejgdohcpmjaaGreatDoor
section
section
namespace Trn
open Go.RowKit Mem Civ Mom Img Rul Ahd
def Far (a b:Turn):Prop:=172800<=a.at_ - b.at_\/172800<=b.at_ - a.at_
theorem Far.symm {a b:Turn} (h:Far a b):Far b a:=Or.symm h
theorem far_of {a b:Turn} (h:nearT a b=false):Far a b:=by
 unfold nearT at h;unfold Far;rw [Bool.and_eq_false_iff,decide_eq_false_iff_not,decide_eq_false_iff_not] at h;omega
theorem upto_far {now had:List Turn}:∀ {n:Nat},nearUpto now had n=false->∀ k x,k<n->now[k]?=some x->∀ y∈now.take k++had,Far x y
 |0,_,k,_,hk,_,_,_=>by omega
 |n+1,h,k,x,hk,hx,y,hy=>by
  unfold nearUpto at h;rw [Bool.or_eq_false_iff] at h
  by_cases hkn:k=n
  ·subst hkn
   rw [hx] at h;have:=List.any_eq_false.1 h.2 y hy
   exact far_of (by simpa using this)
  ·exact upto_far h.1 k x (by omega) hx y hy
theorem nearer_far {now had:List Turn} (h:nearerB now had=false):now.Pairwise Far/\∀ a∈now,∀ b∈had,Far a b:=by
 unfold nearerB at h;have hu:=@upto_far now had now.length h
 refine ⟨List.pairwise_iff_getElem.2 fun i j hi hj hij=>?_,fun a ha b hb=>?_⟩
 ·refine (hu j now[j] hj (List.getElem?_eq_getElem hj) now[i] (List.mem_append.2 (.inl ?_))).symm
  exact List.mem_take_iff_getElem.2 ⟨i,by omega,rfl⟩
 ·obtain ⟨k,hk⟩:=List.getElem?_of_mem ha
  exact hu k a (List.getElem?_eq_some_iff.1 hk).1 hk b (List.mem_append.2 (.inr hb))
def rawT (rs:List Rule) (y:Int):List Turn:=rs.filterMap (turnL y)
theorem rawT_mem {rs:List Rule} {y:Int} {t:Turn}:t∈rawT rs y↔∃ r∈rs,turnL y r=some t:=by
 unfold rawT;rw [List.mem_filterMap]
def FarY (rs:List Rule) (y:Int):Prop:=(rawT rs y).Pairwise Far/\∀ a∈rawT rs y,∀ b∈rawT rs (y - 1),Far a b
theorem turnsL_perm {rs:List Rule} (hr:rulesB rs=true) (y:Int):(turnsL rs y).Perm (rawT rs y):=by
 unfold turnsL;rw [if_pos hr];exact sortT_perm _
theorem farY_of {rs:List Rule} (hr:rulesB rs=true) {y:Int} (h:nearerB (turnsL rs y) (turnsL rs (y - 1))=false):FarY rs y:=by
 have h2:=nearer_far h;refine ⟨((turnsL_perm hr y).pairwise_iff (fun h=>Far.symm h)).1 h2.1,fun a ha b hb=>h2.2 a ((turnsL_perm hr y).mem_iff.2 ha) b ((turnsL_perm hr (y - 1)).mem_iff.2 hb)⟩
theorem years_far {rs:List Rule}:∀ (n:Nat) (y:Int) (had:List Turn),nearYears rs n y had=false->∀ i:Nat,i<n->nearerB (turnsL rs (y+i)) (if i=0 then had else turnsL rs (y+i - 1))=false
 |0,_,_,_,i,hi=>by omega
 |n+1,y,had,h,i,hi=>by
  unfold nearYears at h;rw [Bool.or_eq_false_iff] at h
  cases i with
  |zero=>simpa using h.1
  |succ i=>
   have:=years_far n (y+1) _ h.2 i (by omega)
   rw [if_neg (by omega),show y+((i+1:Nat):Int)=y+1+i from by omega]
   cases i with
   |zero=>simpa using this
   |succ j=>
    rw [if_neg (by omega)] at this
    exact this
theorem firstY_le {rs:List Rule} {r:Rule} (h:r∈rs):firstY rs<=r.lo:=by
 have:∀ (l:List Rule) (m:Int),(l.foldl (fun m r=>min m r.lo) m<=m)/\∀ r∈l,l.foldl (fun m r=>min m r.lo) m<=r.lo:=by
  intro l
  induction l with
  |nil=>intro m;exact ⟨Int.le_refl _,fun r h=>by simp at h⟩
  |cons a l ih=>
   intro m;obtain ⟨h1,h2⟩:=ih (min m a.lo);rw [List.foldl_cons]
   refine ⟨by omega,fun r hr=>?_⟩
   rcases List.mem_cons.1 hr with rfl|hr
   ·omega
   ·exact h2 r hr
 exact (this rs 9999).2 r h
theorem lastY_le {rs:List Rule} {r:Rule} (h:r∈rs):r.lo<=lastY rs/\(r.hi≠1000000->r.hi<=lastY rs):=by
 have:∀ (l:List Rule) (m:Int),m<=l.foldl lastY1 m/\∀ r∈l,r.lo<=l.foldl lastY1 m/\(r.hi≠1000000->r.hi<=l.foldl lastY1 m):=by
  intro l
  induction l with
  |nil=>intro m;exact ⟨Int.le_refl _,fun r h=>by simp at h⟩
  |cons a l ih=>
   intro m;obtain ⟨h1,h2⟩:=ih (lastY1 m a);rw [List.foldl_cons]
   have ha:m<=lastY1 m a/\a.lo<=lastY1 m a/\(a.hi≠1000000->a.hi<=lastY1 m a):=by
    unfold lastY1
    split<;>omega
   refine ⟨by omega,fun r hr=>?_⟩
   rcases List.mem_cons.1 hr with rfl|hr
   ·exact ⟨by omega,fun h=>by have:=ha.2.2 h;omega⟩
   ·exact h2 r hr
 exact (this rs 1).2 r h
theorem count_again (y m d:Int):countI (y - 400) m d=countI y m d - 146097:=by
 unfold countI
 by_cases h:m<3
 ·simp only [if_pos h]
  rw [show (y - 400 - 1) / 400=(y - 1) / 400 - 1 from by omega,show (y - 400 - 1) % 400=(y - 1) % 400 from by omega]
  omega
 ·simp only [if_neg h]
  rw [show (y - 400) / 400=y / 400 - 1 from by omega,show (y - 400) % 400=y % 400 from by omega]
  omega
theorem leap_again (y:Int):leapB (y - 400)=leapB y:=by
 unfold leapB
 rw [show (y - 400) % 4=y % 4 from by omega,show (y - 400) % 100=y % 100 from by omega,show (y - 400) % 400=y % 400 from by omega]
theorem mlen_again (y m:Int):mlen (y - 400) m=mlen y m:=by
 unfold mlen;rw [leap_again]
theorem back_again (n w:Int):backI (n - 146097) w=backI n w:=by
 unfold backI;omega
theorem spot_again (s:Spot) (f l:Int):spotDay s (f - 146097) l=spotDay s f l - 146097:=by
 unfold spotDay
 rw [show f - 146097+l - 1=f+l - 1 - 146097 from by omega,show f - 146097+s.day+5=f+s.day+5 - 146097 from by omega,show f - 146097+s.day - 1=f+s.day - 1 - 146097 from by omega,back_again,back_again,back_again]
 split
 ·omega
 ·split
  ·omega
  ·split<;>omega
theorem local_form {s:Spot} {y n:Int} (h:localO s y=some n):s.okP/\1<=y/\y<=275760/\n=spotDay s (countI y s.month 1) (mlen y s.month)*86400+s.time:=by
 unfold localO at h
 cases ho:onO s y with
 |none=>rw [ho] at h;cases h
 |some k=>
  rw [ho,Option.map_some,Option.some.injEq] at h;have hok:=(onO_bd ho).2.1;unfold onO at ho
  split at ho
  ·cases ho
  ·next hc=>
   cases hd:daysO y s.month 1 with
   |none=>rw [hd] at ho;cases ho
   |some f=>
    rw [hd,Option.bind_some] at ho;unfold daysO at hd
    split at hd
    ·cases hd
    ·split at hd
     ·cases hd
     ·have hf:=Option.some.inj hd
      split at ho
      ·cases ho
      ·injection ho with ho
       subst hf ho
       exact ⟨hok,by omega,by omega,h.symm⟩
theorem local_again {s:Spot} {y n:Int} (h:localO s y=some n) (h1:1<=y - 400):localO s (y - 400)=some (n - 12622780800):=by
 obtain ⟨hok,h2,h3,rfl⟩:=local_form h
 obtain ⟨k,hk⟩:=local_there (spotB_true hok) h1 (by omega)
 obtain ⟨_,_,_,rfl⟩:=local_form hk;rw [hk,count_again,mlen_again,spot_again]
 congr 1
 omega
def backT (t:Turn):Turn:=⟨t.at_ - 12622780800,t.ref,t.save,t.letter⟩
theorem turn_again {rs:List Rule} {r:Rule} (hm:r∈rs) {y:Int} {t:Turn} (h:turnL y r=some t) (hl:1<=lastY rs) (h1:lastY rs+1<=y - 400):turnL (y - 400) r=some (backT t):=by
 have hb:=lastY_le hm
 have hin:r.lo<=y/\y<=r.hi:=by
  by_cases hc:y<r.lo\/r.hi<y
  ·rw [R11.turnL_out hc] at h;cases h
  ·omega
 have hhi:r.hi=1000000:=by
  by_cases hc:r.hi=1000000
  ·exact hc
  ·have:=hb.2 hc;omega
 rw [R11.turnL_in hin.1 hin.2] at h;obtain ⟨n,hn,ht⟩:=Option.map_eq_some_iff.1 h
 rw [R11.turnL_in (by omega) (by omega),local_again hn (by omega),Option.map_some,<-ht]
 rfl
theorem far_back {a b:Turn}:Far (backT a) (backT b)↔Far a b:=by
 unfold Far backT;simp only;omega
theorem raw_again {rs:List Rule} {y:Int} (hl:1<=lastY rs) (h1:lastY rs+1<=y - 400):((rawT rs y).map backT).Sublist (rawT rs (y - 400)):=by
 have:∀ l:List Rule,(∀ r∈l,r∈rs)->((l.filterMap (turnL y)).map backT).Sublist (l.filterMap (turnL (y - 400))):=by
  intro l
  induction l with
  |nil=>intro _;exact List.Sublist.refl _
  |cons a l ih=>
   intro hl2;have ih2:=ih (fun r hr=>hl2 r (List.mem_cons_of_mem _ hr));rw [List.filterMap_cons,List.filterMap_cons]
   cases ht:turnL y a with
   |none=>
    cases turnL (y - 400) a with
    |none=>exact ih2
    |some u=>exact ih2.cons _
   |some t=>
    rw [turn_again (hl2 a List.mem_cons_self) ht hl h1];exact ih2.cons_cons _
 exact this rs fun r h=>h
theorem far_all {rs:List Rule} (hr:rulesB rs=true) (hn:nearB rs=false) (hc:crowdB rs=false) (y:Int):FarY rs y:=by
 cases hrs:rs with
 |nil=>exact ⟨List.Pairwise.nil,fun a ha=>by simp [rawT] at ha⟩
 |cons a0 l0=>
  rw [<-hrs]
  have hne:rs≠[]:=by rw [hrs];simp
  have hy:=years_bd rs hr rs.length;rw [List.take_length] at hy;have hfl:=first_last hne
  have hlow:∀ y,y<firstY rs->rawT rs y=[]:=by
   intro y hy;unfold rawT;rw [List.filterMap_eq_nil_iff];intro r hr
   exact turnL_low (by have:=firstY_le hr;omega)
  have hnear:nearYears rs (lastY rs+401 - firstY rs+1).toNat (firstY rs) []=false:=by
   unfold nearB at hn;rw [hr,hc] at hn
   have he:rs.isEmpty=false:=by rw [hrs];rfl
   rw [he] at hn
   simpa using hn
  have hbase:∀ y,firstY rs<=y->y<=lastY rs+401->FarY rs y:=by
   intro y h1 h2
   have h3:=years_far _ _ _ hnear (y - firstY rs).toNat (by omega)
   rw [show firstY rs+((y - firstY rs).toNat:Int)=y from by omega] at h3
   by_cases h0:(y - firstY rs).toNat=0
   ·rw [if_pos h0] at h3
    have h4:=nearer_far h3
    refine ⟨((turnsL_perm hr y).pairwise_iff (fun h=>Far.symm h)).1 h4.1,fun a ha b hb=>?_⟩
    rw [hlow (y - 1) (by omega)] at hb
    simp at hb
   ·rw [if_neg h0] at h3
    exact farY_of hr h3
  have hall:∀ (n:Nat) (y:Int),y<=lastY rs+401+n->FarY rs y:=by
   intro n
   induction n with
   |zero=>
    intro y h1
    by_cases h2:firstY rs<=y
    ·exact hbase y h2 (by omega)
    ·unfold FarY
     rw [hlow y (by omega)]
     exact ⟨List.Pairwise.nil,fun a ha=>by simp at ha⟩
   |succ n ih=>
    intro y h1
    by_cases h2:y<=lastY rs+401+n
    ·exact ih y h2
    ·have h3:=ih (y - 400) (by omega)
     have s1:=raw_again (rs:=rs) (y:=y) hy.2.1 (by omega)
     have s2:=raw_again (rs:=rs) (y:=y - 1) hy.2.1 (by omega)
     rw [show y - 1 - 400=y - 400 - 1 from by omega] at s2
     refine ⟨?_,fun a ha b hb=>?_⟩
     ·have h4:=h3.1.sublist s1
      rw [List.pairwise_map] at h4;exact h4.imp fun h=>far_back.1 h
     ·exact far_back.1 (h3.2 _ (s1.subset (List.mem_map_of_mem ha)) _ (s2.subset (List.mem_map_of_mem hb)))
  exact hall (y - lastY rs).toNat y (by omega)
def Gt (rs:List Rule) (t:Turn):Prop:=∃ r∈rs,∃ z,turnL z r=some t
theorem spaced {rs:List Rule} (hf:∀ y,FarY rs y) {a b:Turn} (ha:Gt rs a) (hb:Gt rs b):a=b\/Far a b:=by
 obtain ⟨r,hr,z,hz⟩:=ha;obtain ⟨q,hq,v,hv⟩:=hb;have na:=local_near (turnL_at hz).1;have nb:=local_near (turnL_at hv).1
 have key:∀ {p q:Turn} {z:Int},p∈rawT rs z->q∈rawT rs z->p=q\/Far p q:=by
  intro p q z hp hq
  obtain ⟨i,hi⟩:=List.getElem?_of_mem hp
  obtain ⟨j,hj⟩:=List.getElem?_of_mem hq
  obtain ⟨hi1,rfl⟩:=List.getElem?_eq_some_iff.1 hi
  obtain ⟨hj1,rfl⟩:=List.getElem?_eq_some_iff.1 hj
  have hp:=List.pairwise_iff_getElem.1 (hf z).1
  rcases Nat.lt_trichotomy i j with h|h|h
  ·exact .inr (hp i j hi1 hj1 h)
  ·subst h;exact .inl rfl
  ·exact .inr (hp j i hj1 hi1 h).symm
 by_cases h1:z=v
 ·subst h1
  exact key (rawT_mem.2 ⟨r,hr,hz⟩) (rawT_mem.2 ⟨q,hq,hv⟩)
 ·by_cases h2:v=z - 1
  ·subst h2
   exact .inr ((hf z).2 a (rawT_mem.2 ⟨r,hr,hz⟩) b (rawT_mem.2 ⟨q,hq,hv⟩))
  ·by_cases h3:z=v - 1
   ·subst h3
    exact .inr ((hf v).2 b (rawT_mem.2 ⟨q,hq,hv⟩) a (rawT_mem.2 ⟨r,hr,hz⟩)).symm
   ·right
    unfold Far
    rcases Int.lt_or_le z v with h4|h4
    ·have:=jan_mono (a:=z+2) (b:=v) (by omega)
     have:=jan_next z;have:=jan_next (z+1)
     rw [show z+1+1=z+2 from by omega] at this
     omega
    ·have:=jan_mono (a:=v+2) (b:=z) (by omega)
     have:=jan_next v;have:=jan_next (v+1)
     rw [show v+1+1=v+2 from by omega] at this
     omega
end Trn
end
end
section
section
namespace Trn
open Go.RowKit Mem Civ Mom Img Rul Ahd
theorem year_form (a:Int):janI (a+1)=a / 400*146097+a % 400*365+a % 400 / 4 - a % 400 / 100+306 - 719468:=by
 have:=jan_form (a+1)
 rw [show a+1 - 1=a from by omega] at this
 exact this
theorem count_form (y m:Int):countI y m 1=janI ((if m<3 then y - 1 else y)+1)+(153*(if m<3 then m+9 else m - 3)+2) / 5 - 306:=by
 rw [year_form];unfold countI;simp only;omega
theorem count_next (y m:Int):countI y m 1+365<=countI (y+1) m 1/\countI (y+1) m 1<=countI y m 1+366:=by
 rw [count_form,count_form]
 by_cases h:m<3
 ·simp only [if_pos h]
  have:=jan_next y
  rw [show y - 1+1=y from by omega,show y+1 - 1+1=y+1 from by omega]
  omega
 ·simp only [if_neg h]
  have:=jan_next (y+1);omega
theorem rule_gap {s:Spot} {y a b:Int} (ha:localO s y=some a) (hb:localO s (y+1)=some b):a+350*86400<=b/\b<=a+374*86400:=by
 obtain ⟨hok,_,_,rfl⟩:=local_form ha;obtain ⟨_,_,_,rfl⟩:=local_form hb;have hm:=hok.1;have hm2:=hok.2.1;have hf:=count_next y s.month
 have hl:28<=mlen y s.month/\mlen y s.month<=31/\28<=mlen (y+1) s.month/\mlen (y+1) s.month<=31/\mlen y s.month<=mlen (y+1) s.month+1/\mlen (y+1) s.month<=mlen y s.month+1:=by
  have hc:¬ (s.month<1\/12<s.month):=by omega
  unfold mlen;simp only [if_neg hc]
  by_cases h2:s.month=2
  ·simp only [if_pos h2]
   cases leapB y<;>cases leapB (y+1)<;>simp
  ·simp only [if_neg h2]
   split<;>omega
 generalize countI y s.month 1=f at*;generalize countI (y+1) s.month 1=f' at*;generalize mlen y s.month=l at*;generalize mlen (y+1) s.month=l' at*;have b1:=backI_bd (f+l - 1) s.weekday;have b2:=backI_bd (f+s.day+5) s.weekday;have b3:=backI_bd (f+s.day - 1) s.weekday;have c1:=backI_bd (f'+l' - 1) s.weekday;have c2:=backI_bd (f'+s.day+5) s.weekday;have c3:=backI_bd (f'+s.day - 1) s.weekday;unfold spotDay
 split
 ·omega
 ·split
  ·omega
  ·split<;>omega
theorem rule_less {r:Rule} {z z':Int} {a b:Turn} (ha:turnL z r=some a) (hb:turnL z' r=some b) (h:z<z'):a.at_<b.at_:=by
 have na:=local_near (turnL_at ha).1;have nb:=local_near (turnL_at hb).1
 by_cases h1:z'=z+1
 ·subst h1
  have:=rule_gap (turnL_at ha).1 (turnL_at hb).1;omega
 ·have:=jan_mono (a:=z+2) (b:=z') (by omega)
  have:=jan_next z;have:=jan_next (z+1)
  rw [show z+1+1=z+2 from by omega] at this
  omega
def IsLatest (rs:List Rule) (so:Turn->Bool) (t:Turn):Prop:=Gt rs t/\so t=true/\∀ u,Gt rs u->so u=true->u.at_<=t.at_
theorem descF_none {α:Type} {g:Int->Option α} {top:Int}:∀ {n:Nat},descF g top n=none->∀ i:Nat,i<n->g (top - (i:Nat))=none
 |0,_,i,hi=>by omega
 |n+1,h,i,hi=>by
  unfold descF at h
  cases hd:descF g top n with
  |some v=>rw [hd] at h;simp at h
  |none=>
   rw [hd] at h
   by_cases hn:i=n
   ·subst hn;simpa using h
   ·exact descF_none hd i (by omega)
theorem descF_first {α:Type} {g:Int->Option α} {top:Int} {v:α}:∀ {n:Nat},descF g top n=some v->∃ i:Nat,i<n/\g (top - (i:Nat))=some v/\∀ j:Nat,j<i->g (top - (j:Nat))=none
 |0,h=>by cases h
 |n+1,h=>by
  unfold descF at h
  cases hd:descF g top n with
  |some u=>
   rw [hd] at h
   have hv:u=v:=by simpa using h
   subst hv;obtain ⟨i,h1,h2,h3⟩:=descF_first hd
   exact ⟨i,by omega,h2,h3⟩
  |none=>
   rw [hd] at h
   exact ⟨n,by omega,by simpa using h,fun j hj=>descF_none hd j hj⟩
theorem docF_none {so:Turn->Bool} {r:Rule} {Y:Int} (hm:∀ z t,turnL z r=some t->Y+2<=z->so t=false) (h:docF so r Y=none):∀ z t,turnL z r=some t->so t=false:=by
 intro z t ht
 by_cases hz:Y+2<=z
 ·exact hm z t ht hz
 ·have hin:r.lo<=z/\z<=r.hi:=by
   by_cases hc:z<r.lo\/r.hi<z
   ·rw [R11.turnL_out hc] at ht;cases ht
   ·omega
  have hl:docLast r Y=r.hi\/docLast r Y=Y+2:=by unfold docLast;split<;>simp
  have hge:z<=docLast r Y:=by unfold docLast;split<;>omega
  have:=descF_none (show descF (soL so r) (docLast r Y) (docLast r Y+1 - r.lo).toNat=none from h) (docLast r Y - z).toNat (by omega)
  rw [show docLast r Y - ((docLast r Y - z).toNat:Int)=z from by omega] at this
  unfold soL at this;rw [ht] at this
  by_cases hs:so t=true
  ·simp [Option.filter,hs] at this
  ·simpa using hs
theorem docF_some {so:Turn->Bool} {r:Rule} {Y:Int} {t:Turn} (hm:∀ z t,turnL z r=some t->Y+2<=z->so t=false) (h:docF so r Y=some t):(∃ z,turnL z r=some t)/\so t=true/\∀ z u,turnL z r=some u->so u=true->u.at_<=t.at_:=by
 obtain ⟨i,hi,h1,h2⟩:=descF_first (show descF (soL so r) (docLast r Y) (docLast r Y+1 - r.lo).toNat=some t from h);unfold soL at h1
 cases ht:turnL (docLast r Y - (i:Nat)) r with
 |none=>rw [ht] at h1;cases h1
 |some v=>
  rw [ht] at h1
  by_cases hs:so v=true
  ·have hv:v=t:=by simpa [Option.filter,hs] using h1
   subst hv
   refine ⟨⟨_,ht⟩,hs,fun z u hu hsu=>?_⟩
   rcases Int.lt_trichotomy z (docLast r Y - (i:Nat)) with h3|h3|h3
   ·exact Int.le_of_lt (rule_less hu ht h3)
   ·rw [h3,ht] at hu
    injection hu with hu
    rw [hu];exact Int.le_refl _
   ·exfalso
    by_cases hz:Y+2<=z
    ·rw [hm z u hu hz] at hsu;cases hsu
    ·have hin:r.lo<=z/\z<=r.hi:=by
      by_cases hc:z<r.lo\/r.hi<z
      ·rw [R11.turnL_out hc] at hu;cases hu
      ·omega
     have hge:z<=docLast r Y:=by unfold docLast;split<;>omega
     have:=h2 (docLast r Y - z).toNat (by omega)
     rw [show docLast r Y - ((docLast r Y - z).toNat:Int)=z from by omega] at this
     unfold soL at this;rw [hu] at this;simp [Option.filter,hsu] at this
  ·simp [Option.filter,hs] at h1
theorem docL_spec {so:Turn->Bool} {rs:List Rule} {Y:Int} (hm:∀ r∈rs,∀ z t,turnL z r=some t->Y+2<=z->so t=false):
  (∀ t,docL so Y rs=some t->IsLatest rs so t)/\(docL so Y rs=none->∀ u,Gt rs u->so u=false):=by
 have key:∀ (l:List Rule) (b:Option Turn),(∀ r∈l,∀ z t,turnL z r=some t->Y+2<=z->so t=false)->(∀ t,b=some t->so t=true)->
   (∀ t,l.foldl (fun b x=>joinT b (docF so x Y)) b=some t->((b=some t\/Gt l t)/\so t=true/\(∀ u,b=some u->u.at_<=t.at_)/\∀ u,Gt l u->so u=true->u.at_<=t.at_))/\
   (l.foldl (fun b x=>joinT b (docF so x Y)) b=none->b=none/\∀ u,Gt l u->so u=false):=by
  intro l
  induction l with
  |nil=>
   intro b _ hb
   refine ⟨fun t ht=>⟨.inl ht,hb t ht,fun u hu=>?_,fun u ⟨r,hr,_⟩=>by simp at hr⟩,fun h=>⟨h,fun u ⟨r,hr,_⟩=>by simp at hr⟩⟩
   simp only [List.foldl_nil] at ht;rw [ht] at hu
   injection hu with hu
   rw [hu];exact Int.le_refl _
  |cons a l ih=>
   intro b hl hb;rw [List.foldl_cons];have ha:=hl a List.mem_cons_self;have hl2:∀ r∈l,∀ z t,turnL z r=some t->Y+2<=z->so t=false:=fun r hr=>hl r (List.mem_cons_of_mem _ hr)
   cases hd:docF so a Y with
   |none=>
    have hno:=docF_none ha hd
    have hj:joinT b none=b:=by cases b<;>rfl
    rw [hj];obtain ⟨h1,h2⟩:=ih b hl2 hb
    refine ⟨fun t ht=>?_,fun h=>?_⟩
    ·obtain ⟨p1,p2,p3,p4⟩:=h1 t ht
     refine ⟨p1.imp id fun ⟨r,hr,hz⟩=>⟨r,List.mem_cons_of_mem _ hr,hz⟩,p2,p3,fun u ⟨r,hr,z,hz⟩ hu=>?_⟩
     rcases List.mem_cons.1 hr with rfl|hr
     ·rw [hno z u hz] at hu;cases hu
     ·exact p4 u ⟨r,hr,z,hz⟩ hu
    ·obtain ⟨p1,p2⟩:=h2 h
     refine ⟨p1,fun u ⟨r,hr,z,hz⟩=>?_⟩
     rcases List.mem_cons.1 hr with rfl|hr
     ·exact hno z u hz
     ·exact p2 u ⟨r,hr,z,hz⟩
   |some v=>
    obtain ⟨hv1,hv2,hv3⟩:=docF_some ha hd
    have hj:∃ w,joinT b (some v)=some w/\(w=v\/b=some w)/\v.at_<=w.at_/\∀ u,b=some u->u.at_<=w.at_:=by
     cases b with
     |none=>exact ⟨v,rfl,.inl rfl,Int.le_refl _,fun u hu=>by cases hu⟩
     |some p=>
      by_cases hle:p.at_<=v.at_
      ·exact ⟨v,join_le hle,.inl rfl,Int.le_refl _,fun u hu=>by injection hu with hu;subst hu;exact hle⟩
      ·exact ⟨p,join_gt hle,.inr rfl,by omega,fun u hu=>by injection hu with hu;subst hu;exact Int.le_refl _⟩
    obtain ⟨w,hw,hw1,hw2,hw3⟩:=hj;rw [hw]
    have hws:so w=true:=by
     rcases hw1 with h|h
     ·rw [h];exact hv2
     ·exact hb w h
    obtain ⟨h1,h2⟩:=ih (some w) hl2 (fun t ht=>by injection ht with ht;rw [<-ht];exact hws)
    refine ⟨fun t ht=>?_,fun h=>?_⟩
    ·obtain ⟨p1,p2,p3,p4⟩:=h1 t ht
     have p5:=p3 w rfl
     refine ⟨?_,p2,fun u hu=>Int.le_trans (hw3 u hu) p5,fun u ⟨r,hr,z,hz⟩ hu=>?_⟩
     ·rcases p1 with h|⟨r,hr,hz⟩
      ·injection h with h
       subst h
       rcases hw1 with h|h
       ·right
        obtain ⟨z,hz⟩:=hv1
        exact ⟨a,List.mem_cons_self,z,by rw [h];exact hz⟩
       ·exact .inl h
      ·exact .inr ⟨r,List.mem_cons_of_mem _ hr,hz⟩
     ·rcases List.mem_cons.1 hr with rfl|hr
      ·exact Int.le_trans (hv3 z u hz hu) (Int.le_trans hw2 p5)
      ·exact p4 u ⟨r,hr,z,hz⟩ hu
    ·have:=(h2 h).1
     cases this
 obtain ⟨h1,h2⟩:=key rs none hm (fun t ht=>by cases ht)
 refine ⟨fun t ht=>?_,fun h=>(h2 h).2⟩
 obtain ⟨p1,p2,_,p4⟩:=h1 t ht
 exact ⟨p1.elim (fun h=>by cases h) id,p2,p4⟩
theorem ahead_spec {rs:List Rule} (hr:rulesB rs=true) (a:Int):
  (∀ t,aheadO rs a=some t->IsLatest rs (fun t=>decide (t.at_<a)) t)/\(aheadO rs a=none->∀ u,Gt rs u->¬ u.at_<a):=by
 have hu:aheadO rs a=latestL (fun t=>decide (t.at_<a)) (yearI a) rs:=by unfold aheadO;rw [if_pos hr]
 rcases ahead_mid (rs:=rs) (at_:=a) with hm|⟨_,hno⟩
 ·rw [hu,latest_same hr (yearI_le a) hm]
  obtain ⟨h1,h2⟩:=docL_spec (so:=fun t=>decide (t.at_<a)) (rs:=rs) (Y:=yearI a) (fun r hr z t ht hz=>(hm r hr z t ht).2 hz)
  exact ⟨h1,fun h u hgu=>by have:=h2 h u hgu;simpa using this⟩
 ·have hno2:∀ r∈rs,∀ z t,turnL z r=some t->decide (t.at_<a)=false:=fun r hrm z t ht=>hno r hrm (List.all_eq_true.1 hr r hrm) z t ht
  rw [hu,latest_no hno2]
  exact ⟨fun t ht=>(by cases ht),fun _ u ⟨r,hrm,z,hz⟩=>(by have:=hno2 r hrm z u hz;simpa using this)⟩
theorem force_spec {rs:List Rule} {off t:Int} (hr:rulesB rs=true) (h1: -86400<off) (h2:off<86400):
  (∀ x,latestL (fun x=>decide (uniT rs off x<=t)) (yearI t) rs=some x->IsLatest rs (fun x=>decide (uniT rs off x<=t)) x)/\(latestL (fun x=>decide (uniT rs off x<=t)) (yearI t) rs=none->∀ u,Gt rs u->¬ uniT rs off u<=t):=by
 rcases force_mid (rs:=rs) (off:=off) (at_:=t) hr h1 h2 with hm|⟨_,hno⟩
 ·rw [latest_same hr (yearI_le t) hm]
  obtain ⟨h3,h4⟩:=docL_spec (so:=fun x=>decide (uniT rs off x<=t)) (rs:=rs) (Y:=yearI t) (fun r hr z t ht hz=>(hm r hr z t ht).2 hz)
  exact ⟨h3,fun h u hgu=>by have:=h4 h u hgu;simpa using this⟩
 ·have hno2:∀ r∈rs,∀ z x,turnL z r=some x->decide (uniT rs off x<=t)=false:=fun r hrm z x hx=>hno r hrm z x hx
  rw [latest_no hno2]
  exact ⟨fun x hx=>(by cases hx),fun _ u ⟨r,hrm,z,hz⟩=>(by have:=hno2 r hrm z u hz;simpa using this)⟩
theorem uni_is {rs:List Rule} {off:Int} (hr:rulesB rs=true) (h1: -86400<off) (h2:off<86400) {t:Turn} (hg:Gt rs t):uniT rs off t=uniS off ((aheadO rs t.at_).getD noTurn).save t/\(t.ref=0\/t.ref=1\/t.ref=2):=by
 obtain ⟨r,hrm,z,hz⟩:=hg;have hb:=turn_bd hz;have hs:=ahead_save hr t.at_;have hrf:=(turnL_at hz).2.2.2;have hrs:=rule_save hr hrm
 refine ⟨?_,by omega⟩
 unfold uniT uniS
 have w1:wrap64 (t.at_ - off)=t.at_ - off:=by unfold wrap64;omega
 rw [w1]
 split
 ·next h0=>
  rw [if_neg (by omega)]
  unfold wrap64;omega
 ·rfl
theorem uni_bd {rs:List Rule} {off:Int} (hr:rulesB rs=true) (h1: -86400<off) (h2:off<86400) {t:Turn} (hg:Gt rs t):∃ a,uniT rs off t=t.at_ - a/\(a=0\/(off - 43200<=a/\a<=off+43200)):=by
 obtain ⟨e,hrf⟩:=uni_is hr h1 h2 hg;have hs:=ahead_save hr t.at_;rw [e];unfold uniS
 rcases hrf with h|h|h
 ·rw [if_pos h,if_neg (by omega)]
  exact ⟨off+((aheadO rs t.at_).getD noTurn).save,by omega,.inr ⟨by omega,by omega⟩⟩
 ·rw [if_neg (by omega),if_neg (by omega)]
  exact ⟨off,by omega,.inr ⟨by omega,by omega⟩⟩
 ·rw [if_neg (by omega),if_pos h]
  exact ⟨0,by omega,.inl rfl⟩
end Trn
end
end
end Go.Proofs.YtmlejgdohcpmjaaGreatDoor
