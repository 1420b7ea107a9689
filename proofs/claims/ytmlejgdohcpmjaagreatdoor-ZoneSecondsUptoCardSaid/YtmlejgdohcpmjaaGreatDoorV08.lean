/-
  Contracts of the code that the law reaches, and plain laws. Conditions: as each says.
-/
import Derived.Test.YtmlejgdohcpmjaaGreatDoorV07
set_option linter.all false
set_option maxHeartbeats 40000000
set_option maxRecDepth 100000
namespace Go.Proofs.YtmlejgdohcpmjaaGreatDoor
open Lib (hid)
open Tryz
section
section
namespace Ahd
open Go.RowKit Mem Civ Mom Img Rul
def janI (y:Int):Int:=countI y 1 1
theorem jan_form (y:Int):janI y=(y - 1) / 400*146097+(y - 1) % 400*365+(y - 1) % 400 / 4 - (y - 1) % 400 / 100+306 - 719468:=by
 unfold janI countI
 simp only [show (1:Int)<3 from by decide,if_true]
 omega
theorem jan_next (y:Int):janI y+365<=janI (y+1)/\janI (y+1)<=janI y+366:=by
 have h:=R05.jan_step y;unfold janI;rw [h];unfold R05.ylen
 split<;>omega
theorem jan_far (a:Int):∀ k:Nat,janI a+365*(k:Int)<=janI (a+k)
 |0=>by simp
 |k+1=>by
  have h1:=jan_far a k;have h2:=(jan_next (a+k)).1
  rw [show a+((k+1:Nat):Int)=a+k+1 by omega]
  omega
theorem jan_mono {a b:Int} (h:a<=b):janI a+365*(b - a)<=janI b:=by
 obtain ⟨k,rfl⟩:∃ k:Nat,b=a+k:=⟨(b - a).toNat,by omega⟩
 have:=jan_far a k;omega
theorem year_in (n:Int):janI (yearD n)<=n/\n<janI (yearD n+1):=by
 have e5:restOf n=dayOf n - (365*yOf n+yOf n / 4 - yOf n / 100):=rfl;have e6:yOf n=(dayOf n - dayOf n / 1460+dayOf n / 36524 - dayOf n / 146096) / 365:=rfl;have e7:dayOf n=(n+719468) % 146097:=rfl;have hr:=rest_bd n
 have hy0:0<=yOf n/\yOf n<=399:=by omega
 have hn:n=(n+719468) / 146097*146097+dayOf n - 719468:=by omega
 have hm:mOf n=(5*restOf n+2) / 153:=rfl;rw [jan_form,jan_form];unfold yearD;generalize mOf n=m at*;generalize restOf n=r at*;generalize yOf n=y at*;generalize dayOf n=d at*;generalize (n+719468) / 146097=c at*;clear e6 e7
 split
 ·have k1:(y+400*c+1 - 1) / 400=c:=by omega
  have k2:(y+400*c+1 - 1) % 400=y:=by omega
  rw [k1,k2]
  rcases (by omega:y=399\/y<399) with h|h
  ·have k3:(y+400*c+1+1 - 1) / 400=c+1:=by omega
   have k4:(y+400*c+1+1 - 1) % 400=0:=by omega
   rw [k3,k4];omega
  ·have k3:(y+400*c+1+1 - 1) / 400=c:=by omega
   have k4:(y+400*c+1+1 - 1) % 400=y+1:=by omega
   rw [k3,k4];omega
 ·have k1:(y+400*c+1 - 1) / 400=c:=by omega
  have k2:(y+400*c+1 - 1) % 400=y:=by omega
  rw [k1,k2]
  rcases (by omega:y=0\/0<y) with h|h
  ·have k3:(y+400*c - 1) / 400=c - 1:=by omega
   have k4:(y+400*c - 1) % 400=399:=by omega
   rw [k3,k4];omega
  ·have k3:(y+400*c - 1) / 400=c:=by omega
   have k4:(y+400*c - 1) % 400=y - 1:=by omega
   rw [k3,k4];omega
theorem year_only {n y:Int} (h1:janI y<=n) (h2:n<janI (y+1)):y=yearD n:=by
 obtain ⟨h3,h4⟩:=year_in n
 rcases Int.lt_trichotomy y (yearD n) with h|h|h
 ·have:=jan_mono (a:=y+1) (b:=yearD n) (by omega)
  omega
 ·exact h
 ·have:=jan_mono (a:=yearD n+1) (b:=y) (by omega)
  omega
theorem month_near {y m:Int} (h1:1<=m) (h2:m<=12):janI y<=countI y m 1/\countI y m 1<=janI y+335:=by
 have h:=jan_form y;rw [h];unfold countI;simp only
 split
 ·omega
 ·rcases (by omega:(y % 400=0\/0<y % 400)) with k|k
  ·have k1:(y - 1) / 400=y / 400 - 1:=by omega
   have k2:(y - 1) % 400=399:=by omega
   rw [k1,k2,k];omega
  ·have k1:(y - 1) / 400=y / 400:=by omega
   have k2:(y - 1) % 400=y % 400 - 1:=by omega
   rw [k1,k2];omega
theorem day_near {s:Spot} (hs:s.okP) {y f:Int} (hf:f=countI y s.month 1):janI y - 6<=spotDay s f (mlen y s.month)/\spotDay s f (mlen y s.month)<=janI y+371:=by
 obtain ⟨hm1,hm2,hk1,hk2,_,_,_,_,ho1,ho2,ho3⟩:=hs;have h:=month_near (y:=y) hm1 hm2;rw [<-hf] at h;have hml:=mlen_bd y s.month
 have hml2:28<=mlen y s.month:=by
  unfold mlen
  split
  ·omega
  ·split
   ·split<;>omega
   ·split<;>omega
 have b1:=backI_bd (f+mlen y s.month - 1) s.weekday;have b2:=backI_bd (f+s.day+5) s.weekday;have b3:=backI_bd (f+s.day - 1) s.weekday;unfold spotDay
 split
 ·have:=ho1 (by omega);omega
 ·split
  ·have:=ho2 (by omega);omega
  ·split
   ·have:=ho3 (by omega);omega
   ·have:=ho3 (by omega);omega
theorem local_near {s:Spot} {y n:Int} (h:localO s y=some n):(janI y - 13)*86400<=n/\n<(janI y+379)*86400:=by
 unfold localO at h
 cases ho:onO s y with
 |none=>rw [ho] at h;cases h
 |some k=>
  rw [ho,Option.map_some,Option.some.injEq] at h;have hok:=(onO_bd ho).2.1;unfold onO at ho
  split at ho
  ·cases ho
  ·cases hd:daysO y s.month 1 with
   |none=>rw [hd] at ho;cases ho
   |some f=>
    rw [hd,Option.bind_some] at ho
    have hf:f=countI y s.month 1:=by
     unfold daysO at hd
     split at hd
     ·cases hd
     ·split at hd
      ·cases hd
      ·exact (Option.some.inj hd).symm
    have hb:=day_near hok hf;have ht:=hok;obtain ⟨_,_,_,_,t1,t2,_⟩:=ht
    split at ho
    ·cases ho
    ·injection ho with ho
     subst ho;omega
theorem jan_at:janI 1= -719162/\janI 275758=99999014:=by decide
theorem local_there {s:Spot} {y:Int} (hs:spotB s=true) (h1:1<=y) (h2:y<=275758):∃ n,localO s y=some n:=by
 have hok:=spotB_ok hs;have hm:=month_near (y:=y) hok.1 hok.2.1;have hd:=day_near hok (y:=y) (f:=countI y s.month 1) rfl;have g1:=jan_mono h1;have g2:=jan_mono h2;have g3:=jan_at
 have hdays:daysO y s.month 1=some (countI y s.month 1):=by
  have hl:¬ mlen y s.month<1:=by
   obtain ⟨q1,q2,_⟩:=hok;unfold mlen
   split
   ·omega
   ·split
    ·split<;>omega
    ·split<;>omega
  unfold daysO
  rw [if_neg (by omega),if_neg (by omega)]
 refine ⟨spotDay s (countI y s.month 1) (mlen y s.month)*86400+s.time,?_⟩
 unfold localO onO
 rw [if_neg (by rw [hs];simp;omega),hdays,Option.bind_some,if_neg (by omega),Option.map_some]
def descF {α:Type} (g:Int->Option α) (top:Int):Nat->Option α
 |0=>none
 |n+1=>(descF g top n).or (g (top - (n:Nat)))
theorem desc_more {α:Type} {g:Int->Option α} {top:Int} {n:Nat}:∀ k:Nat,((descF g top n).isSome=true\/∀ i:Nat,n<=i->i<n+k->g (top - (i:Nat))=none)->descF g top (n+k)=descF g top n
 |0,_=>rfl
 |k+1,h=>by
  have ih:=desc_more k (h.imp id fun h i h1 h2=>h i h1 (by omega))
  rw [<-Nat.add_assoc,descF,ih]
  rcases h with h|h
  ·obtain ⟨v,hv⟩:=Option.isSome_iff_exists.1 h
   rw [hv];rfl
  ·rw [h (n+k) (by omega) (by omega)]
   cases descF g top n<;>rfl
theorem desc_down {α:Type} {g:Int->Option α} {top:Int} (h:g (top+1)=none):∀ n:Nat,descF g (top+1) (n+1)=descF g top n
 |0=>by
  simp only [descF,Int.natCast_zero,Int.sub_zero,h]
  rfl
 |n+1=>by
  rw [descF,desc_down h n,descF,show top+1 - ((n+1:Nat):Int)=top - (n:Nat) by omega]
theorem desc_some {α:Type} {g:Int->Option α} {top:Int} {n i:Nat} (hi:i<n) (h:(g (top - (i:Nat))).isSome=true):(descF g top n).isSome=true:=by
 induction n with
 |zero=>omega
 |succ n ih=>
  rw [descF]
  rcases Nat.lt_or_ge i n with hlt|hge
  ·have:=ih hlt
   obtain ⟨v,hv⟩:=Option.isSome_iff_exists.1 this;rw [hv];rfl
  ·obtain rfl:i=n:=by omega
   cases descF g top i with
   |none=>exact h
   |some v=>rfl
theorem desc_nil {α:Type} {g:Int->Option α} {top:Int}:∀ {n:Nat},(∀ i:Nat,i<n->g (top - (i:Nat))=none)->descF g top n=none
 |0,_=>rfl
 |n+1,h=>by
  rw [descF,desc_nil fun i hi=>h i (by omega),h n (by omega)];rfl
def soL (so:Turn->Bool) (r:Rule) (y:Int):Option Turn:=(turnL y r).filter so
theorem find_desc (so:Turn->Bool) (r:Rule) (y:Int):∀ n:Nat,(partL r y n).find? so=descF (soL so r) (lastY r y) n
 |0=>rfl
 |n+1=>by
  rw [partL_succ,List.find?_append,find_desc so r y n,descF]
  congr 1
  unfold soL
  cases turnL (lastY r y - (n:Nat)) r with
  |none=>rfl
  |some t=>simp [Option.filter,List.find?_cons];cases so t<;>rfl
def docLast (r:Rule) (y:Int):Int:=if r.hi<y+2 then r.hi else y+2
def docF (so:Turn->Bool) (r:Rule) (y:Int):Option Turn:=descF (soL so r) (docLast r y) (docLast r y+1 - r.lo).toNat
def joinT (best:Option Turn) (o:Option Turn):Option Turn:=match o with
 |none=>best
 |some t=>match best with
  |none=>some t
  |some b=>if b.at_<=t.at_ then some t else some b
theorem stepT_is (so:Turn->Bool) (best:Option Turn) (l:List Turn):stepT so best l=joinT best (l.find? so):=by
 unfold stepT joinT
 cases l.find? so<;>rfl
theorem soL_low {so:Turn->Bool} {r:Rule} {y:Int} (h:y<r.lo):soL so r y=none:=by unfold soL;rw [turnL_low h];rfl
theorem turnL_at {r:Rule} {y:Int} {t:Turn} (h:turnL y r=some t):localO (spotOf r) y=some t.at_/\t.save=r.save/\t.letter=r.letter/\t.ref=r.ref:=by
 unfold turnL turnO at h;simp only at h
 split at h
 ·next hc=>
  rw [Bool.and_eq_true] at hc;obtain ⟨n,hn⟩:=Option.isSome_iff_exists.1 hc.1
  injection h with h
  rw [hn] at h;subst h;exact ⟨hn,rfl,rfl,rfl⟩
 ·cases h
def Mid (so:Turn->Bool) (rs:List Rule) (Y:Int):Prop:=∀ r∈rs,∀ z t,turnL z r=some t->(z<=Y - 2->so t=true)/\(Y+2<=z->so t=false)
theorem find_same {so:Turn->Bool} {r:Rule} {Y:Int} (hr:ruleB r=true) (hY:Y<=275760)
  (h:∀ z t,turnL z r=some t->(z<=Y - 2->so t=true)/\(Y+2<=z->so t=false)):(backL r Y).find? so=docF so r Y:=by
 have hp:ruleP r:=of_decide_eq_true hr;have hlo:1<=r.lo:=hp.1.1;unfold backL docF;rw [find_desc]
 have hlast:docLast r Y=lastY r Y\/(docLast r Y=lastY r Y+1/\docLast r Y=Y+2):=by unfold docLast lastY;split<;>omega
 have hup:lastY r Y<=r.hi/\lastY r Y<=Y+1:=by unfold lastY;omega
 have hlast2:lastY r Y=r.hi\/lastY r Y=Y+1:=by unfold lastY;omega
 have key:∀ n:Nat,lastY r Y+1 - r.lo<=n->descF (soL so r) (lastY r Y) n=descF (soL so r) (lastY r Y) 4:=by
  intro n hn
  have hsome:r.lo<=lastY r Y - 3->(descF (soL so r) (lastY r Y) 4).isSome=true:=fun hl=>by
   refine desc_some (i:=3) (by omega) ?_
   obtain ⟨v,hv⟩:=local_there (spotB_true hp.2.2.1) (y:=lastY r Y - 3) (by omega) (by omega)
   obtain ⟨t,ht⟩:∃ t,turnL (lastY r Y - 3) r=some t:=by
    unfold turnL turnO
    simp only [hv,Option.isSome_some,Bool.true_and,decide_eq_true (show r.lo<=lastY r Y - 3/\lastY r Y - 3<=r.hi from ⟨hl,by omega⟩)]
    exact ⟨_,rfl⟩
   have:=(h _ _ ht).1 (by omega)
   unfold soL
   rw [show lastY r Y - ((3:Nat):Int)=lastY r Y - 3 by omega,ht]
   simp [Option.filter,this]
  rcases Nat.le_total n 4 with h4|h4
  ·obtain ⟨k,hk4⟩:∃ k,4=n+k:=⟨4 - n,by omega⟩
   have hk:descF (soL so r) (lastY r Y) (n+k)=descF (soL so r) (lastY r Y) n:=desc_more k (.inr fun i h1 h2=>soL_low (by omega))
   rw [<-hk4] at hk;exact hk.symm
  ·obtain ⟨k,rfl⟩:∃ k,n=4+k:=⟨n - 4,by omega⟩
   refine desc_more k ?_
   rcases Int.lt_or_le (lastY r Y - 3) r.lo with hl|hl
   ·exact .inr fun i h1 h2=>soL_low (by omega)
   ·exact .inl (hsome hl)
 rcases hlast with he|⟨he,he2⟩
 ·rw [he]
  exact (key _ (by omega)).symm
 ·rw [he]
  have hno:soL so r (lastY r Y+1)=none:=by
   unfold soL
   cases ht:turnL (lastY r Y+1) r with
   |none=>rfl
   |some t=>simp [Option.filter,(h _ _ ht).2 (by omega)]
  rcases Int.lt_or_le (lastY r Y+1) r.lo with hl|hl
  ·rw [show (lastY r Y+1+1 - r.lo).toNat=0 by omega,<-key 0 (by omega)]
   rfl
  ·obtain ⟨n,hn⟩:∃ n:Nat,(lastY r Y+1+1 - r.lo).toNat=n+1:=⟨(lastY r Y+1 - r.lo).toNat,by omega⟩
   rw [hn,desc_down hno,key n (by omega)]
def docL (so:Turn->Bool) (y:Int) (rs:List Rule):Option Turn:=rs.foldl (fun b x=>joinT b (docF so x y)) none
theorem latest_same {so:Turn->Bool} {rs:List Rule} {Y:Int} (hr:rulesB rs=true) (hY:Y<=275760) (h:Mid so rs Y):latestL so Y rs=docL so Y rs:=by
 have:∀ (l:List Rule) (b:Option Turn),(∀ r∈l,r∈rs)->l.foldl (fun b x=>stepT so b (backL x Y)) b=l.foldl (fun b x=>joinT b (docF so x Y)) b:=by
  intro l
  induction l with
  |nil=>intro b _;rfl
  |cons a l ih=>
   intro b hl;rw [List.foldl_cons,List.foldl_cons,ih _ fun r hm=>hl r (List.mem_cons_of_mem _ hm),stepT_is,find_same (List.all_eq_true.1 hr a (hl a List.mem_cons_self)) hY (h a (hl a List.mem_cons_self))]
 exact this rs none fun r hr=>hr
def yearJ (t:Int):Int:=if t< -9000000000000 then -271821 else if 8640000000000<t then 275760 else if t / 86400< -100000001 then -271821 else yearD (t / 86400)
theorem yearD_last:yearD 100000000=275760:=by decide
theorem ahead_mid {rs:List Rule} {at_:Int}:Mid (fun t=>decide (t.at_<at_)) rs (yearI at_)\/(yearI at_=0/\∀ r∈rs,ruleB r=true->∀ z t,turnL z r=some t->decide (t.at_<at_)=false):=by
 unfold yearI
 split
 ·refine .inr ⟨rfl,fun r _ hr z t ht=>decide_eq_false ?_⟩
  obtain ⟨hl,_⟩:=turnL_at ht;have hb:=local_near hl
  have hy:=(by unfold localO at hl;cases ho:onO (spotOf r) z with
   |none=>rw [ho] at hl;cases hl
   |some k=>exact (onO_bd ho).2.2:1<=z/\z<=300000)
  have:=jan_mono hy.1;have:=jan_at.1;omega
 ·refine .inl fun r _ z t ht=>?_
  obtain ⟨hl,_⟩:=turnL_at ht;have hb:=local_near hl
  split
  ·have hd:yearD 100000000=275760:=yearD_last
   have hin:=year_in 100000000;rw [hd] at hin ⊢
   refine ⟨fun hz=>decide_eq_true ?_,fun hz=>?_⟩
   ·have:=jan_mono (a:=z) (b:=275758) (by omega)
    have:=jan_at.2;omega
   ·exfalso
    unfold localO at hl
    cases ho:onO (spotOf r) z with
    |none=>rw [ho] at hl;cases hl
    |some k=>
     have h1:=(onO_bd ho).1;rw [ho] at hl
     injection hl with hl
     have h2:=jan_mono (a:=275761) (b:=z) (by omega)
     have h3:=jan_next 275760;have ho2:=ho;unfold onO at ho2
     split at ho2
     ·cases ho2
     ·unfold daysO at ho2
      rw [if_pos (by omega)] at ho2
      cases ho2
  ·have hin:=year_in (at_ / 86400)
   refine ⟨fun hz=>decide_eq_true ?_,fun hz=>decide_eq_false ?_⟩
   ·have h1:=jan_mono (a:=z) (b:=yearD (at_ / 86400) - 2) (by omega)
    have h2:=jan_mono (a:=yearD (at_ / 86400) - 2) (b:=yearD (at_ / 86400)) (by omega)
    omega
   ·have h1:=jan_mono (a:=yearD (at_ / 86400)+2) (b:=z) (by omega)
    have h2:=jan_mono (a:=yearD (at_ / 86400)+1) (b:=yearD (at_ / 86400)+2) (by omega)
    omega
theorem yearD_le {n:Int} (h:n<=100000000):yearD n<=275760:=by
 rcases Int.lt_or_le 275760 (yearD n) with h1|h1
 ·have h2:=jan_mono (a:=275761) (b:=yearD n) (by omega)
  have h3:=(year_in 100000000).2;rw [yearD_last,show (275760:Int)+1=275761 from rfl] at h3;have:=(year_in n).1;omega
 ·exact h1
theorem yearI_le (t:Int):yearI t<=275760:=by
 unfold yearI
 split
 ·omega
 ·split
  ·exact yearD_le (by omega)
  ·exact yearD_le (by omega)
theorem yearJ_is (t:Int):yearJ t=yearI t\/(yearI t=0/\yearJ t= -271821):=by
 unfold yearJ yearI
 split
 ·rw [if_pos (by omega)];exact .inr ⟨rfl,rfl⟩
 ·split
  ·rw [if_neg (by omega)]
   split
   ·exact .inl yearD_last.symm
   ·rw [show t / 86400=100000000 by omega];exact .inl yearD_last.symm
  ·split
   ·exact .inr ⟨rfl,rfl⟩
   ·rw [if_neg (by omega)];exact .inl rfl
theorem docF_no {so:Turn->Bool} {r:Rule} {y:Int} (h:∀ z t,turnL z r=some t->so t=false):docF so r y=none:=by
 unfold docF
 refine desc_nil fun i _=>?_
 unfold soL
 cases ht:turnL (docLast r y - (i:Nat)) r with
 |none=>rfl
 |some t=>simp [Option.filter,h _ _ ht]
theorem docL_no {so:Turn->Bool} {rs:List Rule} {y:Int} (h:∀ r∈rs,∀ z t,turnL z r=some t->so t=false):docL so y rs=none:=by
 unfold docL
 induction rs with
 |nil=>rfl
 |cons a l ih=>rw [List.foldl_cons,docF_no (h a List.mem_cons_self)];exact ih fun r hr=>h r (List.mem_cons_of_mem _ hr)
theorem back_no {so:Turn->Bool} {r:Rule} {y:Int} (h:∀ z t,turnL z r=some t->so t=false):(backL r y).find? so=none:=by
 unfold backL;rw [find_desc]
 refine desc_nil fun i _=>?_
 unfold soL
 cases ht:turnL (lastY r y - (i:Nat)) r with
 |none=>rfl
 |some t=>simp [Option.filter,h _ _ ht]
theorem latest_no {so:Turn->Bool} {rs:List Rule} {y:Int} (h:∀ r∈rs,∀ z t,turnL z r=some t->so t=false):latestL so y rs=none:=by
 unfold latestL
 induction rs with
 |nil=>rfl
 |cons a l ih=>rw [List.foldl_cons,stepT_is,back_no (h a List.mem_cons_self)];exact ih fun r hr=>h r (List.mem_cons_of_mem _ hr)
def aheadD (rs:List Rule) (at_:Int):Option Turn:=docL (fun t=>decide (t.at_<at_)) (yearJ at_) rs
theorem aheadD_is {rs:List Rule} {at_:Int} (hr:rulesB rs=true):aheadD rs at_=aheadO rs at_:=by
 unfold aheadD aheadO;rw [if_pos hr]
 rcases ahead_mid (rs:=rs) (at_:=at_) with h|⟨h0,h⟩
 ·rcases yearJ_is at_ with e|⟨e0,e1⟩
  ·rw [e,latest_same hr (yearI_le at_) h]
  ·have hall:∀ r∈rs,∀ z t,turnL z r=some t->(fun t:Turn=>decide (t.at_<at_)) t=false:=fun r hm z t ht=>by
    obtain ⟨hl,_⟩:=turnL_at ht
    have hy:=(by unfold localO at hl;cases ho:onO (spotOf r) z with
     |none=>rw [ho] at hl;cases hl
     |some k=>exact (onO_bd ho).2.2:1<=z/\z<=300000)
    have hb:=local_near hl;have h2:=jan_mono hy.1;have h3:=jan_at.1
    refine decide_eq_false ?_
    unfold yearJ at e1
    split at e1
    ·omega
    ·split at e1
     ·cases e1
     ·split at e1
      ·omega
      ·have h4:=(year_in (at_ / 86400)).2
       rw [e1,show (-271821:Int)+1= -271820 from rfl] at h4
       have h5:=jan_mono (a:= -271820) (b:=1) (by omega)
       omega
   rw [docL_no hall,latest_no hall]
 ·have hall:∀ r∈rs,∀ z t,turnL z r=some t->(fun t:Turn=>decide (t.at_<at_)) t=false:=fun r hm=>h r hm (List.all_eq_true.1 hr r hm)
  rw [docL_no hall,latest_no hall]
end Ahd
namespace Ahd
open Go.RowKit Mem Civ Mom Img Rul
structure DateOf (n y m d:Int):Prop where
 m1:1<=m
 m2:m<=12
 d1:1<=d
 d2:d<=mlen y m
 cnt:countI y m d=n
theorem december (y:Int):countI y 12 1+31=janI (y+1):=by
 rw [jan_form];unfold countI
 simp only [show ¬ (12:Int)<3 from by decide,if_false]
 omega
theorem month_upto (y:Int):∀ k:Nat,k<=11->countI y (12 - k) 1+mlen y (12 - k)<=janI (y+1)
 |0,_=>by
  have h:=december y;have e:mlen y 12=31:=rfl;simp only [Int.natCast_zero,Int.sub_zero,e];omega
 |k+1,hk=>by
  have ih:=month_upto y k (by omega)
  have h:=R05.month_step (y:=y) (m:=12 - ((k+1:Nat):Int)) (by omega)
  have h2:=mlen_bd y (12 - (k:Int))
  rw [show 12 - ((k+1:Nat):Int)+1=12 - (k:Int) by omega] at h
  omega
theorem month_end {y m:Int} (h1:1<=m) (h2:m<=12):countI y m 1+mlen y m<=janI (y+1):=by
 have h:=month_upto y (12 - m).toNat (by omega)
 rw [show 12 - (((12 - m).toNat:Nat):Int)=m by omega] at h
 exact h
theorem DateOf.year {n y m d:Int} (h:DateOf n y m d):y=yearD n:=by
 have h1:=month_near (y:=y) h.m1 h.m2;have h2:=month_end (y:=y) h.m1 h.m2;have h3:=R05.count_day y m d;have h4:=h.d1;have h5:=h.d2;rw [h.cnt] at h3
 exact year_only (by omega) (by omega)
theorem jan_le {y:Int} (h:janI y<=100000000):y<=275760:=by
 rcases Int.lt_or_le 275760 y with h1|h1
 ·have h2:=jan_mono (a:=275761) (b:=y) (by omega)
  have h3:=(year_in 100000000).2;rw [yearD_last,show (275760:Int)+1=275761 from rfl] at h3;omega
 ·exact h1
theorem refof_results {w:World} {R0:Nat} {b:Bool} {a0 a1 a2:Value} (h:Blk w R0 115 #[a0,a1,a2]) (tmps:Array Value) (ht:tmps[2]?=some (.pointer (some ⟨R0,0,none⟩))) (h3:tmps[3]?=some (.bool b)):(results Tryz.f79 tmps).run prog w= .ok (.tuple #[.agg #[a0,a1,a2],.bool b]) w:=by
 have hc:=h.cell;simp [results,Tryz.results79,go_sem,hc,ht,h3]
theorem refOf_any (n:Int) (w:World) (h1: -100000001<=n) (h2:n<=100000000):
  Calls prog 79 #[.int .i64 n] w fun e w'=>∃ y m d,DateOf n y m d/\e= .returned (.tuple #[.agg #[.int .i64 y,.int .i64 m,.int .i64 d],.bool true])/\Below w.heap.size w w':=by
 have hone:=One.new w 115 #[.int .i64 0,.int .i64 0,.int .i64 0];obtain ⟨W,hW⟩:∃ W,w.alloc (.cells #[.int .i64 0,.int .i64 0,.int .i64 0] 115)=W:=⟨_,rfl⟩;rw [hW] at hone;have HO:=hid hone
 have HD:=hid (fun z=>R05.down_any (n+719528) 146097 z (fl_era _ (by omega)) (by omega))
 have r1: -700<=(n+719528) / 146097:=by omega
 have r2:(n+719528) / 146097<=700:=by omega
 have r3:(n+719528) / 146097*146097<=n+719528:=by omega
 have r4:n+719528<(n+719528) / 146097*146097+146097:=by omega
 have hj:=R05.jan_era ((n+719528) / 146097);rw [show countI (400*((n+719528) / 146097)) 1 1=janI (400*((n+719528) / 146097)) from rfl] at hj;generalize (n+719528) / 146097=c at*;have HJ:=hid hj;clear hone hj;go_enter func79,ntmps79
 go_wp2_with (go_at_call 110;refine (HD.out _).mono ?_;rintro e w1 ⟨rfl,rfl⟩)
 go_loopw [5,6] (fun y l wr=>∃ Y:Int,y= .int .i64 Y/\l= .int .i64 (n - janI Y)/\janI Y<=n/\-300000<=Y/\One w w.heap.size 115 #[.int .i64 0,.int .i64 0,.int .i64 0] wr) (fun _ l _=>(intOf l).toNat)
 case atStart=>exact ⟨400*c,rfl,by rw [HJ.out,show n - (c*146097 - 719528)=n+719528 - c*146097 by omega],by rw [HJ.out];omega,by omega,HO.out⟩
 case round=>
  clear HO HD HJ r1 r2 r3 r4;obtain ⟨Y,rfl,rfl,hle,hlo,ho⟩:=hrel;have HO:=hid ho;have hY:=jan_le (Int.le_trans hle h2);have hst:=R05.jan_step Y;rw [show countI (Y+1) 1 1=janI (Y+1) from rfl,show countI Y 1 1=janI Y from rfl] at hst;have HYr:=hid (fun z=>R05.year_any Y z)
  have hyl:R05.ylen Y=365\/R05.ylen Y=366:=by unfold R05.ylen;split<;>simp
  have hlow:=jan_mono (a:= -300000) (b:=Y) hlo
  have hj0:janI (-300000)= -110292278:=by decide
  have HSt:=hid hst;clear ho hst
  have hbd: -200000000<=janI Y:=by omega
  clear hlow hj0
  by_cases hc:R05.ylen Y<=n - janI Y
  ·have hcb:decide (R05.ylen Y<=n - janI Y)=true:=decide_eq_true hc
   generalize janI Y=J at*;generalize R05.ylen Y=L at*
   go_wp2_with (go_at_call 111;refine (HYr.out _).mono ?_;rintro e w1 ⟨rfl,rfl⟩)
   exact ⟨⟨Y+1,rfl,by rw [HSt.out,show n - (J+L)=n - J - L by omega],by rw [HSt.out];omega,by omega,HO.out⟩,by simp [intOf];omega⟩
  ·have hcb:decide (R05.ylen Y<=n - janI Y)=false:=decide_eq_false hc
   have hlt:n<janI (Y+1):=by rw [HSt.out];omega
   have HLt:=hid hlt;have hj1:janI Y=countI Y 1 1:=rfl;have HJ1:=hid hj1;clear hlt hj1 HSt;generalize janI Y=J at*;generalize R05.ylen Y=L at*
   go_wp2_with (go_at_call 111;refine (HYr.out _).mono ?_;rintro e w1 ⟨rfl,rfl⟩)
   go_loopw [6,7] (fun l m wr=>∃ M:Int,m= .int .i64 M/\1<=M/\M<=12/\l= .int .i64 (n - countI Y M 1)/\countI Y M 1<=n/\One w w.heap.size 115 #[.int .i64 0,.int .i64 0,.int .i64 0] wr) (fun _ m _=>(13 - intOf m).toNat)
   case atStart=>exact ⟨1,rfl,by omega,by omega,by rw [<-HJ1.out],by rw [<-HJ1.out];exact hle,HO.out⟩
   case round=>
    clear HO HYr HJ1 hyl hle hc hcb hbd;obtain ⟨M,rfl,hM1,hM2,rfl,hle,ho⟩:=hrel;have HO:=hid ho;have HMr:=hid (fun z=>R05.month_any Y M z);have hml:=mlen_bd Y M
    have hcd:=R05.count_bd (y:=Y) (m:=M) (d:=1) ⟨by omega,by omega⟩ ⟨hM1,hM2⟩ (by omega)
    have hDt:∀ k,k=n - countI Y M 1->0<=k->k<mlen Y M->DateOf n Y M (k+1):=fun k hk h0 h3=>⟨hM1,hM2,by omega,by omega,by rw [R05.count_day];omega⟩
    have hnx:mlen Y M<=n - countI Y M 1->M<=11/\countI Y (M+1) 1=countI Y M 1+mlen Y M:=fun h=>by
     have hM:M<=11:=by
      rcases (by omega:M<=11\/M=12) with h5|h5
      ·exact h5
      ·have:=december Y
       have e:mlen Y 12=31:=rfl;have h6:=HLt.out;rw [h5,e] at h;omega
     exact ⟨hM,R05.month_step ⟨hM1,hM⟩⟩
    have HDt:=hid hDt;have HNx:=hid hnx;clear ho hDt hnx;have cc:=HO.out.1.cell;have ff:=HO.out.1.frozen;generalize countI Y M 1=C at*;generalize mlen Y M=L at*
    by_cases hc:L<=n - C
    ·have hcb:decide (L<=n - C)=true:=decide_eq_true hc
     obtain ⟨h11,hnx⟩:=HNx.out hc;have HN:=hid hnx;clear hnx HNx HDt cc ff
     go_wp2_with (go_at_call 112;refine (HMr.out _).mono ?_;rintro e w1 ⟨rfl,rfl⟩)
     exact ⟨⟨M+1,rfl,by omega,by omega,by rw [HN.out,show n - (C+L)=n - C - L by omega],by rw [HN.out];omega,HO.out⟩,by simp [intOf];omega⟩
    ·have hcb:decide (L<=n - C)=false:=decide_eq_false hc
     have HDd:=hid (HDt.out _ rfl (by omega) (by omega))
     clear HNx HDt
     go_wp2_with (go_at_call 112;refine (HMr.out _).mono ?_;rintro e w1 ⟨rfl,rfl⟩)
     refine bodyPost_ret (refof_results ((((HO.out.1.set_ 0 _).set_ 1 _).set_ 2 _)) _ rfl rfl) rfl ?_
     exact ⟨_,_,_,HDd.out,rfl,(((HO.out.2.setCell (by simp) _).setCell (by simp) _).setCell (by simp) _)⟩
theorem yearJ_any (t:Int) (w:World) (h1: -9223372036854775808<=t) (h2:t<=9223372036854775807):
  Calls prog 49 #[.int .i64 t] w fun e w'=>e= .returned (.int .i64 (yearJ t))/\Below w.heap.size w w':=by
 have HOf:=hid (fun n z h1 h2=>refOf_any n z h1 h2);obtain ⟨g1,g2,⟨g3,g4⟩,⟨g5,g6⟩,_,_⟩:=fl_day t ⟨h1,h2⟩;obtain ⟨Q,hQ⟩:∃ Q,yearJ t=Q:=⟨_,rfl⟩;rw [hQ];unfold yearJ at hQ
 by_cases k1:t< -9000000000000
 ·rw [if_pos k1] at hQ
  subst hQ;have k1b:decide (t< -9000000000000)=true:=decide_eq_true k1;clear g1 g2 k1;go_enter func49,ntmps49
  go_wp2_with fail
  go_ret;exact ⟨rfl,Below.refl _ _⟩
 ·rw [if_neg k1] at hQ
  have k1b:decide (t< -9000000000000)=false:=decide_eq_false k1
  by_cases k2:8640000000000<t
  ·rw [if_pos k2] at hQ
   subst hQ;have k2b:decide (8640000000000<t)=true:=decide_eq_true k2;clear g1 g2 k1 k2;go_enter func49,ntmps49
   go_wp2_with fail
   go_ret;exact ⟨rfl,Below.refl _ _⟩
  ·rw [if_neg k2] at hQ
   have k2b:decide (8640000000000<t)=false:=decide_eq_false k2
   have key:∀ d,d=t / 86400->(d< -100000001/\Q= -271821)\/(¬ d< -100000001/\d<=100000000/\Q=yearD d):=by
    rintro d rfl
    by_cases e1:t / 86400< -100000001
    ·rw [if_pos e1] at hQ;exact .inl ⟨e1,hQ.symm⟩
    ·rw [if_neg e1] at hQ;exact .inr ⟨e1,by omega,hQ.symm⟩
   clear hQ k1 k2
   rcases Int.lt_or_le (t.tmod 86400) 0 with h3|h3
   ·obtain ⟨e1,e2⟩:=g2 h3
    have h3b:decide (t.tmod 86400<0)=true:=decide_eq_true h3;have hk:=key _ e1;clear key e1 e2 g1 g2 h3
    rcases hk with ⟨k1,rfl⟩|⟨k1,k2,rfl⟩
    ·have k3b:decide (t.tdiv 86400 - 1< -100000001)=true:=decide_eq_true k1
     go_enter func49,ntmps49
     go_wp2_with fail
     go_ret;exact ⟨rfl,Below.refl _ _⟩
    ·have k3b:decide (t.tdiv 86400 - 1< -100000001)=false:=decide_eq_false k1
     go_enter func49,ntmps49
     go_wp2_with (go_at_call 79;refine (HOf.out _ _ (by omega) (by omega)).mono ?_;rintro e w1 ⟨y,m,d,hd,rfl,hb⟩;have HB:=hid hb;have HDt:=hid hd.year;clear hb hd)
     go_ret
     exact ⟨by rw [HDt.out];rfl,HB.out.alloc HB.out.size _⟩
   ·obtain ⟨e1,e2⟩:=g1 h3
    have h3b:decide (t.tmod 86400<0)=false:=decide_eq_false (by omega)
    have hk:=key _ e1;clear key e1 e2 g1 g2 h3
    rcases hk with ⟨k1,rfl⟩|⟨k1,k2,rfl⟩
    ·have k3b:decide (t.tdiv 86400< -100000001)=true:=decide_eq_true k1
     go_enter func49,ntmps49
     go_wp2_with fail
     go_ret;exact ⟨rfl,Below.refl _ _⟩
    ·have k3b:decide (t.tdiv 86400< -100000001)=false:=decide_eq_false k1
     go_enter func49,ntmps49
     go_wp2_with (go_at_call 79;refine (HOf.out _ _ (by omega) (by omega)).mono ?_;rintro e w1 ⟨y,m,d,hd,rfl,hb⟩;have HB:=hid hb;have HDt:=hid hd.year;clear hb hd)
     go_ret
     exact ⟨by rw [HDt.out];rfl,HB.out.alloc HB.out.size _⟩
end Ahd
namespace Ahd
open Go.RowKit Mem Civ Mom Img Rul R11
theorem lesser_any (a b:Int) (w:World):Calls prog 114 #[.int .i64 a,.int .i64 b] w fun e w'=>e= .returned (.int .i64 (if a<b then a else b))/\w=w':=by
 by_cases h:a<b
 ·rw [if_pos h]
  have hb:decide (a<b)=true:=decide_eq_true h;clear h;go_enter func114,ntmps114;go_wp2;go_ret;exact ⟨rfl,rfl⟩
 ·rw [if_neg h]
  have hb:decide (a<b)=false:=decide_eq_false h;clear h;go_enter func114,ntmps114;go_wp2;go_ret;exact ⟨rfl,rfl⟩
structure Da (w:World) (best:Option Turn) (W:World):Prop where
 res:Blk W w.heap.size 90 #[.int .i64 0,.int .i64 0,.int .i64 0,.string ⟨#[]⟩]
 bst:Blk W (w.heap.size+1) 90 (best.getD noTurn).cells.toArray
 bel:Below w.heap.size w W
theorem Da.step {w W W':World} {best:Option Turn} (h:Da w best W) (hb:Below W.heap.size W W'):Da w best W':=
 ⟨h.res.below hb h.res.lt,h.bst.below hb h.bst.lt,h.bel.trans (hb.mono h.bel.size)⟩
theorem Da.alloc {w W:World} {best:Option Turn} (h:Da w best W) (o:Obj):Da w best (W.alloc o):=⟨h.res.alloc o,h.bst.alloc o,h.bel.alloc h.bel.size o⟩
theorem Da.drew {w W:World} {best:Option Turn} (h:Da w best W):Da w best W.drew:=⟨h.res.drew,h.bst.drew,h.bel.drew⟩
theorem Da.set {w W:World} {best:Option Turn} (h:Da w best W) (t:Turn):
  Da w (some t) ((((W.setCell ⟨w.heap.size+1,0,none⟩ (.int .i64 t.at_)).setCell ⟨w.heap.size+1,1,none⟩ (.int .i64 t.ref)).setCell ⟨w.heap.size+1,2,none⟩ (.int .i64 t.save)).setCell ⟨w.heap.size+1,3,none⟩ (.string t.letter)):=by
 have hb:=(((h.bst.set_ 0 (.int .i64 t.at_)).set_ 1 (.int .i64 t.ref)).set_ 2 (.int .i64 t.save)).set_ 3 (.string t.letter);simp only [Turn.cells,List.setIfInBounds_toArray,List.set_cons_succ,List.set_cons_zero] at hb
 exact ⟨(((h.res.far (by simp) _).far (by simp) _).far (by simp) _).far (by simp) _,hb,(((h.bel.setCell (by simp) _).setCell (by simp) _).setCell (by simp) _).setCell (by simp) _⟩
theorem Da.start (w:World):Da w none ((w.alloc (.cells #[.int .i64 0,.int .i64 0,.int .i64 0,.string ⟨#[]⟩] 90)).alloc (.cells #[.int .i64 0,.int .i64 0,.int .i64 0,.string ⟨#[]⟩] 90)):=by
 obtain ⟨h1,h2,h3,_⟩:=box2 w 90 90 #[.int .i64 0,.int .i64 0,.int .i64 0,.string ⟨#[]⟩] #[.int .i64 0,.int .i64 0,.int .i64 0,.string ⟨#[]⟩];exact ⟨h1,h2,h3⟩
theorem refahead_results {w:World} {R0:Nat} {b:Bool} {a0 a1 a2 a3:Value} (h:Blk w R0 90 #[a0,a1,a2,a3]) (tmps:Array Value) (ht:tmps[4]?=some (.pointer (some ⟨R0,0,none⟩))) (h7:tmps[5]?=some (.bool b)):(results Tryz.f81 tmps).run prog w= .ok (.tuple #[.agg #[a0,a1,a2,a3],.bool b]) w:=by
 have hc:=h.cell;simp [results,Tryz.results81,go_sem,hc,ht,h7]
theorem docF_end {so:Turn->Bool} {r:Rule} {Y:Int} {j:Nat} (h:descF (soL so r) (docLast r Y) j=none) (hj:(j:Int)<=docLast r Y+1 - r.lo\/j=0) (hlo:docLast r Y - j<r.lo):docF so r Y=none:=by
 unfold docF
 rw [show (docLast r Y+1 - r.lo).toNat=j by omega]
 exact h
theorem docF_hit {so:Turn->Bool} {r:Rule} {Y:Int} {j:Nat} {t:Turn} (h:descF (soL so r) (docLast r Y) j=none) (hlo:r.lo<=docLast r Y - j) (ht:turnL (docLast r Y - j) r=some t) (hs:so t=true):docF so r Y=some t:=by
 have h1:descF (soL so r) (docLast r Y) (j+1)=some t:=by
  rw [descF,h];unfold soL;rw [ht];simp [Option.filter,hs]
 unfold docF
 obtain ⟨k,hk⟩:∃ k,(docLast r Y+1 - r.lo).toNat=j+1+k:=⟨(docLast r Y+1 - r.lo).toNat - (j+1),by omega⟩
 rw [hk,desc_more k (.inl (by rw [h1];rfl)),h1]
theorem docF_next {so:Turn->Bool} {r:Rule} {Y:Int} {j:Nat} (h:descF (soL so r) (docLast r Y) j=none) (ht:∀ t,turnL (docLast r Y - j) r=some t->so t=false):descF (soL so r) (docLast r Y) (j+1)=none:=by
 rw [descF,h];unfold soL
 cases hv:turnL (docLast r Y - j) r with
 |none=>rfl
 |some t=>simp [Option.filter,ht t hv]
theorem join_le {b t:Turn} (h:b.at_<=t.at_):joinT (some b) (some t)=some t:=if_pos h
theorem join_gt {b t:Turn} (h:¬ b.at_<=t.at_):joinT (some b) (some t)=some b:=if_neg h
theorem yearJ_bd (t:Int): -271821<=yearJ t/\yearJ t<=275760:=by
 rcases yearJ_is t with e|⟨_,e⟩
 ·refine ⟨?_,by rw [e];exact yearI_le t⟩
  unfold yearJ
  split
  ·omega
  ·split
   ·omega
   ·split
    ·omega
    ·have h1:=(year_in (t / 86400)).2
     rcases Int.lt_or_le (yearD (t / 86400)) (-271821) with h2|h2
     ·have h3:=jan_mono (a:=yearD (t / 86400)+1) (b:= -271821) (by omega)
      have h4:janI (-271821)= -100000109:=by decide
      omega
     ·exact h2
 ·rw [e];omega
theorem refAhead_any (rs:List Rule) (A:Option Addr) (c:Nat) (at_:Int) (w:World) (h:Reads w w.heap.size 11 A rs.length (rs.flatMap Rule.cells)) (hn:rs.length<=1000000) (hr:rulesB rs=true) (h1: -9223372036854775808<=at_) (h2:at_<=9223372036854775807):
  Calls prog 81 #[.slice A rs.length c,.int .i64 at_] w fun e w'=>e= .returned (.tuple #[.agg ((aheadD rs at_).getD noTurn).cells.toArray,.bool (aheadD rs at_).isSome])/\Below w.heap.size w w':=by
 have hY:=fun z=>yearJ_any at_ z h1 h2;obtain ⟨hy1,hy2⟩:=yearJ_bd at_;obtain ⟨Q,hQ⟩:∃ Q,aheadD rs at_=Q:=⟨_,rfl⟩;rw [hQ];unfold aheadD docL at hQ;obtain ⟨so,hso⟩:∃ so:Turn->Bool,so=fun t=>decide (t.at_<at_):=⟨_,rfl⟩;rw [<-hso] at hQ;generalize yearJ at_=Y at*;have hst:=Da.start w;obtain ⟨W,hW⟩:∃ W,(w.alloc (.cells #[.int .i64 0,.int .i64 0,.int .i64 0,.string ⟨#[]⟩] 90)).alloc (.cells #[.int .i64 0,.int .i64 0,.int .i64 0,.string ⟨#[]⟩] 90)=W:=⟨_,rfl⟩;rw [hW] at hst;have HD:=hid hst;have HQ:=hid hQ;have H:=hid h;have HY:=hid hY;have HSo:=hid hso;have HR:=hid hr;have cs:=hst.bst.cell;have fs:=hst.bst.frozen;simp only [Turn.cells,noTurn,Option.getD_none] at cs;have hzero:=hst.set noTurn;simp only [noTurn] at hzero;have HZ:Hid (Da w none _):=⟨hzero.res,hzero.bst,hzero.bel⟩;clear hst hQ h hY hso hr hzero
 have hw2:wrap64 (Y+2)=Y+2:=by unfold wrap64;omega
 have HW2:=hid hw2;clear hw2;go_enter func81,ntmps81
 go_wp2_with fail
 clear cs fs
 go_loopw [7,8] (fun f i wr=>∃ (k:Nat) (best:Option Turn),k<=rs.length/\i= .int .i64 k/\f= .bool best.isSome/\(rs.drop k).foldl (fun b x=>joinT b (docF so x Y)) best=Q/\Da w best wr) (fun _ i _=>rs.length - (intOf i).toNat)
 case atStart=>exact ⟨0,none,Nat.zero_le _,rfl,rfl,by rw [List.drop_zero];exact HQ.out,HZ.out⟩
 case round=>
  clear HD HQ HZ;obtain ⟨k,best,hk,rfl,rfl,hq,hda⟩:=hrel;have HD:=hid hda;clear hda
  by_cases hkn:k<rs.length
  ·obtain ⟨ad,hA,hadb,a0,a1,a2,a3,a4,a5,a6,a7,a8,a9,a10⟩:=rule_cells H.out hkn
   subst hA;have hdr:rs.drop k=rs[k] :: rs.drop (k+1):=List.drop_eq_getElem_cons hkn;rw [hdr,List.foldl_cons] at hq;have hrk:ruleB rs[k]=true:=List.all_eq_true.1 HR.out _ (List.getElem_mem hkn);have hp:ruleP rs[k]:=of_decide_eq_true hrk;have hlo1:1<=rs[k].lo:=hp.1.1
   have hhi1:rs[k].hi<=1000000:=hp.2.1.elim (fun h5=>Int.le_trans h5.2 (by omega)) (fun h5=>by omega)
   have hhi0:1<=rs[k].hi:=hp.2.1.elim (fun h5=>h5.1) (fun h5=>by omega)
   have hCk:=fun z (hb:Below w.heap.size w z)=>rule_cells (H.out.below hb) hkn;have HCk:=hid hCk;have HT:=hid (fun y z=>R11.turn_any rs[k] y z);have HE:=hid (fun j=>@docF_end so rs[k] Y j);have HH:=hid (fun j t=>@docF_hit so rs[k] Y j t);have HN:=hid (fun j=>@docF_next so rs[k] Y j)
   have htop:(if rs[k].hi<Y+2 then rs[k].hi else Y+2)=docLast rs[k] Y:=rfl
   have htb:docLast rs[k] Y<=1000000/\-300000<=docLast rs[k] Y:=by unfold docLast;split<;>omega
   clear hCk hrk hp hdr;generalize rs[k]=r at*;have HL:=hid (fun z=>lesser_any r.hi (Y+2) z);rw [htop] at HL;clear htop;obtain ⟨D,hD⟩:∃ D,docF so r Y=D:=⟨_,rfl⟩;rw [hD] at HE HH hq;obtain ⟨top,htp⟩:∃ top,docLast r Y=top:=⟨_,rfl⟩;rw [htp] at HE HH HN HL htb;have HQ:=hid hq;clear hD htp hq;obtain ⟨htb1,htb2⟩:=htb;obtain ⟨Cls,hCls⟩:∃ C:World->Prop,C=Da w best:=⟨_,rfl⟩
   have hC:∀ z,Cls z->Da w best z:=fun z h=>by rw [hCls] at h;exact h
   have hstart:Cls wr.drew:=by rw [hCls];exact HD.out.drew
   have inst:Nonempty (Qt.In Cls):=⟨⟨_,hstart⟩⟩
   have z2:∀ z:Qt.In Cls,z.w.cell? ⟨(ad.add (k*11)).block,(ad.add (k*11)).off+2,none⟩=some (.int .i64 r.hi):=fun z=>by
    obtain ⟨ad',e,_,_,_,q2,_⟩:=HCk.out z.w (hC z.w z.h).bel
    obtain rfl:ad=ad':=by injection e
    exact q2
   have HYc:Hid (∀ z,Cls z->Calls prog 49 #[.int .i64 at_] z fun e z'=>e= .returned (.int .i64 Y)/\Cls z'):=fun z h=>(HY.out z).mono fun e z' ⟨he,hb⟩=>⟨he,by rw [hCls];exact (hC z h).step hb⟩
   have HLc:Hid (∀ z,Cls z->Calls prog 114 #[.int .i64 r.hi,.int .i64 (Y+2)] z fun e z'=>e= .returned (.int .i64 top)/\Cls z'):=fun z h=>(HL.out z).mono fun e z' ⟨he,hb⟩=>⟨he,by subst hb;exact h⟩
   have HC:=hid hC;have HS:=hid hstart;clear hC hCls hstart a0 a1 a2 a3 a4 a5 a6 a7 a8 a9 a10 HY HL;go_wp2
   refine Qt.wp_region_cls Cls (by kernel_rfl) (by kernel_rfl) HS.out ?_
   repeat (go_big_quiet_step (first|(go_at_call 49;exact Qt.quiet_cls (HYc.out _ (Qt.In.h _)))|(go_at_call 114;exact Qt.quiet_cls (HLc.out _ (Qt.In.h _)))))
   refine wpQuiet_nil ?_
   rintro wq ⟨⟨w9,hq9⟩,e9⟩
   have HD9:=hid (HC.out wq (by rw [e9];exact hq9))
   clear hq9 e9 z2 HYc HLc HC HS inst HD;go_wp2
   go_loopw [7,9] (fun f y wz=>∃ j:Nat,f= .bool best.isSome/\y= .int .i64 (top - j)/\descF (soL so r) top j=none/\((j:Int)<=top+1 - r.lo\/j=0)/\Da w best wz) (fun _ y _=>(intOf y+1 - r.lo).toNat)
   case atStart=>exact ⟨0,rfl,by simp,rfl,.inr rfl,HD9.out⟩
   case round=>
    clear HD9;obtain ⟨j,rfl,rfl,hdn,hj,hda⟩:=hrel;have HD:=hid hda;have HDn:=hid hdn;obtain ⟨ad',hA,_,a0,a1,a2,a3,a4,a5,a6,a7,a8,a9,a10⟩:=HCk.out _ hda.bel
    obtain rfl:ad=ad':=by injection hA
    clear hda hdn hA
    by_cases hlo:r.lo<=top - j
    ·have hlb:decide (r.lo<=top - j)=true:=decide_eq_true hlo
     have HTj:=hid (HT.out (top - j));have HHj:=hid (fun t=>HH.out j t HDn.out hlo);have HNj:=hid (HN.out j HDn.out)
     cases htl:turnL (top - j) r with
     |none=>
      have hnx:=HNj.out fun t e=>by rw [htl] at e;cases e
      have HNx:=hid hnx;rw [htl] at HTj;simp only [turnV,Rule.cells] at HTj;clear htl hnx HHj HNj
      go_wp2_with (go_at_call 80;refine (HTj.out _).mono ?_;rintro e w5 ⟨rfl,hb⟩;have HD5:=hid (HD.out.step hb);clear hb)
      exact ⟨⟨j+1,rfl,by congr 1;omega,HNx.out,.inl (by omega),HD5.out.alloc _⟩,by simp [intOf];omega⟩
     |some t=>
      rw [htl] at HTj
      by_cases hs:t.at_<at_
      ·have hhit:=HHj.out t htl (by rw [HSo.out];exact decide_eq_true hs)
       have hq:=HQ.out;rw [hhit] at hq
       have hsb:decide (at_<=t.at_)=false:=decide_eq_false (by omega)
       obtain ⟨t0,t1,t2,t3⟩:=t;simp only [turnV,Rule.cells,Turn.cells] at HTj hsb hq;clear htl hs hhit HHj HNj
       cases best with
       |none=>
        have HQ2:Hid ((rs.drop (k+1)).foldl (fun b x=>joinT b (docF so x Y)) (some ⟨t0,t1,t2,t3⟩)=Q):=hq;clear hq HQ
        go_wp2_with (go_at_call 80;refine (HTj.out _).mono ?_;rintro e w5 ⟨rfl,hb⟩;have hd5:=HD.out.step hb;have cb:=fun o i=>(hd5.alloc o).bst.cell i;have fb:=fun o i=>(hd5.alloc o).bst.frozen i;simp only [Turn.cells,noTurn,Option.getD_none] at cb;have HD5:=hid hd5;clear hb hd5)
        exact ⟨⟨k+1,some ⟨t0,t1,t2,t3⟩,by omega,by go_num,rfl,HQ2.out,(HD5.out.alloc _).set ⟨t0,t1,t2,t3⟩⟩,by simp [intOf];omega⟩
       |some b=>
        obtain ⟨b0,b1,b2,b3⟩:=b
        by_cases hle:b0<=t0
        ·rw [join_le (b:=⟨b0,b1,b2,b3⟩) (t:=⟨t0,t1,t2,t3⟩) hle] at hq
         have HQ2:=hid hq;have hleb:decide (b0<=t0)=true:=decide_eq_true hle;clear hq HQ hle
         go_wp2_with (go_at_call 80;refine (HTj.out _).mono ?_;rintro e w5 ⟨rfl,hb⟩;have hd5:=HD.out.step hb;have cb:=fun o i=>(hd5.alloc o).bst.cell i;have fb:=fun o i=>(hd5.alloc o).bst.frozen i;simp only [Turn.cells,Option.getD_some] at cb;have HD5:=hid hd5;clear hb hd5)
         exact ⟨⟨k+1,some ⟨t0,t1,t2,t3⟩,by omega,by go_num,rfl,HQ2.out,(HD5.out.alloc _).set ⟨t0,t1,t2,t3⟩⟩,by simp [intOf];omega⟩
        ·rw [join_gt (b:=⟨b0,b1,b2,b3⟩) (t:=⟨t0,t1,t2,t3⟩) hle] at hq
         have HQ2:=hid hq;have hleb:decide (b0<=t0)=false:=decide_eq_false hle;clear hq HQ hle
         go_wp2_with (go_at_call 80;refine (HTj.out _).mono ?_;rintro e w5 ⟨rfl,hb⟩;have hd5:=HD.out.step hb;have cb:=fun o i=>(hd5.alloc o).bst.cell i;have fb:=fun o i=>(hd5.alloc o).bst.frozen i;simp only [Turn.cells,Option.getD_some] at cb;have HD5:=hid hd5;clear hb hd5)
         exact ⟨⟨k+1,some ⟨b0,b1,b2,b3⟩,by omega,by go_num,rfl,HQ2.out,HD5.out.alloc _⟩,by simp [intOf];omega⟩
      ·have hnx:=HNj.out fun t' e=>by
        rw [htl] at e
        injection e with e
        subst e;rw [HSo.out];exact decide_eq_false hs
       have HNx:=hid hnx
       have hsb:decide (at_<=t.at_)=true:=decide_eq_true (by omega)
       obtain ⟨t0,t1,t2,t3⟩:=t;simp only [turnV,Rule.cells,Turn.cells] at HTj hsb;clear htl hs hnx HHj HNj
       go_wp2_with (go_at_call 80;refine (HTj.out _).mono ?_;rintro e w5 ⟨rfl,hb⟩;have HD5:=hid (HD.out.step hb);clear hb)
       exact ⟨⟨j+1,rfl,by congr 1;omega,HNx.out,.inl (by omega),HD5.out.alloc _⟩,by simp [intOf];omega⟩
    ·have hlb:decide (r.lo<=top - j)=false:=decide_eq_false hlo
     have hno:=HE.out j HDn.out hj (by omega)
     have hq:=HQ.out;rw [hno] at hq;have HQ2:Hid ((rs.drop (k+1)).foldl (fun b x=>joinT b (docF so x Y)) best=Q):=hq;clear hno hq HQ hlo;go_wp2
     exact ⟨⟨k+1,best,by omega,by go_num,rfl,HQ2.out,HD.out⟩,by simp [intOf];omega⟩
  ·obtain rfl:k=rs.length:=by omega
   rw [List.drop_length,List.foldl_nil] at hq;subst hq;have cb:=HD.out.bst.cell;have cr:=HD.out.res.cell;have fr:=HD.out.res.frozen;obtain ⟨B,hB⟩:∃ B:Turn,B=best.getD noTurn:=⟨_,rfl⟩;rw [<-hB] at cb;obtain ⟨b0,b1,b2,b3⟩:=B;simp only [Turn.cells] at cb;have HB:=hid hB;clear hB;go_wp2
   refine bodyPost_ret (refahead_results ((((HD.out.res.set_ 0 (.int .i64 b0)).set_ 1 (.int .i64 b1)).set_ 2 (.int .i64 b2)).set_ 3 (.string b3)) _ rfl rfl) rfl ?_
   refine ⟨?_,(((HD.out.bel.setCell (by simp) _).setCell (by simp) _).setCell (by simp) _).setCell (by simp) _⟩
   rw [<-HB.out]
   rfl
end Ahd
end
end
section
section
namespace Ahd
open Go.RowKit Mem Civ Mom Img Rul
def uniT (rs:List Rule) (off:Int) (t:Turn):Int:=
 if t.ref=0 then wrap64 ((if t.ref=2 then t.at_ else wrap64 (t.at_ - off)) - ((aheadO rs t.at_).getD noTurn).save) else (if t.ref=2 then t.at_ else wrap64 (t.at_ - off))
def lessT (b:Option Turn) (t:Turn):Option Turn:=match b with
 |none=>some t
 |some y=>if t.at_<y.at_ then some t else some y
def firstStep (b:Option Turn) (x:Rule):Option Turn:=match turnL x.lo x with
 |some t=>if x.save=0 then lessT b t else b
 |none=>b
theorem firstStep_is (b:Option Turn) (x:Rule):firstStep b x=if (turnO x x.lo).2=true/\x.save=0 then lessT b (turnO x x.lo).1 else b:=by
 unfold firstStep turnL
 cases (turnO x x.lo).2
 ·simp
 ·simp
def firstO (rs:List Rule):Option Turn:=rs.foldl firstStep none
def firstP (rs:List Rule):ByteArray:=((firstO rs).getD noTurn).letter
def giveO (rs:List Rule):Option Turn->Int×ByteArray
 |some x=>(x.save,x.letter)
 |none=>(0,firstP rs)
def forceP (rs:List Rule) (off t:Int):Int×ByteArray:=
 if rulesB rs=true/\-86400<off/\off<86400 then giveO rs (latestL (fun x=>decide (uniT rs off x<=t)) (yearI t) rs) else (0,⟨#[]⟩)
theorem descF_from {α:Type} {g:Int->Option α} {top:Int} {v:α}:∀ {n:Nat},descF g top n=some v->∃ i:Nat,i<n/\g (top - (i:Nat))=some v
 |0,h=>by cases h
 |n+1,h=>by
  rw [descF] at h
  cases hd:descF g top n with
  |some u=>
   rw [hd] at h;obtain ⟨i,hi,e⟩:=descF_from hd
   exact ⟨i,by omega,by rw [e];exact h⟩
  |none=>
   rw [hd] at h
   exact ⟨n,by omega,h⟩
theorem latest_from {so:Turn->Bool} {y:Int} {rs:List Rule} {t:Turn} (h:latestL so y rs=some t):∃ r∈rs,∃ z,turnL z r=some t:=by
 suffices key:∀ (l:List Rule) (b:Option Turn),(∀ u,b=some u->∃ r∈rs,∃ z,turnL z r=some u)->(∀ r∈l,r∈rs)->∀ u,l.foldl (fun b x=>stepT so b (backL x y)) b=some u->∃ r∈rs,∃ z,turnL z r=some u from
  key rs none (fun u e=>by cases e) (fun r hr=>hr) t h
 intro l
 induction l with
 |nil=>intro b hb _ u hu;exact hb u hu
 |cons a l ih=>
  intro b hb hl u hu;rw [List.foldl_cons] at hu
  refine ih _ (fun v hv=>?_) (fun r hr=>hl r (List.mem_cons_of_mem _ hr)) u hu
  rw [stepT_is] at hv
  cases hf:(backL a y).find? so with
  |none=>
   rw [hf] at hv;exact hb v hv
  |some x=>
   have hx:∃ r∈rs,∃ z,turnL z r=some x:=by
    unfold backL at hf;rw [find_desc] at hf;obtain ⟨i,_,e⟩:=descF_from hf;unfold soL at e
    cases ht:turnL (lastY a y - (i:Nat)) a with
    |none=>rw [ht] at e;cases e
    |some w=>
     rw [ht] at e;simp only [Option.filter] at e
     split at e
     ·injection e with e
      subst e;exact ⟨a,hl a List.mem_cons_self,_,ht⟩
     ·cases e
   rw [hf] at hv
   cases b with
   |none=>
    simp only [joinT] at hv
    injection hv with hv
    subst hv;exact hx
   |some bb=>
    simp only [joinT] at hv
    split at hv
    ·injection hv with hv
     subst hv;exact hx
    ·injection hv with hv
     subst hv;exact hb _ rfl
theorem rule_save {rs:List Rule} (h:rulesB rs=true) {r:Rule} (hr:r∈rs): -43200<=r.save/\r.save<=43200/\0<=r.ref/\r.ref<=2:=by
 have hp:ruleP r:=of_decide_eq_true (List.all_eq_true.1 h r hr);obtain ⟨_,_,hs,h1,h2⟩:=hp;obtain ⟨_,_,_,_,_,_,h7,h8,_⟩:=hs;exact ⟨h1,h2,h7,h8⟩
theorem ahead_save {rs:List Rule} (h:rulesB rs=true) (at_:Int): -43200<=((aheadO rs at_).getD noTurn).save/\((aheadO rs at_).getD noTurn).save<=43200:=by
 cases ha:aheadO rs at_ with
 |none=>exact ⟨by decide,by decide⟩
 |some t=>
  unfold aheadO at ha;rw [if_pos h] at ha;obtain ⟨r,hr,z,hz⟩:=latest_from ha;have hs:=rule_save h hr;have:=(turnL_at hz).2.1;simp only [Option.getD_some];omega
theorem turn_bd {r:Rule} {z:Int} {t:Turn} (h:turnL z r=some t): -9000000000000<=t.at_/\t.at_<=9000000000000:=by
 obtain ⟨hl,_⟩:=turnL_at h;unfold localO at hl
 cases ho:onO (spotOf r) z with
 |none=>rw [ho] at hl;cases hl
 |some k=>
  obtain ⟨h1,h2,_⟩:=onO_bd ho;obtain ⟨_,_,_,_,t1,t2,_⟩:=h2;rw [ho,Option.map_some,Option.some.injEq] at hl;omega
theorem uni_near {rs:List Rule} {off:Int} (h:rulesB rs=true) (h1: -86400<off) (h2:off<86400) {t:Turn} (hb: -9000000000000<=t.at_/\t.at_<=9000000000000):t.at_ - 129600<=uniT rs off t/\uniT rs off t<=t.at_+129600:=by
 have hs:=ahead_save h t.at_;unfold uniT;generalize ((aheadO rs t.at_).getD noTurn).save=sv at*
 have e1:wrap64 (t.at_ - off)=t.at_ - off:=by unfold wrap64;omega
 rw [e1]
 split
 ·split
  ·have e2:wrap64 (t.at_ - sv)=t.at_ - sv:=by unfold wrap64;omega
   rw [e2];omega
  ·have e2:wrap64 (t.at_ - off - sv)=t.at_ - off - sv:=by unfold wrap64;omega
   rw [e2];omega
 ·split<;>omega
theorem near_mid {rs:List Rule} {so:Turn->Bool} {at_:Int} (h1:∀ r∈rs,∀ z t,turnL z r=some t->t.at_+129600<at_->so t=true) (h2:∀ r∈rs,∀ z t,turnL z r=some t->at_<t.at_ - 129600->so t=false):
  Mid so rs (yearI at_)\/(yearI at_=0/\∀ r∈rs,∀ z t,turnL z r=some t->so t=false):=by
 unfold yearI
 split
 ·refine .inr ⟨rfl,fun r hr z t ht=>h2 r hr z t ht ?_⟩
  obtain ⟨hl,_⟩:=turnL_at ht;have hbd:=local_near hl
  have hy:=(by unfold localO at hl;cases ho:onO (spotOf r) z with
   |none=>rw [ho] at hl;cases hl
   |some k=>exact (onO_bd ho).2.2:1<=z/\z<=300000)
  have:=jan_mono hy.1;have:=jan_at.1;omega
 ·refine .inl fun r hr z t ht=>?_
  obtain ⟨hl,_⟩:=turnL_at ht;have hbd:=local_near hl
  split
  ·have hd:yearD 100000000=275760:=yearD_last
   have hin:=year_in 100000000;rw [hd] at hin ⊢
   refine ⟨fun hz=>h1 r hr z t ht ?_,fun hz=>?_⟩
   ·have:=jan_mono (a:=z) (b:=275758) (by omega)
    have:=jan_at.2;omega
   ·exfalso
    unfold localO at hl
    cases ho:onO (spotOf r) z with
    |none=>rw [ho] at hl;cases hl
    |some k=>
     have ho2:=ho;unfold onO at ho2
     split at ho2
     ·cases ho2
     ·unfold daysO at ho2
      rw [if_pos (by omega)] at ho2
      cases ho2
  ·have hin:=year_in (at_ / 86400)
   refine ⟨fun hz=>h1 r hr z t ht ?_,fun hz=>h2 r hr z t ht ?_⟩
   ·have q1:=jan_mono (a:=z) (b:=yearD (at_ / 86400) - 2) (by omega)
    have q2:=jan_mono (a:=yearD (at_ / 86400) - 2) (b:=yearD (at_ / 86400)) (by omega)
    omega
   ·have q1:=jan_mono (a:=yearD (at_ / 86400)+2) (b:=z) (by omega)
    have q2:=jan_mono (a:=yearD (at_ / 86400)+1) (b:=yearD (at_ / 86400)+2) (by omega)
    omega
theorem force_mid {rs:List Rule} {off at_:Int} (h:rulesB rs=true) (h1: -86400<off) (h2:off<86400):
  Mid (fun x=>decide (uniT rs off x<=at_)) rs (yearI at_)\/(yearI at_=0/\∀ r∈rs,∀ z t,turnL z r=some t->decide (uniT rs off t<=at_)=false):=
 near_mid (fun r _ z t ht hl=>decide_eq_true (by have:=uni_near h h1 h2 (turn_bd ht);omega)) (fun r _ z t ht hl=>decide_eq_false (by have:=uni_near h h1 h2 (turn_bd ht);omega))
def lastD (rs:List Rule) (off at_:Int):Option Turn:=docL (fun x=>decide (uniT rs off x<=at_)) (yearJ at_) rs
theorem lastD_is {rs:List Rule} {off at_:Int} (hr:rulesB rs=true) (h1: -86400<off) (h2:off<86400):lastD rs off at_=latestL (fun x=>decide (uniT rs off x<=at_)) (yearI at_) rs:=by
 unfold lastD
 have hyr:∀ r∈rs,∀ z t,turnL z r=some t->janI (-271820)*86400<=at_\/decide (uniT rs off t<=at_)=false:=fun r _ z t ht=>by
  obtain ⟨hl,_⟩:=turnL_at ht
  have hy:=(by unfold localO at hl;cases ho:onO (spotOf r) z with
   |none=>rw [ho] at hl;cases hl
   |some k=>exact (onO_bd ho).2.2:1<=z/\z<=300000)
  have hb:=local_near hl;have q2:=jan_mono hy.1;have q3:=jan_at.1;have q4:=uni_near hr h1 h2 (turn_bd ht)
  rcases Int.lt_or_le at_ (janI (-271820)*86400) with hlt|hge
  ·refine .inr (decide_eq_false ?_)
   have q5:=jan_mono (a:= -271820) (b:=1) (by omega)
   omega
  ·exact .inl hge
 rcases force_mid (at_:=at_) hr h1 h2 with h|⟨h0,h⟩
 ·rcases yearJ_is at_ with e|⟨e0,e1⟩
  ·rw [e,latest_same hr (yearI_le at_) h]
  ·have hall:∀ r∈rs,∀ z t,turnL z r=some t->(fun t:Turn=>decide (uniT rs off t<=at_)) t=false:=fun r hm z t ht=>by
    rcases hyr r hm z t ht with h3|h3
    ·exfalso
     unfold yearJ at e1
     have h5:janI (-271820)= -99999744:=by decide
     split at e1
     ·omega
     ·split at e1
      ·cases e1
      ·split at e1
       ·omega
       ·have h4:=(year_in (at_ / 86400)).2
        rw [e1,show (-271821:Int)+1= -271820 from rfl] at h4;omega
    ·exact h3
   rw [docL_no hall,latest_no hall]
 ·have hall:∀ r∈rs,∀ z t,turnL z r=some t->(fun t:Turn=>decide (uniT rs off t<=at_)) t=false:=h
  rw [docL_no hall,latest_no hall]
end Ahd
end
end
end Go.Proofs.YtmlejgdohcpmjaaGreatDoor
