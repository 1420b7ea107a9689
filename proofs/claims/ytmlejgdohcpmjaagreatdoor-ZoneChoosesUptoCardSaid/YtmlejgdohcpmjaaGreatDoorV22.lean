/-
  Contracts of the code that the law reaches, and plain laws. Conditions: as each says.
-/
import Derived.Test.YtmlejgdohcpmjaaGreatDoorV21
set_option linter.all false
set_option maxHeartbeats 40000000
set_option maxRecDepth 100000
namespace Go.Proofs.YtmlejgdohcpmjaaGreatDoor
section
section
namespace Cmq
open Go.RowKit Mem Civ Mom Img Plc Rul Ahd Src Snd Att Rgt Abr Sch
theorem tell_skip {t:Int}:∀ {l:List Shift} {p:Phase},(∀ s∈l,t<s.sec)->l.foldl (fun p s=>if s.sec<=t then s.ph else p) p=p
 |[],_,_=>rfl
 |a :: l,p,h=>by
  rw [List.foldl_cons,if_neg (by have:=h a (by simp);omega)]
  exact tell_skip fun s hs=>h s (by simp [hs])
theorem tell_at {first:Phase} {ss:List Shift} {t:Int} {n:Nat} (hn:n<=ss.length) (h1:∀ i (hi:i<ss.length),i<n->ss[i].sec<=t) (h2:∀ i (hi:i<ss.length),n<=i->t<ss[i].sec):tellL first ss t=hadAt first ss n:=by
 have e1:tellL first ss t=tellL first (ss.take n) t:=by
  conv=>lhs;rw [<-List.take_append_drop n ss]
  unfold tellL;rw [List.foldl_append]
  refine tell_skip fun s hs=>?_
  obtain ⟨i,hi,e⟩:=List.mem_iff_getElem.1 hs;rw [List.getElem_drop] at e;rw [<-e]
  exact h2 _ _ (by omega)
 have e2:tellL first (ss.take n) t=lastPh first (ss.take n):=tell_late fun s hs=>by
  obtain ⟨i,hi,e⟩:=List.mem_iff_getElem.1 hs;rw [List.getElem_take] at e;rw [<-e];rw [List.length_take] at hi
  exact h1 _ _ (by omega)
 rw [e1,e2]
 cases n with
 |zero=>rfl
 |succ k=>
  have hk:k<ss.length:=by omega
  rw [List.take_succ_eq_append_getElem hk,lastPh_snoc']
  simp only [hadAt,List.getElem?_eq_getElem hk,Option.map_some,Option.getD_some]
theorem shift_tell {first:Phase} {ss:List Shift} {t:Int} (hr:ss.Pairwise fun x y=>x.sec<y.sec):hadAt first ss (searchF (shiftF ss t) ss.length 0 ss.length)=tellL first ss t:=by
 have hf:∀ i (hi:i<ss.length),shiftF ss t i=decide (t<ss[i].sec):=fun i hi=>by
  unfold shiftF
  rw [List.getElem?_eq_getElem hi,Option.map_some,Option.getD_some]
 have hmono:∀ a b,a<=b->b<ss.length->shiftF ss t a=true->shiftF ss t b=true:=fun a b hab hb h=>by
  rw [hf a (by omega),decide_eq_true_eq] at h
  rw [hf b hb,decide_eq_true_eq]
  rcases Nat.eq_or_lt_of_le hab with rfl|hlt
  ·exact h
  ·have:=List.pairwise_iff_getElem.1 hr a b (by omega) hb hlt
   omega
 obtain ⟨h1,h2⟩:=search_first (f:=shiftF ss t) (n:=ss.length) hmono ss.length 0 ss.length (by omega) (Nat.zero_le _) (Nat.le_refl _) (fun i hi=>by omega) (fun i hi1 hi2=>by omega)
 have hle:=search_le (shiftF ss t) ss.length 0 ss.length (Nat.zero_le _)
 refine (tell_at hle (fun i hi hin=>?_) fun i hi hin=>?_).symm
 ·have:=h1 i hin
  rw [hf i hi] at this;have:=of_decide_eq_false this;omega
 ·have:=h2 i hin hi
  rw [hf i hi] at this;exact of_decide_eq_true this
end Cmq
end
end
section
section
namespace Cmq
open Go.RowKit Mem Civ Mom Img Plc Rul Ahd Src Snd Att Rgt Abr
theorem ruleR_part {r:Rule} (h:ruleR r=true):Rul.ruleB r=true:=by
 unfold ruleR at h;simp only [Bool.and_eq_true,Bool.or_eq_true,yearB,savingB,decide_eq_true_eq] at h;obtain ⟨h1,⟨h2,h3⟩,h4,h5,⟨h6,h7⟩,h8⟩:=h
 refine decide_eq_true ⟨⟨h2,h3⟩,?_,spotB_ok h5,h6,h7⟩
 rcases h4 with h4|h4
 ·exact .inl h4
 ·exact .inr h4
theorem src_rule {s:Src} (h:srcB s=true):∀ r∈s.rules,ruleR r=true:=by
 unfold srcB at h;simp only [Bool.and_eq_true] at h;exact List.all_eq_true.1 h.2.1
def tellD (x:Table) (t:Int):Phase:=if x.till<=t/\x.tail.length≠0 then tailP x t else tellL x.first x.shifts t
theorem right_tail {x:Table} (h:rightB x (tailB x)=true) (h0:x.tail.length≠0):(-86400<x.off/\x.off<86400)/\rulesB x.tail=true:=by
 have ht:tailB x=true:=by
  unfold rightB at h;simp only [Bool.and_eq_true] at h;exact h.1.2.2.2
 refine ⟨tail_day ht h0,?_⟩
 unfold tailB at ht;rw [if_neg h0] at ht;simp only [Bool.and_eq_true] at ht;exact List.all_eq_true.2 fun r hr=>ruleR_part (src_rule ht.2.2.1 r hr)
end Cmq
end
end
end Go.Proofs.YtmlejgdohcpmjaaGreatDoor
