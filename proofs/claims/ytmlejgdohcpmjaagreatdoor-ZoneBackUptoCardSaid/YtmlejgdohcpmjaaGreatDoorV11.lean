/-
  Contracts of the code that the law reaches, and plain laws. Conditions: as each says.
-/
import Derived.Test.YtmlejgdohcpmjaaGreatDoorV02
set_option linter.all false
set_option maxHeartbeats 40000000
set_option maxRecDepth 100000
namespace Go.Proofs.YtmlejgdohcpmjaaGreatDoor
open Lib (hid)
open Tryz
section
section
namespace Sch
open Go.RowKit Mem Img
def searchF (f:Nat->Bool):Nat->Nat->Nat->Nat
 |0,i,_=>i
 |k+1,i,j=>if i<j then (if f ((i+j) / 2)=true then searchF f k i ((i+j) / 2) else searchF f k ((i+j) / 2+1) j) else i
theorem search_more (f:Nat->Bool):∀ (k i j:Nat),j - i<=k->searchF f k i j=searchF f (j - i) i j
 |0,i,j,h=>by rw [show j - i=0 by omega]
 |k+1,i,j,h=>by
  by_cases hij:i<j
  ·obtain ⟨d,hd⟩:∃ d,j - i=d+1:=⟨j - i - 1,by omega⟩
   rw [hd,searchF,searchF,if_pos hij,if_pos hij]
   have h1:=search_more f k i ((i+j) / 2) (by omega)
   have h2:=search_more f k ((i+j) / 2+1) j (by omega)
   have h3:=search_more f d i ((i+j) / 2) (by omega)
   have h4:=search_more f d ((i+j) / 2+1) j (by omega)
   rw [h1,h2,h3,h4]
  ·rw [show j - i=0 by omega,searchF,searchF,if_neg hij]
termination_by k i j _=>k
theorem search_step {f:Nat->Bool} {i j:Nat} (h:i<j):searchF f (j - i) i j=if f ((i+j) / 2)=true then searchF f ((i+j) / 2 - i) i ((i+j) / 2) else searchF f (j - ((i+j) / 2+1)) ((i+j) / 2+1) j:=by
 obtain ⟨d,hd⟩:∃ d,j - i=d+1:=⟨j - i - 1,by omega⟩
 rw [hd,searchF,if_pos h,search_more f d i ((i+j) / 2) (by omega),search_more f d ((i+j) / 2+1) j (by omega)]
theorem search_le (f:Nat->Bool):∀ (k i j:Nat),i<=j->searchF f k i j<=j
 |0,i,j,h=>h
 |k+1,i,j,h=>by
  rw [searchF]
  split
  ·split
   ·exact Nat.le_trans (search_le f k i _ (by omega)) (by omega)
   ·exact search_le f k _ j (by omega)
  ·exact h
theorem search_first {f:Nat->Bool} {n:Nat} (hm:∀ a b,a<=b->b<n->f a=true->f b=true):∀ (k i j:Nat),j - i<=k->i<=j->j<=n->(∀ t,t<i->f t=false)->(∀ t,j<=t->t<n->f t=true)->
  (∀ t,t<searchF f k i j->f t=false)/\(∀ t,searchF f k i j<=t->t<n->f t=true)
 |0,i,j,h,hij,hjn,h1,h2=>⟨h1,fun t ht=>h2 t (by simp only [searchF] at ht;omega)⟩
 |k+1,i,j,h,hij,hjn,h1,h2=>by
  rw [searchF]
  split
  ·next hlt=>
   split
   ·next hf=>exact search_first hm k i _ (by omega) (by omega) (by omega) h1 fun t ht htn=>hm _ t ht htn hf
   ·next hf=>
    refine search_first hm k _ j (by omega) (by omega) hjn (fun t ht=>?_) h2
    cases ht2:f t with
    |false=>rfl
    |true=>exact absurd (hm t _ (by omega) (by omega) ht2) hf
  ·next hge=>exact ⟨h1,fun t ht=>h2 t (by omega)⟩
end Sch
end
end
section
section
namespace Sch
open Go.RowKit Mem Img
theorem search_any (n g:Nat) (lb:Array Value) (f:Nat->Bool) (w:World) (hn:n<=1000000) (hent:∀ args z,(callFunc g args).run prog z= .ok (.enter g args) z)
  (hf:∀ (i:Nat) z,i<n->Below w.heap.size w z->Calls prog g (#[.int .i64 i]++lb) z fun e w'=>e= .returned (.bool (f i))/\Below z.heap.size z w'):
  Calls prog 44 #[.int .i64 n,.func (.func g) #[] lb] w fun e w'=>e= .returned (.int .i64 (searchF f n 0 n:Nat))/\Below w.heap.size w w':=by
 have HF:=hid hf;obtain ⟨Q,hQ⟩:∃ Q,searchF f n 0 n=Q:=⟨_,rfl⟩;rw [hQ];have HQ:=hid hQ;clear hf hQ;go_enter func44,ntmps44;go_wp2
 go_loopw [5,6] (fun s5 s6 wr=>Below w.heap.size w wr/\∃ i j:Nat,i<=j/\j<=n/\s5= .int .i64 i/\s6= .int .i64 j/\searchF f (j - i) i j=Q) (fun s5 s6 _=>(intOf s6).toNat - (intOf s5).toNat)
 case atStart=>exact ⟨Below.refl _ _,0,n,Nat.zero_le _,Nat.le_refl _,rfl,rfl,by rw [Nat.sub_zero];exact HQ.out⟩
 case round=>
  obtain ⟨hb,i,j,hij,hjn,rfl,rfl,hq⟩:=hrel;have HB:=hid hb;have Hq:=hid hq;clear hb hq HQ
  by_cases hlt:i<j
  ·have hltb:decide ((i:Int)<(j:Int))=true:=decide_eq_true (by omega)
   go_wp2
   rw [show ((i:Int)+(j:Int)) / 2=(((i+j) / 2:Nat):Int) by omega]
   have hs:=search_step (f:=f) hlt;rw [Hq.out] at hs
   have hm1:i<=(i+j) / 2:=by omega
   have hm2:(i+j) / 2<j:=by omega
   generalize (i+j) / 2=k at*
   refine (HF.out k wr (by omega) HB.out).mono ?_
   rintro e w1 ⟨rfl,hb⟩;have HB2:=hid (HB.out.trans (hb.mono HB.out.size));clear hb HB;have Hs:=hid hs;clear hs hltb
   cases hfk:f k
   ·have hs:=Hs.out
    rw [if_neg (by rw [hfk];decide)] at hs
    have Hs2:=hid hs;clear hs Hs hfk;go_wp2
    exact ⟨⟨HB2.out,k+1,j,by omega,hjn,by go_num,rfl,Hs2.out.symm⟩,by simp [intOf];omega⟩
   ·have hs:=Hs.out
    rw [if_pos hfk] at hs;have Hs2:=hid hs;clear hs Hs hfk;go_wp2
    exact ⟨⟨HB2.out,i,k,by omega,by omega,rfl,rfl,Hs2.out.symm⟩,by simp [intOf];omega⟩
  ·obtain rfl:i=j:=by omega
   have hltb:decide ((i:Int)<(i:Int))=false:=decide_eq_false (by omega)
   have hq:=Hq.out;rw [Nat.sub_self,searchF] at hq;subst hq;go_wp2;go_ret;exact ⟨rfl,HB.out⟩
end Sch
end
end
end Go.Proofs.YtmlejgdohcpmjaaGreatDoor
