/-
  Contracts of the code that the law reaches, and plain laws. Conditions: as each says.
-/
import Derived.Test.YtadamccojdocbaaGreatDoorV10
import Derived.Laws.IdiomStrings
import Derived.Laws.BitsAllLaws
set_option linter.all false
set_option maxHeartbeats 40000000
set_option maxRecDepth 100000
namespace Go.Proofs.YtadamccojdocbaaGreatDoor
open Lib (hid)
open Tryz
section
section
namespace Sch
open Go.RowKit Mem Img
theorem search_any (n g:Nat) (lb:Array Value) (f:Nat->Bool) (w:World) (hn:n<=1000000) (hent:∀ args z,(callFunc g args).run prog z= .ok (.enter g args) z)
  (hf:∀ (i:Nat) z,i<n->Below w.heap.size w z->Calls prog g (#[.int .i64 i]++lb) z fun e w'=>e= .returned (.bool (f i))/\Below z.heap.size z w'):
  Calls prog 67 #[.int .i64 n,.func (.func g) #[] lb] w fun e w'=>e= .returned (.int .i64 (searchF f n 0 n:Nat))/\Below w.heap.size w w':=by
 have HF:=hid hf;obtain ⟨Q,hQ⟩:∃ Q,searchF f n 0 n=Q:=⟨_,rfl⟩;rw [hQ];have HQ:=hid hQ;clear hf hQ;go_enter func67,ntmps67;go_wp2
 go_loopw [5,6] (fun s5 s6 wr=>Below w.heap.size w wr/\∃ i j:Nat,i<=j/\j<=n/\s5= .int .i64 i/\s6= .int .i64 j/\searchF f (j - i) i j=Q) (fun s5 s6 _=>(intOf s6).toNat - (intOf s5).toNat)
 case atStart=>exact ⟨Below.refl _ _,0,n,Nat.zero_le _,Nat.le_refl _,rfl,rfl,by rw [Nat.sub_zero];exact HQ.out⟩
 case round=>
  obtain ⟨hb,i,j,hij,hjn,rfl,rfl,hq⟩:=hrel;have HB:=hid hb;have Hq:=hid hq;clear hb hq HQ
  by_cases hlt:i<j
  ·have hltb:decide ((i:Int)<(j:Int))=true:=decide_eq_true (by omega)
   go_wp2
   rw [show ((i:Int)+(j:Int)) / 2=(((i+j) / 2:Nat):Int) by omega]
   have hs:=search_step (f:=f) hlt;rw [Hq.out] at hs
   have hm1:i<=(i+j) / 2:=by omega
   have hm2:(i+j) / 2<j:=by omega
   generalize (i+j) / 2=k at*
   refine (HF.out k wr (by omega) HB.out).mono ?_
   rintro e w1 ⟨rfl,hb⟩;have HB2:=hid (HB.out.trans (hb.mono HB.out.size));clear hb HB;have Hs:=hid hs;clear hs hltb
   cases hfk:f k
   ·have hs:=Hs.out
    rw [if_neg (by rw [hfk];decide)] at hs
    have Hs2:=hid hs;clear hs Hs hfk;go_wp2
    exact ⟨⟨HB2.out,k+1,j,by omega,hjn,by go_num,rfl,Hs2.out.symm⟩,by simp [intOf];omega⟩
   ·have hs:=Hs.out
    rw [if_pos hfk] at hs;have Hs2:=hid hs;clear hs Hs hfk;go_wp2
    exact ⟨⟨HB2.out,i,k,by omega,by omega,rfl,rfl,Hs2.out.symm⟩,by simp [intOf];omega⟩
  ·obtain rfl:i=j:=by omega
   have hltb:decide ((i:Int)<(i:Int))=false:=decide_eq_false (by omega)
   have hq:=Hq.out;rw [Nat.sub_self,searchF] at hq;subst hq;go_wp2;go_ret;exact ⟨rfl,HB.out⟩
end Sch
end
end
section
section
namespace Img
open Go.RowKit Mem
end Img
namespace Img
open Go.RowKit Mem
section
variable {B g:Nat} {w0 w:World} {os:List (Nat×Obj)} {l:List UInt8}
end
end Img
namespace Img
open Go.RowKit Mem Go.Maps
end Img
end
end
section
section
namespace Rd
open Go.RowKit Mem Img
end Rd
namespace Rd
open Go.RowKit Mem Img
end Rd
namespace Rd
open Go.RowKit Mem Img
section
variable {w0 w w':World} {g:Nat} {os:List (Nat×TypeId×Array Value)} {l l':List UInt8}
end
end Rd
end
end
end Go.Proofs.YtadamccojdocbaaGreatDoor
