/-
  Contracts of the code that the law reaches, and plain laws. Conditions: as each says.
-/
import Derived.Test.YtiiekaehbahenaaGreatDoorV37
import Derived.Test.YtiiekaehbahenaaGreatDoorV40
set_option linter.all false
set_option maxHeartbeats 40000000
set_option maxRecDepth 100000
namespace Go.Proofs.YtiiekaehbahenaaGreatDoor
open Lib (hid)
open Tryz
section
namespace Gr
open Go.RowKit Mem Atl Wid RefZ Dig
def nmL:Nat->ByteArray
 |0=>⟨#[89,121]⟩|1=>⟨#[77,109]⟩|2=>⟨#[87,119]⟩|3=>⟨#[68,100]⟩|4=>⟨#[72,104]⟩|5=>⟨#[77,109]⟩|_=>⟨#[83,115]⟩
theorem nmL_small (k:Nat):(nmL k).size<=1000:=by
 unfold nmL;split<;>decide
def isU (l:Txt) (tm:Bool) (i k:Nat):Bool:=(tm == decide (4<=k)) && oneA l (nmL k).data.toList i
theorem whC:∀ n:Fin 256,∀ tm:Bool,
  (if tm=true then (match (if (([72,77,83]:List UInt8)++([72,77,83]:List UInt8).map (·+32)).contains (UInt8.ofNat n.val)=true then ([72,77,83]:List UInt8).findIdx? (fun d=>d=UInt8.ofNat n.val\/d+32=UInt8.ofNat n.val) else none) with|some j=>(j:Int)+4|none=> -1)
   else (match (if (([89,77,87,68]:List UInt8)++([89,77,87,68]:List UInt8).map (·+32)).contains (UInt8.ofNat n.val)=true then ([89,77,87,68]:List UInt8).findIdx? (fun d=>d=UInt8.ofNat n.val\/d+32=UInt8.ofNat n.val) else none) with|some j=>(j:Int)|none=> -1))
  =(match (List.range 7).find? (fun k=>(tm == decide (4<=k)) && (nmL k).data.toList.contains (UInt8.ofNat n.val)) with|some j=>(j:Int)|none=> -1):=by
 decide +kernel
theorem whD_find (l:Txt) (tm:Bool) (i:Nat):whD l tm i=(match (List.range 7).find? (fun k=>isU l tm i k) with|some j=>(j:Int)|none=> -1):=by
 unfold whD whA isU oneA
 cases h:l[i]? with
 |none=>cases tm<;>simp<;>rfl
 |some c=>
  have:=whC ⟨c.toNat,c.toNat_lt⟩ tm;simp only [UInt8.ofNat_toNat] at this;exact this
theorem whD_at {l:Txt} {tm:Bool} {i k:Nat} (hk:k<7) (h:∀ j,j<k->isU l tm i j=false) (hy:isU l tm i k=true):whD l tm i=(k:Int):=by
 rw [whD_find,List.find?_range_eq_some.2 ⟨hy,List.mem_range.2 hk,fun j hj=>by rw [h j hj];rfl⟩]
theorem whD_none {l:Txt} {tm:Bool} {i:Nat} (h:∀ j,j<7->isU l tm i j=false):whD l tm i= -1:=by
 rw [whD_find,List.find?_eq_none.2 (fun j hj=>by rw [h j (List.mem_range.1 hj)];exact Bool.false_ne_true)]
theorem nmL_cell {w:World} {X:Nat} {T:TypeId} (hb:Blk w X T #[.string ⟨#[89,121]⟩,.string ⟨#[77,109]⟩,.string ⟨#[87,119]⟩,.string ⟨#[68,100]⟩,.string ⟨#[72,104]⟩,.string ⟨#[77,109]⟩,.string ⟨#[83,115]⟩]) {k:Nat} (hk:k<7):w.cell? ⟨X,k,none⟩=some (.string (nmL k)):=by
 rw [hb.cell k]
 have:k=0\/k=1\/k=2\/k=3\/k=4\/k=5\/k=6:=by omega
 rcases this with rfl|rfl|rfl|rfl|rfl|rfl|rfl<;>rfl
theorem which24 (s:ByteArray) (i0:Nat) (tm:Bool) (w:World) (hs:s.size<=2097152) (hi:i0<=4000000):
  Calls prog 37 #[.string s,.int .i64 i0,.bool tm] w fun r w'=>r= .returned (.int .i64 (whD (tx s) tm i0))/\Below w.heap.size w w':=by
 obtain ⟨R,hR⟩:∃ R,whD (tx s) tm i0=R:=⟨_,rfl⟩;rw [hR];have HR:=hid hR;clear hR
 have HIs:=hid (fun (k:Nat) (z:World)=>dis_any (nmL k) s i0 z (nmL_small k) hs (by omega))
 go_enter func37,ntmps37
 go_wp2_with fail
 have bN:=Blk.new w 9 #[.string ⟨#[89,121]⟩,.string ⟨#[77,109]⟩,.string ⟨#[87,119]⟩,.string ⟨#[68,100]⟩,.string ⟨#[72,104]⟩,.string ⟨#[77,109]⟩,.string ⟨#[83,115]⟩];have H1:=hid (And.intro bN ((Below.refl w.heap.size w).alloc (Nat.le_refl _) (.cells #[.string ⟨#[89,121]⟩,.string ⟨#[77,109]⟩,.string ⟨#[87,119]⟩,.string ⟨#[68,100]⟩,.string ⟨#[72,104]⟩,.string ⟨#[77,109]⟩,.string ⟨#[83,115]⟩] 9)));clear bN;generalize w.alloc _=W at*
 go_loopw [6,8] (fun _ i wr=>∃ k:Nat,k<=7/\i= .int .i64 k/\(∀ j,j<k->isU (tx s) tm i0 j=false)/\Below W.heap.size W wr) (fun _ i _=>7 - (intOf i).toNat)
 case atStart=>exact ⟨0,by omega,rfl,fun j h=>by omega,Below.refl _ _⟩
 case round=>
  obtain ⟨k,hk,rfl,hok,hb⟩:=hrel;have HB:=hid hb;have HOk:=hid hok
  by_cases hk7:k<7
  ·have q1:decide ((k:Int)<7)=true:=decide_eq_true (by omega)
   have hx:=nmL_cell (H1.out.1.below hb H1.out.1.lt) hk7;have ad:=addr_at w.heap.size k
   have q2:decide ((4:Int)<=(k:Int))=decide (4<=k):=by by_cases h:4<=k<;>simp [h]<;>omega
   obtain ⟨S,hS⟩:∃ S,nmL k=S:=⟨_,rfl⟩;have HIk:=hid (HIs.out k);have hU:isU (tx s) tm i0 k=((tm == decide (4<=k)) && oneA (tx s) (nmL k).data.toList i0):=rfl;obtain ⟨q,hq⟩:∃ q,decide (4<=k)=q:=⟨_,rfl⟩;obtain ⟨o,ho⟩:∃ o,oneA (tx s) (nmL k).data.toList i0=o:=⟨_,rfl⟩;rw [ho,hS] at HIk;rw [hS] at hx;rw [ho,hq] at hU;rw [hq] at q2;have HU:=hid hU;clear hb hok hS hU hq ho
   cases tm<;>cases q<;>cases o
   all_goals go_wp2_with (go_at_call 20;refine (HIk.out _).mono ?_;rintro e w3 ⟨rfl,nn,rfl⟩)
   all_goals first
    |refine ⟨⟨k+1,by omega,by go_num,fun j h1=>?_,by first|exact HB.out|exact below_drewN HB.out _⟩,by simp [intOf];omega⟩
     by_cases hj:j=k
     ·subst hj;exact HU.out
     ·exact HOk.out j (by omega)
    |have e:=HR.out
     rw [whD_at hk7 HOk.out HU.out] at e;subst e
     exact bodyPost_ret (v:= .int .i64 (k:Int)) (by simp [results,Tryz.results37,go_sem]) rfl ⟨rfl,H1.out.2.trans ((below_drewN HB.out _).mono H1.out.2.size)⟩
  ·obtain rfl:k=7:=by omega
   have q1:decide (((7:Nat):Int)<7)=false:=by decide
   have hRr:=HR.out;rw [whD_none (fun j hj=>hok j hj)] at hRr;subst hRr;have kb:=H1.out.2.trans (hb.mono H1.out.2.size);clear hb hok;go_wp2
   exact bodyPost_ret (v:= .int .i64 (-1)) (by simp [results,Tryz.results37,go_sem]) rfl ⟨rfl,kb⟩
end Gr
end
end Go.Proofs.YtiiekaehbahenaaGreatDoor
