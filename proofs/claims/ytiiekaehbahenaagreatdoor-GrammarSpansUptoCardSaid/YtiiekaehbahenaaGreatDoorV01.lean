/-
  Contracts of the code that the law reaches, and plain laws. Conditions: as each says.
-/
import Derived.Test.YtiiekaehbahenaaGreatDoorChecked
import Derived.Test.YtiiekaehbahenaaGreatDoorV00
import Derived.ProofKit
import Derived.OpenShut
import Derived.Handy
import Derived.WalkLawsBesides
import Derived.Lib.Hide
import Derived.Lib.UnsafeStr
import Derived.Maps.Own
import Derived.Maps.OwnOps
import Derived.Maps.OwnSet
import Derived.Maps.Views
import Derived.DeepKeys4
import Derived.MapViews
import Derived.Deep.DeepCutAuto
import Derived.Deep.RegionWith
set_option linter.all false
set_option maxHeartbeats 40000000
set_option maxRecDepth 100000
namespace Go.Proofs.YtiiekaehbahenaaGreatDoor
section
namespace Rgt
def dayB (n:Int):Bool:=decide (-86400<n) && decide (n<86400)
end Rgt
namespace Img
open Go.RowKit Mem
def In64 (a:Int):Prop:= -9223372036854775808<=a/\a<=9223372036854775807
structure Phase where
 off:Int
 save:Int
 abbr:ByteArray
 deriving DecidableEq
structure Shift where
 sec:Int
 ph:Phase
 deriving DecidableEq
structure Rule where
 name:ByteArray
 lo:Int
 hi:Int
 month:Int
 kind:Int
 weekday:Int
 day:Int
 time:Int
 ref:Int
 save:Int
 letter:ByteArray
 deriving DecidableEq
structure Table where
 name:ByteArray
 first:Phase
 shifts:List Shift
 till:Int
 tail:List Rule
 off:Int
 format:ByteArray
 deriving DecidableEq
def Phase.cells (p:Phase):List Value:=[.int .i64 p.off,.int .i64 p.save,.string p.abbr]
def Shift.cells (s:Shift):List Value:=[.int .i64 s.sec,.int .i64 s.ph.off,.int .i64 s.ph.save,.string s.ph.abbr]
def Rule.cells (r:Rule):List Value:=[.string r.name,.int .i64 r.lo,.int .i64 r.hi,.int .i64 r.month,.int .i64 r.kind,.int .i64 r.weekday,.int .i64 r.day,.int .i64 r.time,.int .i64 r.ref,.int .i64 r.save,.string r.letter]
theorem len_toList (s:ByteArray):s.data.toList.length=s.size:=by simp
def PW (p:Phase):Prop:=In64 p.off/\In64 p.save/\p.abbr.size<=8388608
def tabCells (x:Table) (A:Option Addr) (c:Nat) (A2:Option Addr) (c2:Nat):Array Value:=
 #[.string x.name,.int .i64 x.first.off,.int .i64 x.first.save,.string x.first.abbr,.slice A x.shifts.length c,.int .i64 x.till,.slice A2 x.tail.length c2,.int .i64 x.off,.string x.format]
def kindsL (first:Phase) (ss:List Shift):List Phase:=ss.foldl (fun l s=>if s.ph∈l then l else l++[s.ph]) [first]
theorem own_of_blk {w:World} {base g:Nat} {e:TypeId} {cs:Array Value} {n size:Nat} (h:Blk w g e cs) (hb:base<=g) (hs:cs.size=n*size) (hn:n<=maxLen):w.ownsRow base e size (.slice (some ⟨g,0,none⟩) n n) n cs.toList:=by
 refine ⟨by simpa using hs,.inr ⟨g,n,cs,rfl,hb,h,Nat.le_refl _,hn,hs,?_⟩⟩
 rw [<-hs]
 exact List.take_of_length_le (by simp)
theorem own_base {w:World} {base base':Nat} {e:TypeId} {v:Value} {n size:Nat} {xs:List Value} (h:w.ownsRow base e size v n xs) (hb:base'<=base):w.ownsRow base' e size v n xs:=by
 refine ⟨h.1,?_⟩
 rcases h.2 with h0|⟨g,cap,cur,e1,e2,r⟩
 ·exact .inl h0
 ·exact .inr ⟨g,cap,cur,e1,by omega,r⟩
theorem flat_get {α:Type} (f:α->List Value) (m:Nat) (hf:∀ x,(f x).length=m) (l:List α) (k j:Nat) (hj:j<m):(l.flatMap f)[k*m+j]?=(l[k]?).bind fun x=>(f x)[j]?:=by
 induction l generalizing k with
 |nil=>simp
 |cons a t ih=>
  rw [List.flatMap_cons]
  cases k with
  |zero=>rw [List.getElem?_append_left (by rw [hf];omega)];simp
  |succ k=>
   rw [List.getElem?_append_right (by rw [hf,Nat.succ_mul];omega),hf]
   have:(k+1)*m+j - m=k*m+j:=by rw [Nat.succ_mul];omega
   rw [this,ih];simp
theorem Shift.cells_length (s:Shift):s.cells.length=4:=rfl
theorem add_pos (a:Addr) {j:Nat} (hj:0<j):a.add j=⟨a.block,a.off+j,none⟩:=by
 unfold Addr.add
 rw [if_neg (by omega)]
theorem phases_oneCell {a b:Int} {s:ByteArray}:∀ u∈(#[Value.int .i64 a,.int .i64 b,.string s]:Array Value).toList,u.oneCell'=true:=by
 intro u hu;simp at hu
 rcases hu with rfl|rfl|rfl<;>rfl
theorem shift_at {w:World} {B:Nat} {A:Option Addr} {ss:List Shift} (h:Reads w B 4 A ss.length (ss.flatMap Shift.cells)) {k:Nat} (hk:k<ss.length):
  ∃ ad,A=some ad/\ad.block<B/\w.cell? (ad.add (k*4))=some (.int .i64 ss[k].sec)/\w.cell? ⟨(ad.add (k*4)).block,(ad.add (k*4)).off+1,none⟩=some (.int .i64 ss[k].ph.off)/\w.cell? ⟨(ad.add (k*4)).block,(ad.add (k*4)).off+2,none⟩=some (.int .i64 ss[k].ph.save)/\w.cell? ⟨(ad.add (k*4)).block,(ad.add (k*4)).off+3,none⟩=some (.string ss[k].ph.abbr):=by
 obtain ⟨ad,e,hb,hc⟩:=h.2 (by omega)
 have g:∀ j,j<4->(ss.flatMap Shift.cells)[k*4+j]?=ss[k].cells[j]?:=fun j hj=>by
  rw [flat_get Shift.cells 4 Shift.cells_length ss k j hj,List.getElem?_eq_getElem hk];rfl
 have ee:∀ j,0<j->(⟨(ad.add (k*4)).block,(ad.add (k*4)).off+j,none⟩:Addr)=ad.add (k*4+j):=fun j hj=>by
  rw [<-add_of_add,add_pos _ hj]
 refine ⟨ad,e,hb,?_⟩
 rw [ee 1 (by omega),ee 2 (by omega),ee 3 (by omega)]
 exact ⟨ hc (k*4) _ (g 0 (by omega)),hc _ _ (g 1 (by omega)),hc _ _ (g 2 (by omega)),hc _ _ (g 3 (by omega))⟩
theorem Rule.cells_length (s:Rule):s.cells.length=11:=rfl
theorem rule_at {w:World} {B:Nat} {A:Option Addr} {ss:List Rule} (h:Reads w B 11 A ss.length (ss.flatMap Rule.cells)) {k:Nat} (hk:k<ss.length):
  ∃ ad,A=some ad/\ad.block<B/\w.cell? (ad.add (k*11))=some (.string ss[k].name)/\∀ j,0<j->j<11->w.cell? ⟨(ad.add (k*11)).block,(ad.add (k*11)).off+j,none⟩=ss[k].cells[j]?:=by
 obtain ⟨ad,e,hb,hc⟩:=h.2 (by omega)
 have g:∀ j,j<11->(ss.flatMap Rule.cells)[k*11+j]?=ss[k].cells[j]?:=fun j hj=>by
  rw [flat_get Rule.cells 11 Rule.cells_length ss k j hj,List.getElem?_eq_getElem hk];rfl
 have ee:∀ j,0<j->(⟨(ad.add (k*11)).block,(ad.add (k*11)).off+j,none⟩:Addr)=ad.add (k*11+j):=fun j hj=>by
  rw [<-add_of_add,add_pos _ hj]
 refine ⟨ad,e,hb,hc (k*11) _ (g 0 (by omega)),fun j h0 hj=>?_⟩
 rw [ee j h0];have hs:j<ss[k].cells.length:=hj
 rw [hc (k*11+j) _ ((g j hj).trans (List.getElem?_eq_getElem hs)),List.getElem?_eq_getElem hs]
end Img
end
end Go.Proofs.YtiiekaehbahenaaGreatDoor
