/-
  Contracts of the code that the law reaches, and plain laws. Conditions: as each says.
-/
import Derived.Test.YtmlejgdohcpmjaaGreatDoorChecked
import Derived.ProofKit
import Derived.OpenShut
import Derived.Lib.UnsafeStr
import Derived.Maps.Own
import Derived.Maps.OwnOps
import Derived.Maps.OwnSet
import Derived.Maps.Views
import Derived.DeepKeys4
import Derived.MapViews
import Derived.Deep.DeepCutAuto
import Derived.Deep.RegionWith
import Derived.Test.YtmlejgdohcpmjaaGreatDoorV01
import Derived.StillTailTactics
set_option linter.all false
set_option maxHeartbeats 40000000
set_option maxRecDepth 100000
namespace Go.Proofs.YtmlejgdohcpmjaaGreatDoor
open Lib (hid)
open Tryz
section
section
namespace Rgt
def dayB (n:Int):Bool:=decide (-86400<n) && decide (n<86400)
end Rgt
namespace Img
open Go.RowKit Mem
def In64 (a:Int):Prop:= -9223372036854775808<=a/\a<=9223372036854775807
structure Phase where
 off:Int
 save:Int
 abbr:ByteArray
 deriving DecidableEq
structure Shift where
 sec:Int
 ph:Phase
 deriving DecidableEq
structure Rule where
 name:ByteArray
 lo:Int
 hi:Int
 month:Int
 kind:Int
 weekday:Int
 day:Int
 time:Int
 ref:Int
 save:Int
 letter:ByteArray
 deriving DecidableEq
structure Table where
 name:ByteArray
 first:Phase
 shifts:List Shift
 till:Int
 tail:List Rule
 off:Int
 format:ByteArray
 deriving DecidableEq
def Phase.cells (p:Phase):List Value:=[.int .i64 p.off,.int .i64 p.save,.string p.abbr]
def Shift.cells (s:Shift):List Value:=[.int .i64 s.sec,.int .i64 s.ph.off,.int .i64 s.ph.save,.string s.ph.abbr]
def Rule.cells (r:Rule):List Value:=[.string r.name,.int .i64 r.lo,.int .i64 r.hi,.int .i64 r.month,.int .i64 r.kind,.int .i64 r.weekday,.int .i64 r.day,.int .i64 r.time,.int .i64 r.ref,.int .i64 r.save,.string r.letter]
theorem len_toList (s:ByteArray):s.data.toList.length=s.size:=by simp
def PW (p:Phase):Prop:=In64 p.off/\In64 p.save/\p.abbr.size<=8388608
def tabCells (x:Table) (A:Option Addr) (c:Nat) (A2:Option Addr) (c2:Nat):Array Value:=
 #[.string x.name,.int .i64 x.first.off,.int .i64 x.first.save,.string x.first.abbr,.slice A x.shifts.length c,.int .i64 x.till,.slice A2 x.tail.length c2,.int .i64 x.off,.string x.format]
def kindsL (first:Phase) (ss:List Shift):List Phase:=ss.foldl (fun l s=>if s.ph∈l then l else l++[s.ph]) [first]
theorem own_of_blk {w:World} {base g:Nat} {e:TypeId} {cs:Array Value} {n size:Nat} (h:Blk w g e cs) (hb:base<=g) (hs:cs.size=n*size) (hn:n<=maxLen):w.ownsRow base e size (.slice (some ⟨g,0,none⟩) n n) n cs.toList:=by
 refine ⟨by simpa using hs,.inr ⟨g,n,cs,rfl,hb,h,Nat.le_refl _,hn,hs,?_⟩⟩
 rw [<-hs]
 exact List.take_of_length_le (by simp)
theorem own_base {w:World} {base base':Nat} {e:TypeId} {v:Value} {n size:Nat} {xs:List Value} (h:w.ownsRow base e size v n xs) (hb:base'<=base):w.ownsRow base' e size v n xs:=by
 refine ⟨h.1,?_⟩
 rcases h.2 with h0|⟨g,cap,cur,e1,e2,r⟩
 ·exact .inl h0
 ·exact .inr ⟨g,cap,cur,e1,by omega,r⟩
theorem flat_get {α:Type} (f:α->List Value) (m:Nat) (hf:∀ x,(f x).length=m) (l:List α) (k j:Nat) (hj:j<m):(l.flatMap f)[k*m+j]?=(l[k]?).bind fun x=>(f x)[j]?:=by
 induction l generalizing k with
 |nil=>simp
 |cons a t ih=>
  rw [List.flatMap_cons]
  cases k with
  |zero=>rw [List.getElem?_append_left (by rw [hf];omega)];simp
  |succ k=>
   rw [List.getElem?_append_right (by rw [hf,Nat.succ_mul];omega),hf]
   have:(k+1)*m+j - m=k*m+j:=by rw [Nat.succ_mul];omega
   rw [this,ih];simp
theorem Shift.cells_length (s:Shift):s.cells.length=4:=rfl
theorem add_pos (a:Addr) {j:Nat} (hj:0<j):a.add j=⟨a.block,a.off+j,none⟩:=by
 unfold Addr.add
 rw [if_neg (by omega)]
theorem shift_at {w:World} {B:Nat} {A:Option Addr} {ss:List Shift} (h:Reads w B 4 A ss.length (ss.flatMap Shift.cells)) {k:Nat} (hk:k<ss.length):
  ∃ ad,A=some ad/\ad.block<B/\w.cell? (ad.add (k*4))=some (.int .i64 ss[k].sec)/\w.cell? ⟨(ad.add (k*4)).block,(ad.add (k*4)).off+1,none⟩=some (.int .i64 ss[k].ph.off)/\w.cell? ⟨(ad.add (k*4)).block,(ad.add (k*4)).off+2,none⟩=some (.int .i64 ss[k].ph.save)/\w.cell? ⟨(ad.add (k*4)).block,(ad.add (k*4)).off+3,none⟩=some (.string ss[k].ph.abbr):=by
 obtain ⟨ad,e,hb,hc⟩:=h.2 (by omega)
 have g:∀ j,j<4->(ss.flatMap Shift.cells)[k*4+j]?=ss[k].cells[j]?:=fun j hj=>by
  rw [flat_get Shift.cells 4 Shift.cells_length ss k j hj,List.getElem?_eq_getElem hk];rfl
 have ee:∀ j,0<j->(⟨(ad.add (k*4)).block,(ad.add (k*4)).off+j,none⟩:Addr)=ad.add (k*4+j):=fun j hj=>by
  rw [<-add_of_add,add_pos _ hj]
 refine ⟨ad,e,hb,?_⟩
 rw [ee 1 (by omega),ee 2 (by omega),ee 3 (by omega)]
 exact ⟨ hc (k*4) _ (g 0 (by omega)),hc _ _ (g 1 (by omega)),hc _ _ (g 2 (by omega)),hc _ _ (g 3 (by omega))⟩
theorem Rule.cells_length (s:Rule):s.cells.length=11:=rfl
theorem rule_at {w:World} {B:Nat} {A:Option Addr} {ss:List Rule} (h:Reads w B 11 A ss.length (ss.flatMap Rule.cells)) {k:Nat} (hk:k<ss.length):
  ∃ ad,A=some ad/\ad.block<B/\w.cell? (ad.add (k*11))=some (.string ss[k].name)/\∀ j,0<j->j<11->w.cell? ⟨(ad.add (k*11)).block,(ad.add (k*11)).off+j,none⟩=ss[k].cells[j]?:=by
 obtain ⟨ad,e,hb,hc⟩:=h.2 (by omega)
 have g:∀ j,j<11->(ss.flatMap Rule.cells)[k*11+j]?=ss[k].cells[j]?:=fun j hj=>by
  rw [flat_get Rule.cells 11 Rule.cells_length ss k j hj,List.getElem?_eq_getElem hk];rfl
 have ee:∀ j,0<j->(⟨(ad.add (k*11)).block,(ad.add (k*11)).off+j,none⟩:Addr)=ad.add (k*11+j):=fun j hj=>by
  rw [<-add_of_add,add_pos _ hj]
 refine ⟨ad,e,hb,hc (k*11) _ (g 0 (by omega)),fun j h0 hj=>?_⟩
 rw [ee j h0];have hs:j<ss[k].cells.length:=hj
 rw [hc (k*11+j) _ ((g j hj).trans (List.getElem?_eq_getElem hs)),List.getElem?_eq_getElem hs]
end Img
end
end
section
section
namespace Rul
open Go.RowKit Mem Civ Mom Img
def spotOf (r:Rule):Spot:=⟨r.month,r.kind,r.weekday,r.day,r.time,r.ref⟩
def yearP (n:Int):Prop:=1<=n/\n<=9999
instance (n:Int):Decidable (yearP n):=by unfold yearP;infer_instance
def ruleP (r:Rule):Prop:=yearP r.lo/\(yearP r.hi\/r.hi=1000000)/\(spotOf r).okP/\-43200<=r.save/\r.save<=43200
instance (r:Rule):Decidable (ruleP r):=by unfold ruleP;infer_instance
def ruleB (r:Rule):Bool:=decide (ruleP r)
theorem right1_any (n:Int) (w:World):Calls prog 130 #[.int .i64 n] w fun e w'=>e= .returned (.bool (decide (yearP n)))/\w=w':=by
 by_cases h:1<=n
 ·have e:decide (yearP n)=decide (n<=9999):=by unfold yearP;simp [h]
  rw [e];clear e;go_enter func130,ntmps130;go_wp2;go_ret;exact ⟨rfl,rfl⟩
 ·have e:decide (yearP n)=false:=by unfold yearP;simp [h]
  rw [e];clear e;go_enter func130,ntmps130;go_wp2;go_ret;exact ⟨rfl,rfl⟩
theorem force_any (r:Rule) (y:Int) (w:World):Calls prog 134 #[.agg r.cells.toArray,.int .i64 y] w fun e w'=>e= .returned (.bool (decide (r.lo<=y/\y<=r.hi)))/\Below w.heap.size w w':=by
 have hone:=One.new w 69 r.cells.toArray;obtain ⟨r0,r1,r2,r3,r4,r5,r6,r7,r8,r9,r10⟩:=r;simp only [Rule.cells] at hone ⊢;obtain ⟨W,hW⟩:∃ W,w.alloc (.cells #[.string r0,.int .i64 r1,.int .i64 r2,.int .i64 r3,.int .i64 r4,.int .i64 r5,.int .i64 r6,.int .i64 r7,.int .i64 r8,.int .i64 r9,.string r10] 69)=W:=⟨_,rfl⟩;rw [hW] at hone;have HO:=hid hone;have c0:=hone.1.cell;clear hone
 by_cases h:r1<=y
 ·have e:decide (r1<=y/\y<=r2)=decide (y<=r2):=by simp [h]
  rw [e];clear e;go_enter func134,ntmps134;go_wp2;go_ret;exact ⟨rfl,HO.out.2⟩
 ·have e:decide (r1<=y/\y<=r2)=false:=by simp [h]
  rw [e];clear e;go_enter func134,ntmps134;go_wp2;go_ret;exact ⟨rfl,HO.out.2⟩
theorem right_any (r:Rule) (w:World):Calls prog 94 #[.agg r.cells.toArray] w fun e w'=>e= .returned (.bool (ruleB r))/\Below w.heap.size w w':=by
 have hone:=One.new w 69 r.cells.toArray;obtain ⟨q,hq⟩:∃ q,ruleB r=q:=⟨_,rfl⟩;rw [hq];obtain ⟨r0,r1,r2,r3,r4,r5,r6,r7,r8,r9,r10⟩:=r;have Hs:=hid (fun z=>Mom.right_any ⟨r3,r4,r5,r6,r7,r8⟩ z);simp only [Rule.cells,Spot.cells] at hone Hs ⊢
 have hq2:q=(decide (yearP r1) && ((decide (yearP r2) || decide (r2=1000000)) && (spotB ⟨r3,r4,r5,r6,r7,r8⟩ && (decide (-43200<=r9) && decide (r9<=43200))))):=by
  rw [<-hq,ruleB,spotB,<-Bool.decide_or,<-Bool.decide_and,<-Bool.decide_and,<-Bool.decide_and,<-Bool.decide_and]
  rfl
 have HQ:=hid hq2;clear hq hq2;have H1:=hid (fun z=>right1_any r1 z);have H2:=hid (fun z=>right1_any r2 z);obtain ⟨W,hW⟩:∃ W,w.alloc (.cells #[.string r0,.int .i64 r1,.int .i64 r2,.int .i64 r3,.int .i64 r4,.int .i64 r5,.int .i64 r6,.int .i64 r7,.int .i64 r8,.int .i64 r9,.string r10] 69)=W:=⟨_,rfl⟩;rw [hW] at hone;have HO:=hid hone;have c0:=hone.1.cell;clear hone;generalize decide (yearP r1)=b1 at*;generalize decide (yearP r2)=b2 at*;generalize spotB ⟨r3,r4,r5,r6,r7,r8⟩=b4 at*
 have e3:(r2 == 1000000)=decide (r2=1000000):=by rw [Bool.eq_iff_iff];simp
 generalize decide (r2=1000000)=b3 at*;go_enter func94,ntmps94
 cases b1
 ·have hs:q=false:=HQ.out
  subst hs;clear HQ
  go_wp2_with (first
   |(go_at_call 130;refine (H1.out _).mono ?_;rintro e w1 ⟨rfl,rfl⟩))
  go_ret;exact ⟨rfl,HO.out.2⟩
 ·rcases (by cases b2<;>cases b3<;>simp:(b2=true)\/(b2=false/\b3=true)\/(b2=false/\b3=false)) with rfl|⟨rfl,rfl⟩|⟨rfl,rfl⟩
  rotate_right
  ·have hs:q=false:=HQ.out
   subst hs;clear HQ
   go_wp2_with (first
    |(go_at_call 130;have tk:=tok;refine (H2.out _).mono ?_;rintro e w1 ⟨rfl,rfl⟩)
    |(go_at_call 130;refine (H1.out _).mono ?_;rintro e w1 ⟨rfl,rfl⟩;have tok:True:=trivial)
    |(go_at_call 131;refine (Hs.out _).mono ?_;rintro e w2 ⟨rfl,hw⟩;have hb:=HO.out.step (below_of_eq hw);have c1:=hb.1.cell;have HB:=hid hb;clear hw hb))
   go_ret;exact ⟨rfl,HO.out.2⟩
  all_goals
   cases b4
   ·have hs:q=false:=HQ.out
    subst hs;clear HQ
    go_wp2_with (first
    |(go_at_call 130;have tk:=tok;refine (H2.out _).mono ?_;rintro e w1 ⟨rfl,rfl⟩)
    |(go_at_call 130;refine (H1.out _).mono ?_;rintro e w1 ⟨rfl,rfl⟩;have tok:True:=trivial)
    |(go_at_call 131;refine (Hs.out _).mono ?_;rintro e w2 ⟨rfl,hw⟩;have hb:=HO.out.step (below_of_eq hw);have c1:=hb.1.cell;have HB:=hid hb;clear hw hb))
    go_ret;exact ⟨rfl,HB.out.2⟩
   ·have hs:q=(decide (-43200<=r9) && decide (r9<=43200)):=HQ.out
    by_cases h1: -43200<=r9
    ·rw [decide_eq_true h1,Bool.true_and] at hs
     subst hs;clear HQ
     go_wp2_with (first
    |(go_at_call 130;have tk:=tok;refine (H2.out _).mono ?_;rintro e w1 ⟨rfl,rfl⟩)
    |(go_at_call 130;refine (H1.out _).mono ?_;rintro e w1 ⟨rfl,rfl⟩;have tok:True:=trivial)
    |(go_at_call 131;refine (Hs.out _).mono ?_;rintro e w2 ⟨rfl,hw⟩;have hb:=HO.out.step (below_of_eq hw);have c1:=hb.1.cell;have HB:=hid hb;clear hw hb))
     go_ret;exact ⟨rfl,HB.out.2⟩
    ·rw [decide_eq_false h1,Bool.false_and] at hs
     subst hs;clear HQ
     go_wp2_with (first
    |(go_at_call 130;have tk:=tok;refine (H2.out _).mono ?_;rintro e w1 ⟨rfl,rfl⟩)
    |(go_at_call 130;refine (H1.out _).mono ?_;rintro e w1 ⟨rfl,rfl⟩;have tok:True:=trivial)
    |(go_at_call 131;refine (Hs.out _).mono ?_;rintro e w2 ⟨rfl,hw⟩;have hb:=HO.out.step (below_of_eq hw);have c1:=hb.1.cell;have HB:=hid hb;clear hw hb))
     go_ret;exact ⟨rfl,HB.out.2⟩
theorem rightC_any (r:Rule) (w:World):Calls prog 93 #[.agg r.cells.toArray] w fun e w'=>e= .returned (.bool (!ruleB r))/\Below w.heap.size w w':=by
 have hone:=One.new w 69 r.cells.toArray;have Hr:=hid (fun z=>right_any r z);generalize ruleB r=q at*;obtain ⟨r0,r1,r2,r3,r4,r5,r6,r7,r8,r9,r10⟩:=r;simp only [Rule.cells] at hone Hr ⊢;obtain ⟨W,hW⟩:∃ W,w.alloc (.cells #[.string r0,.int .i64 r1,.int .i64 r2,.int .i64 r3,.int .i64 r4,.int .i64 r5,.int .i64 r6,.int .i64 r7,.int .i64 r8,.int .i64 r9,.string r10] 69)=W:=⟨_,rfl⟩;rw [hW] at hone;have HO:=hid hone;have c0:=hone.1.cell;clear hone;go_enter func93,ntmps93
 go_wp2_with (go_at_call 94;refine (Hr.out _).mono ?_;rintro e w1 ⟨rfl,hb⟩;have HB:=hid (HO.out.step hb);clear hb)
 go_ret;exact ⟨rfl,HB.out.2⟩
end Rul
namespace Rul
open Go.RowKit Mem Civ Mom Img
def rulesB (rs:List Rule):Bool:=rs.all ruleB
def IdxP (rs:List Rule) (w:World) (e:Ending) (w':World):Prop:=∃ i:Int,e= .returned (.int .i64 i)/\decide (0<=i)= !rulesB rs/\-1<=i/\i<=1000000/\Below w.heap.size w w'
theorem rule_cells {w:World} {B:Nat} {A:Option Addr} {ss:List Rule} (h:Reads w B 11 A ss.length (ss.flatMap Rule.cells)) {k:Nat} (hk:k<ss.length):
  ∃ ad,A=some ad/\ad.block<B/\w.cell? (ad.add (k*11))=some (.string ss[k].name)/\
   w.cell? ⟨(ad.add (k*11)).block,(ad.add (k*11)).off+1,none⟩=some (.int .i64 ss[k].lo)/\w.cell? ⟨(ad.add (k*11)).block,(ad.add (k*11)).off+2,none⟩=some (.int .i64 ss[k].hi)/\
   w.cell? ⟨(ad.add (k*11)).block,(ad.add (k*11)).off+3,none⟩=some (.int .i64 ss[k].month)/\w.cell? ⟨(ad.add (k*11)).block,(ad.add (k*11)).off+4,none⟩=some (.int .i64 ss[k].kind)/\
   w.cell? ⟨(ad.add (k*11)).block,(ad.add (k*11)).off+5,none⟩=some (.int .i64 ss[k].weekday)/\w.cell? ⟨(ad.add (k*11)).block,(ad.add (k*11)).off+6,none⟩=some (.int .i64 ss[k].day)/\
   w.cell? ⟨(ad.add (k*11)).block,(ad.add (k*11)).off+7,none⟩=some (.int .i64 ss[k].time)/\w.cell? ⟨(ad.add (k*11)).block,(ad.add (k*11)).off+8,none⟩=some (.int .i64 ss[k].ref)/\
   w.cell? ⟨(ad.add (k*11)).block,(ad.add (k*11)).off+9,none⟩=some (.int .i64 ss[k].save)/\w.cell? ⟨(ad.add (k*11)).block,(ad.add (k*11)).off+10,none⟩=some (.string ss[k].letter):=by
 obtain ⟨ad,e,hb,d0,hc⟩:=rule_at h hk
 exact ⟨ad,e,hb,d0,hc 1 (by omega) (by omega),hc 2 (by omega) (by omega),hc 3 (by omega) (by omega),hc 4 (by omega) (by omega),hc 5 (by omega) (by omega),hc 6 (by omega) (by omega),hc 7 (by omega) (by omega),hc 8 (by omega) (by omega),hc 9 (by omega) (by omega),hc 10 (by omega) (by omega)⟩
theorem index_any (rs:List Rule) (A:Option Addr) (c:Nat) (w:World) (h:Reads w w.heap.size 11 A rs.length (rs.flatMap Rule.cells)) (hn:rs.length<=1000000):
  Calls prog 129 #[.slice A rs.length c,.func (Fn.func 93) #[] #[]] w (IdxP rs w):=by
 have H:=hid h;clear h;go_enter func129,ntmps129;go_wp2
 go_loopw [8] (fun i wr=>∃ k:Nat,k<=rs.length/\i= .int .i64 k/\(rs.take k).all ruleB=true/\Below w.heap.size w wr) (fun i _=>rs.length - (intOf i).toNat)
 case atStart=>exact ⟨0,Nat.zero_le _,rfl,rfl,Below.refl _ _⟩
 case round=>
  obtain ⟨k,hk,rfl,hall,hb⟩:=hrel;have Hall:=hid hall;have HB:=hid hb;clear hall hb
  by_cases hkn:k<rs.length
  ·obtain ⟨ad,rfl,hadb,a0,a1,a2,a3,a4,a5,a6,a7,a8,a9,a10⟩:=rule_cells (H.out.below HB.out) hkn
   have Hc:=hid (fun z=>rightC_any rs[k] z)
   have hq:(rs.take (k+1)).all ruleB=ruleB rs[k]:=by
    rw [List.take_succ_eq_append_getElem hkn,List.all_append,Hall.out];simp
   have hq2:ruleB rs[k]=false->rulesB rs=false:=fun e=>List.all_eq_false.2 ⟨rs[k],List.getElem_mem hkn,by rw [e];decide⟩
   have HQ:=hid hq;have HQ2:=hid hq2;clear hq hq2;simp only [Rule.cells] at Hc;generalize hb:ruleB rs[k]=b at*;clear hb;generalize rs[k]=s at*
   cases b
   ·go_wp2_with (go_at_call 93;refine (Hc.out _).mono ?_;rintro e w1 ⟨rfl,hb1⟩;have HB1:=hid (HB.out.trans (hb1.mono HB.out.size));clear hb1)
    go_ret
    exact ⟨k,rfl,by rw [HQ2.out trivial];simp,by omega,by omega,HB1.out⟩
   ·go_wp2_with (go_at_call 93;refine (Hc.out _).mono ?_;rintro e w1 ⟨rfl,hb1⟩;have HB1:=hid (HB.out.trans (hb1.mono HB.out.size));clear hb1)
    exact ⟨⟨k+1,by omega,by go_num,HQ.out,HB1.out⟩,by simp [intOf];omega⟩
  ·obtain rfl:k=rs.length:=by omega
   have hall:=Hall.out;rw [List.take_length] at hall;have Hall2:=hid hall;clear hall Hall;go_wp2;go_ret
   exact ⟨-1,rfl,by rw [show rulesB rs=true from Hall2.out];rfl,by omega,by omega,HB.out⟩
theorem contains_any (rs:List Rule) (A:Option Addr) (c:Nat) (w:World) (h:Reads w w.heap.size 11 A rs.length (rs.flatMap Rule.cells)) (hn:rs.length<=1000000):
  Calls prog 92 #[.slice A rs.length c,.func (Fn.func 93) #[] #[]] w fun e w'=>e= .returned (.bool (!rulesB rs))/\Below w.heap.size w w':=by
 have Hi:=hid (index_any rs A c w h hn);clear h;go_enter func92,ntmps92
 go_wp2_with (go_at_call 129;refine Hi.out.mono ?_;rintro e w1 ⟨i,rfl,hq,hi1,hi2,hb⟩;have HQ:=hid hq;have HB:=hid hb;clear hq hb)
 go_ret
 exact ⟨by rw [<-HQ.out];rfl,HB.out⟩
theorem rulesRight_any (rs:List Rule) (A:Option Addr) (c:Nat) (w:World) (h:Reads w w.heap.size 11 A rs.length (rs.flatMap Rule.cells)) (hn:rs.length<=1000000):
  Calls prog 65 #[.slice A rs.length c] w fun e w'=>e= .returned (.bool (rulesB rs))/\Below w.heap.size w w':=by
 have Hi:=hid (contains_any rs A c w h hn);clear h;generalize rulesB rs=q at*;go_enter func65,ntmps65
 go_wp2_with (go_at_call 92;refine Hi.out.mono ?_;rintro e w1 ⟨rfl,hb⟩;have HB:=hid hb;clear hb)
 go_ret
 exact ⟨by cases q<;>rfl,HB.out⟩
end Rul
namespace Rul
open Go.RowKit Mem Civ Mom Img
structure Turn where
 at_:Int
 ref:Int
 save:Int
 letter:ByteArray
 deriving DecidableEq
def Turn.cells (t:Turn):List Value:=[.int .i64 t.at_,.int .i64 t.ref,.int .i64 t.save,.string t.letter]
def turnO (r:Rule) (y:Int):Turn×Bool:=(⟨(localO (spotOf r) y).getD 0,r.ref,r.save,r.letter⟩,(localO (spotOf r) y).isSome && decide (r.lo<=y/\y<=r.hi))
theorem turn_results {w:World} {R0:Nat} {a0 a1 a2 a3:Value} {b:Bool} (h:Blk w R0 90 #[a0,a1,a2,a3]) (tmps:Array Value) (ht:tmps[4]?=some (.pointer (some ⟨R0,0,none⟩))) (h5:tmps[5]?=some (.bool b)):(results Tryz.f97 tmps).run prog w= .ok (.tuple #[.agg #[a0,a1,a2,a3],.bool b]) w:=by
 have hc:=h.cell;simp [results,Tryz.results97,go_sem,hc,ht,h5]
theorem turn_any (r:Rule) (y:Int) (w:World):Calls prog 97 #[.agg r.cells.toArray,.int .i64 y] w fun e w'=>e= .returned (.tuple #[.agg (turnO r y).1.cells.toArray,.bool (turnO r y).2])/\Below w.heap.size w w':=by
 have HL:=hid (fun z=>local_any (spotOf r) y z);have HF:=hid (fun z=>force_any r y z);have hb2:=box2 w 69 90 r.cells.toArray #[.int .i64 0,.int .i64 0,.int .i64 0,.string ⟨#[]⟩];unfold turnO;obtain ⟨fb,hfb⟩:∃ fb,decide (r.lo<=y/\y<=r.hi)=fb:=⟨_,rfl⟩;rw [hfb] at HF ⊢;clear hfb
 cases hl:localO (spotOf r) y with
 |none=>
  rw [hl] at HL;obtain ⟨r0,r1,r2,r3,r4,r5,r6,r7,r8,r9,r10⟩:=r;simp only [Rule.cells,Spot.cells,spotOf,Turn.cells,dayV,Option.getD_none,Option.isSome_none,Bool.false_and] at HL HF hb2 ⊢;clear hl;obtain ⟨W,hW⟩:∃ W,(w.alloc (.cells #[.string r0,.int .i64 r1,.int .i64 r2,.int .i64 r3,.int .i64 r4,.int .i64 r5,.int .i64 r6,.int .i64 r7,.int .i64 r8,.int .i64 r9,.string r10] 69)).alloc (.cells #[.int .i64 0,.int .i64 0,.int .i64 0,.string ⟨#[]⟩] 90)=W:=⟨_,rfl⟩;rw [hW] at hb2;obtain ⟨b1,b2,hb,hz⟩:=hb2;have HB1:=hid b1;have HB2:=hid b2;have HB:=hid hb;have c1:=b1.cell;clear b1 b2 hb;go_enter func97,ntmps97
  go_wp2_with (go_at_call 133;refine (HL.out _).mono ?_;rintro e w1 ⟨rfl,hb⟩;have d1:=HB1.out.below hb HB1.out.lt;have d2:=HB2.out.below hb HB2.out.lt;have e1:=d1.cell;have e2:=d2.cell;have f2:=d2.frozen;have D1:=hid d1;have D2:=hid d2;have HBB:=hid (HB.out.trans (hb.mono HB.out.size));clear hb d1 d2)
  go_region
  have hz1:=HBB.out.size;have hf:=((((D2.out.set_ 0 (.int .i64 0)).set_ 1 (.int .i64 r8)).set_ 2 (.int .i64 r9)).set_ 3 (.string r10)).drew;simp only [List.setIfInBounds_toArray,List.set_cons_succ,List.set_cons_zero] at hf
  have hbe:=((((HBB.out.setCell (p:=⟨w.heap.size+1,0,none⟩) (by simp) (.int .i64 0)).setCell (p:=⟨w.heap.size+1,1,none⟩) (by simp) (.int .i64 r8)).setCell (p:=⟨w.heap.size+1,2,none⟩) (by simp) (.int .i64 r9)).setCell (p:=⟨w.heap.size+1,3,none⟩) (by simp) (.string r10)).drew
  have HFin:=hid (And.intro hf hbe);clear hf hbe e1 e2 f2 D1 D2 hW c1;generalize World.drew _=W9 at*;go_wp2
  refine bodyPost_ret (turn_results HFin.out.1 _ rfl rfl) rfl ?_
  exact ⟨rfl,HFin.out.2⟩
 |some n=>
  rw [hl] at HL;obtain ⟨r0,r1,r2,r3,r4,r5,r6,r7,r8,r9,r10⟩:=r;simp only [Rule.cells,Spot.cells,spotOf,Turn.cells,dayV,Option.getD_some,Option.isSome_some,Bool.true_and] at HL HF hb2 ⊢;clear hl;obtain ⟨W,hW⟩:∃ W,(w.alloc (.cells #[.string r0,.int .i64 r1,.int .i64 r2,.int .i64 r3,.int .i64 r4,.int .i64 r5,.int .i64 r6,.int .i64 r7,.int .i64 r8,.int .i64 r9,.string r10] 69)).alloc (.cells #[.int .i64 0,.int .i64 0,.int .i64 0,.string ⟨#[]⟩] 90)=W:=⟨_,rfl⟩;rw [hW] at hb2;obtain ⟨b1,b2,hb,hz⟩:=hb2;have HB1:=hid b1;have HB2:=hid b2;have HB:=hid hb;have c1:=b1.cell;clear b1 b2 hb;go_enter func97,ntmps97
  go_wp2_with (go_at_call 133;refine (HL.out _).mono ?_;rintro e w1 ⟨rfl,hb⟩;have d1:=HB1.out.below hb HB1.out.lt;have d2:=HB2.out.below hb HB2.out.lt;have e1:=d1.cell;have e2:=d2.cell;have f2:=d2.frozen;have D1:=hid d1;have D2:=hid d2;have HBB:=hid (HB.out.trans (hb.mono HB.out.size));clear hb d1 d2)
  clear c1 hW
  obtain ⟨Cls,hCls⟩:∃ C:World->Prop,C=fun z=>Blk z w.heap.size 69 #[.string r0,.int .i64 r1,.int .i64 r2,.int .i64 r3,.int .i64 r4,.int .i64 r5,.int .i64 r6,.int .i64 r7,.int .i64 r8,.int .i64 r9,.string r10]/\
   Blk z (w.heap.size+1) 90 #[.int .i64 0,.int .i64 0,.int .i64 0,.string ⟨#[]⟩]/\Below w.heap.size w z:=⟨_,rfl⟩
  have hC:∀ z,Cls z->Blk z w.heap.size 69 #[.string r0,.int .i64 r1,.int .i64 r2,.int .i64 r3,.int .i64 r4,.int .i64 r5,.int .i64 r6,.int .i64 r7,.int .i64 r8,.int .i64 r9,.string r10]/\
   Blk z (w.heap.size+1) 90 #[.int .i64 0,.int .i64 0,.int .i64 0,.string ⟨#[]⟩]/\Below w.heap.size w z:=fun z h=>by rw [hCls] at h;exact h
  have hstart:Cls w1.drew:=by rw [hCls];exact ⟨D1.out.drew,D2.out.drew,HBB.out.drew⟩
  have HD:Hid (∀ z,Cls z->Calls prog 134 #[.agg #[.string r0,.int .i64 r1,.int .i64 r2,.int .i64 r3,.int .i64 r4,.int .i64 r5,.int .i64 r6,.int .i64 r7,.int .i64 r8,.int .i64 r9,.string r10],.int .i64 y] z fun e z'=>e= .returned (.bool fb)/\Cls z'):=fun z h=>(HF.out z).mono fun e z' ⟨he,hb⟩=>⟨he,by
   rw [hCls] at h ⊢
   exact ⟨h.1.below hb h.1.lt,h.2.1.below hb h.2.1.lt,h.2.2.trans (hb.mono h.2.2.size)⟩⟩
  have inst:Nonempty (Qt.In Cls):=⟨⟨_,hstart⟩⟩;have z0:∀ z:Qt.In Cls,z.w.cell? ⟨w.heap.size,0,none⟩=some (.string r0):=fun z=>(hC z.w z.h).1.cell 0;have z1:∀ z:Qt.In Cls,z.w.cell? ⟨w.heap.size,1,none⟩=some (.int .i64 r1):=fun z=>(hC z.w z.h).1.cell 1;have z2:∀ z:Qt.In Cls,z.w.cell? ⟨w.heap.size,2,none⟩=some (.int .i64 r2):=fun z=>(hC z.w z.h).1.cell 2;have z3:∀ z:Qt.In Cls,z.w.cell? ⟨w.heap.size,3,none⟩=some (.int .i64 r3):=fun z=>(hC z.w z.h).1.cell 3;have z4:∀ z:Qt.In Cls,z.w.cell? ⟨w.heap.size,4,none⟩=some (.int .i64 r4):=fun z=>(hC z.w z.h).1.cell 4;have z5:∀ z:Qt.In Cls,z.w.cell? ⟨w.heap.size,5,none⟩=some (.int .i64 r5):=fun z=>(hC z.w z.h).1.cell 5;have z6:∀ z:Qt.In Cls,z.w.cell? ⟨w.heap.size,6,none⟩=some (.int .i64 r6):=fun z=>(hC z.w z.h).1.cell 6;have z7:∀ z:Qt.In Cls,z.w.cell? ⟨w.heap.size,7,none⟩=some (.int .i64 r7):=fun z=>(hC z.w z.h).1.cell 7;have z8:∀ z:Qt.In Cls,z.w.cell? ⟨w.heap.size,8,none⟩=some (.int .i64 r8):=fun z=>(hC z.w z.h).1.cell 8;have z9:∀ z:Qt.In Cls,z.w.cell? ⟨w.heap.size,9,none⟩=some (.int .i64 r9):=fun z=>(hC z.w z.h).1.cell 9;have z10:∀ z:Qt.In Cls,z.w.cell? ⟨w.heap.size,10,none⟩=some (.string r10):=fun z=>(hC z.w z.h).1.cell 10;have HS:=hid hstart;have HC:=hid hC;clear hC hstart hCls e1 e2 f2
  refine Qt.wp_region_cls_pick Cls 14 _ rfl (by kernel_rfl) (by kernel_rfl) HS.out ?_
  simp only [List.take_succ_cons,List.take_zero,List.drop_succ_cons,List.drop_zero]
  repeat (go_big_quiet_step ((go_at_call 134;exact Qt.quiet_cls (HD.out _ (Qt.In.h _)))))
  refine wpQuiet_nil ?_
  refine ⟨.bool fb,.inl ⟨by rfl,fun w9=>by simp [execOp,Act.eval,go_sem]⟩,?_⟩
  rintro wq ⟨⟨w9,hq⟩,e9⟩
  have hq2:=HC.out wq (by rw [e9];exact hq)
  clear hq e9;have fq:=hq2.2.1.frozen;have cq:=hq2.2.1.cell;have HQ:=hid hq2;clear hq2 z0 z1 z2 z3 z4 z5 z6 z7 z8 z9 z10;have hz1:=HQ.out.2.2.size;go_wp2
  refine NoPanic.normal ?_
  go_wp2;have hf:=(((HQ.out.2.1.set_ 0 (.int .i64 n)).set_ 1 (.int .i64 r8)).set_ 2 (.int .i64 r9)).set_ 3 (.string r10);simp only [List.setIfInBounds_toArray,List.set_cons_succ,List.set_cons_zero] at hf
  have hbe:=(((HQ.out.2.2.setCell (p:=⟨w.heap.size+1,0,none⟩) (by simp) (.int .i64 n)).setCell (p:=⟨w.heap.size+1,1,none⟩) (by simp) (.int .i64 r8)).setCell (p:=⟨w.heap.size+1,2,none⟩) (by simp) (.int .i64 r9)).setCell (p:=⟨w.heap.size+1,3,none⟩) (by simp) (.string r10)
  have HFin:=hid (And.intro hf hbe);clear hf hbe fq cq HQ
  refine bodyPost_ret (turn_results HFin.out.1 _ rfl rfl) rfl ?_
  exact ⟨rfl,HFin.out.2⟩
end Rul
namespace Rul
open Go.RowKit Mem Civ Mom Img
def forceB (r:Rule) (y:Int):Bool:=decide (r.lo<=y/\y<=r.hi)
def crowdAt (rs:List Rule) (x:Rule):Nat:=(rs.filter fun y=>decide (x.lo<=x.hi) && forceB y x.lo).length
def crowdB (rs:List Rule):Bool:=rulesB rs && rs.any fun x=>decide (10<crowdAt rs x)
theorem filter_succ {α:Type} (p:α->Bool) (l:List α) (j:Nat) (hj:j<l.length):((l.take (j+1)).filter p).length=((l.take j).filter p).length+if p l[j]=true then 1 else 0:=by
 rw [List.take_succ_eq_append_getElem hj,List.filter_append,List.length_append]
 by_cases h:p l[j]=true
 ·simp [h]
 ·simp [h]
theorem crowded_any (rs:List Rule) (A:Option Addr) (c:Nat) (w:World) (h:Reads w w.heap.size 11 A rs.length (rs.flatMap Rule.cells)) (hn:rs.length<=1000000):
  Calls prog 120 #[.slice A rs.length c] w fun e w'=>e= .returned (.bool (crowdB rs))/\Below w.heap.size w w':=by
 have Hr:=hid (rulesRight_any rs A c w h hn);have H:=hid h;clear h;obtain ⟨Q,hQ⟩:∃ Q,crowdB rs=Q:=⟨_,rfl⟩;rw [hQ];unfold crowdB at hQ;go_enter func120,ntmps120
 cases hb:rulesB rs
 ·rw [hb] at Hr hQ
  rw [Bool.false_and] at hQ;subst hQ;clear hb
  go_wp2_with (go_at_call 65;refine Hr.out.mono ?_;rintro e w1 ⟨rfl,hb⟩;have HB:=hid hb;clear hb)
  go_ret;exact ⟨rfl,HB.out⟩
 ·rw [hb] at Hr hQ
  rw [Bool.true_and] at hQ;have HQ:=hid hQ;clear hb hQ
  go_wp2_with (go_at_call 65;refine Hr.out.mono ?_;rintro e w1 ⟨rfl,hb⟩;have HB:=hid hb;clear hb)
  go_loopw [13] (fun i wr=>∃ k:Nat,k<=rs.length/\i= .int .i64 k/\(rs.take k).any (fun x=>decide (10<crowdAt rs x))=false/\Below w.heap.size w wr) (fun i _=>rs.length - (intOf i).toNat)
  case atStart=>exact ⟨0,Nat.zero_le _,rfl,rfl,HB.out⟩
  case round=>
   obtain ⟨k,hk,rfl,hany,hb⟩:=hrel;have Hany:=hid hany;have HBr:=hid hb;clear hany hb HB;obtain ⟨wo,rfl⟩:∃ wo:World,wo=wr:=⟨_,rfl⟩
   by_cases hkn:k<rs.length
   ·obtain ⟨ad,hA,hadb,a0,a1,a2,a3,a4,a5,a6,a7,a8,a9,a10⟩:=rule_cells (H.out.below HBr.out) hkn
    subst hA
    have hsn:(rs.take (k+1)).any (fun x=>decide (10<crowdAt rs x))=decide (10<crowdAt rs rs[k]):=by
     rw [List.take_succ_eq_append_getElem hkn,List.any_append,Hany.out];simp
    have hin:=List.getElem_mem hkn;have Hin:=hid hin;have Hsn:=hid hsn;clear hsn hin;generalize rs[k]=x at*;obtain ⟨x0,x1,x2,x3,x4,x5,x6,x7,x8,x9,x10⟩:=x;have hzo:=HBr.out.size;have hxb:=Blk.new wo 69 #[.string x0,.int .i64 x1,.int .i64 x2,.int .i64 x3,.int .i64 x4,.int .i64 x5,.int .i64 x6,.int .i64 x7,.int .i64 x8,.int .i64 x9,.string x10];have hbb:=HBr.out.alloc hzo (.cells #[.string x0,.int .i64 x1,.int .i64 x2,.int .i64 x3,.int .i64 x4,.int .i64 x5,.int .i64 x6,.int .i64 x7,.int .i64 x8,.int .i64 x9,.string x10] 69);have HX:=hid hxb;have HBX:=hid hbb;clear hxb hbb
    go_wp2_with fail
    go_loopw [5,19] (fun n i wi=>∃ j:Nat,j<=rs.length/\i= .int .i64 j/\n= .int .i64 (((rs.take j).filter fun y=>decide (x1<=x2) && forceB y x1).length:Nat)/\Below w.heap.size w wi/\Blk wi wo.heap.size 69 #[.string x0,.int .i64 x1,.int .i64 x2,.int .i64 x3,.int .i64 x4,.int .i64 x5,.int .i64 x6,.int .i64 x7,.int .i64 x8,.int .i64 x9,.string x10]) (fun _ i _=>rs.length - (intOf i).toNat)
    case atStart=>exact ⟨0,Nat.zero_le _,rfl,rfl,HBX.out,HX.out⟩
    case round=>
     clear a0 a1 a2 a3 a4 a5 a6 a7 a8 a9 a10 HBX HX;obtain ⟨j,hj,rfl,rfl,hb,hx⟩:=hrel;have HB2:=hid hb;have HX:=hid hx;clear hb hx;have cx:=HX.out.cell
     by_cases hjn:j<rs.length
     ·obtain ⟨ad',hA',_,b0,b1,b2,b3,b4,b5,b6,b7,b8,b9,b10⟩:=rule_cells (H.out.below HB2.out) hjn
      obtain rfl:ad=ad':=by injection hA'
      clear hA';have hfs:=filter_succ (fun y=>decide (x1<=x2) && forceB y x1) rs j hjn;have hlen:((rs.take j).filter fun y=>decide (x1<=x2) && forceB y x1).length<=j:=Nat.le_trans (List.length_filter_le _ _) (List.length_take_le _ _);have HF:=hid (fun z=>force_any rs[j] x1 z);have e1:decide (rs[j].lo<=x1/\x1<=rs[j].hi)=forceB rs[j] x1:=rfl;rw [e1] at HF;clear e1;simp only [Rule.cells] at HF;have Hfs:=hid hfs;clear hfs;generalize forceB rs[j] x1=fb at*;generalize rs[j]=s at*;generalize ((rs.take j).filter fun y=>decide (x1<=x2) && forceB y x1).length=n at*;have hz2:=HB2.out.size;have hxl:=HX.out.lt;have ha2:=(HX.out.alloc (.cells #[.string s.name,.int .i64 s.lo,.int .i64 s.hi,.int .i64 s.month,.int .i64 s.kind,.int .i64 s.weekday,.int .i64 s.day,.int .i64 s.time,.int .i64 s.ref,.int .i64 s.save,.string s.letter] 69));have hb2:=HB2.out.alloc hz2 (.cells #[.string s.name,.int .i64 s.lo,.int .i64 s.hi,.int .i64 s.month,.int .i64 s.kind,.int .i64 s.weekday,.int .i64 s.day,.int .i64 s.time,.int .i64 s.ref,.int .i64 s.save,.string s.letter] 69);have HA2:=hid ha2;have HBB:=hid hb2;clear ha2 hb2
      by_cases hle:x1<=x2
      ·cases fb
       ·have e:((rs.take (j+1)).filter fun y=>decide (x1<=x2) && forceB y x1).length=n:=by rw [Hfs.out];simp
        have E:=hid e;clear e Hfs
        go_wp2_with (go_at_call 134;refine (HF.out _).mono ?_;rintro e w5 ⟨rfl,hb⟩;have hx5:=HA2.out.below hb HA2.out.lt;have HX5:=hid hx5;have HB5:=hid (HBB.out.trans (hb.mono HBB.out.size));clear hb hx5)
        have hend:(Value.int .i64 (n:Nat))= .int .i64 (((rs.take (j+1)).filter fun y=>decide (x1<=x2) && forceB y x1).length:Nat):=by rw [E.out]
        refine ⟨⟨j+1,by omega,by go_num,hend,HB5.out,HX5.out⟩,by simp [intOf];omega⟩
       ·have e:((rs.take (j+1)).filter fun y=>decide (x1<=x2) && forceB y x1).length=n+1:=by rw [Hfs.out];simp [hle]
        have E:=hid e;clear e Hfs
        go_wp2_with (go_at_call 134;refine (HF.out _).mono ?_;rintro e w5 ⟨rfl,hb⟩;have hx5:=HA2.out.below hb HA2.out.lt;have HX5:=hid hx5;have HB5:=hid (HBB.out.trans (hb.mono HBB.out.size));clear hb hx5)
        have hend:(Value.int .i64 ((n:Int)+1))= .int .i64 (((rs.take (j+1)).filter fun y=>decide (x1<=x2) && forceB y x1).length:Nat):=by rw [E.out];go_num
        refine ⟨⟨j+1,by omega,by go_num,hend,HB5.out,HX5.out⟩,by simp [intOf];omega⟩
      ·have e:((rs.take (j+1)).filter fun y=>decide (x1<=x2) && forceB y x1).length=n:=by rw [Hfs.out];simp [hle]
       have E:=hid e;clear e Hfs
       go_wp2_with fail
       have hend:(Value.int .i64 (n:Nat))= .int .i64 (((rs.take (j+1)).filter fun y=>decide (x1<=x2) && forceB y x1).length:Nat):=by rw [E.out]
       refine ⟨⟨j+1,by omega,by go_num,hend,HBB.out,HA2.out⟩,by simp [intOf];omega⟩
     ·obtain rfl:j=rs.length:=by omega
      have hcr:((rs.take rs.length).filter fun y=>decide (x1<=x2) && forceB y x1).length=crowdAt rs ⟨x0,x1,x2,x3,x4,x5,x6,x7,x8,x9,x10⟩:=by
       rw [List.take_length];rfl
      have hlen:crowdAt rs ⟨x0,x1,x2,x3,x4,x5,x6,x7,x8,x9,x10⟩<=rs.length:=List.length_filter_le _ _;rw [hcr];clear hcr
      by_cases hgt:10<crowdAt rs ⟨x0,x1,x2,x3,x4,x5,x6,x7,x8,x9,x10⟩
      ·have hq:Q=true:=by
        rw [<-HQ.out,List.any_eq_true]
        exact ⟨_,Hin.out,by simpa using hgt⟩
       subst hq;clear HQ Hsn;generalize crowdAt rs ⟨x0,x1,x2,x3,x4,x5,x6,x7,x8,x9,x10⟩=n at*;go_wp2;go_ret;exact ⟨rfl,HB2.out⟩
      ·have hsn:=Hsn.out
       rw [decide_eq_false hgt] at hsn;have Hs2:=hid hsn;clear Hsn hsn;generalize crowdAt rs ⟨x0,x1,x2,x3,x4,x5,x6,x7,x8,x9,x10⟩=n at*;go_wp2
       exact ⟨⟨k+1,by omega,by go_num,Hs2.out,HB2.out⟩,by simp [intOf];omega⟩
   ·obtain rfl:k=rs.length:=by omega
    have hany:=Hany.out;rw [List.take_length] at hany
    have hq:Q=false:=by rw [<-HQ.out,hany]
    subst hq;clear HQ hany;go_wp2;go_ret;exact ⟨rfl,HBr.out⟩
end Rul
namespace Rul
open Go.RowKit Mem Civ Mom Img
def cmpI (a b:Int):Int:=if a<b then -1 else if b<a then 1 else 0
theorem nan_any (a:Int) (w:World):Calls prog 162 #[.int .i64 a] w fun e w'=>e= .returned (.bool false)/\w=w':=by
 go_enter func162,ntmps162;go_wp2;go_ret;exact ⟨rfl,rfl⟩
theorem compare_any (a b:Int) (w:World):Calls prog 127 #[.int .i64 a,.int .i64 b] w fun e w'=>e= .returned (.int .i64 (cmpI a b))/\w=w':=by
 unfold cmpI
 rcases Int.lt_trichotomy a b with h|h|h
 ·rw [if_pos h]
  go_enter func127,ntmps127
  go_wp2_with (go_at_call 162;refine (nan_any _ _).mono ?_;rintro e w' ⟨rfl,rfl⟩)
  go_ret;exact ⟨rfl,rfl⟩
 ·subst h
  rw [if_neg (by omega),if_neg (by omega)]
  go_enter func127,ntmps127
  go_wp2_with (go_at_call 162;refine (nan_any _ _).mono ?_;rintro e w' ⟨rfl,rfl⟩)
  go_ret;exact ⟨rfl,rfl⟩
 ·have h':¬ a<b:=by omega
  rw [if_neg h',if_pos h];go_enter func127,ntmps127
  go_wp2_with (go_at_call 162;refine (nan_any _ _).mono ?_;rintro e w' ⟨rfl,rfl⟩)
  go_ret;exact ⟨rfl,rfl⟩
theorem turnsC_any (a b:Turn) (w:World):Calls prog 126 #[.agg a.cells.toArray,.agg b.cells.toArray] w fun e w'=>e= .returned (.int .i64 (cmpI a.at_ b.at_))/\Below w.heap.size w w':=by
 have hb2:=box2 w 90 90 a.cells.toArray b.cells.toArray;have Hc:=hid (fun z=>compare_any a.at_ b.at_ z);obtain ⟨a0,a1,a2,a3⟩:=a;obtain ⟨b0,b1,b2,b3⟩:=b;simp only [Turn.cells] at hb2 Hc ⊢;generalize cmpI a0 b0=q at*;obtain ⟨W,hW⟩:∃ W,(w.alloc (.cells #[.int .i64 a0,.int .i64 a1,.int .i64 a2,.string a3] 90)).alloc (.cells #[.int .i64 b0,.int .i64 b1,.int .i64 b2,.string b3] 90)=W:=⟨_,rfl⟩;rw [hW] at hb2;obtain ⟨k1,k2,hb,hz⟩:=hb2;have c1:=k1.cell;have c2:=k2.cell;have HB:=hid hb;clear k1 k2 hb;go_enter func126,ntmps126
 go_wp2_with (go_at_call 127;refine (Hc.out _).mono ?_;rintro e w' ⟨rfl,rfl⟩)
 go_ret;exact ⟨rfl,HB.out⟩
end Rul
end
end
end Go.Proofs.YtmlejgdohcpmjaaGreatDoor
