/-
  Contracts of the code that the law reaches, and plain laws. Conditions: as each says.
-/
import Derived.Test.YtiiekaehbahenaaGreatDoorV00
import Derived.Test.YtiiekaehbahenaaGreatDoorProg
import Derived.Test.YtiiekaehbahenaaGreatDoorV02
import Derived.WalkLawsBesides
import Derived.Handy
import Derived.Lib.Hide
set_option linter.all false
set_option maxHeartbeats 40000000
set_option maxRecDepth 100000
namespace Go.Proofs.YtiiekaehbahenaaGreatDoor
open Lib (hid)
open Tryz
section
namespace Civ
open Go.RowKit Mem
def Fl (a b:Int):Prop:=(0<=a.tmod b->a.tdiv b=a / b/\a.tmod b=a % b)/\(a.tmod b<0->a.tdiv b - 1=a / b/\a.tmod b+b=a % b)/\(-b<a.tmod b/\a.tmod b<b)/\(-1000000000000000<=a.tdiv b/\a.tdiv b<=1000000000000000)/\0<b/\b<=1000000000000
theorem tneg (a b:Int):a.tdiv b= -((-a).tdiv b)/\a.tmod b= -((-a).tmod b):=by
 rw [Int.neg_tdiv,Int.neg_tmod];omega
theorem fl_400 (a:Int) (ha: -1000000000000000<=a/\a<=1000000000000000):Fl a 400:=by
 unfold Fl
 rcases Int.le_total 0 a with h|h
 ·rw [Int.tdiv_eq_ediv_of_nonneg h,Int.tmod_eq_emod_of_nonneg h];omega
 ·rw [(tneg a 400).1,(tneg a 400).2,Int.tdiv_eq_ediv_of_nonneg (by omega),Int.tmod_eq_emod_of_nonneg (by omega)];omega
theorem fl_era (a:Int) (ha: -1000000000000000<=a/\a<=1000000000000000):Fl a 146097:=by
 unfold Fl
 rcases Int.le_total 0 a with h|h
 ·rw [Int.tdiv_eq_ediv_of_nonneg h,Int.tmod_eq_emod_of_nonneg h];omega
 ·rw [(tneg a 146097).1,(tneg a 146097).2,Int.tdiv_eq_ediv_of_nonneg (by omega),Int.tmod_eq_emod_of_nonneg (by omega)];omega
theorem fl_7 (a:Int) (ha: -1000000000000000<=a/\a<=1000000000000000):Fl a 7:=by
 unfold Fl
 rcases Int.le_total 0 a with h|h
 ·rw [Int.tdiv_eq_ediv_of_nonneg h,Int.tmod_eq_emod_of_nonneg h];omega
 ·rw [(tneg a 7).1,(tneg a 7).2,Int.tdiv_eq_ediv_of_nonneg (by omega),Int.tmod_eq_emod_of_nonneg (by omega)];omega
def leapB (y:Int):Bool:=y % 4 == 0 && (!(y % 100 == 0) || y % 400 == 0)
theorem tz (y k:Int):(y.tmod k == 0)=(y % k == 0):=by
 rw [Bool.eq_iff_iff,beq_iff_eq,beq_iff_eq,<-Int.dvd_iff_tmod_eq_zero,<-Int.dvd_iff_emod_eq_zero]
theorem leap_any (y:Int) (w:World):Calls prog 87 #[.int .i64 y] w fun e w'=>e= .returned (.bool (leapB y))/\w=w':=by
 have h1:=tz y 4;have h2:=tz y 100;have h3:=tz y 400
 have h4:(y.tmod 100 != 0)= !(y % 100 == 0):=by rw [<-h2];rfl
 unfold leapB;generalize (y % 4 == 0)=c1 at*;generalize (y % 100 == 0)=c2 at*;generalize (y % 400 == 0)=c3 at*;go_enter func87,ntmps87
 cases c1<;>cases c2<;>cases c3
 all_goals
  go_wp2;go_ret;exact ⟨rfl,rfl⟩
def mlen (y m:Int):Int:=if m<1\/12<m then 0 else if m=2 then (if leapB y=true then 29 else 28) else if m=4\/m=6\/m=9\/m=11 then 30 else 31
theorem mlen_bd (y m:Int):0<=mlen y m/\mlen y m<=31:=by
 unfold mlen
 split
 ·omega
 ·split
  ·split<;>omega
  ·split<;>omega
theorem monthLen_any (y m:Int) (w:World):Calls prog 43 #[.int .i64 y,.int .i64 m] w fun e w'=>e= .returned (.int .i64 (mlen y m))/\Below w.heap.size w w':=by
 have hb:Below w.heap.size w (w.alloc (.cells #[.int .i64 0,.int .i64 31,.int .i64 28,.int .i64 31,.int .i64 30,.int .i64 31,.int .i64 30,.int .i64 31,.int .i64 31,.int .i64 30,.int .i64 31,.int .i64 30,.int .i64 31] 140)):=(Below.refl _ _).alloc (Nat.le_refl _) _
 by_cases h1:m<1
 ·have e:mlen y m=0:=if_pos (.inl h1)
  rw [e];clear e;go_enter func43,ntmps43;go_wp2;go_ret;exact ⟨rfl,hb⟩
 ·by_cases h2:12<m
  ·have e:mlen y m=0:=if_pos (.inr h2)
   rw [e];clear e;go_enter func43,ntmps43;go_wp2;go_ret;exact ⟨rfl,hb⟩
  ·by_cases h3:m=2
   ·subst h3
    obtain ⟨q,hq⟩:∃ q,leapB y=q:=⟨_,rfl⟩
    have e:mlen y 2=if q=true then 29 else 28:=by rw [<-hq];rfl
    have Hl:=hid (leap_any y);rw [hq] at Hl;rw [e];clear e hq;go_enter func43,ntmps43
    cases q
    all_goals
     go_wp2_with (go_at_call 87;refine (Hl.out _).mono ?_;rintro e w1 ⟨rfl,rfl⟩)
     go_ret;exact ⟨rfl,hb⟩
   ·have hm:m=1\/m=3\/m=4\/m=5\/m=6\/m=7\/m=8\/m=9\/m=10\/m=11\/m=12:=by omega
    have hm2:(m == 2)=false:=by simpa using h3
    rcases hm with rfl|rfl|rfl|rfl|rfl|rfl|rfl|rfl|rfl|rfl|rfl
    all_goals
     go_enter func43,ntmps43;go_wp2;go_ret;exact ⟨rfl,hb⟩
end Civ
namespace Civ
open Go.RowKit Mem
def One (w:World) (b:Nat) (t:TypeId) (cs:Array Value) (w1:World):Prop:=Blk w1 b t cs/\Below w.heap.size w w1
theorem One.step {w w1 w2:World} {b:Nat} {t:TypeId} {cs:Array Value} (h:One w b t cs w1) (hb:Below w1.heap.size w1 w2):One w b t cs w2:=⟨h.1.below hb h.1.lt,h.2.trans (hb.mono h.2.size)⟩
theorem One.drew {w w1:World} {b:Nat} {t:TypeId} {cs:Array Value} (h:One w b t cs w1):One w b t cs w1.drew:=⟨h.1.drew,h.2.drew⟩
theorem One.new (w:World) (t:TypeId) (cs:Array Value):One w w.heap.size t cs (w.alloc (.cells cs t)):=⟨Blk.new w t cs,(Below.refl _ _).alloc (Nat.le_refl _) _⟩
theorem below_dr {B:Nat} {a w:World} {n:Nat} (h:Below B a w):Below B a (w.drewN n):=⟨h.os,h.tape,h.output,h.size,h.block⟩
theorem below_same {w w':World} (h:w=w'):Below w.heap.size w w':=by subst h;exact Below.refl _ _
theorem below_drs {w w':World} (h:∃ n,w'=w.drewN n):Below w.heap.size w w':=by obtain ⟨n,rfl⟩:=h;exact below_dr (Below.refl _ _)
def countI (y m d:Int):Int:=
 let a:=if m<3 then y - 1 else y
 let k:=if m<3 then m+9 else m - 3
 a / 400*146097+a % 400*365+a % 400 / 4 - a % 400 / 100+(153*k+2) / 5+d - 1 - 719468
def daysO (y m d:Int):Option Int:=
 if y< -271821\/275760<y\/d<1\/mlen y m<d then none
 else if countI y m d< -100000001\/100000000<countI y m d then none else some (countI y m d)
theorem mlen_m {y m d:Int} (h1:1<=d) (h2:d<=mlen y m):1<=m/\m<=12:=by
 unfold mlen at h2
 split at h2<;>omega
def dayV (r:Option Int):Value:=match r with
 |some n=> .tuple #[.int .i64 n,.bool true]
 |none=> .tuple #[.int .i64 0,.bool false]
end Civ
end
end Go.Proofs.YtiiekaehbahenaaGreatDoor
