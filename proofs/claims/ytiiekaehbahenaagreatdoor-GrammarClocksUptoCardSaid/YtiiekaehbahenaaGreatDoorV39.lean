/-
  Contracts of the code that the law reaches, and plain laws. Conditions: as each says.
-/
import Derived.Test.YtiiekaehbahenaaGreatDoorV33
import Derived.Test.YtiiekaehbahenaaGreatDoorV38
set_option linter.all false
set_option maxHeartbeats 40000000
set_option maxRecDepth 100000
namespace Go.Proofs.YtiiekaehbahenaaGreatDoor
open Lib (hid)
open Tryz
section
namespace Gr
open Go.RowKit Mem Atl Wid
theorem fra_to {l:Txt}:∀ (f i v:Nat),(fraA l f i v).2.2<=i+f
 |0,i,v=>Nat.le_refl _
 |f+1,i,v=>by
  rw [fraA]
  split
  ·have:=fra_to (l:=l) f (i+1) (v*10+(byA l i - 48));omega
  ·simp only;omega
theorem part_to {l:Txt} {i:Nat} {x:Int×Nat} (e:partA l i=some x):x.2<=i+10:=by
 unfold partA at e
 split at e
 ·split at e
  ·cases e
  ·cases e;have:=fra_to (l:=l) 9 (i+1) 0;simp only;omega
 ·cases e;simp only;omega
theorem clock_long {l:Txt} (h:2000<l.length):clockA l=none:=by
 cases hc:clockA l with
 |none=>rfl
 |some t=>
  exfalso
  unfold clockA at hc;obtain ⟨x,hx,e⟩:=Option.bind_eq_some_iff.1 hc
  split at e
  ·cases e
  ·next hk=>
   obtain ⟨y,hy,e2⟩:=Option.bind_eq_some_iff.1 hx;have h1:=clk_le hy
   have h0:(if oneA l [84,116] 0=true then 1 else 0)<=1:=by split<;>omega
   split at e2
   ·obtain ⟨z,hz,e3⟩:=Option.bind_eq_some_iff.1 e2
    have h2:=part_to hz
    cases e3
    simp only at hk;omega
   ·cases e2
    simp only at hk;omega
theorem eq_tim (a b c d:Int) (w:World):(Op.equalIn 10000 23 (.agg #[.int .i64 a,.int .i64 b,.int .i64 c,.int .i64 d]) (.agg #[.int .i64 a,.int .i64 b,.int .i64 c,.int .i64 d])).run prog w= .ok true w:=by
 simp [go_sem]
theorem clock_longc (s:ByteArray) (z:World) (hs:s.size<=2097152) (hl:2000<s.size):Calls prog 8 #[.string s] z fun e w'=>e= .returned (.tuple #[.agg #[.int .i64 0,.int .i64 0,.int .i64 0,.int .i64 0],.int .i64 6])/\Below z.heap.size z w':=by
 refine (clock_text s z hs).mono ?_
 rintro e w' ⟨rfl,hb⟩
 exact ⟨by rw [clock_long (by simpa using hl)];rfl,hb⟩
theorem clocks (s:ByteArray) (m:Int) (w:World) (hm:w.cell? ⟨1,0,none⟩=some (.int .i64 m)) (hs:s.size<=2097152):
  Calls prog 3 #[.string s] w fun e w'=>e= .returned (.bool true)/\Below w.heap.size w w':=by
 have HA:=hid (fun z (hb:Below w.heap.size w z)=>alive_any m z (cell_later hb hm))
 by_cases hl:2000<s.size
 ·have hl2:decide ((2000:Int)<(s.size:Int))=true:=decide_eq_true (by omega)
  have HC:=hid (fun z=>clock_longc s z hs hl);clear hm hl;go_enter func3,ntmps3
  go_wp2_with (first
   |(go_at_call 8;refine (HC.out _).mono ?_;rintro e w1 ⟨rfl,hb⟩;have H1:=hid hb;clear hb)
   |(go_at_call 9;refine (HA.out _ (H1.out.alloc H1.out.size _)).mono ?_;rintro e w2 ⟨rfl,hb⟩;have H2:=hid ((H1.out.alloc H1.out.size _).trans (hb.mono (H1.out.alloc H1.out.size _).size));clear hb))
  go_ret;exact ⟨rfl,H2.out⟩
 ·have hl2:decide ((2000:Int)<(s.size:Int))=false:=decide_eq_false (by omega)
  have HC:=hid (fun z=>clock_text s z hs);have HD:=hid (fun z=>dclock_text s z hs)
  obtain ⟨a,b,c,d,n,hv⟩:∃ a b c d n:Int,clockV (clockA (tx s))= .tuple #[.agg #[.int .i64 a,.int .i64 b,.int .i64 c,.int .i64 d],.int .i64 n]:=by
   cases clockA (tx s) with
   |none=>exact ⟨_,_,_,_,_,rfl⟩
   |some t=>exact ⟨_,_,_,_,_,rfl⟩
  rw [hv] at HC HD;have heq:=eq_tim a b c d;clear hm hl hv;go_enter func3,ntmps3
  go_wp2_with (first
   |(go_at_call 8;refine (HC.out _).mono ?_;rintro e w1 ⟨rfl,hb⟩;have h1:=Blk.new w1 23 #[.int .i64 a,.int .i64 b,.int .i64 c,.int .i64 d];have H1:=hid (And.intro h1 (hb.alloc hb.size (.cells #[.int .i64 a,.int .i64 b,.int .i64 c,.int .i64 d] 23)));clear hb h1)
   |(go_at_call 10;generalize w1.alloc _=W1 at *;refine (HD.out _).mono ?_;rintro e w2 ⟨rfl,hb⟩;have h2:=Blk.new w2 23 #[.int .i64 a,.int .i64 b,.int .i64 c,.int .i64 d];have b2:=(H1.out.1.below hb H1.out.1.lt).alloc (.cells #[.int .i64 a,.int .i64 b,.int .i64 c,.int .i64 d] 23);have hb2:=H1.out.2.trans (hb.mono H1.out.2.size);have H2:=hid (And.intro b2 (And.intro h2 (hb2.alloc hb2.size (.cells #[.int .i64 a,.int .i64 b,.int .i64 c,.int .i64 d] 23))));clear hb h2 b2 hb2 H1)
   |(go_at_call 9;generalize w2.alloc _=W2 at *;refine (HA.out W2 H2.out.2.2).mono ?_;rintro e w3 ⟨rfl,hb⟩;have x1:=H2.out.1.below hb H2.out.1.lt;have x2:=H2.out.2.1.below hb H2.out.2.1.lt;have H3:=hid (H2.out.2.2.trans (hb.mono H2.out.2.2.size));have c1:=x1.cell;have c2:=x2.cell;clear hb x1 x2 H2))
  go_ret;exact ⟨rfl,H3.out⟩
end Gr
end
end Go.Proofs.YtiiekaehbahenaaGreatDoor
