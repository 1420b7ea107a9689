/-
  Contracts of the code that the law reaches, and plain laws. Conditions: as each says.
-/
import Derived.Test.YtiiekaehbahenaaGreatDoorV26
import Derived.Test.YtiiekaehbahenaaGreatDoorV44
set_option linter.all false
set_option maxHeartbeats 40000000
set_option maxRecDepth 100000
namespace Go.Proofs.YtiiekaehbahenaaGreatDoor
open Lib (hid)
open Tryz
section
namespace Gr
open Go.RowKit Mem Atl Wid
theorem eq_durS (a b c d e f g h:Int) (w:World):(Op.equalIn 10000 32 (.agg #[.int .i64 a,.int .i64 b,.int .i64 c,.int .i64 d,.int .i64 e,.int .i64 f,.int .i64 g,.int .i64 h]) (.agg #[.int .i64 a,.int .i64 b,.int .i64 c,.int .i64 d,.int .i64 e,.int .i64 f,.int .i64 g,.int .i64 h])).run prog w= .ok true w:=by
 simp [go_sem]
theorem span_c (s:ByteArray) (z:World) (hs:s.size<=2097152):Calls prog 11 #[.string s] z fun e w'=>e= .returned (spanV (tx s))/\Below z.heap.size z w':=span_text s z hs
theorem spans (s:ByteArray) (m:Int) (w:World) (hm:w.cell? ⟨1,0,none⟩=some (.int .i64 m)) (hs:s.size<=2097152):
  Calls prog 4 #[.string s] w fun e w'=>e= .returned (.bool true)/\Below w.heap.size w w':=by
 have HA:=hid (fun z (hb:Below w.heap.size w z)=>alive_any m z (cell_later hb hm))
 by_cases hl:300<s.size
 ·have hl2:decide ((300:Int)<(s.size:Int))=true:=decide_eq_true (by omega)
  clear hm hl;go_enter func4,ntmps4
  go_wp2_with (go_at_call 9;refine (HA.out _ (Below.refl _ _)).mono ?_;rintro e w1 ⟨rfl,hb⟩;have H1:=hid hb;clear hb)
  go_ret;exact ⟨rfl,H1.out⟩
 ·have hl2:decide ((300:Int)<(s.size:Int))=false:=decide_eq_false (by omega)
  have HC:=hid (fun z=>span_c s z hs)
  have HD:=hid (fun z=>dspan24 s z (by omega))
  obtain ⟨x0,x1,x2,x3,x4,x5,x6,x7,n,hv⟩:∃ x0 x1 x2 x3 x4 x5 x6 x7 n:Int,spanV (tx s)= .tuple #[.agg #[.int .i64 x0,.int .i64 x1,.int .i64 x2,.int .i64 x3,.int .i64 x4,.int .i64 x5,.int .i64 x6,.int .i64 x7],.int .i64 n]:=⟨_,_,_,_,_,_,_,_,_,rfl⟩;rw [hv] at HC HD;have heq:=eq_durS x0 x1 x2 x3 x4 x5 x6 x7;clear hm hl hv;go_enter func4,ntmps4
  go_wp2_with (first
   |(go_at_call 11;refine (HC.out _).mono ?_;rintro e w1 ⟨rfl,hb⟩;have h1:=Blk.new w1 32 #[.int .i64 x0,.int .i64 x1,.int .i64 x2,.int .i64 x3,.int .i64 x4,.int .i64 x5,.int .i64 x6,.int .i64 x7];have H1:=hid (And.intro h1 (hb.alloc hb.size (.cells #[.int .i64 x0,.int .i64 x1,.int .i64 x2,.int .i64 x3,.int .i64 x4,.int .i64 x5,.int .i64 x6,.int .i64 x7] 32)));clear hb h1)
   |(go_at_call 12;generalize w1.alloc _=W1 at *;refine (HD.out _).mono ?_;rintro e w2 ⟨rfl,hb⟩;have h2:=Blk.new w2 32 #[.int .i64 x0,.int .i64 x1,.int .i64 x2,.int .i64 x3,.int .i64 x4,.int .i64 x5,.int .i64 x6,.int .i64 x7];have b2:=(H1.out.1.below hb H1.out.1.lt).alloc (.cells #[.int .i64 x0,.int .i64 x1,.int .i64 x2,.int .i64 x3,.int .i64 x4,.int .i64 x5,.int .i64 x6,.int .i64 x7] 32);have hb2:=H1.out.2.trans (hb.mono H1.out.2.size);have H2:=hid (And.intro b2 (And.intro h2 (hb2.alloc hb2.size (.cells #[.int .i64 x0,.int .i64 x1,.int .i64 x2,.int .i64 x3,.int .i64 x4,.int .i64 x5,.int .i64 x6,.int .i64 x7] 32))));clear hb h2 b2 hb2 H1)
   |(go_at_call 9;generalize w2.alloc _=W2 at *;refine (HA.out W2 H2.out.2.2).mono ?_;rintro e w3 ⟨rfl,hb⟩;have z1:=H2.out.1.below hb H2.out.1.lt;have z2:=H2.out.2.1.below hb H2.out.2.1.lt;have H3:=hid (H2.out.2.2.trans (hb.mono H2.out.2.2.size));have c1:=z1.cell;have c2:=z2.cell;clear hb z1 z2 H2))
  go_ret;exact ⟨rfl,H3.out⟩
end Gr
end
end Go.Proofs.YtiiekaehbahenaaGreatDoor
