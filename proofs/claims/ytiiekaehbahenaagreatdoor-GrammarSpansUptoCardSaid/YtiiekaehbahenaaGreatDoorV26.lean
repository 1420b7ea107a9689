/-
  Contracts of the code that the law reaches, and plain laws. Conditions: as each says.
-/
import Derived.Test.YtiiekaehbahenaaGreatDoorV16
import Derived.Test.YtiiekaehbahenaaGreatDoorV25
set_option linter.all false
set_option maxHeartbeats 40000000
set_option maxRecDepth 100000
namespace Go.Proofs.YtiiekaehbahenaaGreatDoor
open Lib (hid)
open Tryz
section
namespace Gr
open Go.RowKit Mem Atl Wid
abbrev p24:Txt:=[50,48,50,49,45,48,51,45,49,52,84,48,50,58,51,48,58,48,48,46,53,45,48,53,58,48,48,91,65,109,101,114,105,99,97,47,78,101,119,95,89,111,114,107,93,91,117,45,99,97,61,105,115,111,56,54,48,49,93]
abbrev s24:Txt:=[45,80,49,89,50,77,51,87,52,68,84,53,72,54,77,55,46,53,83]
abbrev c24:Txt:=[84,48,50,51,48]
abbrev ny:Txt:=[65,109,101,114,105,99,97,47,78,101,119,95,89,111,114,107]
theorem p24_val:parseA nameB valL mlN p24= .ok ⟨⟨2021,3,14⟩,some ⟨2,30,0,500000000⟩,2,-18000,ny⟩:=by kernel_rfl
theorem c24_val:clockA c24=some ⟨2,30,0,0⟩:=by kernel_rfl
theorem s24_val:spanB s24=([-1,-2,-3,-4,-5,-6,-7,-500000000],0):=by kernel_rfl
abbrev p24C:Array Value:=partC 2021 3 14 true 2 30 0 500000000 2 (-18000) ny
abbrev s24C:Array Value:=#[.int .i64 (-1),.int .i64 (-2),.int .i64 (-3),.int .i64 (-4),.int .i64 (-5),.int .i64 (-6),.int .i64 (-7),.int .i64 (-500000000)]
abbrev c24C:Array Value:=#[.int .i64 2,.int .i64 30,.int .i64 0,.int .i64 0]
theorem eq_p24 (z:World):(Op.equalIn 10000 40 (.agg p24C) (.agg p24C)).run prog z= .ok true z:=by kernel_rfl
theorem eq_s24 (z:World):(Op.equalIn 10000 32 (.agg s24C) (.agg s24C)).run prog z= .ok true z:=by kernel_rfl
theorem eq_c24 (z:World):(Op.equalIn 10000 23 (.agg c24C) (.agg c24C)).run prog z= .ok true z:=by kernel_rfl
theorem parse24 (m:Int) (w:World) (hm:w.cell? ⟨1,0,none⟩=some (.int .i64 m)):
  Calls prog 13 #[.string ⟨p24.toArray⟩] w fun e w'=>e= .returned (.tuple #[.agg p24C,.int .i64 0])/\Below w.heap.size w w':=by
 refine (parse_text ⟨p24.toArray⟩ m w (by decide) hm).mono ?_
 rintro e w' ⟨rfl,hb⟩
 exact ⟨by rw [show tx (⟨p24.toArray⟩:ByteArray)=p24 from rfl,p24_val];rfl,hb⟩
theorem span24 (w:World):Calls prog 11 #[.string ⟨s24.toArray⟩] w fun e w'=>e= .returned (.tuple #[.agg s24C,.int .i64 0])/\Below w.heap.size w w':=by
 refine (span_text ⟨s24.toArray⟩ w (by decide)).mono ?_
 rintro e w' ⟨rfl,hb⟩
 exact ⟨by rw [show tx (⟨s24.toArray⟩:ByteArray)=s24 from rfl,spanV,s24_val];rfl,hb⟩
theorem clock24 (w:World):Calls prog 8 #[.string ⟨c24.toArray⟩] w fun e w'=>e= .returned (.tuple #[.agg c24C,.int .i64 0])/\Below w.heap.size w w':=by
 refine (clock_text ⟨c24.toArray⟩ w (by decide)).mono ?_
 rintro e w' ⟨rfl,hb⟩
 exact ⟨by rw [show tx (⟨c24.toArray⟩:ByteArray)=c24 from rfl,c24_val];rfl,hb⟩
theorem alive_any (m:Int) (w:World) (hm:w.cell? ⟨1,0,none⟩=some (.int .i64 m)):
  Calls prog 9 #[] w fun e w'=>e= .returned (.bool true)/\Below w.heap.size w w':=by
 have HP:=hid (parse24 m w hm);have HS:=hid (fun z=>span24 z);have HC:=hid (fun z=>clock24 z);have e1:=eq_p24;have e2:=eq_s24;have e3:=eq_c24;simp only [p24C,partC,s24C,c24C,p24,s24,c24] at HP HS HC e1 e2 e3;clear hm;go_enter func9,ntmps9
 go_wp2_with (first
  |(go_at_call 13;refine HP.out.mono ?_;rintro e w1 ⟨rfl,hb⟩;have H1:=hid hb;clear hb)
  |(go_at_call 11;have bP:=Blk.new w1 40 #[.int .i64 2021,.int .i64 3,.int .i64 14,.bool true,.int .i64 2,.int .i64 30,.int .i64 0,.int .i64 500000000,.int .i64 2,.int .i64 (-18000),.string ⟨ny.toArray⟩];have hB:=H1.out.alloc H1.out.size (.cells #[.int .i64 2021,.int .i64 3,.int .i64 14,.bool true,.int .i64 2,.int .i64 30,.int .i64 0,.int .i64 500000000,.int .i64 2,.int .i64 (-18000),.string ⟨ny.toArray⟩] 40);generalize World.alloc _ _=W1 at *;refine (HS.out W1).mono ?_;rintro e w2 ⟨rfl,hb⟩;have H2:=hid (And.intro (bP.below hb bP.lt) (hB.trans (hb.mono hB.size)));clear hb bP hB)
  |(go_at_call 8;have bD:=Blk.new w2 32 #[.int .i64 (-1),.int .i64 (-2),.int .i64 (-3),.int .i64 (-4),.int .i64 (-5),.int .i64 (-6),.int .i64 (-7),.int .i64 (-500000000)];have bP:=H2.out.1.alloc (.cells #[.int .i64 (-1),.int .i64 (-2),.int .i64 (-3),.int .i64 (-4),.int .i64 (-5),.int .i64 (-6),.int .i64 (-7),.int .i64 (-500000000)] 32);have hB:=H2.out.2.alloc H2.out.2.size (.cells #[.int .i64 (-1),.int .i64 (-2),.int .i64 (-3),.int .i64 (-4),.int .i64 (-5),.int .i64 (-6),.int .i64 (-7),.int .i64 (-500000000)] 32);generalize World.alloc _ _=W2 at *;refine (HC.out W2).mono ?_;rintro e w3 ⟨rfl,hb⟩;have x1:=(bP.below hb bP.lt).alloc (.cells #[.int .i64 2,.int .i64 30,.int .i64 0,.int .i64 0] 23);have x2:=(bD.below hb bD.lt).alloc (.cells #[.int .i64 2,.int .i64 30,.int .i64 0,.int .i64 0] 23);have x3:=Blk.new w3 23 #[.int .i64 2,.int .i64 30,.int .i64 0,.int .i64 0];have hb3:=hB.trans (hb.mono hB.size);have H3:=hid (hb3.alloc hb3.size (.cells #[.int .i64 2,.int .i64 30,.int .i64 0,.int .i64 0] 23));have c1:=x1.cell;have c2:=x2.cell;have c3:=x3.cell;clear hb bP bD hB hb3 x1 x2 x3 H2))
 go_ret;exact ⟨rfl,H3.out⟩
end Gr
end
end Go.Proofs.YtiiekaehbahenaaGreatDoor
