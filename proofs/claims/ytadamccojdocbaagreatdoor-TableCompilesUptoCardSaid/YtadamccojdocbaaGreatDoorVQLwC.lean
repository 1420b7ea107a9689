/-
  The walk of the law TableCompiles. Conditions: what the source's slices hold is read; the cell of bytealg.MaxLen holds a number.
-/
import Derived.Test.YtadamccojdocbaaGreatDoorV36
set_option linter.all false
set_option maxHeartbeats 40000000
set_option maxRecDepth 100000
namespace Go.Proofs.YtadamccojdocbaaGreatDoor
open Lib (hid)
open Go.Proofs.Tryz
section
namespace Lw14
open Go.RowKit Mem Civ Mom Img Plc Rul Ahd Trn Src Snd Att Rgt Abr Cmq
theorem comp14_read (s:Src) (A A2 A3:Option Addr) (c c2 c3:Nat) (i:Int) (w:World) (h:SrcOk s A A2 A3 w) (hy:checkB s=noFlaw->YrsP s.rules):
  Calls prog 13 #[.agg #[.slice A s.rules.length c,.slice A2 s.zones.length c2,.slice A3 s.links.length c3],.int .i64 i] w (CompR (compileP s i).1 (compileP s i).2 w):=by
 have hall:Calls prog 13 #[.agg #[.slice A s.rules.length c,.slice A2 s.zones.length c2,.slice A3 s.links.length c3],.int .i64 i] w (CompP (compileP s i).1 (compileP s i).2 w):=by
  by_cases hc:checkB s=noFlaw/\0<=i/\i<s.zones.length
  ·obtain ⟨hck,h0,hl⟩:=hc
   obtain ⟨z,hz?,_,e,_,hcn⟩:=compile_case (hy hck) hck h0 hl
   obtain ⟨n,rfl⟩:∃ n:Nat,i=(n:Int):=⟨i.toNat,by omega⟩
   have hn:n<s.zones.length:=by omega
   rw [show ((n:Nat):Int).toNat=n from by omega,List.getElem?_eq_getElem hn] at hz?
   injection hz? with hz
   rw [e];subst hz;exact comp14_yes s A A2 A3 c c2 c3 n w h hck hn hcn
  ·rw [compileP_no hc]
   exact comp14_no s A A2 A3 c c2 c3 i w h hc
 refine hall.mono ?_
 rintro e w' ⟨v,tv,rfl,ho,ht,hb⟩;obtain ⟨A',c',rfl⟩:=own_sl ho;obtain ⟨B',d',rfl⟩:=own_sl ht;have r1:=Reads.of_own ho;have r2:=Reads.of_own ht
 refine ⟨A',c',B',d',rfl,?_,hb⟩
 by_cases hc:checkB s=noFlaw/\0<=i/\i<s.zones.length
 ·obtain ⟨z,_,_,e,hr,_⟩:=compile_case (hy hc.1) hc.1 hc.2.1 hc.2.2
  rw [e] at r1 r2 ⊢;exact tabOk_right hr r1 r2
 ·rw [compileP_no hc] at r1 r2 ⊢
  exact ⟨r1,r2,by simp [noTable],by simp [noTable],by decide,by decide,⟨by unfold In64;decide,by unfold In64;decide,by decide⟩,by simp [noTable],by simp [noTable]⟩
theorem compileP_err (s:Src) (i:Int):wrap64 (compileP s i).2=(compileP s i).2:=by
 unfold compileP
 split
 ·split
  ·split
   ·show wrap64 12=12
    unfold wrap64;omega
   ·show wrap64 0=0
    unfold wrap64;omega
  ·show wrap64 1=1
   unfold wrap64;omega
 ·show wrap64 1=1
  unfold wrap64;omega
theorem compiles (s:Src) (A A2 A3:Option Addr) (c c2 c3:Nat) (n:Int) (m:Int) (w:World) (h:SrcOk s A A2 A3 w) (hm:w.cell? ⟨0,0,none⟩=some (.int .i64 m)) (_:In64 n):
  Calls prog 3 #[.agg #[.slice A s.rules.length c,.slice A2 s.zones.length c2,.slice A3 s.links.length c3],.int .i64 n] w fun e w'=>e= .returned (.bool true)/\Below w.heap.size w w':=by
 have HA:=hid (fun z (hb:Below w.heap.size w z)=>Cmq.alive_any m z (cell_later hb hm));have HG:=hid (fun z (hb:Below w.heap.size w z)=>light14_any s A A2 A3 c c2 c3 z (h.below hb));have hC:=fun (hy:checkB s=noFlaw->YrsP s.rules) z (hb:Below w.heap.size w z)=>compile_read s A A2 A3 c c2 c3 m n z (h.below hb) (cell_later hb hm) hy;have hD:=fun (hy:checkB s=noFlaw->YrsP s.rules) z (hb:Below w.heap.size w z)=>comp14_read s A A2 A3 c c2 c3 n z (h.below hb) hy;have hwr:=compileP_err s n;obtain ⟨⟨T,err⟩,hT⟩:∃ T,compileP s n=T:=⟨_,rfl⟩;rw [hT] at hC hD hwr;simp only at hC hD hwr;have hone:=Civ.One.new w 26 #[.slice A s.rules.length c,.slice A2 s.zones.length c2,.slice A3 s.links.length c3];obtain ⟨W,hW⟩:∃ W,w.alloc (.cells #[.slice A s.rules.length c,.slice A2 s.zones.length c2,.slice A3 s.links.length c3] 26)=W:=⟨_,rfl⟩;rw [hW] at hone;have HO:=hid hone;have HC:=hid hC;have HD:=hid hD;have c0:=hone.1.cell;clear hone hC hD h hm hT;go_enter func3,ntmps3
 go_wp2_with (first
  |(go_at_call 10;refine (HG.out _ HO.out.2).mono ?_;rintro e w1 ⟨lb,rfl,hlp,hb⟩;have ho:=HO.out.step hb;have c1:=ho.1.cell;have HO1:=hid ho;have HLp:=hid hlp;clear hb ho hlp c0;cases lb)
  |(go_at_call 12;have hye:=HLp.out (by trivial);refine (HC.out hye _ HO1.out.2).mono ?_;rintro e w2 ⟨Ax,cx,Ay,cy,rfl,hok,hb⟩;simp only [tabCells];have hbX:Below w2.heap.size w2 (w2.alloc (.cells #[.string T.name,.int .i64 T.first.off,.int .i64 T.first.save,.string T.first.abbr,.slice Ax T.shifts.length cx,.int .i64 T.till,.slice Ay T.tail.length cy,.int .i64 T.off,.string T.format] 33)):=(Below.refl _ _).alloc (Nat.le_refl _) _;have ho:=(HO1.out.step hb).step hbX;have k2:=ho.1.cell;have HO2:=hid ho;have HX2:=hid (Blk.new w2 33 #[.string T.name,.int .i64 T.first.off,.int .i64 T.first.save,.string T.first.abbr,.slice Ax T.shifts.length cx,.int .i64 T.till,.slice Ay T.tail.length cy,.int .i64 T.off,.string T.format]);have HOk2:=hid (hok.below hbX);have HYe:=hid hye;clear hb c1 hok hbX ho hye)
  |(go_at_call 13;refine (HD.out HYe.out _ HO2.out.2).mono ?_;rintro e w3 ⟨Bx,dx,By,dy,rfl,hok,hb⟩;simp only [tabCells];have hbY:Below w3.heap.size w3 (w3.alloc (.cells #[.string T.name,.int .i64 T.first.off,.int .i64 T.first.save,.string T.first.abbr,.slice Bx T.shifts.length dx,.int .i64 T.till,.slice By T.tail.length dy,.int .i64 T.off,.string T.format] 33)):=(Below.refl _ _).alloc (Nat.le_refl _) _;have HB3:=hid ((HO2.out.step hb).step hbY).2;have HX3:=hid ((HX2.out.below hb HX2.out.lt).below hbY (by have:=HX2.out.lt;have:=hb.size;omega));have HY3:=hid (Blk.new w3 33 #[.string T.name,.int .i64 T.first.off,.int .i64 T.first.save,.string T.first.abbr,.slice Bx T.shifts.length dx,.int .i64 T.till,.slice By T.tail.length dy,.int .i64 T.off,.string T.format]);have HOx:=hid ((HOk2.out.below hb).below hbY);have HOy:=hid (hok.below hbY);clear hb hok hbY k2)
  |(go_at_call 11;refine (HA.out _ HB3.out).mono ?_;rintro e w5 ⟨rfl,hb⟩;have hx5:=HX3.out.below hb HX3.out.lt;have hy5:=HY3.out.below hb HY3.out.lt;have x5:=hx5.cell;have y5:=hy5.cell;have hs5:=Sam.same14_any T T Ax Ay Bx By cx cy dx dy w5 (HOx.out.below hb) (HOy.out.below hb);rw [decide_eq_true rfl] at hs5;simp only [tabCells] at hs5;have HS5:=hid hs5;have HB6:=hid (HB3.out.trans (hb.mono HB3.out.size));clear hb hx5 hy5 hs5)
  |(go_at_call 14;refine HS5.out.mono ?_;rintro e w6 ⟨rfl,hb⟩;have HB5:=hid (HB6.out.trans (hb.mono HB6.out.size));clear hb)
  |(go_at_call 11;refine (HA.out _ HO1.out.2).mono ?_;rintro e w4 ⟨rfl,hb⟩;have HB5:=hid (HO1.out.step hb).2;clear hb))
 all_goals go_ret
 all_goals exact ⟨rfl,HB5.out⟩
end Lw14
end
end Go.Proofs.YtadamccojdocbaaGreatDoor
