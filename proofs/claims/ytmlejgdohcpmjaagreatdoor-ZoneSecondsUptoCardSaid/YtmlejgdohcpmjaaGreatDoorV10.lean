/-
  Contracts of the code that the law reaches, and plain laws. Conditions: as each says.
-/
import Derived.Test.YtmlejgdohcpmjaaGreatDoorV09
set_option linter.all false
set_option maxHeartbeats 40000000
set_option maxRecDepth 100000
namespace Go.Proofs.YtmlejgdohcpmjaaGreatDoor
open Lib (hid)
open Tryz
section
section
namespace Ahd
open Go.RowKit Mem Civ Mom Img Rul Rgt
theorem force1_any (rs:List Rule) (A:Option Addr) (c:Nat) (off t:Int) (b0 b1 b2:Nat) (x:Turn) (w:World) (h:Reads w w.heap.size 11 A rs.length (rs.flatMap Rule.cells)) (hn:rs.length<=1000000)
  (h0:w.cell? ⟨b0,0,none⟩=some (.int .i64 off)) (h1:w.cell? ⟨b1,0,none⟩=some (.slice A rs.length c)) (h2:w.cell? ⟨b2,0,none⟩=some (.int .i64 t)):
  Calls prog 68 #[.agg #[.int .i64 x.at_,.int .i64 x.ref,.int .i64 x.save,.string x.letter],.pointer (some ⟨b0,0,none⟩),.pointer (some ⟨b1,0,none⟩),.pointer (some ⟨b2,0,none⟩)] w fun e w'=>
   e= .returned (.bool (decide (uniX rs off x<=t)))/\Below w.heap.size w w':=by
 have HAh:=hid (fun a z (hb:Below w.heap.size w z)=>ahead_more rs A c a z ((h.below hb).more hb.size) hn);obtain ⟨x0,x1,x2,x3⟩:=x;have hone:=One.new w 90 #[.int .i64 x0,.int .i64 x1,.int .i64 x2,.string x3];obtain ⟨W,hW⟩:∃ W,w.alloc (.cells #[.int .i64 x0,.int .i64 x1,.int .i64 x2,.string x3] 90)=W:=⟨_,rfl⟩;rw [hW] at hone;have d0:=cell_later hone.2 h0;have d1:=cell_later hone.2 h1;have d2:=cell_later hone.2 h2;have HO:=hid hone;have cx:=hone.1.cell;have H2:=hid h2;obtain ⟨R,hR⟩:∃ R,uniX rs off ⟨x0,x1,x2,x3⟩=R:=⟨_,rfl⟩;rw [hR];unfold uniX at hR;simp only at hR;clear h hone h0 h1 h2;obtain ⟨y,hy⟩:∃ y,(aheadX rs x0).getD noTurn=y:=⟨_,rfl⟩;rw [hy] at hR;have ha:=HAh.out x0;rw [hy] at ha;obtain ⟨y0,y1,y2,y3⟩:=y;simp only [Turn.cells] at ha hR;generalize (aheadX rs x0).isSome=ok at*;have HA:=hid ha;clear ha hy HAh
 by_cases e0:x1=0
 ·subst e0
  rw [if_pos rfl,if_neg (by decide)] at hR
  subst hR;go_enter func68,ntmps68
  go_wp2_with (go_at_call 69;refine (HA.out _ HO.out.2).mono ?_;rintro e w1 ⟨rfl,hb⟩;have hb2:=HO.out.2.trans (hb.mono HO.out.2.size);have d3:=cell_later hb2 H2.out;have d4:=cell_later (hb2.alloc hb2.size (.cells #[.int .i64 y0,.int .i64 y1,.int .i64 y2,.string y3] 90)) H2.out;have HB:=hid hb2;clear hb hb2)
  go_ret;exact ⟨rfl,HB.out.alloc HB.out.size _⟩
 ·have e0b:(x1 == 0)=false:=by simpa using e0
  rw [if_neg e0] at hR
  by_cases e2:x1=2
  ·subst e2
   rw [if_pos rfl] at hR;subst hR;clear e0 e0b;go_enter func68,ntmps68
   go_wp2_with fail
   go_ret;exact ⟨rfl,HO.out.2⟩
  ·have e2b:(x1 == 2)=false:=by simpa using e2
   rw [if_neg e2] at hR;subst hR;clear e0 e2;go_enter func68,ntmps68
   go_wp2_with fail
   go_ret;exact ⟨rfl,HO.out.2⟩
theorem first_any (rs:List Rule) (A:Option Addr) (c:Nat) (w:World) (h:Reads w w.heap.size 11 A rs.length (rs.flatMap Rule.cells)) (hn:rs.length<=1000000):
  Calls prog 70 #[.slice A rs.length c] w fun e w'=>e= .returned (.string (firstP rs))/\Below w.heap.size w w':=by
 have HR:=hid h;clear h;obtain ⟨F,hF⟩:∃ F,firstP rs=F:=⟨_,rfl⟩;rw [hF];have HF:=hid hF;clear hF;have hb0:=box1 w 90 #[.int .i64 0,.int .i64 0,.int .i64 0,.string ⟨#[]⟩];go_enter func70,ntmps70;go_wp2;obtain ⟨hbl,hbw,_⟩:=hb0
 go_loopw [4,11] (fun s4 s11 wr=>∃ (k:Nat) (best:Option Turn),k<=rs.length/\s4= .bool best.isSome/\s11= .int .i64 k/\(rs.take k).foldl firstStep none=best/\Blk wr w.heap.size 90 (best.getD noTurn).cells.toArray/\Below w.heap.size w wr) (fun _ s11 _=>rs.length - (intOf s11).toNat)
 case atStart=>exact ⟨0,none,Nat.zero_le _,rfl,rfl,rfl,hbl,hbw⟩
 case round=>
  clear hbl hbw;obtain ⟨k,best,hk,rfl,rfl,hf,hbl,hbw⟩:=hrel;have HBl:=hid hbl;have HBw:=hid hbw;have Hf:=hid hf;clear hbl hbw hf
  by_cases hkn:k<rs.length
  ·obtain ⟨ad,rfl,hadb,a0,a1,a2,a3,a4,a5,a6,a7,a8,a9,a10⟩:=rule_cells (HR.out.below HBw.out) hkn
   have hstep:(rs.take (k+1)).foldl firstStep none=firstStep best rs[k]:=by
    rw [List.take_succ_eq_append_getElem hkn,List.foldl_append,Hf.out];rfl
   have hT:=fun z=>turn_any rs[k] rs[k].lo z;generalize rs[k]=x at*;rw [firstStep_is] at hstep;generalize (turnO x x.lo).1=T at*;generalize (turnO x x.lo).2=q at*;obtain ⟨x0,x1,x2,x3,x4,x5,x6,x7,x8,x9,x10⟩:=x;obtain ⟨t0,t1,t2,t3⟩:=T;simp only [Rule.cells,Turn.cells] at a0 a1 a2 a3 a4 a5 a6 a7 a8 a9 a10 hT hstep;have HT:=hid hT;have HS:=hid hstep;clear hT hstep;have hlt:=HBl.out.lt;obtain ⟨W1,hW1⟩:∃ W1,wr.alloc (.cells #[.string x0,.int .i64 x1,.int .i64 x2,.int .i64 x3,.int .i64 x4,.int .i64 x5,.int .i64 x6,.int .i64 x7,.int .i64 x8,.int .i64 x9,.string x10] 69)=W1:=⟨_,rfl⟩
   have HX:Hid (Blk W1 wr.heap.size 69 #[.string x0,.int .i64 x1,.int .i64 x2,.int .i64 x3,.int .i64 x4,.int .i64 x5,.int .i64 x6,.int .i64 x7,.int .i64 x8,.int .i64 x9,.string x10]):=by rw [<-hW1];exact Blk.new wr _ _
   have hbW:Below wr.heap.size wr W1:=by rw [<-hW1];exact (Below.refl _ _).alloc (Nat.le_refl _) _
   have HB1:=hid (HBw.out.trans (hbW.mono HBw.out.size));have HBl1:=hid (HBl.out.below hbW hlt);have cx:=HX.out.cell
   have hz1:W1.heap.size=wr.heap.size+1:=by rw [<-hW1];simp
   clear hbW HBw HBl
   cases q
   ·have hs:=HS.out
    rw [if_neg (by simp)] at hs
    have HS2:=hid hs;clear hs HS
    go_wp2_with (go_at_call 97;refine (HT.out _).mono ?_;rintro e w1 ⟨rfl,hb⟩;have hx:=HX.out.below hb HX.out.lt;have hl:=HBl1.out.below hb HBl1.out.lt;have cx1:=fun i=>(hx.alloc (.cells #[.int .i64 t0,.int .i64 t1,.int .i64 t2,.string t3] 90)).cell i;have cl1:=fun i=>(hl.alloc (.cells #[.int .i64 t0,.int .i64 t1,.int .i64 t2,.string t3] 90)).cell i;have fl1:=fun i=>(hl.alloc (.cells #[.int .i64 t0,.int .i64 t1,.int .i64 t2,.string t3] 90)).frozen i;have hT1:=One.new w1 90 #[.int .i64 t0,.int .i64 t1,.int .i64 t2,.string t3];have ct:=hT1.1.cell;have HL1:=hid (hl.alloc (.cells #[.int .i64 t0,.int .i64 t1,.int .i64 t2,.string t3] 90));have HB2:=hid ((HB1.out.trans (hb.mono HB1.out.size)).trans (hT1.2.mono (HB1.out.trans (hb.mono HB1.out.size)).size));clear hb hx hl hT1 cx;simp only [Turn.cells,noTurn,Option.getD_some,Option.getD_none] at cl1)
    exact ⟨⟨k+1,best,by omega,rfl,by go_num,HS2.out,HL1.out,HB2.out⟩,by simp [intOf];omega⟩
   ·by_cases e9:x9=0
    ·subst e9
     have hs:=HS.out;rw [if_pos ⟨rfl,rfl⟩] at hs
     cases best with
     |none=>
      simp only [lessT] at hs;have HS2:=hid hs;clear hs HS
      go_wp2_with (go_at_call 97;refine (HT.out _).mono ?_;rintro e w1 ⟨rfl,hb⟩;have hx:=HX.out.below hb HX.out.lt;have hl:=HBl1.out.below hb HBl1.out.lt;have cx1:=fun i=>(hx.alloc (.cells #[.int .i64 t0,.int .i64 t1,.int .i64 t2,.string t3] 90)).cell i;have cl1:=fun i=>(hl.alloc (.cells #[.int .i64 t0,.int .i64 t1,.int .i64 t2,.string t3] 90)).cell i;have fl1:=fun i=>(hl.alloc (.cells #[.int .i64 t0,.int .i64 t1,.int .i64 t2,.string t3] 90)).frozen i;have hT1:=One.new w1 90 #[.int .i64 t0,.int .i64 t1,.int .i64 t2,.string t3];have ct:=hT1.1.cell;have HL1:=hid (hl.alloc (.cells #[.int .i64 t0,.int .i64 t1,.int .i64 t2,.string t3] 90));have HB2:=hid ((HB1.out.trans (hb.mono HB1.out.size)).trans (hT1.2.mono (HB1.out.trans (hb.mono HB1.out.size)).size));clear hb hx hl hT1 cx;simp only [Turn.cells,noTurn,Option.getD_some,Option.getD_none] at cl1)
      have hf:=(((HL1.out.set_ 0 (.int .i64 t0)).set_ 1 (.int .i64 t1)).set_ 2 (.int .i64 t2)).set_ 3 (.string t3)
      exact ⟨⟨k+1,some ⟨t0,t1,t2,t3⟩,by omega,rfl,by go_num,HS2.out,hf,((((HB2.out.setCell (by simp) _).setCell (by simp) _).setCell (by simp) _).setCell (by simp) _)⟩,by simp [intOf];omega⟩
     |some y=>
      obtain ⟨y0,y1,y2,y3⟩:=y;simp only [lessT] at hs
      by_cases hlt0:t0<y0
      ·have hltb:decide (t0<y0)=true:=decide_eq_true hlt0
       rw [if_pos hlt0] at hs;have HS2:=hid hs;clear hs HS hlt0
       go_wp2_with (go_at_call 97;refine (HT.out _).mono ?_;rintro e w1 ⟨rfl,hb⟩;have hx:=HX.out.below hb HX.out.lt;have hl:=HBl1.out.below hb HBl1.out.lt;have cx1:=fun i=>(hx.alloc (.cells #[.int .i64 t0,.int .i64 t1,.int .i64 t2,.string t3] 90)).cell i;have cl1:=fun i=>(hl.alloc (.cells #[.int .i64 t0,.int .i64 t1,.int .i64 t2,.string t3] 90)).cell i;have fl1:=fun i=>(hl.alloc (.cells #[.int .i64 t0,.int .i64 t1,.int .i64 t2,.string t3] 90)).frozen i;have hT1:=One.new w1 90 #[.int .i64 t0,.int .i64 t1,.int .i64 t2,.string t3];have ct:=hT1.1.cell;have HL1:=hid (hl.alloc (.cells #[.int .i64 t0,.int .i64 t1,.int .i64 t2,.string t3] 90));have HB2:=hid ((HB1.out.trans (hb.mono HB1.out.size)).trans (hT1.2.mono (HB1.out.trans (hb.mono HB1.out.size)).size));clear hb hx hl hT1 cx;simp only [Turn.cells,noTurn,Option.getD_some,Option.getD_none] at cl1)
       have hf:=(((HL1.out.set_ 0 (.int .i64 t0)).set_ 1 (.int .i64 t1)).set_ 2 (.int .i64 t2)).set_ 3 (.string t3)
       exact ⟨⟨k+1,some ⟨t0,t1,t2,t3⟩,by omega,rfl,by go_num,HS2.out,hf,((((HB2.out.setCell (by simp) _).setCell (by simp) _).setCell (by simp) _).setCell (by simp) _)⟩,by simp [intOf];omega⟩
      ·have hltb:decide (t0<y0)=false:=decide_eq_false hlt0
       rw [if_neg hlt0] at hs;have HS2:=hid hs;clear hs HS hlt0
       go_wp2_with (go_at_call 97;refine (HT.out _).mono ?_;rintro e w1 ⟨rfl,hb⟩;have hx:=HX.out.below hb HX.out.lt;have hl:=HBl1.out.below hb HBl1.out.lt;have cx1:=fun i=>(hx.alloc (.cells #[.int .i64 t0,.int .i64 t1,.int .i64 t2,.string t3] 90)).cell i;have cl1:=fun i=>(hl.alloc (.cells #[.int .i64 t0,.int .i64 t1,.int .i64 t2,.string t3] 90)).cell i;have fl1:=fun i=>(hl.alloc (.cells #[.int .i64 t0,.int .i64 t1,.int .i64 t2,.string t3] 90)).frozen i;have hT1:=One.new w1 90 #[.int .i64 t0,.int .i64 t1,.int .i64 t2,.string t3];have ct:=hT1.1.cell;have HL1:=hid (hl.alloc (.cells #[.int .i64 t0,.int .i64 t1,.int .i64 t2,.string t3] 90));have HB2:=hid ((HB1.out.trans (hb.mono HB1.out.size)).trans (hT1.2.mono (HB1.out.trans (hb.mono HB1.out.size)).size));clear hb hx hl hT1 cx;simp only [Turn.cells,noTurn,Option.getD_some,Option.getD_none] at cl1)
       exact ⟨⟨k+1,some ⟨y0,y1,y2,y3⟩,by omega,rfl,by go_num,HS2.out,HL1.out,HB2.out⟩,by simp [intOf];omega⟩
    ·have e9b:(x9 == 0)=false:=by simpa using e9
     have hs:=HS.out
     rw [if_neg (by simp [e9])] at hs
     have HS2:=hid hs;clear hs HS e9
     cases best
     all_goals go_wp2_with (go_at_call 97;refine (HT.out _).mono ?_;rintro e w1 ⟨rfl,hb⟩;have hx:=HX.out.below hb HX.out.lt;have hl:=HBl1.out.below hb HBl1.out.lt;have cx1:=fun i=>(hx.alloc (.cells #[.int .i64 t0,.int .i64 t1,.int .i64 t2,.string t3] 90)).cell i;have cl1:=fun i=>(hl.alloc (.cells #[.int .i64 t0,.int .i64 t1,.int .i64 t2,.string t3] 90)).cell i;have fl1:=fun i=>(hl.alloc (.cells #[.int .i64 t0,.int .i64 t1,.int .i64 t2,.string t3] 90)).frozen i;have hT1:=One.new w1 90 #[.int .i64 t0,.int .i64 t1,.int .i64 t2,.string t3];have ct:=hT1.1.cell;have HL1:=hid (hl.alloc (.cells #[.int .i64 t0,.int .i64 t1,.int .i64 t2,.string t3] 90));have HB2:=hid ((HB1.out.trans (hb.mono HB1.out.size)).trans (hT1.2.mono (HB1.out.trans (hb.mono HB1.out.size)).size));clear hb hx hl hT1 cx;simp only [Turn.cells,noTurn,Option.getD_some,Option.getD_none] at cl1)
     all_goals exact ⟨⟨k+1,_,by omega,rfl,by go_num,HS2.out,HL1.out,HB2.out⟩,by simp [intOf];omega⟩
  ·obtain rfl:k=rs.length:=by omega
   have hf:=Hf.out;rw [List.take_length] at hf
   have hfp:F=(best.getD noTurn).letter:=by rw [<-HF.out];unfold firstP firstO;rw [hf]
   have cb:=HBl.out.cell;generalize best.getD noTurn=B at*;obtain ⟨z0,z1,z2,z3⟩:=B;simp only [Turn.cells] at cb;have hfp:F=z3:=hfp;subst hfp;clear hf Hf HF;go_wp2;go_ret;exact ⟨rfl,HBw.out⟩
structure Fo (w:World) (A:Option Addr) (n c:Nat) (off t:Int) (W:World):Prop where
 l:Blk W w.heap.size 25 #[.slice A n c]
 o:Blk W (w.heap.size+1) 3 #[.int .i64 off]
 t:Blk W (w.heap.size+1+1) 2 #[.int .i64 t]
 bel:Below w.heap.size w W
theorem Fo.below {w W W':World} {A:Option Addr} {n c:Nat} {off t:Int} (h:Fo w A n c off t W) (hb:Below W.heap.size W W'):Fo w A n c off t W':=
 ⟨h.l.below hb h.l.lt,h.o.below hb h.o.lt,h.t.below hb h.t.lt,h.bel.trans (hb.mono h.bel.size)⟩
theorem finA {w W w2:World} {A:Option Addr} {n c:Nat} {off t:Int} {a0 a1 a2 a3:Value} (h:Fo w A n c off t W) (hb:Below W.heap.size W w2):
  Fo w A n c off t (w2.alloc (.cells #[a0,a1,a2,a3] 90))/\Blk (w2.alloc (.cells #[a0,a1,a2,a3] 90)) w2.heap.size 90 #[a0,a1,a2,a3]:=
 ⟨h.below (hb.alloc hb.size _),Blk.new _ _ _⟩
theorem finB {w W w2:World} {A:Option Addr} {n c:Nat} {off t:Int} {a0 a1 a2 a3 z0 z1 z2 z3:Value} {N:Nat} (h:Fo w A n c off t W) (hb:Below W.heap.size W w2) (hN:Blk w2 N 90 #[z0,z1,z2,z3]) (hl:W.heap.size<=N):
  Fo w A n c off t ((((w2.setCell ⟨N,0,none⟩ a0).setCell ⟨N,1,none⟩ a1).setCell ⟨N,2,none⟩ a2).setCell ⟨N,3,none⟩ a3)/\
  Blk ((((w2.setCell ⟨N,0,none⟩ a0).setCell ⟨N,1,none⟩ a1).setCell ⟨N,2,none⟩ a2).setCell ⟨N,3,none⟩ a3) N 90 #[a0,a1,a2,a3]:=
 ⟨h.below ((((hb.setCell hl _).setCell hl _).setCell hl _).setCell hl _),(((hN.set_ 0 a0).set_ 1 a1).set_ 2 a2).set_ 3 a3⟩
theorem newT {w w':World} {cs:Array Value} {t:TypeId} (hb:Below (w.alloc (.cells cs t)).heap.size (w.alloc (.cells cs t)) w'):Blk w' w.heap.size t cs/\w.heap.size<w'.heap.size:=
 have h:Blk w' w.heap.size t cs:=(Blk.new w _ _).below hb (by simp)
 ⟨h,h.lt⟩
theorem newTd {w w':World} {cs:Array Value} {t:TypeId} (hb:Below (w.alloc (.cells cs t)).drew.heap.size (w.alloc (.cells cs t)).drew w'):Blk w' w.heap.size t cs/\w.heap.size<w'.heap.size:=
 newT (w:=w) (t:=t) ((below_drew _).trans hb)
theorem carryT {w1 X w2:World} (hx:Below w1.heap.size w1 X) (hb:Below X.heap.size X w2) {g:Nat} {t:TypeId} {cs:Array Value} (h:Blk w1 g t cs):Blk w2 g t cs:=
 (h.below hx h.lt).below hb (Nat.lt_of_lt_of_le h.lt hx.size)
theorem transT {B:Nat} {W W' W'':World} (h:Below B W W') (hB:B<=W.heap.size) (hb:Below W'.heap.size W' W''):Below B W W'':=h.trans (hb.mono (Nat.le_trans hB h.size))
theorem cellsT {W:World} {b:Nat} {a0 a1 a2 a3:Value} (h:Blk W b 90 #[a0,a1,a2,a3]):
  W.cell? ⟨b,0,none⟩=some a0/\W.cell? ⟨b,1,none⟩=some a1/\W.cell? ⟨b,2,none⟩=some a2/\W.cell? ⟨b,3,none⟩=some a3/\W.frozen? ⟨b,0,none⟩=false/\W.frozen? ⟨b,1,none⟩=false/\W.frozen? ⟨b,2,none⟩=false/\W.frozen? ⟨b,3,none⟩=false/\b<W.heap.size:=⟨h.cell 0,h.cell 1,h.cell 2,h.cell 3,h.frozen 0,h.frozen 1,h.frozen 2,h.frozen 3,h.lt⟩
theorem force_any (rs:List Rule) (A:Option Addr) (c:Nat) (off t:Int) (w:World) (h:Reads w w.heap.size 11 A rs.length (rs.flatMap Rule.cells)) (hn:rs.length<=1000000) (h1: -9223372036854775808<=t) (h2:t<=9223372036854775807):
  Calls prog 42 #[.slice A rs.length c,.int .i64 off,.int .i64 t] w fun e w'=>e= .returned (.tuple #[.int .i64 (forceP rs off t).1,.string (forceP rs off t).2])/\Below w.heap.size w w':=by
 have HR:=hid (fun z (hb:Below w.heap.size w z)=>rulesRight_any rs A c z ((h.below hb).more hb.size) hn);have HF:=hid (fun z (hb:Below w.heap.size w z)=>first_any rs A c z ((h.below hb).more hb.size) hn);have HY:=hid (fun z=>year_any t z h1 h2)
 have hL:=fun (Y:Int) (hy1: -1000000<=Y) (hy2:Y<=1000000) (b0 b1 b2:Nat) z (hr:rulesB rs=true) (hb:Below w.heap.size w z) (g0:z.cell? ⟨b0,0,none⟩=some (.int .i64 off)) (g1:z.cell? ⟨b1,0,none⟩=some (.slice A rs.length c)) (g2:z.cell? ⟨b2,0,none⟩=some (.int .i64 t))=>
  latest_any rs A c 68 #[.pointer (some ⟨b0,0,none⟩),.pointer (some ⟨b1,0,none⟩),.pointer (some ⟨b2,0,none⟩)] (fun x=>decide (uniX rs off x<=t)) Y z ((h.below hb).more hb.size) hn hr hy1 hy2
   (fun x z2 hb2=>force1_any rs A c off t b0 b1 b2 x z2 ((h.below (hb.trans (hb2.mono hb.size))).more (hb.trans (hb2.mono hb.size)).size) hn (cell_later hb2 g0) (cell_later hb2 g1) (cell_later hb2 g2)) (enters_of func68 (by kernel_rfl) rfl)
 have hfp:forceP rs off t=if rulesB rs=true/\-86400<off/\off<86400 then giveO rs (latestL (fun x=>decide (uniX rs off x<=t)) (yearI t) rs) else (0,⟨#[]⟩):=by
  unfold forceP;rw [latestX]
 rw [hfp];obtain ⟨b0,b1,b2,hbw,hsz⟩:=box3 w 25 3 2 #[.slice A rs.length c] #[.int .i64 off] #[.int .i64 t];obtain ⟨W,hW⟩:∃ W,((w.alloc (.cells #[.slice A rs.length c] 25)).alloc (.cells #[.int .i64 off] 3)).alloc (.cells #[.int .i64 t] 2)=W:=⟨_,rfl⟩;rw [hW] at b0 b1 b2 hbw hsz;have HO:Hid (Fo w A rs.length c off t W):=⟨b0,b1,b2,hbw⟩;have c0:=HO.out.l.cell 0;have c1:=HO.out.o.cell 0
 simp only [List.getElem?_toArray,List.getElem?_cons_zero] at c0 c1
 clear h hfp b0 b1 b2 hbw
 cases hr:rulesB rs
 ·rw [if_neg (by simp)]
  rw [hr] at HR;clear hL
  cases q1:decide (off<=-86400)<;>cases q2:decide (86400<=off)
  all_goals
   go_enter func42,ntmps42
   go_wp2_with (go_at_call 65;refine (HR.out _ HO.out.bel).mono ?_;rintro e w1 ⟨rfl,hb⟩;have HO1:=hid (HO.out.below hb);have e1:=HO1.out.o.cell 0;simp only [List.getElem?_toArray,List.getElem?_cons_zero] at e1;clear hb)
   go_ret2
   exact ⟨rfl,HO1.out.bel⟩
 ·rw [hr] at HR
  by_cases q1:off<=-86400
  ·rw [if_neg (by omega)]
   have q1b:decide (off<=-86400)=true:=decide_eq_true q1;clear q1 hL hr
   cases q2:decide (86400<=off)
   all_goals
    go_enter func42,ntmps42
    go_wp2_with (go_at_call 65;refine (HR.out _ HO.out.bel).mono ?_;rintro e w1 ⟨rfl,hb⟩;have HO1:=hid (HO.out.below hb);have e1:=HO1.out.o.cell 0;simp only [List.getElem?_toArray,List.getElem?_cons_zero] at e1;clear hb)
    go_ret2
    exact ⟨rfl,HO1.out.bel⟩
  ·have q1b:decide (off<=-86400)=false:=decide_eq_false q1
   by_cases q2:86400<=off
   ·rw [if_neg (by omega)]
    have q2b:decide (86400<=off)=true:=decide_eq_true q2;clear q1 q2 hL hr;go_enter func42,ntmps42
    go_wp2_with (go_at_call 65;refine (HR.out _ HO.out.bel).mono ?_;rintro e w1 ⟨rfl,hb⟩;have HO1:=hid (HO.out.below hb);have e1:=HO1.out.o.cell 0;simp only [List.getElem?_toArray,List.getElem?_cons_zero] at e1;clear hb)
    go_ret2
    exact ⟨rfl,HO1.out.bel⟩
   ·have q2b:decide (86400<=off)=false:=decide_eq_false q2
    rw [if_pos ⟨rfl,by omega,by omega⟩]
    have hy:=year_bd t;have HL:=hid (fun b0 b1 b2 z=>hL (yearI t) hy.1 hy.2 b0 b1 b2 z hr);generalize yearI t=Y at*;generalize latestL (fun x=>decide (uniX rs off x<=t)) Y rs=Q at*;clear q1 q2 hL hr hy;go_enter func42,ntmps42
    go_upto_region 3 with (go_at_call 65;refine (HR.out _ HO.out.bel).mono ?_;rintro e w1 ⟨rfl,hb⟩;have HO1:=hid (HO.out.below hb);have e1:=HO1.out.o.cell 0;simp only [List.getElem?_toArray,List.getElem?_cons_zero] at e1;clear hb)
    obtain ⟨G,hG⟩:∃ G,giveO rs Q=G:=⟨_,rfl⟩;have c2:=HO1.out.l.cell 0;have c3:=HO1.out.t.cell 0
    simp only [List.getElem?_toArray,List.getElem?_cons_zero] at c2 c3
    have l2:=HO1.out.t.lt
    have l0:w.heap.size<w1.heap.size:=by omega
    have l1:w.heap.size+1<w1.heap.size:=by omega
    obtain ⟨⟨x0,x1,x2,x3⟩,hB⟩:∃ B,Q.getD noTurn=B:=⟨_,rfl⟩;obtain ⟨q,hq⟩:∃ q,Q.isSome=q:=⟨_,rfl⟩;rw [hB,hq] at HL;simp only [Turn.cells] at HL;have HBq:=hid (And.intro hB hq);clear hB hq
    go_cut [8,9] (fun s8 s9 wx=>∃ b8:Nat,s8= .pointer (some ⟨b8,0,none⟩)/\s9= .bool q/\Fo w A rs.length c off t wx/\Blk wx b8 90 #[.int .i64 x0,.int .i64 x1,.int .i64 x2,.string x3])
    case first=>
     have kb0:Below w1.heap.size w1 w1.drew:=below_drew w1;have HL2:=hid (fun z (hb:Below w1.heap.size w1 z)=>HL.out (w.heap.size+1) w.heap.size (w.heap.size+1+1) z (HO1.out.bel.trans (hb.mono HO1.out.bel.size)) (cell_later hb e1) (cell_later hb c2) (cell_later hb c3))
     go_region_held3 (fun w'=>(∀ b o,b<w1.heap.size->w'.cell? ⟨b,o,none⟩=w1.cell? ⟨b,o,none⟩)/\Below w1.heap.size w1 w') (exact same_of (by go_grown))
      (first
       |(go_at_call 67;refine (HY.out _).mono ?_;rintro e wa ⟨rfl,hb1⟩;have kb1:=transT (W:=w1) (by go_grown) (Nat.le_refl _) hb1;have ks1:=kb1.size;(first|(have nn:=newT hb1;obtain ⟨pa,pal⟩:=nn)|(have nn:=newTd hb1;obtain ⟨pa,pal⟩:=nn)|skip))
       |(go_at_call 66;refine (HL2.out _ (by go_grown)).mono ?_;rintro e wb ⟨rfl,hb2⟩;have kb2:=transT (W:=w1) (by go_grown) (Nat.le_refl _) hb2;have ks2:=kb2.size;have cr:=@carryT wa _ _ (by go_grown) hb2;(try (have g0:=cr pa;have g1:=g0.lt;clear pa pal;have pa:=g0;have pal:=g1;clear g0 g1));clear cr;(first|(have nn:=newT hb2;obtain ⟨pa,pal⟩:=nn)|(have nn:=newTd hb2;obtain ⟨pa,pal⟩:=nn)|skip);(try (have g0:=cellsT pa;obtain ⟨pa0,pa1,pa2,pa3,pa4,pa5,pa6,pa7,pa8⟩:=g0))))
     all_goals
      clear c0 c1 c2 c3 e1 hG HL HL2 HY HF HR
      go_wp2_with fail
      go_meet
      first
       |(have hF:=finA (a0:= .int .i64 x0) (a1:= .int .i64 x1) (a2:= .int .i64 x2) (a3:= .string x3) HO1.out kb2;with_reducible exact ⟨_,rfl,rfl,hF.1,hF.2⟩)
       |(have hF:=finB (a0:= .int .i64 x0) (a1:= .int .i64 x1) (a2:= .int .i64 x2) (a3:= .string x3) HO1.out kb2 pa (by omega);with_reducible exact ⟨_,rfl,rfl,hF.1,hF.2⟩)
    case rest=>
     obtain ⟨b8,rfl,rfl,hf,hb8⟩:=hcut;have HO2:=hid hf;have HB8:=hid hb8;have d0:=hf.l.cell 0
     simp only [List.getElem?_toArray,List.getElem?_cons_zero] at d0
     have d8:=hb8.cell;clear hf hb8 c0 c1 c2 c3 e1 HL HY HR;obtain ⟨hB,hq⟩:=HBq.out;clear HBq
     cases Q with
     |none=>
      simp only [giveO] at hG;subst hG
      obtain rfl:q=false:=by rw [<-hq];rfl
      clear hB hq
      go_wp2_with (go_at_call 70;refine (HF.out _ HO2.out.bel).mono ?_;rintro e w3 ⟨rfl,hb⟩;have HB3:=hid (HO2.out.bel.trans (hb.mono HO2.out.bel.size));clear hb)
      go_ret2
      exact ⟨rfl,HB3.out⟩
     |some x=>
      obtain rfl:q=true:=by rw [<-hq];rfl
      simp only [Option.getD_some] at hB;subst hB;simp only [giveO] at hG;subst hG;clear hq
      go_wp2_with fail
      go_region
      go_wp2_with fail
      go_ret2
      exact ⟨rfl,HO2.out.bel.drew⟩
end Ahd
end
end
section
section
namespace Abr
open Go.RowKit Mem Img
def digB (n:Int):UInt8:=UInt8.ofNat (48+n).toNat
def twoB (n:Int):ByteArray:=⟨#[digB (n / 10 % 10),digB (n % 10)]⟩
theorem dig_nat {n:Int}:((digB (n % 10)).toNat:Int)=48+n % 10:=by
 unfold digB
 rw [UInt8.toNat_ofNat_of_lt' (by show _<256;omega)]
 omega
theorem dig_text {n:Int} (w:World):
  (convert 135 9 (.slice (some ⟨w.heap.size,0,none⟩) 1 1)).run prog (w.alloc (.cells #[.int .u8 (48+n % 10)] 5))= .ok (.string ⟨#[digB (n % 10)]⟩) (w.alloc (.cells #[.int .u8 (48+n % 10)] 5)):=by
 refine run_convert_bytes_back _ _ _ _ _ _ [digB (n % 10)] underlying135 underlying5 underlying9 fun j hj=>?_
 obtain rfl:j=0:=by simp at hj;exact hj
 rw [show Addr.add ⟨w.heap.size,0,none⟩ 0=⟨w.heap.size,0,none⟩ from rfl,World.cell?_alloc_new]
 simp [dig_nat]
theorem two_any (n:Int) (w:World) (h0:0<=n) (h1:n<=99):
  Calls prog 104 #[.int .i64 n] w fun e w'=>e= .returned (.string (twoB n))/\Below w.heap.size w w':=by
 go_enter func104,ntmps104;go_wp2
 go_loopw [0,3,4] (fun s0 s3 s4 wr=>Below w.heap.size w wr/\((s0= .int .i64 n/\s3= .string ⟨#[]⟩/\s4= .int .i64 0)\/(s0= .int .i64 (n / 10)/\s3= .string ⟨#[digB (n % 10)]⟩/\s4= .int .i64 1)\/(s0= .int .i64 0/\s3= .string (twoB n)/\s4= .int .i64 2)))
  (fun _ _ s4 _=>2 - (intOf s4).toNat)
 case atStart=>exact ⟨Below.refl _ _,.inl ⟨rfl,rfl,rfl⟩⟩
 case round=>
  obtain ⟨hb,⟨rfl,rfl,rfl⟩|⟨rfl,rfl,rfl⟩|⟨rfl,rfl,rfl⟩⟩:=hrel
  ·have HB:=hid (hb.alloc hb.size (.cells #[.int .u8 (48+n % 10)] 5))
   have hc:=dig_text (n:=n) wr;clear hb
   cases hpb:decide (0<n)
   all_goals
    go_wp2
    exact ⟨⟨HB.out,.inr (.inl ⟨rfl,rfl,rfl⟩)⟩,by simp [intOf]⟩
  ·have HB:=hid (hb.alloc hb.size (.cells #[.int .u8 (48+n / 10 % 10)] 5))
   have hc:=dig_text (n:=n / 10) wr
   have hz:n / 10 / 10=0:=by omega
   have HZ:=hid hz;clear hb hz
   cases hpb:decide (0<n / 10)
   all_goals
    go_wp2
    exact ⟨⟨HB.out,.inr (.inr ⟨by rw [HZ.out],rfl,rfl⟩)⟩,by simp [intOf]⟩
  ·go_wp2
   go_ret;exact ⟨rfl,hb⟩
def partsB (g:ByteArray) (h m s:Int):ByteArray:=
 if (m == 0 && s == 0)=true then g++twoB h else if (s == 0)=true then g++twoB h++twoB m else g++twoB h++twoB m++twoB s
def toldB (n:Int):ByteArray:=if n<0 then partsB ⟨#[45]⟩ (-n / 3600) (-n / 60 % 60) (-n % 60) else partsB ⟨#[43]⟩ (n / 3600) (n / 60 % 60) (n % 60)
theorem told_any (n:Int) (w:World) (h0: -359999<=n) (h1:n<=359999):
  Calls prog 73 #[.int .i64 n] w fun e w'=>e= .returned (.string (toldB n))/\Below w.heap.size w w':=by
 have HT:=hid (fun (k:Int) z (a:0<=k) (b:k<=99)=>two_any k z a b);unfold toldB
 rcases Int.lt_or_le n 0 with hn|hn
 ·rw [if_pos hn]
  obtain ⟨k,rfl⟩:∃ k,n= -k:=⟨-n,by omega⟩
  rw [Int.neg_neg]
  have e1:(-k).tdiv 3600= -(k / 3600):=by rw [Int.neg_tdiv,Int.tdiv_eq_ediv_of_nonneg (by omega)]
  have e2:(-k).tdiv 60= -(k / 60):=by rw [Int.neg_tdiv,Int.tdiv_eq_ediv_of_nonneg (by omega)]
  have e3:(-(k / 60)).tmod 60= -(k / 60 % 60):=by rw [Int.neg_tmod,Int.tmod_eq_emod_of_nonneg (by omega)]
  have e4:(-k).tmod 60= -(k % 60):=by rw [Int.neg_tmod,Int.tmod_eq_emod_of_nonneg (by omega)]
  have hnb:decide (-k<0)=true:=decide_eq_true hn
  have q1:0<=k / 3600/\k / 3600<=99:=by omega
  have q2:0<=k / 60 % 60/\k / 60 % 60<=99:=by omega
  have q3:0<=k % 60/\k % 60<=99:=by omega
  unfold partsB;generalize k / 3600=h at*;generalize k / 60 % 60=m at*;generalize k % 60=s at*;have HB:=hid (Below.refl w.heap.size w);have Q1:=hid q1;have Q2:=hid q2;have Q3:=hid q3
  cases hm:(m == 0)<;>cases hs:(s == 0)
  all_goals
   go_enter func73,ntmps73
   go_wp2_with (go_at_call 104;refine (HT.out _ _ (by have:=Q1.out;have:=Q2.out;have:=Q3.out;omega) (by have:=Q1.out;have:=Q2.out;have:=Q3.out;omega)).mono ?_;rintro e w1 ⟨rfl,hb⟩;have HB:=hid (HB.out.trans (hb.mono HB.out.size));clear hb)
   go_ret;exact ⟨rfl,HB.out⟩
 ·rw [if_neg (by omega)]
  have hnb:decide (n<0)=false:=decide_eq_false (by omega)
  have e1:n.tdiv 3600=n / 3600:=Int.tdiv_eq_ediv_of_nonneg (by omega)
  have e2:n.tdiv 60=n / 60:=Int.tdiv_eq_ediv_of_nonneg (by omega)
  have e3:(n / 60).tmod 60=n / 60 % 60:=Int.tmod_eq_emod_of_nonneg (by omega)
  have e4:n.tmod 60=n % 60:=Int.tmod_eq_emod_of_nonneg (by omega)
  have q1:0<=n / 3600/\n / 3600<=99:=by omega
  have q2:0<=n / 60 % 60/\n / 60 % 60<=99:=by omega
  have q3:0<=n % 60/\n % 60<=99:=by omega
  unfold partsB;generalize hG1:n / 3600=h at*;generalize hG2:n / 60 % 60=m at*;generalize hG3:n % 60=s at*;have HB:=hid (Below.refl w.heap.size w);have Q1:=hid q1;have Q2:=hid q2;have Q3:=hid q3
  cases hm:(m == 0)<;>cases hs:(s == 0)
  all_goals
   go_enter func73,ntmps73
   go_wp2_with (go_at_call 104;refine (HT.out _ _ (by have:=Q1.out;have:=Q2.out;have:=Q3.out;omega) (by have:=Q1.out;have:=Q2.out;have:=Q3.out;omega)).mono ?_;rintro e w1 ⟨rfl,hb⟩;have HB:=hid (HB.out.trans (hb.mono HB.out.size));clear hb)
   go_ret;exact ⟨rfl,HB.out⟩
def abbrB (f l:ByteArray) (off save:Int):ByteArray:=
 if Lib.contains f.data.toList [37,115]=true then ⟨(Lib.replace f.data.toList [37,115] l.data.toList 1).toArray⟩
 else if Lib.contains f.data.toList [37,122]=true then ⟨(Lib.replace f.data.toList [37,122] (toldB off).data.toList 1).toArray⟩
 else if ((Lib.cut f.data.toList [47]).2.2 && !(save == 0))=true then ⟨(Lib.cut f.data.toList [47]).2.1.toArray⟩ else ⟨(Lib.cut f.data.toList [47]).1.toArray⟩
theorem two_size (n:Int):(twoB n).size=2:=rfl
theorem told_size (n:Int):(toldB n).size<=7:=by
 unfold toldB
 split
 all_goals
  unfold partsB
  split
  ·simp [ByteArray.size_append,two_size];decide
  ·split
   ·simp [ByteArray.size_append,two_size];decide
   ·simp [ByteArray.size_append,two_size];decide
theorem below_drawn {w w':World} (h:∃ n,w'=w.drewN n):Below w.heap.size w w':=by
 obtain ⟨n,rfl⟩:=h;exact below_drewN (Below.refl _ _) n
theorem abbr_any (f l:ByteArray) (off save m:Int) (w:World) (hf:f.size<=2097152) (hl:l.size<=2097152) (h0: -359999<=off) (h1:off<=359999) (hm:w.cell? ⟨0,0,none⟩=some (.int .i64 m)):
  Calls prog 43 #[.string f,.string l,.int .i64 off,.int .i64 save] w fun e w'=>e= .returned (.string (abbrB f l off save))/\Below w.heap.size w w':=by
 have e1:(⟨#[37,115]⟩:ByteArray).data.toList=[37,115]:=rfl;have e2:(⟨#[37,122]⟩:ByteArray).data.toList=[37,122]:=rfl;have e3:(⟨#[47]⟩:ByteArray).data.toList=[47]:=rfl
 have K1:=Tryz.strings_Contains f ⟨#[37,115]⟩ m w (by omega) hm
 have K2:=Tryz.strings_Contains f ⟨#[37,122]⟩ m w (by omega) hm
 have HC:=Tryz.strings_Cut f ⟨#[47]⟩ m w (by omega) hm
 have hroom:∀ (s r:ByteArray),1<=s.size->r.size<=2097152->f.size+Lib.countB f s*r.size<=140737488355328:=fun s r h1 hr=>by
  have h2:=Lib.countB_le s h1 f.size f (Nat.le_refl _);have h3:=Nat.mul_le_mul (Nat.le_trans h2 hf) hr;omega
 have R1:=Tryz.strings_Replace f ⟨#[37,115]⟩ l 1 m w (by omega) hm (by decide) (hroom _ _ (by decide) hl)
 have R2:=fun z (hb:Below w.heap.size w z)=>Tryz.strings_Replace f ⟨#[37,122]⟩ (toldB off) 1 m z (by omega) (cell_later hb hm) (by decide) (hroom _ _ (by decide) (Nat.le_trans (told_size off) (by decide)))
 have HT:=hid (told_any off w h0 h1);rw [e1] at K1 R1;rw [e2] at K2;rw [e3] at HC;clear hm h0 h1 e1 e2 e3 hroom hf hl;unfold abbrB;generalize toldB off=T at*;generalize (⟨(Lib.replace f.data.toList [37,115] l.data.toList 1).toArray⟩:ByteArray)=P1 at*;generalize (⟨(Lib.replace f.data.toList [37,122] T.data.toList 1).toArray⟩:ByteArray)=P2 at*;generalize Lib.contains f.data.toList [37,115]=b1 at*;generalize Lib.contains f.data.toList [37,122]=b2 at*;generalize Lib.cut f.data.toList [47]=q at*;obtain ⟨q1,q2,q3⟩:=q;simp only at HC ⊢;generalize (⟨q1.toArray⟩:ByteArray)=C1 at*;generalize (⟨q2.toArray⟩:ByteArray)=C2 at*;have HK1:=hid K1;have HK2:=hid K2;have HR1:=hid R1;have HR2:=hid R2;have Hc:=hid HC;clear K1 K2 R1 R2 HC
 cases b1
 ·rw [if_neg (by decide)]
  cases b2
  ·rw [if_neg (by decide)]
   cases q3<;>cases hs:(save == 0)
   all_goals
    go_enter func43,ntmps43
    go_wp2_with (first
     |(go_at_call 71;refine HK1.out.mono ?_;rintro e w1 ⟨rfl,rfl⟩;have tok:True:=trivial;clear HK1)
     |(go_at_call 71;refine HK2.out.mono ?_;rintro e w1 ⟨rfl,rfl⟩)
     |(go_at_call 74;refine Hc.out.mono ?_;rintro e w1 ⟨rfl,hw⟩;have HW:=hid hw;clear hw))
    go_ret;exact ⟨rfl,below_drawn HW.out⟩
  ·rw [if_pos rfl]
   go_enter func43,ntmps43
   go_wp2_with (first
    |(go_at_call 71;refine HK1.out.mono ?_;rintro e w1 ⟨rfl,rfl⟩;have tok:True:=trivial;clear HK1)
    |(go_at_call 71;refine HK2.out.mono ?_;rintro e w1 ⟨rfl,rfl⟩)
    |(go_at_call 73;refine HT.out.mono ?_;rintro e w1 ⟨rfl,hb⟩;have HB:=hid hb;clear hb)
    |(go_at_call 72;refine (HR2.out _ HB.out).mono ?_;rintro e w1 ⟨rfl,hb⟩;have HB2:=hid (HB.out.trans (hb.mono HB.out.size));clear hb))
   go_ret;exact ⟨rfl,HB2.out⟩
 ·rw [if_pos rfl]
  go_enter func43,ntmps43
  go_wp2_with (first
   |(go_at_call 71;refine HK1.out.mono ?_;rintro e w1 ⟨rfl,rfl⟩)
   |(go_at_call 72;refine HR1.out.mono ?_;rintro e w1 ⟨rfl,hb⟩;have HB2:=hid hb;clear hb))
  go_ret;exact ⟨rfl,HB2.out⟩
end Abr
end
end
end Go.Proofs.YtmlejgdohcpmjaaGreatDoor
