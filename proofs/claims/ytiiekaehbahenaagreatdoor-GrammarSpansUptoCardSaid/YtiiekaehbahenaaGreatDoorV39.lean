/-
  Contracts of the code that the law reaches, and plain laws. Conditions: as each says.
-/
import Derived.Test.YtiiekaehbahenaaGreatDoorV38
set_option linter.all false
set_option maxHeartbeats 40000000
set_option maxRecDepth 100000
namespace Go.Proofs.YtiiekaehbahenaaGreatDoor
open Lib (hid)
open Tryz
section
namespace Gr
open Go.RowKit Mem Atl
abbrev ar3 (a b c:Int):Array Value:=#[.int .i64 a,.int .i64 b,.int .i64 c]
def DCk (r:Option (ClkT×Nat)) (e:Ending):Prop:=match r with
 |some x=>e= .returned (.tuple #[.agg (ar3 x.1.h x.1.m x.1.s),.int .i64 x.1.n,.int .i64 x.2])
 |none=>∃ a b c:Int,e= .returned (.tuple #[.agg (ar3 a b c),.int .i64 0,.int .i64 (-1)])
structure CkS (w:World) (a b c:Int) (W:World):Prop where
 r:Blk W w.heap.size 92 (ar3 0 0 0)
 o:Blk W (w.heap.size+1) 92 (ar3 a b c)
 hb:Below w.heap.size w W
theorem CkS.drw {w W:World} {a b c:Int} (h:CkS w a b c W) (n:Nat):CkS w a b c (W.drewN n):=⟨h.r,h.o,below_drwN' h.hb n⟩
 where below_drwN' {B:Nat} {a w:World} (h:Below B a w) (n:Nat):Below B a (w.drewN n):=⟨h.os,h.tape,h.output,h.size,h.block⟩
theorem CkS.set0 {w W:World} {a b c:Int} (h:CkS w a b c W) (v:Int):CkS w v b c (W.setCell ⟨w.heap.size+1,0,none⟩ (.int .i64 v)):=
 ⟨h.r.far (p:=⟨w.heap.size+1,0,none⟩) (by show w.heap.size≠w.heap.size+1;omega) _,h.o.set_ 0 _,h.hb.setCell (p:=⟨w.heap.size+1,0,none⟩) (by show w.heap.size<=w.heap.size+1;omega) _⟩
theorem CkS.set1 {w W:World} {a b c:Int} (h:CkS w a b c W) (v:Int):CkS w a v c (W.setCell ⟨w.heap.size+1,1,none⟩ (.int .i64 v)):=
 ⟨h.r.far (p:=⟨w.heap.size+1,1,none⟩) (by show w.heap.size≠w.heap.size+1;omega) _,h.o.set_ 1 _,h.hb.setCell (p:=⟨w.heap.size+1,1,none⟩) (by show w.heap.size<=w.heap.size+1;omega) _⟩
theorem CkS.set2 {w W:World} {a b c:Int} (h:CkS w a b c W) (v:Int):CkS w a b v (W.setCell ⟨w.heap.size+1,2,none⟩ (.int .i64 v)):=
 ⟨h.r.far (p:=⟨w.heap.size+1,2,none⟩) (by show w.heap.size≠w.heap.size+1;omega) _,h.o.set_ 2 _,h.hb.setCell (p:=⟨w.heap.size+1,2,none⟩) (by show w.heap.size<=w.heap.size+1;omega) _⟩
theorem CkS.end_ {w W:World} {a b c:Int} (h:CkS w a b c W):Blk (((W.setCell ⟨w.heap.size,0,none⟩ (.int .i64 a)).setCell ⟨w.heap.size,1,none⟩ (.int .i64 b)).setCell ⟨w.heap.size,2,none⟩ (.int .i64 c)) w.heap.size 92 (ar3 a b c)/\
  Below w.heap.size w (((W.setCell ⟨w.heap.size,0,none⟩ (.int .i64 a)).setCell ⟨w.heap.size,1,none⟩ (.int .i64 b)).setCell ⟨w.heap.size,2,none⟩ (.int .i64 c)):=
 ⟨by simpa using ((h.r.set_ 0 (.int .i64 a)).set_ 1 (.int .i64 b)).set_ 2 (.int .i64 c),((h.hb.setCell (p:=⟨w.heap.size,0,none⟩) (Nat.le_refl _) _).setCell (p:=⟨w.heap.size,1,none⟩) (Nat.le_refl _) _).setCell (p:=⟨w.heap.size,2,none⟩) (Nat.le_refl _) _⟩
theorem c58l:(⟨#[58]⟩:ByteArray).data.toList=[58]:=rfl
theorem two_none {l:Txt} {lo hi i:Nat} (h:digA l 2 i=none):twoA l lo hi i=none:=by rw [twoA,h];rfl
theorem two_out {l:Txt} {hi i v e:Nat} (h:digA l 2 i=some (v,e)) (hv:hi<v):twoA l 0 hi i=none:=by rw [twoA,h];simp [hv]
theorem two_in {l:Txt} {hi i v e:Nat} (h:digA l 2 i=some (v,e)) (hv:¬ hi<v):twoA l 0 hi i=some (v,e):=by rw [twoA,h];simp [hv]
theorem dclk_any (most i:Nat) (s:ByteArray) (w:World) (hs:s.size<=2097152) (hi:i<=3000000) (_hm:most<=60):
  Calls prog 49 #[.string s,.int .i64 i,.int .i64 most] w fun e w'=>DCk (clkA (tx s) most i) e/\Below w.heap.size w w':=by
 obtain ⟨h1,h2,h3,-⟩:=box2 w 92 92 (ar3 0 0 0) (ar3 0 0 0);have HS:=hid (CkS.mk h1 h2 h3);have c0:=h2.cell;have f0:=h2.frozen;have cr:=h1.cell;have fr:=h1.frozen;clear h1 h2 h3;obtain ⟨R,hR⟩:∃ R,clkA (tx s) most i=R:=⟨_,rfl⟩;rw [hR];unfold clkA at hR
 have HNum:=hid (fun (j:Nat) (hj:j<=4000000) (z:World)=>dnum_any s j 2 z hs hj (by omega))
 have HIs:=hid (fun (j:Nat) (hj:j<=4000000) (z:World)=>dis_any ⟨#[58]⟩ s j z (by decide) hs (by omega))
 rw [c58l] at HIs
 have HDg:=hid (fun (j:Nat) (hj:j<=4000000) (z:World)=>ddig_any s j z hs (by omega))
 have HR:=hid hR;clear hR
 have HN0:=hid (HNum.out i (by omega))
 rcases hdig:digA (tx s) 2 i with _|⟨h,e⟩
 ·rw [hdig] at HN0
  simp only [numO] at HN0;have hR:=HR.out;rw [two_none hdig] at hR;subst hR;clear HR hdig;go_enter func49,ntmps49
  go_wp2_with (go_at_call 74;generalize World.alloc _ _=W at *;refine (HN0.out W).mono ?_;rintro e w1 ⟨rfl,q,rfl⟩;have HS1:=hid (HS.out.drw q);have HS2:=hid (HS1.out.set0 (-1));clear c0 f0 cr fr HS;generalize W.drewN q=W1 at *;have c0:=HS1.out.o.cell;have f0:=HS1.out.o.frozen;have cr:=HS1.out.r.cell;have fr:=HS1.out.r.frozen)
  obtain ⟨bF,hF⟩:=HS2.out.end_;clear HS2 HS1 c0 f0 cr fr;generalize World.setCell _ ⟨w.heap.size,2,none⟩ _=WF at*;have cF:=bF.cell
  exact bodyPost_ret (v:= .tuple #[.agg (ar3 (-1) 0 0),.int .i64 0,.int .i64 (-1)]) (by simp [results,Tryz.results49,go_sem,cF]) rfl ⟨⟨_,_,_,rfl⟩,hF⟩
 ·rw [hdig] at HN0
  simp only [numO] at HN0
  by_cases h23:23<h
  ·have q1:decide ((h:Int)<0)=false:=decide_eq_false (by omega)
   have q2:decide ((23:Int)<h)=true:=decide_eq_true (by omega)
   have hR:=HR.out;rw [two_out hdig h23] at hR;subst hR;clear HR hdig;go_enter func49,ntmps49
   go_wp2_with (go_at_call 74;generalize World.alloc _ _=W at *;refine (HN0.out W).mono ?_;rintro e w1 ⟨rfl,q,rfl⟩;have HS1:=hid (HS.out.drw q);have HS2:=hid (HS1.out.set0 h);clear c0 f0 cr fr HS;generalize W.drewN q=W1 at *;have c0:=HS1.out.o.cell;have f0:=HS1.out.o.frozen;have cr:=HS1.out.r.cell;have fr:=HS1.out.r.frozen)
   obtain ⟨bF,hF⟩:=HS2.out.end_;clear HS2 HS1 c0 f0 cr fr;generalize World.setCell _ ⟨w.heap.size,2,none⟩ _=WF at*;have cF:=bF.cell
   exact bodyPost_ret (v:= .tuple #[.agg (ar3 h 0 0),.int .i64 0,.int .i64 (-1)]) (by simp [results,Tryz.results49,go_sem,cF]) rfl ⟨⟨_,_,_,rfl⟩,hF⟩
  ·have q1:decide ((h:Int)<0)=false:=decide_eq_false (by omega)
   have q2:decide ((23:Int)<h)=false:=decide_eq_false (by omega)
   have hR:=HR.out;rw [two_in hdig h23] at hR;simp only [Option.bind_some] at hR;obtain rfl:e=i+2:=(num_le hdig).1;have HR:=hid hR;clear hR hdig
   have HIs0:=hid (HIs.out (i+2) (by omega))
   obtain ⟨L,hL⟩:∃ L,oneA (tx s) [58] (i+2)=L:=⟨_,rfl⟩;rw [hL] at HR HIs0;clear hL
   cases L
   ·go_enter func49,ntmps49
    go_wp2_with (first
     |(go_at_call 74;generalize World.alloc _ _=W at *;refine (HN0.out W).mono ?_;rintro e w1 ⟨rfl,q,rfl⟩;have HS1:=hid (HS.out.drw q);have HS2:=hid (HS1.out.set0 h);clear c0 f0 cr fr HS;generalize W.drewN q=W1 at *;have c0:=HS1.out.o.cell;have f0:=HS1.out.o.frozen;have cr:=HS1.out.r.cell;have fr:=HS1.out.r.frozen)
     |(go_at_call 20;generalize World.setCell _ _ _=W2 at *;refine (HIs0.out W2).mono ?_;rintro e w1 ⟨rfl,q,rfl⟩;have HS3:=hid (HS2.out.drw q);clear HS1 HS2 c0 f0 cr fr;generalize W2.drewN q=W3 at *))
    clear HN0 HIs0
    go_loopw [1,11,12] (fun a k _ wr=>∃ iN:Nat,a= .int .i64 iN/\((k= .int .i64 1/\iN<=i+2/\CkS w h 0 0 wr/\minA (tx s) most false h iN=R)\/(k= .int .i64 2/\iN<=i+5/\∃ m:Nat,CkS w h m 0 wr/\secA (tx s) most false h m iN=R)\/(k= .int .i64 3/\∃ m x:Nat,CkS w h m x wr/\some (ClkT.mk h m x 3,iN)=R))) (fun _ k _ _=>3 - (intOf k).toNat)
    case atStart=>exact ⟨i+2,by go_num,.inl ⟨rfl,by omega,HS3.out,HR.out⟩⟩
    case round=>
     clear HR HS3
     obtain ⟨iN,rfl,⟨rfl,hb,hst,hR⟩|⟨rfl,hb,m,hst,hR⟩|⟨rfl,m,x,hst,hR⟩⟩:=hrel
     ·have HS:=hid hst
      have c0:=HS.out.o.cell;have f0:=HS.out.o.frozen;have cr:=HS.out.r.cell;have fr:=HS.out.r.frozen
      have HC:=hid (HDg.out iN (by omega))
      have HN:=hid (HNum.out (iN) (by omega))
      unfold minA at hR;rw [show moreA (tx s) false iN=dgA (tx s) iN from rfl,show skipA false iN=iN from rfl] at hR;obtain ⟨M,hM⟩:∃ M,dgA (tx s) iN=M:=⟨_,rfl⟩;rw [hM] at hR HC;clear hM hst
      cases M
      ·simp only [Bool.false_eq_true,if_false] at hR
       subst hR
       go_wp2_with (go_at_call 32;refine (HC.out _).mono ?_;rintro e w1 ⟨rfl,q,rfl⟩;have HS1:=hid (HS.out.drw q);clear c0 f0 cr fr HS;generalize World.drewN _ q=W1 at *;have c0:=HS1.out.o.cell;have f0:=HS1.out.o.frozen;have cr:=HS1.out.r.cell;have fr:=HS1.out.r.frozen)
       obtain ⟨bF,hF⟩:=HS1.out.end_;clear HS1 c0 f0 cr fr;generalize World.setCell _ ⟨w.heap.size,2,none⟩ _=WF at*;have cF:=bF.cell
       exact bodyPost_ret (v:= .tuple #[.agg (ar3 h 0 0),.int .i64 1,.int .i64 iN]) (by simp [results,Tryz.results49,go_sem,cF]) rfl ⟨rfl,hF⟩
      ·simp only [if_true] at hR
       rcases hdig:digA (tx s) 2 (iN) with _|⟨v,e⟩
       ·rw [hdig] at HN
        simp only [numO] at HN;rw [two_none hdig] at hR;subst hR;clear hdig
        go_wp2_with (first
         |(go_at_call 32;refine (HC.out _).mono ?_;rintro e w1 ⟨rfl,q,rfl⟩;have HS1:=hid (HS.out.drw q);clear c0 f0 cr fr HS;generalize World.drewN _ q=W1 at *;have c0:=HS1.out.o.cell;have f0:=HS1.out.o.frozen;have cr:=HS1.out.r.cell;have fr:=HS1.out.r.frozen)
         |(go_at_call 74;refine (HN.out _).mono ?_;rintro e w2 ⟨rfl,q2,rfl⟩;have HS2:=hid (HS1.out.drw q2);have HS3:=hid (HS2.out.set1 (-1));clear c0 f0 cr fr HS1;generalize World.drewN _ q2=W2 at *;have c0:=HS2.out.o.cell;have f0:=HS2.out.o.frozen;have cr:=HS2.out.r.cell;have fr:=HS2.out.r.frozen))
        obtain ⟨bF,hF⟩:=HS3.out.end_;clear HS3 HS2 c0 f0 cr fr;generalize World.setCell _ ⟨w.heap.size,2,none⟩ _=WF at*;have cF:=bF.cell
        exact bodyPost_ret (v:= .tuple #[.agg (ar3 h (-1) 0),.int .i64 0,.int .i64 (-1)]) (by simp [results,Tryz.results49,go_sem,cF]) rfl ⟨⟨_,_,_,rfl⟩,hF⟩
       ·rw [hdig] at HN
        simp only [numO] at HN
        have q3:decide ((v:Int)<0)=false:=decide_eq_false (by omega)
        by_cases hv:59<v
        ·have q4:decide ((59:Int)<v)=true:=decide_eq_true (by omega)
         rw [two_out hdig hv] at hR;subst hR;clear hdig
         go_wp2_with (first
          |(go_at_call 32;refine (HC.out _).mono ?_;rintro e w1 ⟨rfl,q,rfl⟩;have HS1:=hid (HS.out.drw q);clear c0 f0 cr fr HS;generalize World.drewN _ q=W1 at *;have c0:=HS1.out.o.cell;have f0:=HS1.out.o.frozen;have cr:=HS1.out.r.cell;have fr:=HS1.out.r.frozen)
          |(go_at_call 74;refine (HN.out _).mono ?_;rintro e w2 ⟨rfl,q2,rfl⟩;have HS2:=hid (HS1.out.drw q2);have HS3:=hid (HS2.out.set1 v);clear c0 f0 cr fr HS1;generalize World.drewN _ q2=W2 at *;have c0:=HS2.out.o.cell;have f0:=HS2.out.o.frozen;have cr:=HS2.out.r.cell;have fr:=HS2.out.r.frozen))
         obtain ⟨bF,hF⟩:=HS3.out.end_;clear HS3 HS2 c0 f0 cr fr;generalize World.setCell _ ⟨w.heap.size,2,none⟩ _=WF at*;have cF:=bF.cell
         exact bodyPost_ret (v:= .tuple #[.agg (ar3 h v 0),.int .i64 0,.int .i64 (-1)]) (by simp [results,Tryz.results49,go_sem,cF]) rfl ⟨⟨_,_,_,rfl⟩,hF⟩
        ·have q4:decide ((59:Int)<v)=false:=decide_eq_false (by omega)
         obtain rfl:e=iN+2:=(num_le hdig).1;rw [two_in hdig hv] at hR;simp only [Option.bind_some] at hR;clear hdig;have HR2:=hid hR;clear hR
         go_wp2_with (first
          |(go_at_call 32;refine (HC.out _).mono ?_;rintro e w1 ⟨rfl,q,rfl⟩;have HS1:=hid (HS.out.drw q);clear c0 f0 cr fr HS;generalize World.drewN _ q=W1 at *;have c0:=HS1.out.o.cell;have f0:=HS1.out.o.frozen;have cr:=HS1.out.r.cell;have fr:=HS1.out.r.frozen)
          |(go_at_call 74;refine (HN.out _).mono ?_;rintro e w2 ⟨rfl,q2,rfl⟩;have HS2:=hid (HS1.out.drw q2);have HS3:=hid (HS2.out.set1 v);clear c0 f0 cr fr HS1;generalize World.drewN _ q2=W2 at *;have c0:=HS2.out.o.cell;have f0:=HS2.out.o.frozen;have cr:=HS2.out.r.cell;have fr:=HS2.out.r.frozen))
         exact ⟨⟨iN+2,by go_num,.inr (.inl ⟨rfl,by omega,v,HS3.out,HR2.out⟩)⟩,by simp [intOf]⟩
     ·have HS:=hid hst
      have c0:=HS.out.o.cell;have f0:=HS.out.o.frozen;have cr:=HS.out.r.cell;have fr:=HS.out.r.frozen
      have HC:=hid (HDg.out iN (by omega))
      have HN:=hid (HNum.out (iN) (by omega))
      unfold secA at hR;rw [show moreA (tx s) false iN=dgA (tx s) iN from rfl,show skipA false iN=iN from rfl] at hR;obtain ⟨M,hM⟩:∃ M,dgA (tx s) iN=M:=⟨_,rfl⟩;rw [hM] at hR HC;clear hM hst
      cases M
      ·simp only [Bool.false_eq_true,if_false] at hR
       subst hR
       go_wp2_with (go_at_call 32;refine (HC.out _).mono ?_;rintro e w1 ⟨rfl,q,rfl⟩;have HS1:=hid (HS.out.drw q);clear c0 f0 cr fr HS;generalize World.drewN _ q=W1 at *;have c0:=HS1.out.o.cell;have f0:=HS1.out.o.frozen;have cr:=HS1.out.r.cell;have fr:=HS1.out.r.frozen)
       obtain ⟨bF,hF⟩:=HS1.out.end_;clear HS1 c0 f0 cr fr;generalize World.setCell _ ⟨w.heap.size,2,none⟩ _=WF at*;have cF:=bF.cell
       exact bodyPost_ret (v:= .tuple #[.agg (ar3 h m 0),.int .i64 2,.int .i64 iN]) (by simp [results,Tryz.results49,go_sem,cF]) rfl ⟨rfl,hF⟩
      ·simp only [if_true] at hR
       rcases hdig:digA (tx s) 2 (iN) with _|⟨v,e⟩
       ·rw [hdig] at HN
        simp only [numO] at HN;rw [two_none hdig] at hR;subst hR;clear hdig
        go_wp2_with (first
         |(go_at_call 32;refine (HC.out _).mono ?_;rintro e w1 ⟨rfl,q,rfl⟩;have HS1:=hid (HS.out.drw q);clear c0 f0 cr fr HS;generalize World.drewN _ q=W1 at *;have c0:=HS1.out.o.cell;have f0:=HS1.out.o.frozen;have cr:=HS1.out.r.cell;have fr:=HS1.out.r.frozen)
         |(go_at_call 74;refine (HN.out _).mono ?_;rintro e w2 ⟨rfl,q2,rfl⟩;have HS2:=hid (HS1.out.drw q2);have HS3:=hid (HS2.out.set2 (-1));clear c0 f0 cr fr HS1;generalize World.drewN _ q2=W2 at *;have c0:=HS2.out.o.cell;have f0:=HS2.out.o.frozen;have cr:=HS2.out.r.cell;have fr:=HS2.out.r.frozen))
        obtain ⟨bF,hF⟩:=HS3.out.end_;clear HS3 HS2 c0 f0 cr fr;generalize World.setCell _ ⟨w.heap.size,2,none⟩ _=WF at*;have cF:=bF.cell
        exact bodyPost_ret (v:= .tuple #[.agg (ar3 h m (-1)),.int .i64 0,.int .i64 (-1)]) (by simp [results,Tryz.results49,go_sem,cF]) rfl ⟨⟨_,_,_,rfl⟩,hF⟩
       ·rw [hdig] at HN
        simp only [numO] at HN
        have q3:decide ((v:Int)<0)=false:=decide_eq_false (by omega)
        by_cases hv:most<v
        ·have q4:decide ((most:Int)<v)=true:=decide_eq_true (by omega)
         rw [two_out hdig hv] at hR;subst hR;clear hdig
         go_wp2_with (first
          |(go_at_call 32;refine (HC.out _).mono ?_;rintro e w1 ⟨rfl,q,rfl⟩;have HS1:=hid (HS.out.drw q);clear c0 f0 cr fr HS;generalize World.drewN _ q=W1 at *;have c0:=HS1.out.o.cell;have f0:=HS1.out.o.frozen;have cr:=HS1.out.r.cell;have fr:=HS1.out.r.frozen)
          |(go_at_call 74;refine (HN.out _).mono ?_;rintro e w2 ⟨rfl,q2,rfl⟩;have HS2:=hid (HS1.out.drw q2);have HS3:=hid (HS2.out.set2 v);clear c0 f0 cr fr HS1;generalize World.drewN _ q2=W2 at *;have c0:=HS2.out.o.cell;have f0:=HS2.out.o.frozen;have cr:=HS2.out.r.cell;have fr:=HS2.out.r.frozen))
         obtain ⟨bF,hF⟩:=HS3.out.end_;clear HS3 HS2 c0 f0 cr fr;generalize World.setCell _ ⟨w.heap.size,2,none⟩ _=WF at*;have cF:=bF.cell
         exact bodyPost_ret (v:= .tuple #[.agg (ar3 h m v),.int .i64 0,.int .i64 (-1)]) (by simp [results,Tryz.results49,go_sem,cF]) rfl ⟨⟨_,_,_,rfl⟩,hF⟩
        ·have q4:decide ((most:Int)<v)=false:=decide_eq_false (by omega)
         obtain rfl:e=iN+2:=(num_le hdig).1;rw [two_in hdig hv] at hR;simp only [Option.bind_some] at hR;clear hdig;have HR2:=hid hR;clear hR
         go_wp2_with (first
          |(go_at_call 32;refine (HC.out _).mono ?_;rintro e w1 ⟨rfl,q,rfl⟩;have HS1:=hid (HS.out.drw q);clear c0 f0 cr fr HS;generalize World.drewN _ q=W1 at *;have c0:=HS1.out.o.cell;have f0:=HS1.out.o.frozen;have cr:=HS1.out.r.cell;have fr:=HS1.out.r.frozen)
          |(go_at_call 74;refine (HN.out _).mono ?_;rintro e w2 ⟨rfl,q2,rfl⟩;have HS2:=hid (HS1.out.drw q2);have HS3:=hid (HS2.out.set2 v);clear c0 f0 cr fr HS1;generalize World.drewN _ q2=W2 at *;have c0:=HS2.out.o.cell;have f0:=HS2.out.o.frozen;have cr:=HS2.out.r.cell;have fr:=HS2.out.r.frozen))
         exact ⟨⟨iN+2,by go_num,.inr (.inr ⟨rfl,m,v,HS3.out,HR2.out⟩)⟩,by simp [intOf]⟩
     ·have HS:=hid hst
      have c0:=HS.out.o.cell;have f0:=HS.out.o.frozen;have cr:=HS.out.r.cell;have fr:=HS.out.r.frozen;subst hR;clear hst;go_wp2;obtain ⟨bF,hF⟩:=HS.out.end_;clear HS c0 f0 cr fr;generalize World.setCell _ ⟨w.heap.size,2,none⟩ _=WF at*;have cF:=bF.cell
      exact bodyPost_ret (v:= .tuple #[.agg (ar3 h m x),.int .i64 3,.int .i64 iN]) (by simp [results,Tryz.results49,go_sem,cF]) rfl ⟨rfl,hF⟩
   ·go_enter func49,ntmps49
    go_wp2_with (first
     |(go_at_call 74;generalize World.alloc _ _=W at *;refine (HN0.out W).mono ?_;rintro e w1 ⟨rfl,q,rfl⟩;have HS1:=hid (HS.out.drw q);have HS2:=hid (HS1.out.set0 h);clear c0 f0 cr fr HS;generalize W.drewN q=W1 at *;have c0:=HS1.out.o.cell;have f0:=HS1.out.o.frozen;have cr:=HS1.out.r.cell;have fr:=HS1.out.r.frozen)
     |(go_at_call 20;generalize World.setCell _ _ _=W2 at *;refine (HIs0.out W2).mono ?_;rintro e w1 ⟨rfl,q,rfl⟩;have HS3:=hid (HS2.out.drw q);clear HS1 HS2 c0 f0 cr fr;generalize W2.drewN q=W3 at *))
    clear HN0 HIs0
    go_loopw [1,11,12] (fun a k _ wr=>∃ iN:Nat,a= .int .i64 iN/\((k= .int .i64 1/\iN<=i+2/\CkS w h 0 0 wr/\minA (tx s) most true h iN=R)\/(k= .int .i64 2/\iN<=i+5/\∃ m:Nat,CkS w h m 0 wr/\secA (tx s) most true h m iN=R)\/(k= .int .i64 3/\∃ m x:Nat,CkS w h m x wr/\some (ClkT.mk h m x 3,iN)=R))) (fun _ k _ _=>3 - (intOf k).toNat)
    case atStart=>exact ⟨i+2,by go_num,.inl ⟨rfl,by omega,HS3.out,HR.out⟩⟩
    case round=>
     clear HR HS3
     obtain ⟨iN,rfl,⟨rfl,hb,hst,hR⟩|⟨rfl,hb,m,hst,hR⟩|⟨rfl,m,x,hst,hR⟩⟩:=hrel
     ·have HS:=hid hst
      have c0:=HS.out.o.cell;have f0:=HS.out.o.frozen;have cr:=HS.out.r.cell;have fr:=HS.out.r.frozen
      have HC:=hid (HIs.out iN (by omega))
      have HN:=hid (HNum.out (iN+1) (by omega))
      unfold minA at hR;rw [show moreA (tx s) true iN=oneA (tx s) [58] iN from rfl,show skipA true iN=iN+1 from rfl] at hR;obtain ⟨M,hM⟩:∃ M,oneA (tx s) [58] iN=M:=⟨_,rfl⟩;rw [hM] at hR HC;clear hM hst
      cases M
      ·simp only [Bool.false_eq_true,if_false] at hR
       subst hR
       go_wp2_with (go_at_call 20;refine (HC.out _).mono ?_;rintro e w1 ⟨rfl,q,rfl⟩;have HS1:=hid (HS.out.drw q);clear c0 f0 cr fr HS;generalize World.drewN _ q=W1 at *;have c0:=HS1.out.o.cell;have f0:=HS1.out.o.frozen;have cr:=HS1.out.r.cell;have fr:=HS1.out.r.frozen)
       obtain ⟨bF,hF⟩:=HS1.out.end_;clear HS1 c0 f0 cr fr;generalize World.setCell _ ⟨w.heap.size,2,none⟩ _=WF at*;have cF:=bF.cell
       exact bodyPost_ret (v:= .tuple #[.agg (ar3 h 0 0),.int .i64 1,.int .i64 iN]) (by simp [results,Tryz.results49,go_sem,cF]) rfl ⟨rfl,hF⟩
      ·simp only [if_true] at hR
       rcases hdig:digA (tx s) 2 (iN+1) with _|⟨v,e⟩
       ·rw [hdig] at HN
        simp only [numO] at HN;rw [two_none hdig] at hR;subst hR;clear hdig
        go_wp2_with (first
         |(go_at_call 20;refine (HC.out _).mono ?_;rintro e w1 ⟨rfl,q,rfl⟩;have HS1:=hid (HS.out.drw q);clear c0 f0 cr fr HS;generalize World.drewN _ q=W1 at *;have c0:=HS1.out.o.cell;have f0:=HS1.out.o.frozen;have cr:=HS1.out.r.cell;have fr:=HS1.out.r.frozen)
         |(go_at_call 74;refine (HN.out _).mono ?_;rintro e w2 ⟨rfl,q2,rfl⟩;have HS2:=hid (HS1.out.drw q2);have HS3:=hid (HS2.out.set1 (-1));clear c0 f0 cr fr HS1;generalize World.drewN _ q2=W2 at *;have c0:=HS2.out.o.cell;have f0:=HS2.out.o.frozen;have cr:=HS2.out.r.cell;have fr:=HS2.out.r.frozen))
        obtain ⟨bF,hF⟩:=HS3.out.end_;clear HS3 HS2 c0 f0 cr fr;generalize World.setCell _ ⟨w.heap.size,2,none⟩ _=WF at*;have cF:=bF.cell
        exact bodyPost_ret (v:= .tuple #[.agg (ar3 h (-1) 0),.int .i64 0,.int .i64 (-1)]) (by simp [results,Tryz.results49,go_sem,cF]) rfl ⟨⟨_,_,_,rfl⟩,hF⟩
       ·rw [hdig] at HN
        simp only [numO] at HN
        have q3:decide ((v:Int)<0)=false:=decide_eq_false (by omega)
        by_cases hv:59<v
        ·have q4:decide ((59:Int)<v)=true:=decide_eq_true (by omega)
         rw [two_out hdig hv] at hR;subst hR;clear hdig
         go_wp2_with (first
          |(go_at_call 20;refine (HC.out _).mono ?_;rintro e w1 ⟨rfl,q,rfl⟩;have HS1:=hid (HS.out.drw q);clear c0 f0 cr fr HS;generalize World.drewN _ q=W1 at *;have c0:=HS1.out.o.cell;have f0:=HS1.out.o.frozen;have cr:=HS1.out.r.cell;have fr:=HS1.out.r.frozen)
          |(go_at_call 74;refine (HN.out _).mono ?_;rintro e w2 ⟨rfl,q2,rfl⟩;have HS2:=hid (HS1.out.drw q2);have HS3:=hid (HS2.out.set1 v);clear c0 f0 cr fr HS1;generalize World.drewN _ q2=W2 at *;have c0:=HS2.out.o.cell;have f0:=HS2.out.o.frozen;have cr:=HS2.out.r.cell;have fr:=HS2.out.r.frozen))
         obtain ⟨bF,hF⟩:=HS3.out.end_;clear HS3 HS2 c0 f0 cr fr;generalize World.setCell _ ⟨w.heap.size,2,none⟩ _=WF at*;have cF:=bF.cell
         exact bodyPost_ret (v:= .tuple #[.agg (ar3 h v 0),.int .i64 0,.int .i64 (-1)]) (by simp [results,Tryz.results49,go_sem,cF]) rfl ⟨⟨_,_,_,rfl⟩,hF⟩
        ·have q4:decide ((59:Int)<v)=false:=decide_eq_false (by omega)
         obtain rfl:e=iN+1+2:=(num_le hdig).1;rw [two_in hdig hv] at hR;simp only [Option.bind_some] at hR;clear hdig;have HR2:=hid hR;clear hR
         go_wp2_with (first
          |(go_at_call 20;refine (HC.out _).mono ?_;rintro e w1 ⟨rfl,q,rfl⟩;have HS1:=hid (HS.out.drw q);clear c0 f0 cr fr HS;generalize World.drewN _ q=W1 at *;have c0:=HS1.out.o.cell;have f0:=HS1.out.o.frozen;have cr:=HS1.out.r.cell;have fr:=HS1.out.r.frozen)
          |(go_at_call 74;refine (HN.out _).mono ?_;rintro e w2 ⟨rfl,q2,rfl⟩;have HS2:=hid (HS1.out.drw q2);have HS3:=hid (HS2.out.set1 v);clear c0 f0 cr fr HS1;generalize World.drewN _ q2=W2 at *;have c0:=HS2.out.o.cell;have f0:=HS2.out.o.frozen;have cr:=HS2.out.r.cell;have fr:=HS2.out.r.frozen))
         exact ⟨⟨iN+1+2,by go_num,.inr (.inl ⟨rfl,by omega,v,HS3.out,HR2.out⟩)⟩,by simp [intOf]⟩
     ·have HS:=hid hst
      have c0:=HS.out.o.cell;have f0:=HS.out.o.frozen;have cr:=HS.out.r.cell;have fr:=HS.out.r.frozen
      have HC:=hid (HIs.out iN (by omega))
      have HN:=hid (HNum.out (iN+1) (by omega))
      unfold secA at hR;rw [show moreA (tx s) true iN=oneA (tx s) [58] iN from rfl,show skipA true iN=iN+1 from rfl] at hR;obtain ⟨M,hM⟩:∃ M,oneA (tx s) [58] iN=M:=⟨_,rfl⟩;rw [hM] at hR HC;clear hM hst
      cases M
      ·simp only [Bool.false_eq_true,if_false] at hR
       subst hR
       go_wp2_with (go_at_call 20;refine (HC.out _).mono ?_;rintro e w1 ⟨rfl,q,rfl⟩;have HS1:=hid (HS.out.drw q);clear c0 f0 cr fr HS;generalize World.drewN _ q=W1 at *;have c0:=HS1.out.o.cell;have f0:=HS1.out.o.frozen;have cr:=HS1.out.r.cell;have fr:=HS1.out.r.frozen)
       obtain ⟨bF,hF⟩:=HS1.out.end_;clear HS1 c0 f0 cr fr;generalize World.setCell _ ⟨w.heap.size,2,none⟩ _=WF at*;have cF:=bF.cell
       exact bodyPost_ret (v:= .tuple #[.agg (ar3 h m 0),.int .i64 2,.int .i64 iN]) (by simp [results,Tryz.results49,go_sem,cF]) rfl ⟨rfl,hF⟩
      ·simp only [if_true] at hR
       rcases hdig:digA (tx s) 2 (iN+1) with _|⟨v,e⟩
       ·rw [hdig] at HN
        simp only [numO] at HN;rw [two_none hdig] at hR;subst hR;clear hdig
        go_wp2_with (first
         |(go_at_call 20;refine (HC.out _).mono ?_;rintro e w1 ⟨rfl,q,rfl⟩;have HS1:=hid (HS.out.drw q);clear c0 f0 cr fr HS;generalize World.drewN _ q=W1 at *;have c0:=HS1.out.o.cell;have f0:=HS1.out.o.frozen;have cr:=HS1.out.r.cell;have fr:=HS1.out.r.frozen)
         |(go_at_call 74;refine (HN.out _).mono ?_;rintro e w2 ⟨rfl,q2,rfl⟩;have HS2:=hid (HS1.out.drw q2);have HS3:=hid (HS2.out.set2 (-1));clear c0 f0 cr fr HS1;generalize World.drewN _ q2=W2 at *;have c0:=HS2.out.o.cell;have f0:=HS2.out.o.frozen;have cr:=HS2.out.r.cell;have fr:=HS2.out.r.frozen))
        obtain ⟨bF,hF⟩:=HS3.out.end_;clear HS3 HS2 c0 f0 cr fr;generalize World.setCell _ ⟨w.heap.size,2,none⟩ _=WF at*;have cF:=bF.cell
        exact bodyPost_ret (v:= .tuple #[.agg (ar3 h m (-1)),.int .i64 0,.int .i64 (-1)]) (by simp [results,Tryz.results49,go_sem,cF]) rfl ⟨⟨_,_,_,rfl⟩,hF⟩
       ·rw [hdig] at HN
        simp only [numO] at HN
        have q3:decide ((v:Int)<0)=false:=decide_eq_false (by omega)
        by_cases hv:most<v
        ·have q4:decide ((most:Int)<v)=true:=decide_eq_true (by omega)
         rw [two_out hdig hv] at hR;subst hR;clear hdig
         go_wp2_with (first
          |(go_at_call 20;refine (HC.out _).mono ?_;rintro e w1 ⟨rfl,q,rfl⟩;have HS1:=hid (HS.out.drw q);clear c0 f0 cr fr HS;generalize World.drewN _ q=W1 at *;have c0:=HS1.out.o.cell;have f0:=HS1.out.o.frozen;have cr:=HS1.out.r.cell;have fr:=HS1.out.r.frozen)
          |(go_at_call 74;refine (HN.out _).mono ?_;rintro e w2 ⟨rfl,q2,rfl⟩;have HS2:=hid (HS1.out.drw q2);have HS3:=hid (HS2.out.set2 v);clear c0 f0 cr fr HS1;generalize World.drewN _ q2=W2 at *;have c0:=HS2.out.o.cell;have f0:=HS2.out.o.frozen;have cr:=HS2.out.r.cell;have fr:=HS2.out.r.frozen))
         obtain ⟨bF,hF⟩:=HS3.out.end_;clear HS3 HS2 c0 f0 cr fr;generalize World.setCell _ ⟨w.heap.size,2,none⟩ _=WF at*;have cF:=bF.cell
         exact bodyPost_ret (v:= .tuple #[.agg (ar3 h m v),.int .i64 0,.int .i64 (-1)]) (by simp [results,Tryz.results49,go_sem,cF]) rfl ⟨⟨_,_,_,rfl⟩,hF⟩
        ·have q4:decide ((most:Int)<v)=false:=decide_eq_false (by omega)
         obtain rfl:e=iN+1+2:=(num_le hdig).1;rw [two_in hdig hv] at hR;simp only [Option.bind_some] at hR;clear hdig;have HR2:=hid hR;clear hR
         go_wp2_with (first
          |(go_at_call 20;refine (HC.out _).mono ?_;rintro e w1 ⟨rfl,q,rfl⟩;have HS1:=hid (HS.out.drw q);clear c0 f0 cr fr HS;generalize World.drewN _ q=W1 at *;have c0:=HS1.out.o.cell;have f0:=HS1.out.o.frozen;have cr:=HS1.out.r.cell;have fr:=HS1.out.r.frozen)
          |(go_at_call 74;refine (HN.out _).mono ?_;rintro e w2 ⟨rfl,q2,rfl⟩;have HS2:=hid (HS1.out.drw q2);have HS3:=hid (HS2.out.set2 v);clear c0 f0 cr fr HS1;generalize World.drewN _ q2=W2 at *;have c0:=HS2.out.o.cell;have f0:=HS2.out.o.frozen;have cr:=HS2.out.r.cell;have fr:=HS2.out.r.frozen))
         exact ⟨⟨iN+1+2,by go_num,.inr (.inr ⟨rfl,m,v,HS3.out,HR2.out⟩)⟩,by simp [intOf]⟩
     ·have HS:=hid hst
      have c0:=HS.out.o.cell;have f0:=HS.out.o.frozen;have cr:=HS.out.r.cell;have fr:=HS.out.r.frozen;subst hR;clear hst;go_wp2;obtain ⟨bF,hF⟩:=HS.out.end_;clear HS c0 f0 cr fr;generalize World.setCell _ ⟨w.heap.size,2,none⟩ _=WF at*;have cF:=bF.cell
      exact bodyPost_ret (v:= .tuple #[.agg (ar3 h m x),.int .i64 3,.int .i64 iN]) (by simp [results,Tryz.results49,go_sem,cF]) rfl ⟨rfl,hF⟩
end Gr
end
end Go.Proofs.YtiiekaehbahenaaGreatDoor
