/-
  Contracts of the code that the law reaches, and plain laws. Conditions: as each says.
-/
import Derived.Test.YtiiekaehbahenaaGreatDoorV42
set_option linter.all false
set_option maxHeartbeats 40000000
set_option maxRecDepth 100000
namespace Go.Proofs.YtiiekaehbahenaaGreatDoor
open Lib (hid)
open Tryz
section
namespace Gr
open Go.RowKit Mem Atl Wid RefZ Dig
theorem made24 (n:Nat->Bool) (A:Nat->Option Addr) (k c:Nat->Nat) (F:List Int) (L:Nat) (pt un:Int) (neg:Bool) (w:World) (ha:Arr w n A k c F L) (hL:L<=3000) (hF:F.length=8) (hp:∀ v∈F,0<=v) (hpt:pt<=0\/(pt<1000000000/\(un=4\/un=5\/un=6))) (ta:Bool) (lt:Int) (sm:Bool):
  Calls prog 38 #[.agg (zC n A k c),.int .i64 pt,.int .i64 un,.bool neg] w fun r w'=>r= .returned (.tuple #[.agg (durF (fun j=>(madeB neg ⟨ta,sm,lt,pt,un,F⟩).1.getD j 0)),.int .i64 (madeB neg ⟨ta,sm,lt,pt,un,F⟩).2])/\Below w.heap.size w w':=by
 obtain ⟨G,hG⟩:∃ G,madeF ⟨ta,sm,lt,pt,un,F⟩=G:=⟨_,rfl⟩;obtain ⟨B,hB⟩:∃ B:List Int×Nat,madeB neg ⟨ta,sm,lt,pt,un,F⟩=B:=⟨_,rfl⟩;rw [hB];have HG:=hid hG;have HBB:=hid hB;clear hG hB;have HA:=hid ha;clear ha;have hbx:=box2 w 71 32 (zC n A k c) #[.int .i64 0,.int .i64 0,.int .i64 0,.int .i64 0,.int .i64 0,.int .i64 0,.int .i64 0,.int .i64 0];have HB:=hid hbx;clear hbx;go_enter func38,ntmps38
 go_upto_if 20 with fail
 go_cut [] (fun wx=>∃ (n:Nat->Bool) (A:Nat->Option Addr) (k c:Nat->Nat) (L:Nat),L<=500000/\Blk wx w.heap.size 71 (zC n A k c)/\Arr wx n A k c G L/\Blk wx (w.heap.size+1) 32 #[.int .i64 0,.int .i64 0,.int .i64 0,.int .i64 0,.int .i64 0,.int .i64 0,.int .i64 0,.int .i64 0]/\Below w.heap.size w wx)
 case rest=>
  obtain ⟨n1,A1,k1,c1,L1,hL1,b1,hA1,b2,hbel⟩:=hcut;clear HB HA
  have M0:MSt wc G 0 (wc.alloc (.cells #[.int .i64 0,.int .i64 0,.int .i64 0,.int .i64 0,.int .i64 0,.int .i64 0,.int .i64 0,.int .i64 0] 130)):=⟨(Below.refl _ _).alloc (Nat.le_refl _) _,Blk.new _ _ _,fun m h=>by omega⟩
  have H1:=hid M0;have H0:=hid (And.intro b1 (And.intro hA1 (And.intro b2 hbel)));clear b1 hA1 b2 hbel M0
  go_wp2_with fail
  generalize World.alloc _ _=W2 at*
  go_loopw [15] (fun i wr=>∃ j:Nat,j<=8/\i= .int .i64 j/\MSt wc G j wr) (fun i _=>8 - (intOf i).toNat)
  case atStart=>exact ⟨0,by omega,rfl,H1.out⟩
  case round=>
   clear H1;obtain ⟨j,hj,rfl,hm⟩:=hrel;have HM:=hid hm
   by_cases hj8:j<8
   ·have q1:decide ((j:Int)<8)=true:=decide_eq_true (by omega)
    have bL:=H0.out.1.below hm.bw H0.out.1.lt;have x0:=zC_cell0 bL hj8;have x1:=zC_cell1 bL hj8;have ad:=addr_at w.heap.size (j*2);obtain ⟨ds,hz⟩:=(H0.out.2.1.below hm.bw) j hj8
    have HF:=hid (fits_any _ _ _ _ _ _ _ wr hz (by omega))
    have j0:(0:Int)<=(j:Int):=by omega
    obtain ⟨X,hX⟩:∃ X,G.getD j 0=X:=⟨_,rfl⟩;rw [hX] at HF;have HX:=hid hX;clear hm hz hX bL
    go_wp2_with fail
    go_at_call 77
    refine HF.out.mono ?_
    rintro e w3 ⟨rfl,hb3⟩;have h3:=HM.out.step hb3;have H3:=hid h3
    by_cases hin:Chk.In64 X
    ·have d1:decIn X=true:=decide_eq_true hin
     rw [d1,Chk.fitV_yes hin];have oc:=durF_cell h3.bO hj8;have fr:=h3.bO.frozen j;have ad2:=addr_at wc.heap.size j;clear h3 hb3 x0 x1 ad;go_wp2
     refine ⟨⟨j+1,by omega,by go_num,H3.out.next hj8 HX.out hin⟩,by simp [intOf];omega⟩
    ·have d1:decIn X=false:=decide_eq_false hin
     rw [d1];have bR:=H0.out.2.2.1.below h3.bw H0.out.2.2.1.lt;have cR:=bR.cell;have fR:=bR.frozen;have kb:=H0.out.2.2.2.trans (h3.bw.mono H0.out.2.2.2.size);have HR:=hid (And.intro bR kb)
     have hBn:B=(z8,4):=by
      have hp2:=made_pos hF hp hpt (ta:=ta) (lt:=lt) (sm:=sm)
      have hx0:0<=X:=by
       rw [<-HX.out,<-HG.out];exact getD_pos hp2 j
      have hx1:maxI<G.getD j 0:=by rw [HX.out];simp only [Chk.In64,maxI] at hin ⊢;omega
      have:=not_all hx1;rw [<-HBB.out,madeB,HG.out,this]
      rfl
     subst hBn;clear h3 hb3 x0 x1 ad bR kb;go_wp2
     have hF:=((((((((HR.out.2.setCell (p:=⟨w.heap.size+1,0,none⟩) (by show w.heap.size<=w.heap.size+1;omega) (.int .i64 0)).setCell (p:=⟨w.heap.size+1,1,none⟩) (by show w.heap.size<=w.heap.size+1;omega) (.int .i64 0)).setCell (p:=⟨w.heap.size+1,2,none⟩) (by show w.heap.size<=w.heap.size+1;omega) (.int .i64 0)).setCell (p:=⟨w.heap.size+1,3,none⟩) (by show w.heap.size<=w.heap.size+1;omega) (.int .i64 0)).setCell (p:=⟨w.heap.size+1,4,none⟩) (by show w.heap.size<=w.heap.size+1;omega) (.int .i64 0)).setCell (p:=⟨w.heap.size+1,5,none⟩) (by show w.heap.size<=w.heap.size+1;omega) (.int .i64 0)).setCell (p:=⟨w.heap.size+1,6,none⟩) (by show w.heap.size<=w.heap.size+1;omega) (.int .i64 0)).setCell (p:=⟨w.heap.size+1,7,none⟩) (by show w.heap.size<=w.heap.size+1;omega) (.int .i64 0))
     have bF:=((((((((HR.out.1.set_ 0 (.int .i64 0)).set_ 1 (.int .i64 0)).set_ 2 (.int .i64 0)).set_ 3 (.int .i64 0)).set_ 4 (.int .i64 0)).set_ 5 (.int .i64 0)).set_ 6 (.int .i64 0)).set_ 7 (.int .i64 0));clear cR fR HR;generalize World.setCell _ ⟨w.heap.size+1,7,none⟩ _=WF at*;simp only [List.setIfInBounds_toArray,List.set_cons_succ,List.set_cons_zero] at bF;have cF:=bF.cell
     exact bodyPost_ret (v:= .tuple #[.agg #[.int .i64 0,.int .i64 0,.int .i64 0,.int .i64 0,.int .i64 0,.int .i64 0,.int .i64 0,.int .i64 0],.int .i64 4]) (by simp [results,Tryz.results38,go_sem,cF]) rfl ⟨rfl,hF⟩
   ·obtain rfl:j=8:=by omega
    obtain ⟨a1,a2,a3,a4,a5,a6,a7,a8,hG8⟩:=nat8 (F:=G) (by rw [<-HG.out];exact made_len hF) (by rw [<-HG.out];exact made_pos hF hp hpt)
    subst hG8;have hD:=oct_fit a1 a2 a3 a4 a5 a6 a7 a8 hm.ok;have bO:Blk wr wc.heap.size 130 (durV a1 a2 a3 a4 a5 a6 a7 a8):=hm.bO;have c3:=bO.cell
    have q1:decide (((8:Nat):Int)<8)=false:=by decide
    obtain ⟨R,hR⟩:∃ R,rightB (oct a1 a2 a3 a4 a5 a6 a7 a8)=R:=⟨_,rfl⟩;have HRt:=hid (fun z=>right18 a1 a2 a3 a4 a5 a6 a7 a8 hD z);rw [hR] at HRt;have HNg:=hid (fun z=>neg18x a1 a2 a3 a4 a5 a6 a7 a8 hD z);have hB:=HBB.out;rw [madeB,HG.out,right_oct,hR,all_oct hD] at hB;clear hm bO hR
    cases R
    ·simp only [Bool.and_false,Bool.false_eq_true,if_false] at hB
     subst hB
     go_wp2_with (first
      |(go_at_call 78;refine (made18 _ _ _ _ _ _ _ _ _).mono ?_;rintro e w4 ⟨rfl,hb4⟩;have k4':=HM.out.step hb4;have k4:=k4'.step ((Below.refl _ _).alloc (Nat.le_refl _) (.cells (durV a1 a2 a3 a4 a5 a6 a7 a8) 32));have bD:=Blk.new w4 32 (durV a1 a2 a3 a4 a5 a6 a7 a8);clear hb4 k4')
      |(go_at_call 79;refine (HRt.out _).mono ?_;rintro e w5 ⟨rfl,hb5⟩;have k5:=k4.step hb5;have bD5:=bD.below hb5 bD.lt;have cD:=bD5.cell;have bR:=H0.out.2.2.1.below k5.bw H0.out.2.2.1.lt;have HR:=hid (And.intro bR (H0.out.2.2.2.trans (k5.bw.mono H0.out.2.2.2.size)));have cR:=bR.cell;have fR:=bR.frozen;clear hb5 bR c3 bD5 bD))
     go_wp2
     have hF:=((((((((HR.out.2.setCell (p:=⟨w.heap.size+1,0,none⟩) (by show w.heap.size<=w.heap.size+1;omega) (.int .i64 0)).setCell (p:=⟨w.heap.size+1,1,none⟩) (by show w.heap.size<=w.heap.size+1;omega) (.int .i64 0)).setCell (p:=⟨w.heap.size+1,2,none⟩) (by show w.heap.size<=w.heap.size+1;omega) (.int .i64 0)).setCell (p:=⟨w.heap.size+1,3,none⟩) (by show w.heap.size<=w.heap.size+1;omega) (.int .i64 0)).setCell (p:=⟨w.heap.size+1,4,none⟩) (by show w.heap.size<=w.heap.size+1;omega) (.int .i64 0)).setCell (p:=⟨w.heap.size+1,5,none⟩) (by show w.heap.size<=w.heap.size+1;omega) (.int .i64 0)).setCell (p:=⟨w.heap.size+1,6,none⟩) (by show w.heap.size<=w.heap.size+1;omega) (.int .i64 0)).setCell (p:=⟨w.heap.size+1,7,none⟩) (by show w.heap.size<=w.heap.size+1;omega) (.int .i64 0))
     have bF:=((((((((HR.out.1.set_ 0 (.int .i64 0)).set_ 1 (.int .i64 0)).set_ 2 (.int .i64 0)).set_ 3 (.int .i64 0)).set_ 4 (.int .i64 0)).set_ 5 (.int .i64 0)).set_ 6 (.int .i64 0)).set_ 7 (.int .i64 0));clear cR fR HR;generalize World.setCell _ ⟨w.heap.size+1,7,none⟩ _=WF at*;simp only [List.setIfInBounds_toArray,List.set_cons_succ,List.set_cons_zero] at bF;have cF:=bF.cell
     exact bodyPost_ret (v:= .tuple #[.agg #[.int .i64 0,.int .i64 0,.int .i64 0,.int .i64 0,.int .i64 0,.int .i64 0,.int .i64 0,.int .i64 0],.int .i64 4]) (by simp [results,Tryz.results38,go_sem,cF]) rfl ⟨rfl,hF⟩
    ·cases neg
     ·simp only [Bool.and_self,Bool.false_eq_true,if_true,if_false] at hB
      subst hB
      go_wp2_with (first
       |(go_at_call 78;refine (made18 _ _ _ _ _ _ _ _ _).mono ?_;rintro e w4 ⟨rfl,hb4⟩;have k4':=HM.out.step hb4;have k4:=k4'.step ((Below.refl _ _).alloc (Nat.le_refl _) (.cells (durV a1 a2 a3 a4 a5 a6 a7 a8) 32));have bD:=Blk.new w4 32 (durV a1 a2 a3 a4 a5 a6 a7 a8);clear hb4 k4')
       |(go_at_call 79;refine (HRt.out _).mono ?_;rintro e w5 ⟨rfl,hb5⟩;have k5:=k4.step hb5;have bD5:=bD.below hb5 bD.lt;have cD:=bD5.cell;have bR:=H0.out.2.2.1.below k5.bw H0.out.2.2.1.lt;have HR:=hid (And.intro bR (H0.out.2.2.2.trans (k5.bw.mono H0.out.2.2.2.size)));have cR:=bR.cell;have fR:=bR.frozen;clear hb5 bR c3 bD5 bD))
      go_wp2
      have hF:=((((((((HR.out.2.setCell (p:=⟨w.heap.size+1,0,none⟩) (by show w.heap.size<=w.heap.size+1;omega) (.int .i64 (a1:Int))).setCell (p:=⟨w.heap.size+1,1,none⟩) (by show w.heap.size<=w.heap.size+1;omega) (.int .i64 (a2:Int))).setCell (p:=⟨w.heap.size+1,2,none⟩) (by show w.heap.size<=w.heap.size+1;omega) (.int .i64 (a3:Int))).setCell (p:=⟨w.heap.size+1,3,none⟩) (by show w.heap.size<=w.heap.size+1;omega) (.int .i64 (a4:Int))).setCell (p:=⟨w.heap.size+1,4,none⟩) (by show w.heap.size<=w.heap.size+1;omega) (.int .i64 (a5:Int))).setCell (p:=⟨w.heap.size+1,5,none⟩) (by show w.heap.size<=w.heap.size+1;omega) (.int .i64 (a6:Int))).setCell (p:=⟨w.heap.size+1,6,none⟩) (by show w.heap.size<=w.heap.size+1;omega) (.int .i64 (a7:Int))).setCell (p:=⟨w.heap.size+1,7,none⟩) (by show w.heap.size<=w.heap.size+1;omega) (.int .i64 (a8:Int)))
      have bF:=((((((((HR.out.1.set_ 0 (.int .i64 (a1:Int))).set_ 1 (.int .i64 (a2:Int))).set_ 2 (.int .i64 (a3:Int))).set_ 3 (.int .i64 (a4:Int))).set_ 4 (.int .i64 (a5:Int))).set_ 5 (.int .i64 (a6:Int))).set_ 6 (.int .i64 (a7:Int))).set_ 7 (.int .i64 (a8:Int)));clear cR fR HR;generalize World.setCell _ ⟨w.heap.size+1,7,none⟩ _=WF at*;simp only [List.setIfInBounds_toArray,List.set_cons_succ,List.set_cons_zero] at bF;have cF:=bF.cell
      exact bodyPost_ret (v:= .tuple #[.agg #[.int .i64 (a1:Int),.int .i64 (a2:Int),.int .i64 (a3:Int),.int .i64 (a4:Int),.int .i64 (a5:Int),.int .i64 (a6:Int),.int .i64 (a7:Int),.int .i64 (a8:Int)],.int .i64 0]) (by simp [results,Tryz.results38,go_sem,cF]) rfl ⟨rfl,hF⟩
     ·simp only [Bool.and_self,if_true] at hB
      subst hB
      go_wp2_with (first
       |(go_at_call 78;refine (made18 _ _ _ _ _ _ _ _ _).mono ?_;rintro e w4 ⟨rfl,hb4⟩;have k4':=HM.out.step hb4;have k4:=k4'.step ((Below.refl _ _).alloc (Nat.le_refl _) (.cells (durV a1 a2 a3 a4 a5 a6 a7 a8) 32));have bD:=Blk.new w4 32 (durV a1 a2 a3 a4 a5 a6 a7 a8);clear hb4 k4')
       |(go_at_call 79;refine (HRt.out _).mono ?_;rintro e w5 ⟨rfl,hb5⟩;have k5:=k4.step hb5;have bD5:=bD.below hb5 bD.lt;have cD:=bD5.cell;have bR:=H0.out.2.2.1.below k5.bw H0.out.2.2.1.lt;have HR:=hid (And.intro bR (H0.out.2.2.2.trans (k5.bw.mono H0.out.2.2.2.size)));have cR:=bR.cell;have fR:=bR.frozen;clear hb5 bR c3 bD5 bD)
       |(go_at_call 80;refine (HNg.out _).mono ?_;rintro e w6 ⟨rfl,hb6⟩;have k6:=k5.step hb6;have bR:=H0.out.2.2.1.below k6.bw H0.out.2.2.1.lt;clear cR fR HR;have HR:=hid (And.intro bR (H0.out.2.2.2.trans (k6.bw.mono H0.out.2.2.2.size)));have cR:=bR.cell;have fR:=bR.frozen;clear hb6 bR))
      go_wp2
      have hF:=((((((((HR.out.2.setCell (p:=⟨w.heap.size+1,0,none⟩) (by show w.heap.size<=w.heap.size+1;omega) (.int .i64 (-(a1:Int)))).setCell (p:=⟨w.heap.size+1,1,none⟩) (by show w.heap.size<=w.heap.size+1;omega) (.int .i64 (-(a2:Int)))).setCell (p:=⟨w.heap.size+1,2,none⟩) (by show w.heap.size<=w.heap.size+1;omega) (.int .i64 (-(a3:Int)))).setCell (p:=⟨w.heap.size+1,3,none⟩) (by show w.heap.size<=w.heap.size+1;omega) (.int .i64 (-(a4:Int)))).setCell (p:=⟨w.heap.size+1,4,none⟩) (by show w.heap.size<=w.heap.size+1;omega) (.int .i64 (-(a5:Int)))).setCell (p:=⟨w.heap.size+1,5,none⟩) (by show w.heap.size<=w.heap.size+1;omega) (.int .i64 (-(a6:Int)))).setCell (p:=⟨w.heap.size+1,6,none⟩) (by show w.heap.size<=w.heap.size+1;omega) (.int .i64 (-(a7:Int)))).setCell (p:=⟨w.heap.size+1,7,none⟩) (by show w.heap.size<=w.heap.size+1;omega) (.int .i64 (-(a8:Int))))
      have bF:=((((((((HR.out.1.set_ 0 (.int .i64 (-(a1:Int)))).set_ 1 (.int .i64 (-(a2:Int)))).set_ 2 (.int .i64 (-(a3:Int)))).set_ 3 (.int .i64 (-(a4:Int)))).set_ 4 (.int .i64 (-(a5:Int)))).set_ 5 (.int .i64 (-(a6:Int)))).set_ 6 (.int .i64 (-(a7:Int)))).set_ 7 (.int .i64 (-(a8:Int))));clear cR fR HR;generalize World.setCell _ ⟨w.heap.size+1,7,none⟩ _=WF at*;simp only [List.setIfInBounds_toArray,List.set_cons_succ,List.set_cons_zero] at bF;have cF:=bF.cell
      exact bodyPost_ret (v:= .tuple #[.agg #[.int .i64 (-(a1:Int)),.int .i64 (-(a2:Int)),.int .i64 (-(a3:Int)),.int .i64 (-(a4:Int)),.int .i64 (-(a5:Int)),.int .i64 (-(a6:Int)),.int .i64 (-(a7:Int)),.int .i64 (-(a8:Int))],.int .i64 0]) (by simp [results,Tryz.results38,go_sem,cF]) rfl ⟨rfl,hF⟩
 case first=>
  by_cases hpos:0<pt
  ·obtain ⟨p,rfl⟩:∃ p:Nat,pt=p:=⟨pt.toNat,by omega⟩
   have hu0:un=4\/un=5\/un=6:=by omega
   obtain ⟨u,rfl⟩:∃ u:Nat,un=u:=⟨un.toNat,by omega⟩
   have hu4:4<=u:=by omega
   have hu6:u<=6:=by omega
   have hp9:p<1000000000:=by omega
   have q0:decide (0<(p:Int))=true:=decide_eq_true hpos
   have hGe:G=(stp F (p*(lenU (u+1) / 1000000000)) u (7 - u)).1:=by
    rw [stp_end F p u hu4 hu6,<-HG.out,madeF];exact if_pos hpos
   obtain ⟨y,hy⟩:∃ y,lenU (u+1)=y:=⟨_,rfl⟩;obtain ⟨m,hm⟩:∃ m,lenU (u+1) / 1000000000=m:=⟨_,rfl⟩
   have hm0:m<=3600:=by
    rw [<-hm]
    have:u=4\/u=5\/u=6:=by omega
    rcases this with rfl|rfl|rfl<;>decide
   have hy0:y<9223372036854775808:=by rw [<-hy];exact lenU_lt _
   have q1:Int.tdiv (y:Int) 1000000000=(m:Int):=by rw [<-hm,hy];exact Int.ofNat_tdiv _ _
   rw [hm] at hGe;have HGe:=hid hGe
   have htn:p*m<9223372036854775808:=Nat.lt_of_le_of_lt (Nat.mul_le_mul (Nat.le_of_lt hp9) hm0) (by decide)
   have HLn:Hid (∀ z,Calls prog 75 #[.int .i64 ((u:Int)+1)] z fun e w'=>e= .returned (.int .i64 (y:Int))/\z=w'):=fun z=>by
    have:=length18 (u+1) (by omega) (by omega) z
    rw [hy,show ((u+1:Nat):Int)=(u:Int)+1 from by omega] at this
    exact this
   have HOp:=hid (fun z=>of_any (p:Int) z (by omega) (by omega))
   have HOm:=hid (fun z=>of_any (m:Int) z (by omega) (by omega))
   have S0:Hid (QSt w n A k c F 4000 ((w.alloc (.cells (zC n A k c) 71)).alloc (.cells rez8 32))):=⟨HB.out.1,(HA.out.more (by omega)).below HB.out.2.2.1,HB.out.2.1,HB.out.2.2.1⟩
   have hs0:=HB.out.2.2.2;clear hGe hm hy hu0 HA HB
   go_wp2_with fail
   generalize (w.alloc (.cells (zC n A k c) 71)).alloc (.cells _ 32)=W at*
   go_at_call 35
   refine (HOp.out _).mono ?_
   rintro e w1 ⟨v,rfl,⟨n1,A1,k1,c1,d1,rfl,hz1⟩,hb1⟩;have S1:=hid (S0.out.below hb1);have Z1:=hid hz1;have hs1:=hb1.size;clear hb1 hz1 S0
   go_wp2_with fail
   go_at_call 75
   refine (HLn.out _).mono ?_
   rintro e w2 ⟨rfl,rfl⟩
   go_wp2_with fail
   go_at_call 35
   refine (HOm.out _).mono ?_
   rintro e w2 ⟨v,rfl,⟨n2,A2,k2,c2,d2,rfl,hz2⟩,hb2⟩;have S2:=hid (S1.out.below hb2)
   have HM:=hid (mul_any n1 n2 A1 A2 k1 k2 c1 c2 d1 d2 _ _ _ _ w2 (Z1.out.below hb2) hz2 (by omega) (by omega))
   have hs2:=hb2.size;clear hb2 hz2 S1 Z1
   go_wp2_with fail
   go_at_call 34
   refine HM.out.mono ?_
   rintro e w3 ⟨v,rfl,⟨n3,A3,k3,c3,d3,rfl,hz3⟩,hb3⟩;have S3:=hid (S2.out.below hb3)
   have Z3:Hid (ZD w3 n3 A3 k3 c3 d3 (((p*m:Nat):Nat):Int) 4):=zd_fit (by rw [Int.natCast_mul];exact hz3) (by omega) (by omega)
   have hs3:=hb3.size;clear hb3 hz3 S2 HM
   go_wp2_with fail
   obtain ⟨t,ht⟩:∃ t,p*m=t:=⟨_,rfl⟩;rw [ht] at HGe Z3 htn;clear ht;have hb3:=box1 w3 70 (zv n3 A3 k3 c3)
   have P0:Hid (PSt w w3.heap.size F t u 0 (w3.alloc (.cells (zv n3 A3 k3 c3) 70))):=⟨⟨n,A,k,c,S3.out.below hb3.2.1⟩,⟨n3,A3,k3,c3,d3,hb3.1,Z3.out.below hb3.2.1⟩,by omega⟩
   clear hb3 S3 Z3 hs0 hs1 hs2 hs3 HLn HOp HOm;generalize w3.alloc (.cells _ 70)=W4 at*;generalize w3.heap.size=B1 at*
   go_loopw [11,12,13] (fun i _ _ wr=>∃ j:Nat,j<=7 - u/\i= .int .i64 ((u:Int)+1+(j:Int))/\PSt w B1 F t u j wr) (fun i _ _ _=>8 - (intOf i).toNat)
   case atStart=>exact ⟨0,by omega,by simp,P0.out⟩
   case round=>
    clear P0;obtain ⟨j,hj,rfl,hP⟩:=hrel;obtain ⟨⟨n4,A4,k4,c4,hQ⟩,⟨g,Av,kv,cv,dv,hv⟩,hB⟩:=hP;have HQ:=hid hQ;have HV:=hid hv
    by_cases hj8:j<7 - u
    ·have r1:decide ((u:Int)+1+(j:Int)<8)=true:=decide_eq_true (by omega)
     obtain ⟨T,hT⟩:∃ T,(stp F t u j).2=T:=⟨_,rfl⟩;obtain ⟨Y,hY⟩:∃ Y,lenU (u+2+j)=Y:=⟨_,rfl⟩
     have hTn:T<9223372036854775808:=by rw [<-hT];exact Nat.lt_of_le_of_lt (stp_le F t u j) htn
     have hYn:Y<9223372036854775808:=by rw [<-hY];exact lenU_lt _
     have hY0:0<Y:=by
      rw [<-hY]
      have:u+2+j=6\/u+2+j=7\/u+2+j=8:=by omega
      rcases this with e|e|e<;>rw [e]<;>decide
     have HLn:Hid (∀ z,Calls prog 75 #[.int .i64 (IntKind.i64.wrap ((u:Int)+1+(j:Int)+1))] z fun e w'=>e= .returned (.int .i64 (Y:Int))/\z=w'):=fun z=>by
      have:=length18 (u+2+j) (by omega) (by omega) z
      rw [hY,show ((u+2+j:Nat):Int)=IntKind.i64.wrap ((u:Int)+1+(j:Int)+1) from by rw [IntKind.wrap_i64];omega] at this
      exact this
     have HOf:=hid (fun z=>of_any (Y:Int) z (by omega) (by omega))
     rw [hT] at HV hv;have HDv:=hid (fun (z:World) (hz:Below wr.heap.size wr z) g' A' k' c' ds' (hb:ZD z g' A' k' c' ds' (Y:Int) 6)=>div24 g Av kv cv dv T Y g' A' k' c' ds' z (hv.zd.below hz) hb hTn hY0);have HE:=hid (And.intro hT hY);have HKe:Hid (∀ w',Below wr.heap.size wr w'->w'.cell? ⟨B1,0,none⟩=some (.bool g)/\w'.cell? ⟨B1,1,none⟩=some (.slice Av kv cv)):=fun w' h=>And.intro ((hv.blk.below h hv.blk.lt).cell 0) ((hv.blk.below h hv.blk.lt).cell 1);obtain ⟨v0,v1,-,-⟩:=hv.cells;clear hv hT hY hTn hYn hY0 hQ
     go_wp2_with fail
     clear v0 v1
     go_cut [12,13] from 35 to 43 (fun s12 s13 wx=>∃ (P8 P9:Nat),s12= .pointer (some ⟨P8,0,none⟩)/\s13= .pointer (some ⟨P9,0,none⟩)/\Cut2 wr P8 P9 T Y wx)
     case first=>
      clear HQ HE HG HBB HGe hj8 r1 hB q0 q1;have kb0:Below wr.heap.size wr wr.drew:=(Below.refl _ _).drew
      go_region_held3 (fun w'=>w'.cell? ⟨B1,0,none⟩=some (.bool g)/\w'.cell? ⟨B1,1,none⟩=some (.slice Av kv cv)) (exact HKe.out _ (by go_grown)) ((first
       |(go_at_call 75;refine (HLn.out _).mono ?_;rintro e w3 ⟨rfl,rfl⟩)
       |(go_at_call 35;refine (HOf.out _).mono ?_;rintro e w4 ⟨v4,rfl,⟨n5,A5,k5,c5,d5,rfl,hz5⟩,hb⟩;have kb4:=bel_nx2 (W:=wr) (by go_grown) hb;have ks4:=kb4.size;(first|(have a12:=blk_a2d hb;have HA1:Hid (Blk w4 wr.heap.size 70 #[.bool false,.slice none 0 0]):=a12.1;have HA2:Hid (Blk w4 (wr.heap.size+1) 70 #[.bool false,.slice none 0 0]):=a12.2;clear a12)|(have HA1:Hid (Blk w4 wr.heap.size 70 #[.bool false,.slice none 0 0]):=blk_a1d hb)|skip);have HZ5:=hid hz5;clear hb hz5)
       |(go_at_call 76;refine (HDv.out _ (by go_grown) _ _ _ _ _ (HZ5.out.below (by go_grown))).mono ?_;rintro e w5 ⟨n6,A6,k6,c6,d6,n7,A7,k7,c7,d7,rfl,hz6,hz7,hb5⟩;have HZ6:=hid hz6;have HZ7:=hid hz7;have kb5:=bel_nx2 (W:=wr) (by go_grown) hb5;have ks5:=kb5.size;
         (first|(have d34:=blk_a2 hb5;have d3:=d34.1;have d4:=d34.2;clear d34;have c3:=d3.cell;have f3:=d3.frozen;have l3:=d3.lt;have n3':=Nat.ne_of_lt l3;have m3':=(Nat.ne_of_lt l3).symm;have H3:=hid d3;clear d3;have c4:=d4.cell;have f4:=d4.frozen;have l4:=d4.lt;have n4':=Nat.ne_of_lt l4;have m4':=(Nat.ne_of_lt l4).symm;have H4:=hid d4;clear d4)|(have d3:=blk_a1 hb5;have c3:=d3.cell;have f3:=d3.frozen;have l3:=d3.lt;have n3':=Nat.ne_of_lt l3;have m3':=(Nat.ne_of_lt l3).symm;have H3:=hid d3;clear d3)|skip);
         (first|(have d1:=blk_c0 HA1.out hb5;have c1:=d1.cell;have f1:=d1.frozen;have l1:=d1.lt;have n1':=Nat.ne_of_lt l1;have m1':=(Nat.ne_of_lt l1).symm;have H1:=hid d1;clear d1)|(have o1:=Nat.ne_of_lt HA1.out.lt;have p1:=(Nat.ne_of_lt HA1.out.lt).symm;have d1:=blk_c1 HA1.out hb5;have c1:=d1.cell;have f1:=d1.frozen;have l1:=d1.lt;have n1':=Nat.ne_of_lt l1;have m1':=(Nat.ne_of_lt l1).symm;have H1:=hid d1;clear d1)|skip);
         (first|(have d2:=blk_c0 HA2.out hb5;have c2:=d2.cell;have f2:=d2.frozen;have l2:=d2.lt;have n2':=Nat.ne_of_lt l2;have m2':=(Nat.ne_of_lt l2).symm;have H2:=hid d2;clear d2)|skip);clear hb5 hz6 hz7)))
      all_goals go_wp2_with fail
      all_goals go_meet
      all_goals first
       |(have z:=fin_a kb5 HZ6.out HZ7.out;with_reducible exact ⟨_,_,rfl,rfl,z⟩)
       |(have z:=fin_b kb5 HZ6.out HZ7.out;with_reducible exact ⟨_,_,rfl,rfl,z⟩)
       |(have z:=fin_c kb5 HZ6.out HZ7.out H3.out ks4;with_reducible exact ⟨_,_,rfl,rfl,z⟩)
       |(have z:=fin_d kb5 HZ6.out HZ7.out H3.out ks4;with_reducible exact ⟨_,_,rfl,rfl,z⟩)
       |(have z:=fin_c kb5 HZ6.out HZ7.out H1.out (Nat.le_refl _);with_reducible exact ⟨_,_,rfl,rfl,z⟩)
       |(have z:=fin_d kb5 HZ6.out HZ7.out H1.out (Nat.le_refl _);with_reducible exact ⟨_,_,rfl,rfl,z⟩)
       |(have z:=fin_e kb5 HZ6.out HZ7.out H3.out H4.out (Nat.ne_of_lt (Nat.lt_succ_self _)) ks4 (Nat.le_succ_of_le ks4);with_reducible exact ⟨_,_,rfl,rfl,z⟩)
       |(have z:=fin_e kb5 HZ6.out HZ7.out H4.out H3.out (Nat.ne_of_gt (Nat.lt_succ_self _)) (Nat.le_succ_of_le ks4) ks4;with_reducible exact ⟨_,_,rfl,rfl,z⟩)
       |(have z:=fin_e kb5 HZ6.out HZ7.out H1.out H3.out (by have:=HA1.out.lt;omega) (Nat.le_refl _) ks4;with_reducible exact ⟨_,_,rfl,rfl,z⟩)
       |(have z:=fin_e kb5 HZ6.out HZ7.out H3.out H1.out (by have:=HA1.out.lt;omega) ks4 (Nat.le_refl _);with_reducible exact ⟨_,_,rfl,rfl,z⟩)
       |(have z:=fin_e kb5 HZ6.out HZ7.out H1.out H2.out (Nat.ne_of_lt (Nat.lt_succ_self _)) (Nat.le_refl _) (Nat.le_succ _);with_reducible exact ⟨_,_,rfl,rfl,z⟩)
       |(have z:=fin_e kb5 HZ6.out HZ7.out H2.out H1.out (Nat.ne_of_gt (Nat.lt_succ_self _)) (Nat.le_succ _) (Nat.le_refl _);with_reducible exact ⟨_,_,rfl,rfl,z⟩)
     case rest=>
      obtain ⟨P8,P9,rfl,rfl,hC⟩:=hcut;obtain ⟨⟨n6,A6,k6,c6,d6,hq⟩,⟨n7,A7,k7,c7,d7,hr⟩,hP8,hP9,hbx⟩:=hC;have hQ2:=HQ.out.below hbx;have hv2:=HV.out.below hbx
      have hK:u+1+j<8:=by omega
      have hlw:=HQ.out.b1.lt;have hlB:=HV.out.blk.lt;obtain ⟨a0,a1,-,-⟩:=hq.cells;obtain ⟨b0,b1,-,-⟩:=hr.cells;obtain ⟨v0,v1,v2,v3⟩:=hv2.cells;have x0:=zC_cell0 hQ2.b1 hK;have x1:=zC_cell1 hQ2.b1 hK;have y0:=hQ2.b1.frozen ((u+1+j)*2);have y1:=hQ2.b1.frozen ((u+1+j)*2+1);have ad:=addr_at w.heap.size ((u+1+j)*2)
      have e1:P9≠w.heap.size:=by omega
      have e2:w.heap.size≠P9:=by omega
      have e3:B1≠w.heap.size:=by omega
      have e4:w.heap.size≠B1:=by omega
      have e5:P9≠B1:=by omega
      have e6:B1≠P9:=by omega
      have j0:(0:Int)<=(u:Int)+1+(j:Int):=by omega
      have j1:(u:Int)+1+(j:Int)<8:=by omega
      have j2:((u:Int)+1+(j:Int)).toNat=u+1+j:=by omega
      have HN:=hid (PSt.next HE.out.1 HE.out.2 hF hK hB hQ2 hv2 hq.zd hr.zd)
      clear hq hr hbx hQ2 hv2 HQ HV HE HKe HDv HOf HLn hP8 hP9 hlw hlB
      go_wp2_with fail
      exact ⟨⟨j+1,by omega,by simp only [Value.int.injEq,true_and];omega,HN.out⟩,by simp only [intOf];omega⟩
    ·obtain rfl:j=7 - u:=by omega
     have r1:decide ((u:Int)+1+((7 - u:Nat):Int)<8)=false:=decide_eq_false (by omega)
     clear hv hQ hj8
     go_wp2_with fail
     go_meet
     exact ⟨n4,A4,k4,c4,4000,by omega,HQ.out.b1,HGe.out.symm ▸ HQ.out.ar,HQ.out.b2,HQ.out.bel⟩
  ·have q0:decide (0<pt)=false:=decide_eq_false hpos
   have hGF:F=G:=by rw [<-HG.out,madeF];exact (if_neg hpos).symm
   have HGF:=hid hGF;clear hGF
   go_wp2_with fail
   go_meet
   exact ⟨n,A,k,c,L,by omega,HB.out.1,HGF.out ▸ (HA.out.below HB.out.2.2.1),HB.out.2.1,HB.out.2.2.1⟩
end Gr
end
end Go.Proofs.YtiiekaehbahenaaGreatDoor
