/-
  Contracts of the code that the law reaches, and plain laws. Conditions: as each says.
-/
import Derived.Test.YtiiekaehbahenaaGreatDoorV39
import Derived.Test.YtiiekaehbahenaaGreatDoorV12
set_option linter.all false
set_option maxHeartbeats 40000000
set_option maxRecDepth 100000
namespace Go.Proofs.YtiiekaehbahenaaGreatDoor
open Lib (hid)
open Tryz
section
namespace Gr
open Go.RowKit Mem Atl
def PtO (r:Option (Int×Nat)):Value:=match r with
 |some x=> .tuple #[.int .i64 x.1,.int .i64 x.2]
 |none=> .tuple #[.int .i64 (-1),.int .i64 (-1)]
theorem dot_l:(⟨#[46,44]⟩:ByteArray).data.toList=[46,44]:=rfl
theorem dpart_any (i:Nat) (s:ByteArray) (w:World) (hs:s.size<=2097152) (hi:i<=3000000):
  Calls prog 36 #[.string s,.int .i64 i] w fun e w'=>e= .returned (PtO (partA (tx s) i))/\∃ n,w'=w.drewN n:=by
 have HIs:=hid (dis_any ⟨#[46,44]⟩ s i w (by decide) hs (by omega))
 rw [dot_l] at HIs;obtain ⟨R,hR⟩:∃ R,partA (tx s) i=R:=⟨_,rfl⟩;rw [hR]
 cases h0:oneA (tx s) [46,44] i
 ·rw [h0] at HIs
  rw [part_out h0] at hR;subst hR;clear h0;go_enter func36,ntmps36
  go_wp2_with (go_at_call 20;refine HIs.out.mono ?_;rintro e w1 ⟨rfl,q,rfl⟩)
  go_ret2
  exact ⟨rfl,_,rfl⟩
 ·rw [h0] at HIs
  have hlt:i<s.size:=by
   by_cases hk:i<s.size
   ·exact hk
   ·rw [one_end _ hk] at h0;cases h0
  have HR:=hid hR;have H0:=hid h0;clear hR h0;go_enter func36,ntmps36
  go_wp2_with (go_at_call 20;refine HIs.out.mono ?_;rintro e w1 ⟨rfl,q,rfl⟩)
  go_loopw [6] (fun k wr=>∃ j m:Nat,k= .int .i64 ((i+1+j:Nat):Int)/\i+1+j<=s.size/\runA (tx s) (i+1) j/\wr=w.drewN m) (fun k _=>s.size - (intOf k).toNat)
  case atStart=>exact ⟨0,_,by go_num,by omega,runA.zero _ _,rfl⟩
  case round=>
   clear HIs;obtain ⟨j,m,rfl,hj,hrun,rfl⟩:=hrel
   have HD:=hid (fun z=>ddig_any s (i+1+j) z hs (by omega))
   have HRun:=hid hrun;clear hrun
   cases hd:dgA (tx s) (i+1+j)
   ·rw [hd] at HD
    have hr:=part_run H0.out HRun.out hd;clear H0 hd
    rcases hr with ⟨hn,hp⟩|⟨h1,h9,x,hx,hp⟩
    ·have hR:=HR.out
     rw [hp] at hR;subst hR;clear HR HRun hp
     by_cases hj0:j<1
     ·obtain rfl:j=0:=by omega
      go_wp2_with (go_at_call 32;refine (HD.out _).mono ?_;rintro e w1 ⟨rfl,q,rfl⟩)
      go_ret2
      exact ⟨rfl,_,rfl⟩
     ·have e1:(i:Int)+1+(j:Int) - (i:Int) - 1=(j:Int):=by omega
      have e2:decide ((j:Int)<1)=false:=decide_eq_false (by omega)
      have e3:decide ((9:Int)<(j:Int))=true:=decide_eq_true (by omega)
      go_wp2_with (go_at_call 32;refine (HD.out _).mono ?_;rintro e w1 ⟨rfl,q,rfl⟩)
      go_ret2
      exact ⟨rfl,_,rfl⟩
    ·have hR:=HR.out
     rw [hp] at hR;subst hR
     have HN:=hid (fun z=>dnum_any s (i+1) j z hs (by omega) h9)
     have hdg:digA (tx s) j (i+1)=some (x,i+1+j):=hx;rw [hdg] at HN;simp only [numO] at HN;have hx9:=(num_le hx).2;have HX:=hid hx9;clear HR HRun hp hx hdg hx9
     have e1:(i:Int)+1+(j:Int) - (i:Int) - 1=(j:Int):=by omega
     have e2:decide ((j:Int)<1)=false:=decide_eq_false (by omega)
     have e3:decide ((9:Int)<(j:Int))=false:=decide_eq_false (by omega)
     go_wp2_with (first
      |(go_at_call 32;refine (HD.out _).mono ?_;rintro e w1 ⟨rfl,q,rfl⟩)
      |(go_at_call 74;refine (HN.out _).mono ?_;rintro e w2 ⟨rfl,q2,rfl⟩))
     go_loopw [7,8] (fun n v wr=>∃ (t U m2:Nat),j<=t/\t<=9/\n= .int .i64 t/\v= .int .i64 U/\U<10 ^ t/\U*10 ^ (9 - t)=x*10 ^ (9 - j)/\wr=w.drewN m2) (fun n _ _=>9 - (intOf n).toNat)
     case atStart=>exact ⟨j,x,_,Nat.le_refl _,h9,rfl,rfl,by have:=HX.out;simpa using this,rfl,rfl⟩
     case round=>
      clear HD HN e1 e2 e3;obtain ⟨t,U,m2,ht,ht9,rfl,rfl,hU,hE,rfl⟩:=hrel
      have hU9:U<1000000000:=Nat.lt_of_lt_of_le hU (Nat.pow_le_pow_right (by omega) (by omega:t<=9))
      have HU:=hid hU;have HE:=hid hE;clear hU hE
      by_cases ht9:t<9
      ·go_wp2
       refine ⟨⟨t+1,U*10,_,by omega,by omega,by go_num,by go_num,by rw [Nat.pow_succ];have:=HU.out;omega,by rw [<-HE.out,show 9 - t=(9 - (t+1))+1 from by omega,Nat.pow_succ,Nat.mul_assoc,Nat.mul_comm 10],rfl⟩,by simp [intOf];omega⟩
      ·obtain rfl:t=9:=by omega
       go_wp2
       go_ret2
       have e2:=HE.out;rw [Nat.sub_self,Nat.pow_zero,Nat.mul_one] at e2;rw [<-e2];exact ⟨rfl,_,rfl⟩
   ·rw [hd] at HD
    have hlt2:=dg_lt hd;have HRun2:=hid (HRun.out.step hd);clear HRun hd
    go_wp2_with (go_at_call 32;refine (HD.out _).mono ?_;rintro e w1 ⟨rfl,q,rfl⟩)
    refine ⟨⟨j+1,_,by go_num,by omega,HRun2.out,rfl⟩,by simp [intOf];omega⟩
theorem clk_le {l:Txt} {most i:Nat} {x:ClkT×Nat} (e:clkA l most i=some x):x.2<=i+8:=by
 obtain ⟨y,hy,e⟩:=Option.bind_eq_some_iff.1 e;have h1:=two_to hy;unfold minA at e
 split at e
 ·obtain ⟨z,hz,e⟩:=Option.bind_eq_some_iff.1 e
  have h2:=two_to hz;have k2:=skip_le (oneA l [58] y.2) y.2;unfold secA at e
  split at e
  ·obtain ⟨t,ht,e⟩:=Option.bind_eq_some_iff.1 e
   have h3:=two_to ht;have k3:=skip_le (oneA l [58] y.2) z.2
   cases e
   show t.2<=_
   omega
  ·cases e
   show z.2<=_
   omega
 ·cases e
  show y.2<=_
  omega
where
 two_to {l:Txt} {lo hi i:Nat} {x:Nat×Nat} (h:twoA l lo hi i=some x):x.2=i+2:=by
  obtain ⟨y,hy,h⟩:=Option.bind_eq_some_iff.1 h
  split at h
  ·cases h
  ·cases h;exact (num_le hy).1
 skip_le (long:Bool) (i:Nat):skipA long i<=i+1:=by cases long<;>simp [skipA]
def DTm (r:Option (TimT×Nat)) (e:Ending):Prop:=match r with
 |some x=>e= .returned (.tuple #[timV x.1,.int .i64 x.2])
 |none=>∃ t:TimT,e= .returned (.tuple #[timV t,.int .i64 (-1)])
theorem bel_2 {w W:World} (h:Below w.heap.size w W) (o o':Obj):Below w.heap.size w ((W.alloc o).alloc o'):=
 (h.alloc h.size o).alloc (by have:=h.size;simp;omega) o'
theorem tim_end {w W:World} {a b c d:Value} (x0 x1 x2 x3:Value) (h:Blk W w.heap.size 23 #[a,b,c,d]) (hb:Below w.heap.size w W):
  Blk ((((W.setCell ⟨w.heap.size,0,none⟩ x0).setCell ⟨w.heap.size,1,none⟩ x1).setCell ⟨w.heap.size,2,none⟩ x2).setCell ⟨w.heap.size,3,none⟩ x3) w.heap.size 23 #[x0,x1,x2,x3]/\
  Below w.heap.size w ((((W.setCell ⟨w.heap.size,0,none⟩ x0).setCell ⟨w.heap.size,1,none⟩ x1).setCell ⟨w.heap.size,2,none⟩ x2).setCell ⟨w.heap.size,3,none⟩ x3):=
 ⟨set4 h,(((hb.setCell (p:=⟨w.heap.size,0,none⟩) (Nat.le_refl _) _).setCell (p:=⟨w.heap.size,1,none⟩) (Nat.le_refl _) _).setCell (p:=⟨w.heap.size,2,none⟩) (Nat.le_refl _) _).setCell (p:=⟨w.heap.size,3,none⟩) (Nat.le_refl _) _⟩
theorem dtime_any (i:Nat) (s:ByteArray) (w:World) (hs:s.size<=2097152) (hi:i<=2097252):
  Calls prog 21 #[.string s,.int .i64 i] w fun e w'=>DTm (timA (tx s) i) e/\Below w.heap.size w w':=by
 obtain ⟨h1,hb,-⟩:=box1 w 23 #[.int .i64 0,.int .i64 0,.int .i64 0,.int .i64 0];have HB:=hid (And.intro h1 hb);clear h1 hb;obtain ⟨R,hR⟩:∃ R,timA (tx s) i=R:=⟨_,rfl⟩;rw [hR];unfold timA at hR
 have HC:=hid (fun z=>dclk_any 60 i s z hs (by omega) (by omega))
 rcases hclk:clkA (tx s) 60 i with _|⟨v,k⟩
 ·rw [hclk] at hR HC
  subst hR;clear hclk;go_enter func21,ntmps21
  go_wp2_with (go_at_call 49;generalize World.alloc _ _=W at *;refine (HC.out W).mono ?_;rintro e w1 ⟨⟨a,b,c,rfl⟩,hb1⟩;have b4:=HB.out.1.below hb1 HB.out.1.lt;have HB1:=hid (And.intro b4 (HB.out.2.trans (hb1.mono HB.out.2.size)));have c4:=b4.cell;have f4:=b4.frozen;have l4:=b4.lt;have n4:=Nat.ne_of_lt l4;have m4:=n4.symm;clear HB HC hb1 b4)
  obtain ⟨bF0,hF0⟩:=tim_end (.int .i64 0) (.int .i64 0) (.int .i64 0) (.int .i64 0) HB1.out.1 HB1.out.2;have bF:=bF0.alloc (.cells #[.int .i64 a,.int .i64 b,.int .i64 c] 92);have hF:=hF0.alloc hF0.size (.cells #[.int .i64 a,.int .i64 b,.int .i64 c] 92);clear HB1 c4 f4 l4 n4 m4 bF0 hF0;generalize World.alloc (World.setCell _ _ _) _=WF at*;have cF:=bF.cell
  exact bodyPost_ret (v:= .tuple #[timV ⟨0,0,0,0⟩,.int .i64 (-1)]) (by simp [results,Tryz.results21,go_sem,cF]) rfl ⟨⟨⟨0,0,0,0⟩,rfl⟩,hF⟩
 ·have hbd:=clk_bd hclk
  have hkle:=clk_le hclk;rw [hclk] at hR HC;simp only [Option.bind_some] at hR;obtain ⟨h,m,c,n⟩:=v;simp only [DCk] at hR HC hbd hkle;obtain ⟨hh,hm,hc,hn1,hn3⟩:=hbd;have HR:=hid hR
  have q0:decide ((k:Int)<0)=false:=decide_eq_false (by omega)
  have HP:=hid (fun z=>dpart_any k s z hs (by omega))
  clear hclk hR
  by_cases hc60:c=60
  ·subst hc60
   by_cases hn:n=3
   ·subst hn
    have hR:=HR.out;rw [if_pos rfl] at hR;clear HR
    rcases hp:partA (tx s) k with _|⟨p,k2⟩
    ·rw [hp] at hR HP
     have HPo:=hid (show DTm R (.returned (.tuple #[.agg #[.int .i64 h,.int .i64 m,.int .i64 59,.int .i64 0],.int .i64 (-1)])) from by rw [<-hR];exact ⟨⟨h,m,59,0⟩,rfl⟩)
     simp only [PtO] at HP;clear hp hR;go_enter func21,ntmps21
     have m4:∀ x:Nat,w.heap.size<x->x+1≠w.heap.size:=fun x hx=>by omega
     go_wp2_with (first
      |(go_at_call 49;generalize World.alloc _ _=W at *;refine (HC.out W).mono ?_;rintro e w1 ⟨rfl,hb1⟩;have b4:=HB.out.1.below hb1 HB.out.1.lt;have HB1:=hid (And.intro b4 (HB.out.2.trans (hb1.mono HB.out.2.size)));have c4:=b4.cell;have f4:=b4.frozen;have l4:=b4.lt;have n4:=Nat.ne_of_lt l4;have m4:=n4.symm;clear HB HC hb1 b4)
      |(go_at_call 36;obtain ⟨-,bT,-,-⟩:=box2 w1 92 23 #[.int .i64 h,.int .i64 m,.int .i64 60] #[.int .i64 h,.int .i64 m,.int .i64 59,.int .i64 0];have b4:=(HB1.out.1.alloc (.cells #[.int .i64 h,.int .i64 m,.int .i64 60] 92)).alloc (.cells #[.int .i64 h,.int .i64 m,.int .i64 59,.int .i64 0] 23);have hb5:=bel_2 HB1.out.2 (.cells #[.int .i64 h,.int .i64 m,.int .i64 60] 92) (.cells #[.int .i64 h,.int .i64 m,.int .i64 59,.int .i64 0] 23);clear c4 f4 n4 m4 HB1;generalize World.alloc (World.alloc _ _) _=W5 at *;refine (HP.out W5).mono ?_;rintro e w6 ⟨rfl,q,rfl⟩;have HT:=hid (And.intro (bT.drewN q) (And.intro (b4.drewN q) (below_drewN hb5 q)));clear bT b4 hb5 HP;generalize W5.drewN q=W6 at *;have cT:=HT.out.1.cell;have fT:=HT.out.1.frozen;have c4:=HT.out.2.1.cell;have f4:=HT.out.2.1.frozen;have n4:w.heap.size≠w1.heap.size+1:=by omega))
     obtain ⟨bF,hF⟩:=tim_end (.int .i64 h) (.int .i64 m) (.int .i64 59) (.int .i64 0) HT.out.2.1 HT.out.2.2;clear HT c4 f4 cT fT;generalize World.setCell _ ⟨w.heap.size,3,none⟩ _=WF at*;have cF:=bF.cell
     exact bodyPost_ret (v:= .tuple #[.agg #[.int .i64 h,.int .i64 m,.int .i64 59,.int .i64 0],.int .i64 (-1)]) (by simp [results,Tryz.results21,go_sem,cF]) rfl ⟨HPo.out,hF⟩
    ·rw [hp] at hR HP
     simp only [Option.bind_some] at hR;simp only [PtO] at HP;clear hp
     by_cases hp0:0<p
     ·have q5:decide (0<p)=true:=decide_eq_true hp0
      have HPo:=hid (show DTm R (.returned (.tuple #[.agg #[.int .i64 h,.int .i64 m,.int .i64 59,.int .i64 p],.int .i64 k2])) from by rw [<-hR];simp only [DTm,timV,Int.toNat_of_nonneg (Int.le_of_lt hp0)]<;>rfl)
      clear hR;go_enter func21,ntmps21
      have m4:∀ x:Nat,w.heap.size<x->x+1≠w.heap.size:=fun x hx=>by omega
      go_wp2_with (first
       |(go_at_call 49;generalize World.alloc _ _=W at *;refine (HC.out W).mono ?_;rintro e w1 ⟨rfl,hb1⟩;have b4:=HB.out.1.below hb1 HB.out.1.lt;have HB1:=hid (And.intro b4 (HB.out.2.trans (hb1.mono HB.out.2.size)));have c4:=b4.cell;have f4:=b4.frozen;have l4:=b4.lt;have n4:=Nat.ne_of_lt l4;have m4:=n4.symm;clear HB HC hb1 b4)
       |(go_at_call 36;obtain ⟨-,bT,-,-⟩:=box2 w1 92 23 #[.int .i64 h,.int .i64 m,.int .i64 60] #[.int .i64 h,.int .i64 m,.int .i64 59,.int .i64 0];have b4:=(HB1.out.1.alloc (.cells #[.int .i64 h,.int .i64 m,.int .i64 60] 92)).alloc (.cells #[.int .i64 h,.int .i64 m,.int .i64 59,.int .i64 0] 23);have hb5:=bel_2 HB1.out.2 (.cells #[.int .i64 h,.int .i64 m,.int .i64 60] 92) (.cells #[.int .i64 h,.int .i64 m,.int .i64 59,.int .i64 0] 23);clear c4 f4 n4 m4 HB1;generalize World.alloc (World.alloc _ _) _=W5 at *;refine (HP.out W5).mono ?_;rintro e w6 ⟨rfl,q,rfl⟩;have HT:=hid (And.intro (bT.drewN q) (And.intro (b4.drewN q) (below_drewN hb5 q)));clear bT b4 hb5 HP;generalize W5.drewN q=W6 at *;have cT:=HT.out.1.cell;have fT:=HT.out.1.frozen;have c4:=HT.out.2.1.cell;have f4:=HT.out.2.1.frozen;have n4:w.heap.size≠w1.heap.size+1:=by omega))
      obtain ⟨bF,hF⟩:=tim_end (.int .i64 h) (.int .i64 m) (.int .i64 59) (.int .i64 p) (HT.out.2.1.far (p:=⟨w1.heap.size+1,3,none⟩) n4 (.int .i64 p)) (HT.out.2.2.setCell (p:=⟨w1.heap.size+1,3,none⟩) (by show w.heap.size<=w1.heap.size+1;omega) (.int .i64 p))
      clear HT c4 f4 cT fT;generalize World.setCell _ ⟨w.heap.size,3,none⟩ _=WF at*;have cF:=bF.cell
      exact bodyPost_ret (v:= .tuple #[.agg #[.int .i64 h,.int .i64 m,.int .i64 59,.int .i64 p],.int .i64 k2]) (by simp [results,Tryz.results21,go_sem,cF]) rfl ⟨HPo.out,hF⟩
     ·have q5:decide (0<p)=false:=decide_eq_false hp0
      have HPo:=hid (show DTm R (.returned (.tuple #[.agg #[.int .i64 h,.int .i64 m,.int .i64 59,.int .i64 0],.int .i64 k2])) from by rw [<-hR];simp only [DTm,timV,Int.toNat_of_nonpos (Int.not_lt.1 hp0)]<;>rfl)
      clear hR;go_enter func21,ntmps21
      have m4:∀ x:Nat,w.heap.size<x->x+1≠w.heap.size:=fun x hx=>by omega
      go_wp2_with (first
       |(go_at_call 49;generalize World.alloc _ _=W at *;refine (HC.out W).mono ?_;rintro e w1 ⟨rfl,hb1⟩;have b4:=HB.out.1.below hb1 HB.out.1.lt;have HB1:=hid (And.intro b4 (HB.out.2.trans (hb1.mono HB.out.2.size)));have c4:=b4.cell;have f4:=b4.frozen;have l4:=b4.lt;have n4:=Nat.ne_of_lt l4;have m4:=n4.symm;clear HB HC hb1 b4)
       |(go_at_call 36;obtain ⟨-,bT,-,-⟩:=box2 w1 92 23 #[.int .i64 h,.int .i64 m,.int .i64 60] #[.int .i64 h,.int .i64 m,.int .i64 59,.int .i64 0];have b4:=(HB1.out.1.alloc (.cells #[.int .i64 h,.int .i64 m,.int .i64 60] 92)).alloc (.cells #[.int .i64 h,.int .i64 m,.int .i64 59,.int .i64 0] 23);have hb5:=bel_2 HB1.out.2 (.cells #[.int .i64 h,.int .i64 m,.int .i64 60] 92) (.cells #[.int .i64 h,.int .i64 m,.int .i64 59,.int .i64 0] 23);clear c4 f4 n4 m4 HB1;generalize World.alloc (World.alloc _ _) _=W5 at *;refine (HP.out W5).mono ?_;rintro e w6 ⟨rfl,q,rfl⟩;have HT:=hid (And.intro (bT.drewN q) (And.intro (b4.drewN q) (below_drewN hb5 q)));clear bT b4 hb5 HP;generalize W5.drewN q=W6 at *;have cT:=HT.out.1.cell;have fT:=HT.out.1.frozen;have c4:=HT.out.2.1.cell;have f4:=HT.out.2.1.frozen;have n4:w.heap.size≠w1.heap.size+1:=by omega))
      obtain ⟨bF,hF⟩:=tim_end (.int .i64 h) (.int .i64 m) (.int .i64 59) (.int .i64 0) HT.out.2.1 HT.out.2.2;clear HT c4 f4 cT fT;generalize World.setCell _ ⟨w.heap.size,3,none⟩ _=WF at*;have cF:=bF.cell
      exact bodyPost_ret (v:= .tuple #[.agg #[.int .i64 h,.int .i64 m,.int .i64 59,.int .i64 0],.int .i64 k2]) (by simp [results,Tryz.results21,go_sem,cF]) rfl ⟨HPo.out,hF⟩
   ·have qn:((n:Int) == 3)=false:=by rw [beq_eq_false_iff_ne];omega
    have hR:=HR.out;rw [if_neg hn] at hR
    have HPo:=hid (show DTm R (.returned (.tuple #[.agg #[.int .i64 h,.int .i64 m,.int .i64 59,.int .i64 0],.int .i64 k])) from by rw [<-hR];rfl)
    clear HR hR;go_enter func21,ntmps21
    go_wp2_with (go_at_call 49;generalize World.alloc _ _=W at *;refine (HC.out W).mono ?_;rintro e w1 ⟨rfl,hb1⟩;have b4:=HB.out.1.below hb1 HB.out.1.lt;have HB1:=hid (And.intro b4 (HB.out.2.trans (hb1.mono HB.out.2.size)));have c4:=b4.cell;have f4:=b4.frozen;have l4:=b4.lt;have n4:=Nat.ne_of_lt l4;have m4:=n4.symm;clear HB HC hb1 b4)
    obtain ⟨bF0,hF0⟩:=tim_end (.int .i64 h) (.int .i64 m) (.int .i64 59) (.int .i64 0) HB1.out.1 HB1.out.2;have bF:=(bF0.alloc (.cells #[.int .i64 h,.int .i64 m,.int .i64 60] 92)).alloc (.cells #[.int .i64 h,.int .i64 m,.int .i64 59,.int .i64 0] 23);have hF:=bel_2 hF0 (.cells #[.int .i64 h,.int .i64 m,.int .i64 60] 92) (.cells #[.int .i64 h,.int .i64 m,.int .i64 59,.int .i64 0] 23);clear HB1 c4 f4 l4 n4 m4 bF0 hF0;generalize World.alloc (World.alloc _ _) _=WF at*;have cF:=bF.cell
    exact bodyPost_ret (v:= .tuple #[.agg #[.int .i64 h,.int .i64 m,.int .i64 59,.int .i64 0],.int .i64 k]) (by simp [results,Tryz.results21,go_sem,cF]) rfl ⟨HPo.out,hF⟩
  ·have e60:((c:Int) == 60)=false:=by rw [beq_eq_false_iff_ne];omega
   have hc59:c<=59:=by omega
   by_cases hn:n=3
   ·subst hn
    have hR:=HR.out;rw [if_pos rfl] at hR;clear HR
    rcases hp:partA (tx s) k with _|⟨p,k2⟩
    ·rw [hp] at hR HP
     have HPo:=hid (show DTm R (.returned (.tuple #[.agg #[.int .i64 h,.int .i64 m,.int .i64 c,.int .i64 0],.int .i64 (-1)])) from by rw [<-hR];exact ⟨⟨h,m,c,0⟩,rfl⟩)
     simp only [PtO] at HP;clear hp hR;go_enter func21,ntmps21
     have m4:∀ x:Nat,w.heap.size<x->x+1≠w.heap.size:=fun x hx=>by omega
     go_wp2_with (first
      |(go_at_call 49;generalize World.alloc _ _=W at *;refine (HC.out W).mono ?_;rintro e w1 ⟨rfl,hb1⟩;have b4:=HB.out.1.below hb1 HB.out.1.lt;have HB1:=hid (And.intro b4 (HB.out.2.trans (hb1.mono HB.out.2.size)));have c4:=b4.cell;have f4:=b4.frozen;have l4:=b4.lt;have n4:=Nat.ne_of_lt l4;have m4:=n4.symm;clear HB HC hb1 b4)
      |(go_at_call 36;obtain ⟨-,bT,-,-⟩:=box2 w1 92 23 #[.int .i64 h,.int .i64 m,.int .i64 c] #[.int .i64 h,.int .i64 m,.int .i64 c,.int .i64 0];have b4:=(HB1.out.1.alloc (.cells #[.int .i64 h,.int .i64 m,.int .i64 c] 92)).alloc (.cells #[.int .i64 h,.int .i64 m,.int .i64 c,.int .i64 0] 23);have hb5:=bel_2 HB1.out.2 (.cells #[.int .i64 h,.int .i64 m,.int .i64 c] 92) (.cells #[.int .i64 h,.int .i64 m,.int .i64 c,.int .i64 0] 23);clear c4 f4 n4 m4 HB1;generalize World.alloc (World.alloc _ _) _=W5 at *;refine (HP.out W5).mono ?_;rintro e w6 ⟨rfl,q,rfl⟩;have HT:=hid (And.intro (bT.drewN q) (And.intro (b4.drewN q) (below_drewN hb5 q)));clear bT b4 hb5 HP;generalize W5.drewN q=W6 at *;have cT:=HT.out.1.cell;have fT:=HT.out.1.frozen;have c4:=HT.out.2.1.cell;have f4:=HT.out.2.1.frozen;have n4:w.heap.size≠w1.heap.size+1:=by omega))
     obtain ⟨bF,hF⟩:=tim_end (.int .i64 h) (.int .i64 m) (.int .i64 c) (.int .i64 0) HT.out.2.1 HT.out.2.2;clear HT c4 f4 cT fT;generalize World.setCell _ ⟨w.heap.size,3,none⟩ _=WF at*;have cF:=bF.cell
     exact bodyPost_ret (v:= .tuple #[.agg #[.int .i64 h,.int .i64 m,.int .i64 c,.int .i64 0],.int .i64 (-1)]) (by simp [results,Tryz.results21,go_sem,cF]) rfl ⟨HPo.out,hF⟩
    ·rw [hp] at hR HP
     simp only [Option.bind_some,Nat.min_eq_left hc59] at hR;simp only [PtO] at HP;clear hp
     by_cases hp0:0<p
     ·have q5:decide (0<p)=true:=decide_eq_true hp0
      have HPo:=hid (show DTm R (.returned (.tuple #[.agg #[.int .i64 h,.int .i64 m,.int .i64 c,.int .i64 p],.int .i64 k2])) from by rw [<-hR];simp only [DTm,timV,Int.toNat_of_nonneg (Int.le_of_lt hp0)]<;>rfl)
      clear hR;go_enter func21,ntmps21
      have m4:∀ x:Nat,w.heap.size<x->x+1≠w.heap.size:=fun x hx=>by omega
      go_wp2_with (first
       |(go_at_call 49;generalize World.alloc _ _=W at *;refine (HC.out W).mono ?_;rintro e w1 ⟨rfl,hb1⟩;have b4:=HB.out.1.below hb1 HB.out.1.lt;have HB1:=hid (And.intro b4 (HB.out.2.trans (hb1.mono HB.out.2.size)));have c4:=b4.cell;have f4:=b4.frozen;have l4:=b4.lt;have n4:=Nat.ne_of_lt l4;have m4:=n4.symm;clear HB HC hb1 b4)
       |(go_at_call 36;obtain ⟨-,bT,-,-⟩:=box2 w1 92 23 #[.int .i64 h,.int .i64 m,.int .i64 c] #[.int .i64 h,.int .i64 m,.int .i64 c,.int .i64 0];have b4:=(HB1.out.1.alloc (.cells #[.int .i64 h,.int .i64 m,.int .i64 c] 92)).alloc (.cells #[.int .i64 h,.int .i64 m,.int .i64 c,.int .i64 0] 23);have hb5:=bel_2 HB1.out.2 (.cells #[.int .i64 h,.int .i64 m,.int .i64 c] 92) (.cells #[.int .i64 h,.int .i64 m,.int .i64 c,.int .i64 0] 23);clear c4 f4 n4 m4 HB1;generalize World.alloc (World.alloc _ _) _=W5 at *;refine (HP.out W5).mono ?_;rintro e w6 ⟨rfl,q,rfl⟩;have HT:=hid (And.intro (bT.drewN q) (And.intro (b4.drewN q) (below_drewN hb5 q)));clear bT b4 hb5 HP;generalize W5.drewN q=W6 at *;have cT:=HT.out.1.cell;have fT:=HT.out.1.frozen;have c4:=HT.out.2.1.cell;have f4:=HT.out.2.1.frozen;have n4:w.heap.size≠w1.heap.size+1:=by omega))
      obtain ⟨bF,hF⟩:=tim_end (.int .i64 h) (.int .i64 m) (.int .i64 c) (.int .i64 p) (HT.out.2.1.far (p:=⟨w1.heap.size+1,3,none⟩) n4 (.int .i64 p)) (HT.out.2.2.setCell (p:=⟨w1.heap.size+1,3,none⟩) (by show w.heap.size<=w1.heap.size+1;omega) (.int .i64 p))
      clear HT c4 f4 cT fT;generalize World.setCell _ ⟨w.heap.size,3,none⟩ _=WF at*;have cF:=bF.cell
      exact bodyPost_ret (v:= .tuple #[.agg #[.int .i64 h,.int .i64 m,.int .i64 c,.int .i64 p],.int .i64 k2]) (by simp [results,Tryz.results21,go_sem,cF]) rfl ⟨HPo.out,hF⟩
     ·have q5:decide (0<p)=false:=decide_eq_false hp0
      have HPo:=hid (show DTm R (.returned (.tuple #[.agg #[.int .i64 h,.int .i64 m,.int .i64 c,.int .i64 0],.int .i64 k2])) from by rw [<-hR];simp only [DTm,timV,Int.toNat_of_nonpos (Int.not_lt.1 hp0)]<;>rfl)
      clear hR;go_enter func21,ntmps21
      have m4:∀ x:Nat,w.heap.size<x->x+1≠w.heap.size:=fun x hx=>by omega
      go_wp2_with (first
       |(go_at_call 49;generalize World.alloc _ _=W at *;refine (HC.out W).mono ?_;rintro e w1 ⟨rfl,hb1⟩;have b4:=HB.out.1.below hb1 HB.out.1.lt;have HB1:=hid (And.intro b4 (HB.out.2.trans (hb1.mono HB.out.2.size)));have c4:=b4.cell;have f4:=b4.frozen;have l4:=b4.lt;have n4:=Nat.ne_of_lt l4;have m4:=n4.symm;clear HB HC hb1 b4)
       |(go_at_call 36;obtain ⟨-,bT,-,-⟩:=box2 w1 92 23 #[.int .i64 h,.int .i64 m,.int .i64 c] #[.int .i64 h,.int .i64 m,.int .i64 c,.int .i64 0];have b4:=(HB1.out.1.alloc (.cells #[.int .i64 h,.int .i64 m,.int .i64 c] 92)).alloc (.cells #[.int .i64 h,.int .i64 m,.int .i64 c,.int .i64 0] 23);have hb5:=bel_2 HB1.out.2 (.cells #[.int .i64 h,.int .i64 m,.int .i64 c] 92) (.cells #[.int .i64 h,.int .i64 m,.int .i64 c,.int .i64 0] 23);clear c4 f4 n4 m4 HB1;generalize World.alloc (World.alloc _ _) _=W5 at *;refine (HP.out W5).mono ?_;rintro e w6 ⟨rfl,q,rfl⟩;have HT:=hid (And.intro (bT.drewN q) (And.intro (b4.drewN q) (below_drewN hb5 q)));clear bT b4 hb5 HP;generalize W5.drewN q=W6 at *;have cT:=HT.out.1.cell;have fT:=HT.out.1.frozen;have c4:=HT.out.2.1.cell;have f4:=HT.out.2.1.frozen;have n4:w.heap.size≠w1.heap.size+1:=by omega))
      obtain ⟨bF,hF⟩:=tim_end (.int .i64 h) (.int .i64 m) (.int .i64 c) (.int .i64 0) HT.out.2.1 HT.out.2.2;clear HT c4 f4 cT fT;generalize World.setCell _ ⟨w.heap.size,3,none⟩ _=WF at*;have cF:=bF.cell
      exact bodyPost_ret (v:= .tuple #[.agg #[.int .i64 h,.int .i64 m,.int .i64 c,.int .i64 0],.int .i64 k2]) (by simp [results,Tryz.results21,go_sem,cF]) rfl ⟨HPo.out,hF⟩
   ·have qn:((n:Int) == 3)=false:=by rw [beq_eq_false_iff_ne];omega
    have hR:=HR.out;rw [if_neg hn,Nat.min_eq_left hc59] at hR
    have HPo:=hid (show DTm R (.returned (.tuple #[.agg #[.int .i64 h,.int .i64 m,.int .i64 c,.int .i64 0],.int .i64 k])) from by rw [<-hR];rfl)
    clear HR hR;go_enter func21,ntmps21
    go_wp2_with (go_at_call 49;generalize World.alloc _ _=W at *;refine (HC.out W).mono ?_;rintro e w1 ⟨rfl,hb1⟩;have b4:=HB.out.1.below hb1 HB.out.1.lt;have HB1:=hid (And.intro b4 (HB.out.2.trans (hb1.mono HB.out.2.size)));have c4:=b4.cell;have f4:=b4.frozen;have l4:=b4.lt;have n4:=Nat.ne_of_lt l4;have m4:=n4.symm;clear HB HC hb1 b4)
    obtain ⟨bF0,hF0⟩:=tim_end (.int .i64 h) (.int .i64 m) (.int .i64 c) (.int .i64 0) HB1.out.1 HB1.out.2;have bF:=(bF0.alloc (.cells #[.int .i64 h,.int .i64 m,.int .i64 c] 92)).alloc (.cells #[.int .i64 h,.int .i64 m,.int .i64 c,.int .i64 0] 23);have hF:=bel_2 hF0 (.cells #[.int .i64 h,.int .i64 m,.int .i64 c] 92) (.cells #[.int .i64 h,.int .i64 m,.int .i64 c,.int .i64 0] 23);clear HB1 c4 f4 l4 n4 m4 bF0 hF0;generalize World.alloc (World.alloc _ _) _=WF at*;have cF:=bF.cell
    exact bodyPost_ret (v:= .tuple #[.agg #[.int .i64 h,.int .i64 m,.int .i64 c,.int .i64 0],.int .i64 k]) (by simp [results,Tryz.results21,go_sem,cF]) rfl ⟨HPo.out,hF⟩
theorem tt_l:(⟨#[84,116]⟩:ByteArray).data.toList=[84,116]:=rfl
theorem one_len {l:Txt} {of:List UInt8} {i:Nat} (h:oneA l of i=true):i+1<=l.length:=by
 rw [oneA] at h
 cases hl:l[i]? with
 |none=>rw [hl] at h;cases h
 |some c=>exact (List.getElem?_eq_some_iff.1 hl).1
theorem dg_len {l:Txt} {i:Nat} (h:dgA l i=true):i+1<=l.length:=by
 rw [dgA] at h
 cases hl:l[i]? with
 |none=>rw [hl] at h;cases h
 |some c=>exact (List.getElem?_eq_some_iff.1 hl).1
theorem num_len {l:Txt}:∀ {n i v:Nat} {x:Nat×Nat},numA l n i v=some x->i<=l.length->x.2<=l.length
 |0,i,v,x,h,hi=>by cases h;exact hi
 |n+1,i,v,x,h,hi=>by
  rw [numA] at h
  split at h
  ·next hd=>exact num_len h (dg_len hd)
  ·cases h
theorem two_len {l:Txt} {lo hi i:Nat} {x:Nat×Nat} (h:twoA l lo hi i=some x) (h0:i<=l.length):x.2<=l.length:=by
 obtain ⟨y,hy,h⟩:=Option.bind_eq_some_iff.1 h
 split at h
 ·cases h
 ·cases h;exact num_len hy h0
theorem skip_len {l:Txt} {long:Bool} {i:Nat} (h:moreA l long i=true) (h0:i<=l.length):skipA long i<=l.length:=by
 unfold moreA at h;unfold skipA
 split at h
 ·next hl=>rw [if_pos hl];exact one_len h
 ·next hl=>rw [if_neg hl];exact h0
theorem clk_len {l:Txt} {most i:Nat} {x:ClkT×Nat} (e:clkA l most i=some x) (h0:i<=l.length):x.2<=l.length:=by
 obtain ⟨y,hy,e⟩:=Option.bind_eq_some_iff.1 e;have h1:=two_len hy h0;unfold minA at e
 split at e
 ·next hm=>
  obtain ⟨z,hz,e⟩:=Option.bind_eq_some_iff.1 e;have h2:=two_len hz (skip_len hm h1);unfold secA at e
  split at e
  ·next hs=>
   obtain ⟨t,ht,e⟩:=Option.bind_eq_some_iff.1 e
   cases e
   exact two_len ht (skip_len hs h2)
  ·cases e;exact h2
 ·cases e;exact h1
theorem fra_len {l:Txt}:∀ (f i v:Nat),i<=l.length->(fraA l f i v).2.2<=l.length
 |0,i,v,h=>h
 |f+1,i,v,h=>by
  rw [fraA]
  split
  ·next hd=>exact fra_len f _ _ (dg_len hd)
  ·exact h
theorem part_len {l:Txt} {i:Nat} {x:Int×Nat} (e:partA l i=some x) (h0:i<=l.length):x.2<=l.length:=by
 unfold partA at e
 split at e
 ·next hd=>
  split at e
  ·cases e
  ·cases e;exact fra_len _ _ _ (one_len hd)
 ·cases e;exact h0
theorem tim_len {l:Txt} {i:Nat} {x:TimT×Nat} (e:timA l i=some x) (h0:i<=l.length):x.2<=l.length:=by
 obtain ⟨y,hy,e⟩:=Option.bind_eq_some_iff.1 e
 split at e
 ·obtain ⟨z,hz,e⟩:=Option.bind_eq_some_iff.1 e
  cases e
  exact part_len hz (clk_len hy h0)
 ·cases e;exact clk_len hy h0
theorem dclock_text (s:ByteArray) (w:World) (hs:s.size<=2097152):
  Calls prog 10 #[.string s] w fun e w'=>e= .returned (clockV (clockA (tx s)))/\Below w.heap.size w w':=by
 have HI:=hid (fun z=>dis_any ⟨#[84,116]⟩ s 0 z (by decide) hs (by omega))
 rw [tt_l] at HI;obtain ⟨R,hR⟩:∃ R,clockA (tx s)=R:=⟨_,rfl⟩;rw [hR];unfold clockA at hR;rw [tx_len] at hR;obtain ⟨h1,hb,-⟩:=box1 w 23 #[.int .i64 0,.int .i64 0,.int .i64 0,.int .i64 0];have HB:=hid (And.intro h1 hb);clear h1 hb
 cases ho:oneA (tx s) [84,116] 0
 ·rw [ho] at HI hR
  simp only [Bool.false_eq_true,if_false] at hR
  have hl0:0<=(tx s).length:=by omega
  clear ho
  have HT:=hid (fun z=>dtime_any 0 s z hs (by omega))
  rcases ht:timA (tx s) 0 with _|⟨t,k⟩
  ·rw [ht] at HT hR
   have hR:none=R:=hR;subst hR
   have qk:((-1:Int) != (s.size:Int))=true:=by rw [bne_iff_ne];omega
   clear ht;go_enter func10,ntmps10
   go_wp2_with (first
    |(go_at_call 20;generalize World.alloc _ _=W at *;refine (HI.out W).mono ?_;rintro e w1 ⟨rfl,q,rfl⟩;have HB1:=hid (And.intro (HB.out.1.drewN q) (below_drewN HB.out.2 q));clear HB HI;generalize W.drewN q=W1 at *)
    |(go_at_call 21;refine (HT.out _).mono ?_;rintro e w2 ⟨⟨t,rfl⟩,hb2⟩;have b4:=HB1.out.1.below hb2 HB1.out.1.lt;have HB2:=hid (And.intro b4 (HB1.out.2.trans (hb2.mono HB1.out.2.size)));have c4:=b4.cell;have f4:=b4.frozen;have l4:=b4.lt;have n4:=Nat.ne_of_lt l4;have m4:=n4.symm;clear HB1 HT hb2 b4))
   obtain ⟨bF0,hF0⟩:=tim_end (.int .i64 0) (.int .i64 0) (.int .i64 0) (.int .i64 0) HB2.out.1 HB2.out.2;have bF:=bF0.alloc (.cells #[.int .i64 t.h,.int .i64 t.m,.int .i64 t.s,.int .i64 t.ns] 23);have hF:=hF0.alloc hF0.size (.cells #[.int .i64 t.h,.int .i64 t.m,.int .i64 t.s,.int .i64 t.ns] 23);clear HB2 c4 f4 l4 n4 m4 bF0 hF0;generalize World.alloc (World.setCell _ _ _) _=WF at*;have cF:=bF.cell
   exact bodyPost_ret (v:= .tuple #[.agg #[.int .i64 0,.int .i64 0,.int .i64 0,.int .i64 0],.int .i64 6]) (by simp [results,Tryz.results10,go_sem,cF]) rfl ⟨rfl,hF⟩
  ·have hkl:=tim_len ht hl0
   rw [ht] at HT hR;rw [tx_len] at hkl;simp only [Option.bind_some] at hR;simp only [DTm,timV] at HT;clear ht
   by_cases hk:k<s.size
   ·rw [if_pos hk] at hR
    subst hR
    have qk:((k:Int) != (s.size:Int))=true:=by rw [bne_iff_ne];omega
    go_enter func10,ntmps10
    go_wp2_with (first
     |(go_at_call 20;generalize World.alloc _ _=W at *;refine (HI.out W).mono ?_;rintro e w1 ⟨rfl,q,rfl⟩;have HB1:=hid (And.intro (HB.out.1.drewN q) (below_drewN HB.out.2 q));clear HB HI;generalize W.drewN q=W1 at *)
     |(go_at_call 21;refine (HT.out _).mono ?_;rintro e w2 ⟨rfl,hb2⟩;have b4:=HB1.out.1.below hb2 HB1.out.1.lt;have HB2:=hid (And.intro b4 (HB1.out.2.trans (hb2.mono HB1.out.2.size)));have c4:=b4.cell;have f4:=b4.frozen;have l4:=b4.lt;have n4:=Nat.ne_of_lt l4;have m4:=n4.symm;clear HB1 HT hb2 b4))
    obtain ⟨bF0,hF0⟩:=tim_end (.int .i64 0) (.int .i64 0) (.int .i64 0) (.int .i64 0) HB2.out.1 HB2.out.2;have bF:=bF0.alloc (.cells #[.int .i64 t.h,.int .i64 t.m,.int .i64 t.s,.int .i64 t.ns] 23);have hF:=hF0.alloc hF0.size (.cells #[.int .i64 t.h,.int .i64 t.m,.int .i64 t.s,.int .i64 t.ns] 23);clear HB2 c4 f4 l4 n4 m4 bF0 hF0;generalize World.alloc (World.setCell _ _ _) _=WF at*;have cF:=bF.cell
    exact bodyPost_ret (v:= .tuple #[.agg #[.int .i64 0,.int .i64 0,.int .i64 0,.int .i64 0],.int .i64 6]) (by simp [results,Tryz.results10,go_sem,cF]) rfl ⟨rfl,hF⟩
   ·rw [if_neg hk] at hR
    subst hR
    obtain rfl:k=s.size:=by omega
    have qk:((s.size:Int) != (s.size:Int))=false:=by simp
    go_enter func10,ntmps10
    go_wp2_with (first
     |(go_at_call 20;generalize World.alloc _ _=W at *;refine (HI.out W).mono ?_;rintro e w1 ⟨rfl,q,rfl⟩;have HB1:=hid (And.intro (HB.out.1.drewN q) (below_drewN HB.out.2 q));clear HB HI;generalize W.drewN q=W1 at *)
     |(go_at_call 21;refine (HT.out _).mono ?_;rintro e w2 ⟨rfl,hb2⟩;have b4:=HB1.out.1.below hb2 HB1.out.1.lt;have HB2:=hid (And.intro b4 (HB1.out.2.trans (hb2.mono HB1.out.2.size)));have c4:=b4.cell;have f4:=b4.frozen;have l4:=b4.lt;have n4:=Nat.ne_of_lt l4;have m4:=n4.symm;clear HB1 HT hb2 b4))
    obtain ⟨bF0,hF0⟩:=tim_end (.int .i64 t.h) (.int .i64 t.m) (.int .i64 t.s) (.int .i64 t.ns) HB2.out.1 HB2.out.2;have bF:=bF0.alloc (.cells #[.int .i64 t.h,.int .i64 t.m,.int .i64 t.s,.int .i64 t.ns] 23);have hF:=hF0.alloc hF0.size (.cells #[.int .i64 t.h,.int .i64 t.m,.int .i64 t.s,.int .i64 t.ns] 23);clear HB2 c4 f4 l4 n4 m4 bF0 hF0;generalize World.alloc (World.setCell _ _ _) _=WF at*;have cF:=bF.cell
    exact bodyPost_ret (v:= .tuple #[.agg #[.int .i64 t.h,.int .i64 t.m,.int .i64 t.s,.int .i64 t.ns],.int .i64 0]) (by simp [results,Tryz.results10,go_sem,cF]) rfl ⟨rfl,hF⟩
 ·rw [ho] at HI hR
  simp only [if_true] at hR
  have hl0:1<=(tx s).length:=by exact one_len ho
  clear ho
  have HT:=hid (fun z=>dtime_any 1 s z hs (by omega))
  rcases ht:timA (tx s) 1 with _|⟨t,k⟩
  ·rw [ht] at HT hR
   have hR:none=R:=hR;subst hR
   have qk:((-1:Int) != (s.size:Int))=true:=by rw [bne_iff_ne];omega
   clear ht;go_enter func10,ntmps10
   go_wp2_with (first
    |(go_at_call 20;generalize World.alloc _ _=W at *;refine (HI.out W).mono ?_;rintro e w1 ⟨rfl,q,rfl⟩;have HB1:=hid (And.intro (HB.out.1.drewN q) (below_drewN HB.out.2 q));clear HB HI;generalize W.drewN q=W1 at *)
    |(go_at_call 21;refine (HT.out _).mono ?_;rintro e w2 ⟨⟨t,rfl⟩,hb2⟩;have b4:=HB1.out.1.below hb2 HB1.out.1.lt;have HB2:=hid (And.intro b4 (HB1.out.2.trans (hb2.mono HB1.out.2.size)));have c4:=b4.cell;have f4:=b4.frozen;have l4:=b4.lt;have n4:=Nat.ne_of_lt l4;have m4:=n4.symm;clear HB1 HT hb2 b4))
   obtain ⟨bF0,hF0⟩:=tim_end (.int .i64 0) (.int .i64 0) (.int .i64 0) (.int .i64 0) HB2.out.1 HB2.out.2;have bF:=bF0.alloc (.cells #[.int .i64 t.h,.int .i64 t.m,.int .i64 t.s,.int .i64 t.ns] 23);have hF:=hF0.alloc hF0.size (.cells #[.int .i64 t.h,.int .i64 t.m,.int .i64 t.s,.int .i64 t.ns] 23);clear HB2 c4 f4 l4 n4 m4 bF0 hF0;generalize World.alloc (World.setCell _ _ _) _=WF at*;have cF:=bF.cell
   exact bodyPost_ret (v:= .tuple #[.agg #[.int .i64 0,.int .i64 0,.int .i64 0,.int .i64 0],.int .i64 6]) (by simp [results,Tryz.results10,go_sem,cF]) rfl ⟨rfl,hF⟩
  ·have hkl:=tim_len ht hl0
   rw [ht] at HT hR;rw [tx_len] at hkl;simp only [Option.bind_some] at hR;simp only [DTm,timV] at HT;clear ht
   by_cases hk:k<s.size
   ·rw [if_pos hk] at hR
    subst hR
    have qk:((k:Int) != (s.size:Int))=true:=by rw [bne_iff_ne];omega
    go_enter func10,ntmps10
    go_wp2_with (first
     |(go_at_call 20;generalize World.alloc _ _=W at *;refine (HI.out W).mono ?_;rintro e w1 ⟨rfl,q,rfl⟩;have HB1:=hid (And.intro (HB.out.1.drewN q) (below_drewN HB.out.2 q));clear HB HI;generalize W.drewN q=W1 at *)
     |(go_at_call 21;refine (HT.out _).mono ?_;rintro e w2 ⟨rfl,hb2⟩;have b4:=HB1.out.1.below hb2 HB1.out.1.lt;have HB2:=hid (And.intro b4 (HB1.out.2.trans (hb2.mono HB1.out.2.size)));have c4:=b4.cell;have f4:=b4.frozen;have l4:=b4.lt;have n4:=Nat.ne_of_lt l4;have m4:=n4.symm;clear HB1 HT hb2 b4))
    obtain ⟨bF0,hF0⟩:=tim_end (.int .i64 0) (.int .i64 0) (.int .i64 0) (.int .i64 0) HB2.out.1 HB2.out.2;have bF:=bF0.alloc (.cells #[.int .i64 t.h,.int .i64 t.m,.int .i64 t.s,.int .i64 t.ns] 23);have hF:=hF0.alloc hF0.size (.cells #[.int .i64 t.h,.int .i64 t.m,.int .i64 t.s,.int .i64 t.ns] 23);clear HB2 c4 f4 l4 n4 m4 bF0 hF0;generalize World.alloc (World.setCell _ _ _) _=WF at*;have cF:=bF.cell
    exact bodyPost_ret (v:= .tuple #[.agg #[.int .i64 0,.int .i64 0,.int .i64 0,.int .i64 0],.int .i64 6]) (by simp [results,Tryz.results10,go_sem,cF]) rfl ⟨rfl,hF⟩
   ·rw [if_neg hk] at hR
    subst hR
    obtain rfl:k=s.size:=by omega
    have qk:((s.size:Int) != (s.size:Int))=false:=by simp
    go_enter func10,ntmps10
    go_wp2_with (first
     |(go_at_call 20;generalize World.alloc _ _=W at *;refine (HI.out W).mono ?_;rintro e w1 ⟨rfl,q,rfl⟩;have HB1:=hid (And.intro (HB.out.1.drewN q) (below_drewN HB.out.2 q));clear HB HI;generalize W.drewN q=W1 at *)
     |(go_at_call 21;refine (HT.out _).mono ?_;rintro e w2 ⟨rfl,hb2⟩;have b4:=HB1.out.1.below hb2 HB1.out.1.lt;have HB2:=hid (And.intro b4 (HB1.out.2.trans (hb2.mono HB1.out.2.size)));have c4:=b4.cell;have f4:=b4.frozen;have l4:=b4.lt;have n4:=Nat.ne_of_lt l4;have m4:=n4.symm;clear HB1 HT hb2 b4))
    obtain ⟨bF0,hF0⟩:=tim_end (.int .i64 t.h) (.int .i64 t.m) (.int .i64 t.s) (.int .i64 t.ns) HB2.out.1 HB2.out.2;have bF:=bF0.alloc (.cells #[.int .i64 t.h,.int .i64 t.m,.int .i64 t.s,.int .i64 t.ns] 23);have hF:=hF0.alloc hF0.size (.cells #[.int .i64 t.h,.int .i64 t.m,.int .i64 t.s,.int .i64 t.ns] 23);clear HB2 c4 f4 l4 n4 m4 bF0 hF0;generalize World.alloc (World.setCell _ _ _) _=WF at*;have cF:=bF.cell
    exact bodyPost_ret (v:= .tuple #[.agg #[.int .i64 t.h,.int .i64 t.m,.int .i64 t.s,.int .i64 t.ns],.int .i64 0]) (by simp [results,Tryz.results10,go_sem,cF]) rfl ⟨rfl,hF⟩
end Gr
end
end Go.Proofs.YtiiekaehbahenaaGreatDoor
