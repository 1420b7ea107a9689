/-
  Contracts of the code that the law reaches, and plain laws. Conditions: as each says.
-/
import Derived.Test.YtiiekaehbahenaaGreatDoorV27
import Derived.Test.YtiiekaehbahenaaGreatDoorV34
import Derived.Test.YtiiekaehbahenaaGreatDoorV35
import Derived.Test.YtiiekaehbahenaaGreatDoorV25
set_option linter.all false
set_option maxHeartbeats 40000000
set_option maxRecDepth 100000
namespace Go.Proofs.YtiiekaehbahenaaGreatDoor
open Lib (hid)
open Tryz
section
namespace Gr
open Go.RowKit Mem Atl Wid RefZ
theorem length18 (u:Nat) (h1:4<=u) (h2:u<=8) (w:World):Calls prog 75 #[.int .i64 u] w fun e w'=>e= .returned (.int .i64 (lenU u))/\w=w':=by
 have:u=4\/u=5\/u=6\/u=7\/u=8:=by omega
 rcases this with rfl|rfl|rfl|rfl|rfl
 all_goals
  go_enter func75,ntmps75;go_wp2;go_ret;exact ⟨rfl,rfl⟩
theorem made18 (x0 x1 x2 x3 x4 x5 x6 x7:Int) (w:World):Calls prog 78 #[.agg #[.int .i64 x0,.int .i64 x1,.int .i64 x2,.int .i64 x3,.int .i64 x4,.int .i64 x5,.int .i64 x6,.int .i64 x7]] w fun e w'=>e= .returned (.agg #[.int .i64 x0,.int .i64 x1,.int .i64 x2,.int .i64 x3,.int .i64 x4,.int .i64 x5,.int .i64 x6,.int .i64 x7])/\Below w.heap.size w w':=by
 have hb:=box2 w 130 32 #[.int .i64 x0,.int .i64 x1,.int .i64 x2,.int .i64 x3,.int .i64 x4,.int .i64 x5,.int .i64 x6,.int .i64 x7] #[.int .i64 x0,.int .i64 x1,.int .i64 x2,.int .i64 x3,.int .i64 x4,.int .i64 x5,.int .i64 x6,.int .i64 x7];have HB:=hid hb;have c0:=hb.1.cell;have c1:=hb.2.1.cell;clear hb;go_enter func78,ntmps78
 go_wp2_with fail
 exact bodyPost_ret (v:= .agg #[.int .i64 x0,.int .i64 x1,.int .i64 x2,.int .i64 x3,.int .i64 x4,.int .i64 x5,.int .i64 x6,.int .i64 x7]) (by simp [results,Tryz.results78,go_sem,c1]) rfl ⟨rfl,HB.out.2.2.1⟩
theorem fields18 (x0 x1 x2 x3 x4 x5 x6 x7:Int) (w:World):Calls prog 109 #[.agg #[.int .i64 x0,.int .i64 x1,.int .i64 x2,.int .i64 x3,.int .i64 x4,.int .i64 x5,.int .i64 x6,.int .i64 x7]] w fun e w'=>e= .returned (.slice (some ⟨w.heap.size+1,0,none⟩) 8 8)/\Blk w' (w.heap.size+1) 2 #[.int .i64 x0,.int .i64 x1,.int .i64 x2,.int .i64 x3,.int .i64 x4,.int .i64 x5,.int .i64 x6,.int .i64 x7]/\Below w.heap.size w w':=by
 have hb:=box2 w 32 2 #[.int .i64 x0,.int .i64 x1,.int .i64 x2,.int .i64 x3,.int .i64 x4,.int .i64 x5,.int .i64 x6,.int .i64 x7] #[.int .i64 x0,.int .i64 x1,.int .i64 x2,.int .i64 x3,.int .i64 x4,.int .i64 x5,.int .i64 x6,.int .i64 x7];have HB:=hid hb;clear hb;go_enter func109,ntmps109;go_wp2;go_ret;exact ⟨rfl,HB.out.2.1,HB.out.2.2.1⟩
theorem limit18 (w:World):Calls prog 111 #[] w (RetZ w (two 53*1000000000) (53+4+6+1)):=by
 have hbx:=box1 w 70 #[.bool false,.slice none 0 0];have HR:Hid (Res w w.heap.size (w.alloc (.cells #[.bool false,.slice none 0 0] 70))):=⟨hbx.1,hbx.2.1,Nat.le_refl _⟩;clear hbx;go_enter func111,ntmps111
 go_wp2_with fail
 generalize World.alloc _ _=W at*
 go_at_call 108
 refine (power_any 53 W (by omega)).mono ?_
 rintro e w1 ⟨v,rfl,⟨n1,A1,k1,c1,d1,rfl,hz1⟩,hb1⟩;have HR1:=hid (HR.out.below hb1);have HZ1:=hid hz1;clear hb1 hz1 HR
 go_wp2_with fail
 go_at_call 35
 refine (of_any 1000000000 w1 (by decide) (by decide)).mono ?_
 rintro e w2 ⟨v,rfl,⟨n2,A2,k2,c2,d2,rfl,hz2⟩,hb2⟩;have HR2:=hid (HR1.out.below hb2)
 have HM:=hid (mul_any n1 n2 A1 A2 k1 k2 c1 c2 d1 d2 _ _ _ _ w2 (HZ1.out.below hb2) hz2 (by omega) (by omega))
 clear hb2 hz2 HR1 HZ1
 go_wp2_with fail
 go_at_call 34
 refine HM.out.mono ?_
 rintro e w3 ⟨v,rfl,⟨n3,A3,k3,c3,d3,rfl,hz3⟩,hb3⟩;have hr3:=HR2.out.below hb3;have HR3:=hid hr3;have HZ3:=hid hz3;obtain ⟨g0,g1,g2,g3⟩:=hr3.cells;clear hb3 hz3 HR2 HM hr3;go_wp2
 refine bodyPost_ret (v:= .agg #[.bool n3,.slice A3 k3 c3]) (by simp [results,Tryz.results111,go_sem,g0,g1]) rfl ?_
 exact HR3.out.stored HZ3.out rfl
def sumZ (D:Nat->Nat) (k:Nat):Int:=((totL D k).sum:Nat)
theorem sumZ_succ (D:Nat->Nat) (k:Nat):sumZ D (k+1)=sumZ D k+(D (k+3):Int)*(lenU (k+4):Int):=by
 unfold sumZ;rw [totL_succ,List.sum_append];simp
structure TSt (w:World) (F N:Nat) (a b c d e f g h:Nat) (k:Nat) (W:World):Prop where
 res:Res w (w.heap.size+1) W
 bF:Blk W F 2 (durV a b c d e f g h)
 var:∃ (gg:Bool) (A:Option Addr) (kk cc:Nat) (ds:List Int),Var W N gg A kk cc ds (sumZ (oct a b c d e f g h) k) (13+k)
 hN:w.heap.size+1<N
theorem TSt.step {w:World} {F N a b c d e f g h k:Nat} {W Y:World} (t:TSt w F N a b c d e f g h k W) (hb:Below W.heap.size W Y):TSt w F N a b c d e f g h k Y:=by
 obtain ⟨gg,A,kk,cc,ds,hv⟩:=t.var;exact ⟨t.res.below hb,t.bF.below hb t.bF.lt,⟨gg,A,kk,cc,ds,hv.below hb⟩,t.hN⟩
theorem TSt.next {w:World} {F N a b c d e f g h k L:Nat} {W Y:World} (t:TSt w F N a b c d e f g h k W) (hb:Below W.heap.size W Y) {n5:Bool} {A5:Option Addr} {k5 c5:Nat} {d5:List Int} {p q:Int}
  (hz:ZD Y n5 A5 k5 c5 d5 (sumZ (oct a b c d e f g h) k+p*q) L) (hL:L<=13+(k+1)) (hpq:((oct a b c d e f g h (k+3):Nat):Int)*((lenU (k+4):Nat):Int)=p*q):
  TSt w F N a b c d e f g h (k+1) ((Y.setCell ⟨N,0,none⟩ (.bool n5)).setCell ⟨N,1,none⟩ (.slice A5 k5 c5)):=by
 obtain ⟨gg,A,kk,cc,ds,hv⟩:=t.var
 have hF:F≠N:=by
  intro e;subst e;have h0:=t.bF.cell 0;have h1:=hv.blk.cell 0;rw [show (⟨F,((0:Nat):Nat),none⟩:Addr)=⟨F,0,none⟩ from rfl] at h0 h1;rw [h0] at h1;simp [durV] at h1
 have hv':=hv.below hb
 refine ⟨(t.res.below hb).put (by have:=t.hN;omega) (by have:=t.hN;omega) _ _,blk_put_far (t.bF.below hb t.bF.lt) hF _ _,⟨n5,A5,k5,c5,d5,?_⟩,t.hN⟩
 rw [sumZ_succ,hpq];exact (Var.mine hz hv'.blk).more hL
theorem oct_cellT {w:World} {X a b c d e f g h:Nat} {T:TypeId} (hb:Blk w X T (durV a b c d e f g h)) {k:Nat} (hk:k<8):w.cell? ⟨X,k,none⟩=some (.int .i64 (oct a b c d e f g h k)):=by
 rw [hb.cell k]
 rcases oct8 hk with rfl|rfl|rfl|rfl|rfl|rfl|rfl|rfl<;>rfl
theorem bel_nx3 {W y z:World} (hb:Below W.heap.size W y) (h:Below y.heap.size y z):Below W.heap.size W z:=hb.trans (h.mono hb.size)
theorem total18 (a b c d e f g h:Nat) (hD:∀ k,oct a b c d e f g h k<9223372036854775808) (w:World):Calls prog 110 #[.agg (durV a b c d e f g h)] w (RetZ w (totN (oct a b c d e f g h)) 18):=by
 have hbx:=box2 w 32 70 (durV a b c d e f g h) #[.bool false,.slice none 0 0];have HB:=hid hbx;have c0:=hbx.1.cell;clear hbx;go_enter func110,ntmps110
 go_wp2_with fail
 generalize World.alloc (World.alloc _ _) _=W at*
 go_at_call 109
 refine (fields18 a b c d e f g h W).mono ?_
 rintro r w1 ⟨rfl,bF,hb1⟩
 have hr:Res w (w.heap.size+1) W:=⟨HB.out.2.1,HB.out.2.2.1,by omega⟩
 have H1:=hid (And.intro (hr.below hb1) bF);have hs:=hr.blk.lt;have hs1:=hb1.size;clear bF hr hb1 HB c0;obtain ⟨F,hF⟩:∃ F,W.heap.size+1=F:=⟨_,rfl⟩;rw [hF] at H1 ⊢;clear hF
 go_wp2_with fail
 have t0:TSt w F w1.heap.size a b c d e f g h 0 (w1.alloc (.cells #[.bool false,.slice none 0 0] 70)):=⟨H1.out.1.below ((Below.refl _ _).alloc (Nat.le_refl _) _),H1.out.2.alloc _,⟨false,none,0,0,[],⟨Blk.new _ _ _,ZD.zero _ _⟩⟩,by omega⟩
 have T0:=hid t0;clear t0 H1 hs hs1;generalize w1.alloc _=W2 at*;generalize w1.heap.size=N at*
 go_loopw [5] (fun i wr=>∃ k:Nat,k<=5/\i= .int .i64 ((k+3:Nat):Int)/\TSt w F N a b c d e f g h k wr) (fun i _=>8 - (intOf i).toNat)
 case atStart=>exact ⟨0,by omega,rfl,T0.out⟩
 case round=>
  clear T0;obtain ⟨k,hk,rfl,ht⟩:=hrel;have HT:=hid ht;obtain ⟨gg,A,kk,cc,ds,hv⟩:=ht.var
  by_cases hk5:k<5
  ·have q1:decide ((k:Int)+3<8)=true:=decide_eq_true (by omega)
   have hx:=oct_cellT ht.bF (show k+3<8 from by omega)
   have hxb:=hD (k+3);obtain ⟨X,hX⟩:∃ X:Int,((oct a b c d e f g h (k+3):Nat):Int)=X:=⟨_,rfl⟩;obtain ⟨Y,hY⟩:∃ Y:Int,((lenU (k+4):Nat):Int)=Y:=⟨_,rfl⟩;have hyb:=lenU_lt (k+4)
   have HLn:Hid (∀ z,Calls prog 75 #[.int .i64 (IntKind.i64.wrap ((k:Int)+3+1))] z fun e w'=>e= .returned (.int .i64 Y)/\z=w'):=fun z=>by
    have:=length18 (k+4) (by omega) (by omega) z
    rw [hY,show ((k+4:Nat):Int)=IntKind.i64.wrap ((k:Int)+3+1) from by rw [IntKind.wrap_i64];omega] at this
    exact this
   have HOf:=hid (fun (s:Int) (z:World) (hs:s=X\/s=Y)=>of_any s z (by omega) (by omega))
   have ad:=addr_at F (k+3)
   have i0:(0:Int)<=(k:Int)+3:=by omega
   have i1:(k:Int)+3<8:=by omega
   have i2:k+3<8:=by omega
   have i3:((k:Int)+3).toNat=k+3:=by omega
   have hZ:((oct a b c d e f g h (k+3):Nat):Int)*((lenU (k+4):Nat):Int)=X*Y:=by rw [hX,hY]
   have HZ:=hid hZ;rw [hX] at hx;have HN:=hid hv;obtain ⟨n0,n1,-,-⟩:=hv.cells
   have HK:=hid (fun z (hb:Below wr.heap.size wr z)=>And.intro ((hv.below hb).blk.cell 0) (And.intro ((hv.below hb).blk.cell 1) (oct_cellT (ht.bF.below hb ht.bF.lt) (show k+3<8 from by omega))))
   rw [hX] at HK;clear hv hZ hX hY hxb hyb ht
   go_wp2_with fail
   have kb0:Below wr.heap.size wr wr.drew:=(Below.refl _ _).drew;clear hx n0 n1;have hm:=HK.out _ kb0;have m0:=hm.1;have m1:=hm.2.1;have m2:=hm.2.2;clear hm
   go_region_with (first
    |(go_at_call 75;refine (HLn _).mono ?_;rintro e w3 ⟨rfl,rfl⟩)
    |(go_at_call 35;refine (HOf.out _ _ (by first|exact .inl rfl|exact .inr rfl)).mono ?_;rintro e wx ⟨vx,rfl,⟨nx,Ax,kx,cx,dx,rfl,hzx⟩,hbx⟩;have kbx:=bel_nx3 (W:=wr) (by go_grown) hbx;(first|(have HzY:=hid (HzY.out.below hbx))|skip);(first|(have HzX:=hid (HzX.out.below hbx))|skip);(first|(have HzX:Hid (ZD _ _ _ _ _ _ X 6):=hzx)|(have HzY:Hid (ZD _ _ _ _ _ _ Y 6):=hzx));have hm:=HK.out _ kbx;have m0:=hm.1;have m1:=hm.2.1;have m2:=hm.2.2;clear hbx hzx hm)
    |(go_at_call 34;refine (mul_any _ _ _ _ _ _ _ _ _ _ _ _ _ _ _ HzX.out HzY.out (by omega) (by omega)).mono ?_;rintro e w4 ⟨v4,rfl,⟨n4,A4,k4,c4,d4,rfl,hz4⟩,hb4⟩;have kb4:=bel_nx3 (W:=wr) (by go_grown) hb4;have Hz4:=hid hz4;have hm:=HK.out _ kb4;have m0:=hm.1;have m1:=hm.2.1;have m2:=hm.2.2;clear hb4 hz4 hm)
    |(go_at_call 33;refine (add_any _ _ _ _ _ _ _ _ _ _ _ _ _ _ _ (HN.out.zd.below (by assumption)) Hz4.out (by omega) (by omega)).mono ?_;rintro e w5 ⟨v5,rfl,⟨n5,A5,k5,c5,d5,rfl,hz5⟩,hb5⟩;have kb5:=bel_nx3 (W:=wr) (by go_grown) hb5;have Hz5:=hid hz5;have f5:=fun i=>(HN.out.blk.below kb5 HN.out.blk.lt).frozen i;have hm:=HK.out _ kb5;have m0:=hm.1;have m1:=hm.2.1;have m2:=hm.2.2;clear hb5 hz5 hm))
   all_goals clear m0 m1 m2
   all_goals go_wp2
   all_goals refine ⟨⟨k+1,by omega,by go_num,?_⟩,by simp [intOf];omega⟩
   all_goals exact HT.out.next kb5 Hz5.out (by omega) HZ.out
  ·have hk':k=5:=by omega
   subst hk'
   have q1:decide (((5:Nat):Int)+3<8)=false:=by decide
   obtain ⟨n0,n1,-,-⟩:=hv.cells;have hr:=ht.res;obtain ⟨r0,r1,r2,r3⟩:=hr.cells;have HV:=hid hv;have HR:=hid hr;have g0:((wr.setCell ⟨w.heap.size+1,0,none⟩ (.bool gg)).setCell ⟨w.heap.size+1,1,none⟩ (.slice A kk cc)).cell? ⟨w.heap.size+1,0,none⟩=some (.bool gg):=(blk_put hr.blk _ _).cell 0;have g1:((wr.setCell ⟨w.heap.size+1,0,none⟩ (.bool gg)).setCell ⟨w.heap.size+1,1,none⟩ (.slice A kk cc)).cell? ⟨w.heap.size+1,1,none⟩=some (.slice A kk cc):=(blk_put hr.blk _ _).cell 1;clear hv ht hr;go_wp2
   refine bodyPost_ret (v:= .agg #[.bool gg,.slice A kk cc]) (by simp [results,Tryz.results110,go_sem,g0,g1]) rfl ?_
   exact HR.out.stored HV.out.zd rfl
end Gr
end
end Go.Proofs.YtiiekaehbahenaaGreatDoor
