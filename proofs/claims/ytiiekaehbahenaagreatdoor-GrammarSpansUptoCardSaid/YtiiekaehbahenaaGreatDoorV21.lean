/-
  Contracts of the code that the law reaches, and plain laws. Conditions: as each says.
-/
import Derived.Test.YtiiekaehbahenaaGreatDoorV20
set_option linter.all false
set_option maxHeartbeats 40000000
set_option maxRecDepth 100000
namespace Go.Proofs.YtiiekaehbahenaaGreatDoor
open Lib (hid)
open Tryz
section
namespace Wid
open Go.RowKit Mem Atl
def layT (n:Nat):Nat->Nat
 |0=>n
 |k+1=>layT n k % lenU (k+6)
def layG (n:Nat):Nat->Nat->Int
 |0=>fun _=>0
 |k+1=>fun j=>if j=k+5 then ((layT n k / lenU (k+6):Nat):Int) else layG n k j
theorem layT_le (n k:Nat):layT n k<=n:=by
 induction k with
 |zero=>exact Nat.le_refl _
 |succ k ih=>exact Nat.le_trans (Nat.mod_le _ _) ih
theorem of_small (n:Nat) (hn:n<9223372036854775808) (w:World):Calls prog 60 #[.int .i64 n] w fun e w'=>e= .returned (.agg #[.int .i64 0,.int .u64 n])/\Below w.heap.size w w':=by
 have h1:n / 18446744073709551616=0:=by omega
 have h2:n % 18446744073709551616=n:=by omega
 have h:=of_nn n hn w;rw [wN,hiN,loN,h1,h2] at h;exact h
theorem int_small (n:Nat) (hn:n<9223372036854775808) (w:World):Calls prog 100 #[.agg #[.int .i64 0,.int .u64 n]] w fun e w'=>e= .returned (.tuple #[.int .i64 n,.bool true])/\Below w.heap.size w w':=by
 have h1:n / 18446744073709551616=0:=by omega
 have h2:n % 18446744073709551616=n:=by omega
 have h:=int_nn n hn w;rw [wN,hiN,loN,h1,h2] at h;exact h
theorem bel_nx2 {W y z:World} (hb:Below W.heap.size W y) (h:Below y.heap.size y z):Below W.heap.size W z:=hb.trans (h.mono hb.size)
theorem blk_a1 {w w':World} {c:Array Value} {T:TypeId} (hb:Below (w.alloc (.cells c T)).heap.size (w.alloc (.cells c T)) w'):Blk w' w.heap.size T c:=(Blk.new w T c).below hb (Blk.new w T c).lt
theorem blk_a2 {w w':World} {c d:Array Value} {T U:TypeId} (hb:Below ((w.alloc (.cells c T)).alloc (.cells d U)).heap.size ((w.alloc (.cells c T)).alloc (.cells d U)) w'):Blk w' w.heap.size T c/\Blk w' (w.heap.size+1) U d:=by
 obtain ⟨h1,h2,-,-⟩:=box2 w T U c d;exact ⟨h1.below hb h1.lt,h2.below hb h2.lt⟩
theorem blk_a1d {w w':World} {c:Array Value} {T:TypeId} (hb:Below (w.alloc (.cells c T)).drew.heap.size (w.alloc (.cells c T)).drew w'):Blk w' w.heap.size T c:=(show Blk (w.alloc (.cells c T)).drew w.heap.size T c from Blk.new w T c).below hb (Blk.new w T c).lt
theorem blk_a2d {w w':World} {c d:Array Value} {T U:TypeId} (hb:Below ((w.alloc (.cells c T)).alloc (.cells d U)).drew.heap.size ((w.alloc (.cells c T)).alloc (.cells d U)).drew w'):Blk w' w.heap.size T c/\Blk w' (w.heap.size+1) U d:=by
 obtain ⟨h1,h2,-,-⟩:=box2 w T U c d;exact ⟨(show Blk ((w.alloc (.cells c T)).alloc (.cells d U)).drew w.heap.size T c from h1).below hb h1.lt,(show Blk ((w.alloc (.cells c T)).alloc (.cells d U)).drew (w.heap.size+1) U d from h2).below hb h2.lt⟩
theorem blk_c0 {w w':World} {g:Nat} {e:Array Value} {V:TypeId} (h:Blk w g V e) (hb:Below w.heap.size w w'):Blk w' g V e:=h.below hb h.lt
theorem blk_c1 {w w':World} {g:Nat} {c e:Array Value} {T V:TypeId} (h:Blk w g V e) (hb:Below (w.alloc (.cells c T)).heap.size (w.alloc (.cells c T)) w'):Blk w' g V e:=(h.alloc _).below hb (h.alloc _).lt
theorem shp_a {wr w5:World} {c d:Array Value} {T:TypeId} (k:Below wr.heap.size wr w5):Blk ((w5.alloc (.cells c T)).alloc (.cells d T)) w5.heap.size T c/\Blk ((w5.alloc (.cells c T)).alloc (.cells d T)) (w5.heap.size+1) T d/\wr.heap.size<=w5.heap.size/\wr.heap.size<=w5.heap.size+1/\Below wr.heap.size wr ((w5.alloc (.cells c T)).alloc (.cells d T)):=by
 obtain ⟨h1,h2,h3,-⟩:=box2 w5 T T c d
 exact ⟨h1,h2,k.size,by have:=k.size;omega,k.trans (h3.mono k.size)⟩
theorem shp_b {wr w5:World} {g:Nat} {a0 a1 x0 x1:Value} {d:Array Value} {T:TypeId} (k:Below wr.heap.size wr w5) (h:Blk w5 g T #[a0,a1]) (hg:wr.heap.size<=g):
  Blk (((w5.setCell ⟨g,0,none⟩ x0).setCell ⟨g,1,none⟩ x1).alloc (.cells d T)) g T #[x0,x1]/\Blk (((w5.setCell ⟨g,0,none⟩ x0).setCell ⟨g,1,none⟩ x1).alloc (.cells d T)) w5.heap.size T d/\wr.heap.size<=g/\wr.heap.size<=w5.heap.size/\Below wr.heap.size wr (((w5.setCell ⟨g,0,none⟩ x0).setCell ⟨g,1,none⟩ x1).alloc (.cells d T)):=by
 have n:=Blk.new ((w5.setCell ⟨g,0,none⟩ x0).setCell ⟨g,1,none⟩ x1) T d;have hs:=k.size
 refine ⟨(set2 h).alloc _,by simpa using n,hg,hs,((k.setCell (p:=⟨g,0,none⟩) hg x0).setCell (p:=⟨g,1,none⟩) hg x1).alloc (by simp;omega) _⟩
theorem shp_c {wr w5:World} {g g':Nat} {a0 a1 b0 b1 x0 x1 y0 y1:Value} {T:TypeId} (k:Below wr.heap.size wr w5) (h:Blk w5 g T #[a0,a1]) (h':Blk w5 g' T #[b0,b1]) (hne:g≠g') (hg:wr.heap.size<=g) (hg':wr.heap.size<=g'):
  Blk ((((w5.setCell ⟨g,0,none⟩ x0).setCell ⟨g,1,none⟩ x1).setCell ⟨g',0,none⟩ y0).setCell ⟨g',1,none⟩ y1) g T #[x0,x1]/\Blk ((((w5.setCell ⟨g,0,none⟩ x0).setCell ⟨g,1,none⟩ x1).setCell ⟨g',0,none⟩ y0).setCell ⟨g',1,none⟩ y1) g' T #[y0,y1]/\wr.heap.size<=g/\wr.heap.size<=g'/\
   Below wr.heap.size wr ((((w5.setCell ⟨g,0,none⟩ x0).setCell ⟨g,1,none⟩ x1).setCell ⟨g',0,none⟩ y0).setCell ⟨g',1,none⟩ y1):=
 ⟨((set2 h).far (p:=⟨g',0,none⟩) hne y0).far (p:=⟨g',1,none⟩) hne y1,set2 ((h'.far (p:=⟨g,0,none⟩) hne.symm x0).far (p:=⟨g,1,none⟩) hne.symm x1),hg,hg',(((k.setCell (p:=⟨g,0,none⟩) hg x0).setCell (p:=⟨g,1,none⟩) hg x1).setCell (p:=⟨g',0,none⟩) hg' y0).setCell (p:=⟨g',1,none⟩) hg' y1⟩
theorem sum5L (D L:Nat->Nat):((List.range 5).map fun i=>D (i+3)*L (i+4)).sum=D 3*L 4+(D 4*L 5+(D 5*L 6+(D 6*L 7+D 7*L 8))):=by
 simp [List.range_succ]
theorem tot_lay (a b c:Nat):totN (oct 0 0 0 0 0 a b c)=a*60000000000+(b*1000000000+c):=by
 rw [totN,totL,sum5L,show lenU 6=60000000000 from rfl,show lenU 7=1000000000 from rfl,show lenU 8=1 from rfl,Nat.mul_one,show oct 0 0 0 0 0 a b c 3=0 from rfl,show oct 0 0 0 0 0 a b c 4=0 from rfl,Nat.zero_mul,Nat.zero_mul,Nat.zero_add,Nat.zero_add]
 rfl
theorem lay_sum (n A B:Nat):n / A*A+(n % A / B*B+n % A % B)=n:=by rw [Nat.div_add_mod',Nat.div_add_mod']
theorem right_lay (n:Nat) (hn:n<3600000000000):rightB (oct 0 0 0 0 0 (n / 60000000000) (n % 60000000000 / 1000000000) (n % 60000000000 % 1000000000))=true:=by
 have e:totN (oct 0 0 0 0 0 (n / 60000000000) (n % 60000000000 / 1000000000) (n % 60000000000 % 1000000000))=n:=by
  rw [tot_lay,lay_sum]
 rw [rightB,e]
 have h:n<limN:=Nat.lt_trans hn (by decide)
 simp [oct,h]
theorem layG_end (n:Nat):durF (layG n 3)=durV 0 0 0 0 0 (n / 60000000000) (n % 60000000000 / 1000000000) (n % 60000000000 % 1000000000):=by
 simp only [durF,layG,layT,show lenU 6=60000000000 from rfl,show lenU 7=1000000000 from rfl,show lenU 8=1 from rfl,Nat.div_one,Nat.zero_add,Nat.reduceAdd]
 rfl
abbrev zero8:Array Value:=#[.int .i64 0,.int .i64 0,.int .i64 0,.int .i64 0,.int .i64 0,.int .i64 0,.int .i64 0,.int .i64 0]
theorem lay_any (n:Nat) (hn:n<3600000000000) (w:World):
  Calls prog 59 #[.agg #[.int .i64 0,.int .u64 n],.int .i64 6] w fun r w'=>r= .returned (.tuple #[.agg (durF (layG n 3)),.int .i64 0])/\Below w.heap.size w w':=by
 have HX:=hid (box2 w 112 32 #[.int .i64 0,.int .u64 n] zero8)
 have HL:=hid (show ∀ z,Calls prog 58 #[.int .i64 6] z fun e w'=>e= .returned (.int .i64 60000000000)/\z=w' from fun z=>length_any 6 (by decide) (by decide) z)
 go_enter func59,ntmps59
 go_wp2_with fail
 generalize (w.alloc (.cells #[.int .i64 0,.int .u64 n] 112)).alloc (.cells zero8 32)=W at*
 go_at_call 58
 refine (HL.out W).mono ?_
 rintro r w1 ⟨rfl,rfl⟩;have n6:=Blk.new W 32 zero8;have H1:=hid (And.intro (HX.out.1.alloc (.cells zero8 32)) (And.intro (HX.out.2.1.alloc (.cells zero8 32)) (And.intro n6 (HX.out.2.2.1.alloc HX.out.2.2.1.size (.cells zero8 32)))));have hs0:=HX.out.2.2.2;clear n6 HX HL
 go_wp2_with fail
 generalize W.alloc (.cells #[.int .i64 0,.int .i64 0,.int .i64 0,.int .i64 0,.int .i64 0,.int .i64 0,.int .i64 0,.int .i64 0] 32)=W1 at*;obtain ⟨X,hX⟩:∃ X,W.heap.size=X:=⟨_,rfl⟩;rw [hX] at H1 hs0;rw [hX];clear hX
 go_at_call 45
 refine (fields_any X W1).mono ?_
 rintro r w2 ⟨rfl,bF,hb⟩;have hs1:X<W1.heap.size:=H1.out.2.2.1.lt;have H2:=hid (And.intro (H1.out.1.below hb H1.out.1.lt) (And.intro (H1.out.2.1.below hb H1.out.2.1.lt) (And.intro (H1.out.2.2.1.below hb hs1) (And.intro bF (H1.out.2.2.2.trans (hb.mono H1.out.2.2.2.size))))));have hs2:=bF.lt;clear bF hb H1;obtain ⟨F,hF⟩:∃ F,W1.heap.size=F:=⟨_,rfl⟩;rw [hF] at H2 hs1 hs2;rw [hF];clear hF
 go_wp2_with fail
 go_loopw [1,8,9,10,11,12] (fun i _ _ _ _ _ wr=>∃ k:Nat,k<=3/\i= .int .i64 ((k+6:Nat):Int)/\Blk wr w.heap.size 112 #[.int .i64 0,.int .u64 (layT n k)]/\Blk wr (w.heap.size+1) 32 zero8/\Blk wr X 32 (durF (layG n k))/\Blk wr F 62 (ptrC X)/\Below w.heap.size w wr) (fun i _ _ _ _ _ _=>9 - (intOf i).toNat)
 case atStart=>exact ⟨0,by omega,rfl,H2.out.1,H2.out.2.1,H2.out.2.2.1,H2.out.2.2.2.1,H2.out.2.2.2.2⟩
 case round=>
  obtain ⟨k,hk,rfl,b0,b1,bX,bF,hb⟩:=hrel;have HB:=hid (And.intro b0 (And.intro b1 (And.intro bX (And.intro bF hb))))
  by_cases hk3:k<3
  ·have hk8:decide ((k:Int)+6<=8)=true:=decide_eq_true (by omega)
   have c0:=b0.cell;clear b1 bX bF hb;obtain ⟨t,ht⟩:∃ t,layT n k=t:=⟨_,rfl⟩;rw [ht] at b0 HB c0
   have htn:t<9223372036854775808:=by have:=layT_le n k;omega
   obtain ⟨y,hy⟩:∃ y,lenU (k+6)=y:=⟨_,rfl⟩
   have hy1:y<9223372036854775808:=by rw [<-hy];exact lenU_lt _
   have hy0:0<y:=by
    rw [<-hy]
    have:k=0\/k=1\/k=2:=by omega
    rcases this with rfl|rfl|rfl<;>decide
   have HLn:=hid (fun z=>length_any (k+6) (by omega) (by omega) z)
   rw [hy] at HLn;have HOf:=hid (fun z=>of_small y hy1 z);have HTr:=hid (fun z=>trunc_small t y htn hy1 hy0 z);obtain ⟨q,hq⟩:∃ q,t / y=q:=⟨_,rfl⟩;obtain ⟨r,hr⟩:∃ r,t % y=r:=⟨_,rfl⟩;rw [hq,hr] at HTr;have HE:=hid (And.intro ht (And.intro hy (And.intro hq (And.intro hr htn))));have HKe:=hid (fun w' (h:Below wr.heap.size wr w')=>And.intro ((b0.below h b0.lt).cell 0) ((b0.below h b0.lt).cell 1));clear ht hy hq hr hy1 hy0 htn
   go_wp2_with fail
   clear c0
   go_cut [8,9,10] from 22 to 30 (fun s8 s9 s10 wx=>∃ (P8 P9:Nat),s8= .pointer (some ⟨P8,0,none⟩)/\s9= .pointer (some ⟨P9,0,none⟩)/\s10= .int .i64 0/\Blk wx P8 112 #[.int .i64 0,.int .u64 q]/\Blk wx P9 112 #[.int .i64 0,.int .u64 r]/\wr.heap.size<=P8/\wr.heap.size<=P9/\Below wr.heap.size wr wx)
   case first=>
    clear b0 HB H2 hs2 hs1 hs0 HE;have kb0:Below wr.heap.size wr wr.drew:=(Below.refl _ _).drew
    go_region_held3 (fun w'=>w'.cell? ⟨w.heap.size,0,none⟩=some (.int .i64 0)/\w'.cell? ⟨w.heap.size,1,none⟩=some (.int .u64 t)) (exact HKe.out _ (by go_grown)) ((first
     |(go_at_call 58;refine (HLn.out _).mono ?_;rintro e w3 ⟨rfl,rfl⟩)
     |(go_at_call 60;refine (HOf.out _).mono ?_;rintro e w4 ⟨rfl,hb⟩;have kb4:=bel_nx2 (W:=wr) (by go_grown) hb;have ks4:=kb4.size;(first|(have a12:=blk_a2d hb;have HA1:Hid (Blk w4 wr.heap.size 112 #[.int .i64 0,.int .u64 0]):=a12.1;have HA2:Hid (Blk w4 (wr.heap.size+1) 112 #[.int .i64 0,.int .u64 0]):=a12.2;clear a12)|(have HA1:Hid (Blk w4 wr.heap.size 112 #[.int .i64 0,.int .u64 0]):=blk_a1d hb)|skip);clear hb)
     |(go_at_call 99;refine (HTr.out _).mono ?_;rintro e w5 ⟨rfl,hb5⟩;have kb5:=bel_nx2 (W:=wr) (by go_grown) hb5;have ks5:=kb5.size;
       (first|(have d34:=blk_a2 hb5;have d3:=d34.1;have d4:=d34.2;clear d34;have c3:=d3.cell;have f3:=d3.frozen;have l3:=d3.lt;have n3:=Nat.ne_of_lt l3;have m3:=(Nat.ne_of_lt l3).symm;have H3:=hid d3;clear d3;have c4:=d4.cell;have f4:=d4.frozen;have l4:=d4.lt;have n4:=Nat.ne_of_lt l4;have m4:=(Nat.ne_of_lt l4).symm;have H4:=hid d4;clear d4)|(have d3:=blk_a1 hb5;have c3:=d3.cell;have f3:=d3.frozen;have l3:=d3.lt;have n3:=Nat.ne_of_lt l3;have m3:=(Nat.ne_of_lt l3).symm;have H3:=hid d3;clear d3)|skip);
       (first|(have d1:=blk_c0 HA1.out hb5;have c1:=d1.cell;have f1:=d1.frozen;have l1:=d1.lt;have n1:=Nat.ne_of_lt l1;have m1:=(Nat.ne_of_lt l1).symm;have H1:=hid d1;clear d1)|(have o1:=Nat.ne_of_lt HA1.out.lt;have p1:=(Nat.ne_of_lt HA1.out.lt).symm;have d1:=blk_c1 HA1.out hb5;have c1:=d1.cell;have f1:=d1.frozen;have l1:=d1.lt;have n1:=Nat.ne_of_lt l1;have m1:=(Nat.ne_of_lt l1).symm;have H1:=hid d1;clear d1)|skip);
       (first|(have d2:=blk_c0 HA2.out hb5;have c2:=d2.cell;have f2:=d2.frozen;have l2:=d2.lt;have n2:=Nat.ne_of_lt l2;have m2:=(Nat.ne_of_lt l2).symm;have H2:=hid d2;clear d2)|skip);clear hb5)))
    all_goals go_wp2
    all_goals go_meet
    all_goals first
     |(have z:=shp_a (c:=#[.int .i64 0,.int .u64 q]) (d:=#[.int .i64 0,.int .u64 r]) (T:=112) kb5;with_reducible exact ⟨_,_,rfl,rfl,rfl,z.1,z.2.1,z.2.2.1,z.2.2.2.1,z.2.2.2.2⟩)
     |(have z:=shp_a (c:=#[.int .i64 0,.int .u64 r]) (d:=#[.int .i64 0,.int .u64 q]) (T:=112) kb5;with_reducible exact ⟨_,_,rfl,rfl,rfl,z.2.1,z.1,z.2.2.2.1,z.2.2.1,z.2.2.2.2⟩)
     |(have z:=shp_b (x0:= .int .i64 0) (x1:= .int .u64 q) (d:=#[.int .i64 0,.int .u64 r]) kb5 H3.out ks4;with_reducible exact ⟨_,_,rfl,rfl,rfl,z.1,z.2.1,z.2.2.1,z.2.2.2.1,z.2.2.2.2⟩)
     |(have z:=shp_b (x0:= .int .i64 0) (x1:= .int .u64 r) (d:=#[.int .i64 0,.int .u64 q]) kb5 H3.out ks4;with_reducible exact ⟨_,_,rfl,rfl,rfl,z.2.1,z.1,z.2.2.2.1,z.2.2.1,z.2.2.2.2⟩)
     |(have z:=shp_b (x0:= .int .i64 0) (x1:= .int .u64 q) (d:=#[.int .i64 0,.int .u64 r]) kb5 H1.out (Nat.le_refl _);with_reducible exact ⟨_,_,rfl,rfl,rfl,z.1,z.2.1,z.2.2.1,z.2.2.2.1,z.2.2.2.2⟩)
     |(have z:=shp_b (x0:= .int .i64 0) (x1:= .int .u64 r) (d:=#[.int .i64 0,.int .u64 q]) kb5 H1.out (Nat.le_refl _);with_reducible exact ⟨_,_,rfl,rfl,rfl,z.2.1,z.1,z.2.2.2.1,z.2.2.1,z.2.2.2.2⟩)
     |(have z:=shp_c (x0:= .int .i64 0) (x1:= .int .u64 q) (y0:= .int .i64 0) (y1:= .int .u64 r) kb5 H3.out H4.out (Nat.ne_of_lt (Nat.lt_succ_self _)) ks4 (Nat.le_succ_of_le ks4);with_reducible exact ⟨_,_,rfl,rfl,rfl,z.1,z.2.1,z.2.2.1,z.2.2.2.1,z.2.2.2.2⟩)
     |(have z:=shp_c (x0:= .int .i64 0) (x1:= .int .u64 q) (y0:= .int .i64 0) (y1:= .int .u64 r) kb5 H4.out H3.out (Nat.ne_of_gt (Nat.lt_succ_self _)) (Nat.le_succ_of_le ks4) ks4;with_reducible exact ⟨_,_,rfl,rfl,rfl,z.1,z.2.1,z.2.2.1,z.2.2.2.1,z.2.2.2.2⟩)
     |(have z:=shp_c (x0:= .int .i64 0) (x1:= .int .u64 q) (y0:= .int .i64 0) (y1:= .int .u64 r) kb5 H1.out H3.out (by have:=HA1.out.lt;omega) (Nat.le_refl _) ks4;with_reducible exact ⟨_,_,rfl,rfl,rfl,z.1,z.2.1,z.2.2.1,z.2.2.2.1,z.2.2.2.2⟩)
     |(have z:=shp_c (x0:= .int .i64 0) (x1:= .int .u64 q) (y0:= .int .i64 0) (y1:= .int .u64 r) kb5 H3.out H1.out (by have:=HA1.out.lt;omega) ks4 (Nat.le_refl _);with_reducible exact ⟨_,_,rfl,rfl,rfl,z.1,z.2.1,z.2.2.1,z.2.2.2.1,z.2.2.2.2⟩)
     |(have z:=shp_c (x0:= .int .i64 0) (x1:= .int .u64 q) (y0:= .int .i64 0) (y1:= .int .u64 r) kb5 H1.out H2.out (Nat.ne_of_lt (Nat.lt_succ_self _)) (Nat.le_refl _) (Nat.le_succ _);with_reducible exact ⟨_,_,rfl,rfl,rfl,z.1,z.2.1,z.2.2.1,z.2.2.2.1,z.2.2.2.2⟩)
     |(have z:=shp_c (x0:= .int .i64 0) (x1:= .int .u64 q) (y0:= .int .i64 0) (y1:= .int .u64 r) kb5 H2.out H1.out (Nat.ne_of_gt (Nat.lt_succ_self _)) (Nat.le_succ _) (Nat.le_refl _);with_reducible exact ⟨_,_,rfl,rfl,rfl,z.1,z.2.1,z.2.2.1,z.2.2.2.1,z.2.2.2.2⟩)
   case rest=>
    obtain ⟨P8,P9,rfl,rfl,rfl,bq,br,hP8,hP9,hbx⟩:=hcut;have d0:=HB.out.1.below hbx HB.out.1.lt;have d1:=HB.out.2.1.below hbx HB.out.2.1.lt;have dX:=HB.out.2.2.1.below hbx HB.out.2.2.1.lt;have dF:=HB.out.2.2.2.1.below hbx HB.out.2.2.2.1.lt;have hbw:=HB.out.2.2.2.2.trans (hbx.mono HB.out.2.2.2.2.size);have l0:=HB.out.1.lt;have lX:=HB.out.2.2.1.lt;have lF:=HB.out.2.2.2.1.lt;obtain ⟨ht,hy,hq,hr,htn⟩:=HE.out
    have hqn:q<9223372036854775808:=by rw [<-hq];exact Nat.lt_of_le_of_lt (Nat.div_le_self _ _) htn
    have HIn:=hid (fun z=>int_small q hqn z);have HD:=hid (And.intro d0 (And.intro d1 (And.intro dX (And.intro dF (And.intro hbw (And.intro bq br))))));have c8:=bq.cell
    have n1:P9≠X:=by omega
    have n2:P9≠w.heap.size:=by omega
    have n3:F≠X:=by omega
    have n4:F≠w.heap.size:=by omega
    have n5:X≠w.heap.size:=by omega
    have n6:=n1.symm;have n7:=n2.symm;have n8:=n3.symm;have n9:=n4.symm;have n10:=n5.symm
    have m0:w.heap.size+1≠X:=by omega
    have m2:w.heap.size<=X:=by omega
    clear HB bq br hP8 hP9 hbx d0 d1 dX dF hbw ht hy hq hr htn hqn hs0 hs1 hs2 l0 lX lF b0 HLn HOf HTr HKe
    go_wp2_with (go_at_call 100;refine (HIn.out _).mono ?_;rintro e wd ⟨rfl,hbd⟩;have HD2:=hid (And.intro (HD.out.1.below hbd HD.out.1.lt) (And.intro (HD.out.2.1.below hbd HD.out.2.1.lt) (And.intro (HD.out.2.2.1.below hbd HD.out.2.2.1.lt) (And.intro (HD.out.2.2.2.1.below hbd HD.out.2.2.2.1.lt) (And.intro (HD.out.2.2.2.2.1.trans (hbd.mono HD.out.2.2.2.2.1.size)) (HD.out.2.2.2.2.2.2.below hbd HD.out.2.2.2.2.2.2.lt))))));clear c8 HD HIn)
    have ad:Addr.add ⟨F,0,none⟩ (k+6)=⟨F,k+6,none⟩:=by unfold Addr.add;split<;>simp_all
    have p1:=ptr_cell HD2.out.2.2.2.1 (show k+5<8 from by omega)
    rw [show 1+(k+5)=k+6 from by omega] at p1
    have p2:=durF_cell HD2.out.2.2.1 (show k+5<8 from by omega)
    have p3:=HD2.out.2.2.1.frozen (k+5);have c0:=HD2.out.1.cell;have f0:=HD2.out.1.frozen;have c9:=HD2.out.2.2.2.2.2.cell
    go_region
    clear p1 p2 p3 c0 f0 c9 ad
    have HG:=hid (And.intro (durF_set HD2.out.2.2.1 (show k+5<8 from by omega) (q:Int)) HE.out)
    go_wp2
    refine ⟨⟨k+1,by omega,by go_num,?_,?_,?_,?_,?_⟩,by simp [intOf];omega⟩
    ·have hz:layT n (k+1)=r:=by rw [layT,HG.out.2.1,HG.out.2.2.1,HG.out.2.2.2.2.1]
     rw [hz];exact set2 (HD2.out.1.far (p:=⟨X,k+5,none⟩) n10 _)
    ·have m1:w.heap.size+1≠X:=fun e=>m0 e
     exact ((HD2.out.2.1.far (p:=⟨X,k+5,none⟩) m1 _).far (p:=⟨w.heap.size,0,none⟩) (Nat.succ_ne_self _) _).far (p:=⟨w.heap.size,1,none⟩) (Nat.succ_ne_self _) _
    ·have hz:layG n (k+1)=fun j=>if j=k+5 then (q:Int) else layG n k j:=by rw [layG,HG.out.2.1,HG.out.2.2.1,HG.out.2.2.2.1]
     rw [hz];exact (HG.out.1.far (p:=⟨w.heap.size,0,none⟩) n5 _).far (p:=⟨w.heap.size,1,none⟩) n5 _
    ·exact ((HD2.out.2.2.2.1.far (p:=⟨X,k+5,none⟩) n3 _).far (p:=⟨w.heap.size,0,none⟩) n4 _).far (p:=⟨w.heap.size,1,none⟩) n4 _
    ·exact (((HD2.out.2.2.2.2.1.setCell (p:=⟨X,k+5,none⟩) m2 _).setCell (p:=⟨w.heap.size,0,none⟩) (Nat.le_refl _) _).setCell (p:=⟨w.heap.size,1,none⟩) (Nat.le_refl _) _).drew
  ·obtain rfl:k=3:=by omega
   rw [layG_end] at HB bX;have hRt:=hid (right_lay n hn);obtain ⟨a,ha⟩:∃ a,n / 60000000000=a:=⟨_,rfl⟩;obtain ⟨b,hb'⟩:∃ b,n % 60000000000 / 1000000000=b:=⟨_,rfl⟩;obtain ⟨c,hc⟩:∃ c,n % 60000000000 % 1000000000=c:=⟨_,rfl⟩
   have la:a<9223372036854775808:=by have:=Nat.div_le_self n 60000000000;omega
   have lb:b<9223372036854775808:=by have:=Nat.div_le_self (n % 60000000000) 1000000000;have:=Nat.mod_le n 60000000000;omega
   have lc:c<9223372036854775808:=by have:=Nat.mod_le (n % 60000000000) 1000000000;have:=Nat.mod_le n 60000000000;omega
   rw [ha,hb',hc] at hRt HB bX
   have hR:=fun z=>right_any 0 0 0 0 0 a b c (fun k=>by unfold oct;split<;>omega) z
   rw [hRt.out] at hR;have HRt:=hid hR
   have HE:=hid (show (.agg (durF (layG n 3)):Value)= .agg #[.int .i64 0,.int .i64 0,.int .i64 0,.int .i64 0,.int .i64 0,.int .i64 a,.int .i64 b,.int .i64 c] from by rw [layG_end,ha,hb',hc];rfl)
   have cX:=bX.cell;have c1:=b1.cell;have f1:=b1.frozen;clear hR hRt ha hb' hc la lb lc b0 b1 bX bF hb H2
   go_wp2_with (go_at_call 31;refine (HRt.out _).mono ?_;rintro e wd ⟨rfl,hbd⟩;have dX:=HB.out.2.2.1.below hbd HB.out.2.2.1.lt;have d1:=HB.out.2.1.below hbd HB.out.2.1.lt;have HD2:=hid (And.intro d1 (HB.out.2.2.2.2.trans (hbd.mono HB.out.2.2.2.2.size)));clear cX c1 f1 HB HRt;have cX:=dX.cell;have c1:=d1.cell;have f1:=d1.frozen;clear dX d1 hbd)
   have bF:=((((((((HD2.out.1.set_ 0 (.int .i64 0)).set_ 1 (.int .i64 0)).set_ 2 (.int .i64 0)).set_ 3 (.int .i64 0)).set_ 4 (.int .i64 0)).set_ 5 (.int .i64 a)).set_ 6 (.int .i64 b)).set_ 7 (.int .i64 c))
   have hF:=((((((((HD2.out.2.setCell (p:=⟨w.heap.size+1,0,none⟩) (by show w.heap.size<=w.heap.size+1;omega) (.int .i64 0)).setCell (p:=⟨w.heap.size+1,1,none⟩) (by show w.heap.size<=w.heap.size+1;omega) (.int .i64 0)).setCell (p:=⟨w.heap.size+1,2,none⟩) (by show w.heap.size<=w.heap.size+1;omega) (.int .i64 0)).setCell (p:=⟨w.heap.size+1,3,none⟩) (by show w.heap.size<=w.heap.size+1;omega) (.int .i64 0)).setCell (p:=⟨w.heap.size+1,4,none⟩) (by show w.heap.size<=w.heap.size+1;omega) (.int .i64 0)).setCell (p:=⟨w.heap.size+1,5,none⟩) (by show w.heap.size<=w.heap.size+1;omega) (.int .i64 a)).setCell (p:=⟨w.heap.size+1,6,none⟩) (by show w.heap.size<=w.heap.size+1;omega) (.int .i64 b)).setCell (p:=⟨w.heap.size+1,7,none⟩) (by show w.heap.size<=w.heap.size+1;omega) (.int .i64 c))
   clear cX c1 f1 HD2;generalize World.setCell _ ⟨w.heap.size+1,7,none⟩ _=WF at*;simp only [List.setIfInBounds_toArray,List.set_cons_succ,List.set_cons_zero] at bF;have cF:=bF.cell
   exact bodyPost_ret (v:= .tuple #[.agg #[.int .i64 0,.int .i64 0,.int .i64 0,.int .i64 0,.int .i64 0,.int .i64 a,.int .i64 b,.int .i64 c],.int .i64 0]) (by simp [results,Tryz.results59,go_sem,cF]) rfl ⟨by rw [HE.out],hF⟩
end Wid
end
end Go.Proofs.YtiiekaehbahenaaGreatDoor
