/-
  Contracts of the code that the law reaches, and plain laws. Conditions: as each says.
-/
import Derived.Test.YtiiekaehbahenaaGreatDoorV29
import Derived.Deep.RegionHeld3
set_option linter.all false
set_option maxHeartbeats 40000000
set_option maxRecDepth 100000
namespace Go.Proofs.YtiiekaehbahenaaGreatDoor
open Lib (hid)
open Tryz
section
namespace RefZ
open Go.RowKit Mem Dig
structure Res (w:World) (b:Nat) (W:World):Prop where
 blk:Blk W b 70 #[.bool false,.slice none 0 0]
 bel:Below w.heap.size w W
 le:w.heap.size<=b
theorem Res.below {w W W':World} {b:Nat} (h:Res w b W) (hb:Below W.heap.size W W'):Res w b W':=⟨h.blk.below hb h.blk.lt,h.bel.trans (hb.mono h.bel.size),h.le⟩
theorem Res.cells {w W:World} {b:Nat} (h:Res w b W):W.cell? ⟨b,0,none⟩=some (.bool false)/\W.cell? ⟨b,1,none⟩=some (.slice none 0 0)/\W.frozen? ⟨b,0,none⟩=false/\W.frozen? ⟨b,1,none⟩=false:=
 ⟨h.blk.cell 0,h.blk.cell 1,h.blk.frozen 0,h.blk.frozen 1⟩
theorem Res.stored {w W:World} {b:Nat} (h:Res w b W) {neg:Bool} {A:Option Addr} {n c:Nat} {ds:List Int} {z z':Int} {L:Nat} (hz:ZD W neg A n c ds z' L) (hzz:z'=z):
  RetZ w z L (.returned (.agg #[.bool neg,.slice A n c])) ((W.setCell ⟨b,0,none⟩ (.bool neg)).setCell ⟨b,1,none⟩ (.slice A n c)):=by
 subst hzz;obtain ⟨g0,g1,_,_⟩:=h.cells;exact ⟨_,rfl,⟨_,_,_,_,_,rfl,hz.stored g0 g1 _ _⟩,(h.bel.setCell h.le _).setCell h.le _⟩
theorem neg_any (neg:Bool) (A:Option Addr) (n c:Nat) (ds:List Int) (z:Int) (L:Nat) (w:World) (h:ZD w neg A n c ds z L):
  Calls prog 104 #[.agg #[.bool neg,.slice A n c]] w (RetZ w (-z) L):=by
 have hb:=box2 w 70 70 #[.bool neg,.slice A n c] #[.bool false,.slice none 0 0];go_enter func104,ntmps104;have H:=hid h;have Hb:=hid hb;clear h hb
 go_wp2_with fail
 generalize (w.alloc (Obj.cells #[Value.bool neg,Value.slice A n c] 70)).alloc (Obj.cells #[Value.bool false,Value.slice none 0 0] 70)=W at*;obtain ⟨_,hb2,hbel,hsz⟩:=Hb.out
 have HR:Res w (w.heap.size+1) W:=⟨hb2,hbel,by omega⟩
 clear hb2 hbel Hb;have HW:=H.out.below HR.bel
 refine (tidy_any (!neg) A n c ds W HW.canon.1 HW.sl).mono ?_
 rintro e w2 ⟨v,rfl,⟨neg',A2,n2,c2,ds2,rfl,hz⟩,hb2⟩;have HR2:=HR.below hb2;obtain ⟨g0,g1,g2,g3⟩:=HR2.cells;go_wp2
 refine bodyPost_ret (v:= .agg #[.bool neg',.slice A2 n2 c2]) (by simp [results,Tryz.results104,go_sem,g0,g1]) rfl ?_
 exact HR2.stored (hz.more HW.le) (by rw [sg_not,HW.val])
theorem add_any (n1 n2:Bool) (A B:Option Addr) (n m c d:Nat) (xs ys:List Int) (x y:Int) (L M:Nat) (w:World) (ha:ZD w n1 A n c xs x L) (hb:ZD w n2 B m d ys y M) (hL:L<=1000000) (hM:M<=1000000):
  Calls prog 33 #[.agg #[.bool n1,.slice A n c],.agg #[.bool n2,.slice B m d]] w (RetZ w (x+y) (max L M+1)):=by
 have hbx:=box3 w 70 70 70 #[.bool n1,.slice A n c] #[.bool n2,.slice B m d] #[.bool false,.slice none 0 0];go_enter func33,ntmps33;have Ha:=hid ha;have Hb:=hid hb;have Hbx:=hid hbx;clear ha hb hbx;have hL':=hL;have hM':=hM
 cases h12:(n1 == n2)
 ·go_wp2_with fail
  generalize ((w.alloc (Obj.cells #[Value.bool n1,Value.slice A n c] 70)).alloc (Obj.cells #[Value.bool n2,Value.slice B m d] 70)).alloc (Obj.cells #[Value.bool false,Value.slice none 0 0] 70)=W at*;obtain ⟨hb0,hb1,hb2,hbel,hsz⟩:=Hbx.out
  refine (compare_any A B n m c d xs ys W (Ha.out.below hbel).sl (Hb.out.below hbel).sl Ha.out.canon Hb.out.canon).mono ?_
  rintro e W2 ⟨rfl,qq,hW2⟩
  have hbq:Below W.heap.size W W2:=by subst hW2;exact Post.below_drewN (Below.refl _ _) _
  have hz2:=hbq.size;clear hW2
  have HR:Hid (Res w (w.heap.size+1+1) W2):=Res.below ⟨hb2,hbel,by omega⟩ hbq
  have HA:Hid (ZD W2 n1 A n c xs x L):=(Ha.out.below hbel).below hbq;have HB:Hid (ZD W2 n2 B m d ys y M):=(Hb.out.below hbel).below hbq;have q0:W2.cell? ⟨w.heap.size,0,none⟩=some (.bool n1):=cell_later hbq (hb0.cell 0);have q1:W2.cell? ⟨w.heap.size,1,none⟩=some (.slice A n c):=cell_later hbq (hb0.cell 1);have q2:W2.cell? ⟨w.heap.size+1,0,none⟩=some (.bool n2):=cell_later hbq (hb1.cell 0);have q3:W2.cell? ⟨w.heap.size+1,1,none⟩=some (.slice B m d):=cell_later hbq (hb1.cell 1)
  have hsz2:w.heap.size+1+1<W2.heap.size:=by omega
  clear hb2 hbel Hbx hb0 hb1 Ha Hb hbq hz2 hsz
  have h12':n2= !n1:=by revert h12;cases n1<;>cases n2<;>simp
  have H12:=hid h12';clear h12'
  by_cases hge:dval ys<=dval xs
  ·have hcm:decide (0<=cmpI (dval xs) (dval ys))=true:=by
    rcases cmpI_cases (dval xs) (dval ys) with ⟨h,e⟩|⟨h,e⟩|⟨h,e⟩<;>rw [e]<;>first|rfl|omega
   have hmn:m<=n:=by
    refine Nat.not_lt.mp fun hlt=>?_
    have:=HB.out.canon.len_lt HA.out.canon.1 (by rw [HA.out.sl.len,HB.out.sl.len];exact hlt)
    omega
   go_wp2_with fail
   have HR1':Hid (Res w (w.heap.size+1+1) W2.drew):=HR.out.below (below_drew W2);have HA':Hid (ZD W2.drew n1 A n c xs x L):=HA.out.below (below_drew W2);have HB':Hid (ZD W2.drew n2 B m d ys y M):=HB.out.below (below_drew W2)
   go_region_held3 (fun w'=>w'.cell? ⟨w.heap.size,0,none⟩=some (.bool n1)/\w'.cell? ⟨w.heap.size,1,none⟩=some (.slice A n c)/\w'.cell? ⟨w.heap.size+1,0,none⟩=some (.bool n2)/\w'.cell? ⟨w.heap.size+1,1,none⟩=some (.slice B m d)) (first|(simp [*];done)|exact keep4_set (by assumption) (by dsimp only;omega) (by dsimp only;omega) (by dsimp only;omega) (by dsimp only;omega) _ _)
    (first
     |(go_at_call 70;refine (minus_any A B n m c d xs ys W2.drew HA'.out.sl HB'.out.sl HA.out.canon.1 HB.out.canon.1 hmn hge (Nat.le_trans HA.out.le hL)).mono ?_;rintro e w1 ⟨A1,k1,c1,zs,rfl,hs1,hd1,hv1,hk1,hbl1⟩;have HR1:Hid (Res w (w.heap.size+1+1) w1):=HR1'.out.below hbl1;have Hv1:=hid hv1;clear hv1;have kk:=keep4 (by assumption) hbl1)
     |(go_at_call 67;refine (tidy_any n1 A1 k1 c1 zs w1 hd1 hs1).mono ?_;rintro e w2 ⟨v,rfl,⟨neg',A2,k2,c2,ds2,rfl,hz⟩,hb2⟩;have HR2:Hid (Res w (w.heap.size+1+1) w2):=HR1.out.below hb2;obtain ⟨g0,g1,g2,g3⟩:=HR2.out.cells;have kk2:=keep4 (by assumption) hb2))
   go_wp2
   refine bodyPost_ret (v:= .agg #[.bool neg',.slice A2 k2 c2]) (by simp [results,Tryz.results33,go_sem,g0,g1]) rfl ?_
   exact HR2.out.stored (hz.more (by have:=HA.out.le;omega)) (by
    rw [Hv1.out,HA.out.val,HB.out.val,H12.out,sg_not,Int.mul_sub];omega)
  ·have hcm:decide (0<=cmpI (dval xs) (dval ys))=false:=by
    rcases cmpI_cases (dval xs) (dval ys) with ⟨h,e⟩|⟨h,e⟩|⟨h,e⟩<;>rw [e]<;>first|rfl|omega
   have hmn:n<=m:=by
    refine Nat.not_lt.mp fun hlt=>?_
    have:=HA.out.canon.len_lt HB.out.canon.1 (by rw [HA.out.sl.len,HB.out.sl.len];exact hlt)
    omega
   go_wp2_with fail
   have HR1':Hid (Res w (w.heap.size+1+1) W2.drew):=HR.out.below (below_drew W2);have HA':Hid (ZD W2.drew n1 A n c xs x L):=HA.out.below (below_drew W2);have HB':Hid (ZD W2.drew n2 B m d ys y M):=HB.out.below (below_drew W2)
   go_region_held3 (fun w'=>w'.cell? ⟨w.heap.size,0,none⟩=some (.bool n1)/\w'.cell? ⟨w.heap.size,1,none⟩=some (.slice A n c)/\w'.cell? ⟨w.heap.size+1,0,none⟩=some (.bool n2)/\w'.cell? ⟨w.heap.size+1,1,none⟩=some (.slice B m d)) (first|(simp [*];done)|exact keep4_set (by assumption) (by dsimp only;omega) (by dsimp only;omega) (by dsimp only;omega) (by dsimp only;omega) _ _)
    (first
     |(go_at_call 70;refine (minus_any B A m n d c ys xs W2.drew HB'.out.sl HA'.out.sl HB.out.canon.1 HA.out.canon.1 hmn (by omega) (Nat.le_trans HB.out.le hM)).mono ?_;rintro e w1 ⟨A1,k1,c1,zs,rfl,hs1,hd1,hv1,hk1,hbl1⟩;have HR1:Hid (Res w (w.heap.size+1+1) w1):=HR1'.out.below hbl1;have Hv1:=hid hv1;clear hv1;have kk:=keep4 (by assumption) hbl1)
     |(go_at_call 67;refine (tidy_any n2 A1 k1 c1 zs w1 hd1 hs1).mono ?_;rintro e w2 ⟨v,rfl,⟨neg',A2,k2,c2,ds2,rfl,hz⟩,hb2⟩;have HR2:Hid (Res w (w.heap.size+1+1) w2):=HR1.out.below hb2;obtain ⟨g0,g1,g2,g3⟩:=HR2.out.cells;have kk2:=keep4 (by assumption) hb2))
   go_wp2
   refine bodyPost_ret (v:= .agg #[.bool neg',.slice A2 k2 c2]) (by simp [results,Tryz.results33,go_sem,g0,g1]) rfl ?_
   exact HR2.out.stored (hz.more (by have:=HB.out.le;omega)) (by
    rw [Hv1.out,HA.out.val,HB.out.val,H12.out,sg_not,sg_not,Int.mul_sub];omega)
 ·go_wp2_with fail
  generalize ((w.alloc (Obj.cells #[Value.bool n1,Value.slice A n c] 70)).alloc (Obj.cells #[Value.bool n2,Value.slice B m d] 70)).alloc (Obj.cells #[Value.bool false,Value.slice none 0 0] 70)=W at*;obtain ⟨hb0,hb1,hb2,hbel,hsz⟩:=Hbx.out
  have HR:Hid (Res w (w.heap.size+1+1) W):=⟨hb2,hbel,by omega⟩
  have HA:Hid (ZD W n1 A n c xs x L):=Ha.out.below hbel;have HB:Hid (ZD W n2 B m d ys y M):=Hb.out.below hbel;have q0:=hb0.cell 0;have q1:=hb0.cell 1;have q2:=hb1.cell 0;have q3:=hb1.cell 1
  have h12':n2=n1:=by revert h12;cases n1<;>cases n2<;>simp
  have H12:=hid h12';clear h12';clear hb2 hbel Hbx hb0 hb1 Ha Hb;have HR1':Hid (Res w (w.heap.size+1+1) W.drew):=HR.out.below (below_drew W);have HA':Hid (ZD W.drew n1 A n c xs x L):=HA.out.below (below_drew W);have HB':Hid (ZD W.drew n2 B m d ys y M):=HB.out.below (below_drew W)
  go_region_held3 (fun w'=>w'.cell? ⟨w.heap.size,0,none⟩=some (.bool n1)/\w'.cell? ⟨w.heap.size,1,none⟩=some (.slice A n c)/\w'.cell? ⟨w.heap.size+1,0,none⟩=some (.bool n2)/\w'.cell? ⟨w.heap.size+1,1,none⟩=some (.slice B m d)) (first|(simp [*];done)|exact keep4_set (by assumption) (by dsimp only;omega) (by dsimp only;omega) (by dsimp only;omega) (by dsimp only;omega) _ _)
   (first
    |(go_at_call 68;refine (plus_any A B n m c d xs ys W.drew HA'.out.sl HB'.out.sl HA.out.canon.1 HB.out.canon.1 (Nat.le_trans HA.out.le hL) (Nat.le_trans HB.out.le hM)).mono ?_;rintro e w1 ⟨A1,k1,c1,zs,rfl,hs1,hd1,hv1,hk1,hbl1⟩;have HR1:Hid (Res w (w.heap.size+1+1) w1):=HR1'.out.below hbl1;have Hv1:=hid hv1;clear hv1;have kk:=keep4 (by assumption) hbl1)
    |(go_at_call 67;refine (tidy_any n1 A1 k1 c1 zs w1 hd1 hs1).mono ?_;rintro e w2 ⟨v,rfl,⟨neg',A2,k2,c2,ds2,rfl,hz⟩,hb2⟩;have HR2:Hid (Res w (w.heap.size+1+1) w2):=HR1.out.below hb2;obtain ⟨g0,g1,g2,g3⟩:=HR2.out.cells;have kk2:=keep4 (by assumption) hb2))
  go_wp2
  refine bodyPost_ret (v:= .agg #[.bool neg',.slice A2 k2 c2]) (by simp [results,Tryz.results33,go_sem,g0,g1]) rfl ?_
  exact HR2.out.stored (hz.more (by have:=HA.out.le;have:=HB.out.le;omega)) (by
   rw [Hv1.out,HA.out.val,HB.out.val,H12.out,Int.mul_add])
end RefZ
end
end Go.Proofs.YtiiekaehbahenaaGreatDoor
