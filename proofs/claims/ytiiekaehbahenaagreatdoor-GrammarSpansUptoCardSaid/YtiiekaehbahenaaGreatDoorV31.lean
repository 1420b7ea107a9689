/-
  Contracts of the code that the law reaches, and plain laws. Conditions: as each says.
-/
import Derived.Test.YtiiekaehbahenaaGreatDoorV30
set_option linter.all false
set_option maxHeartbeats 40000000
set_option maxRecDepth 100000
namespace Go.Proofs.YtiiekaehbahenaaGreatDoor
open Lib (hid)
open Tryz
section
namespace RefZ
open Go.RowKit Mem Dig
theorem sub_any (n1 n2:Bool) (A B:Option Addr) (n m c d:Nat) (xs ys:List Int) (x y:Int) (L M:Nat) (w:World) (ha:ZD w n1 A n c xs x L) (hb:ZD w n2 B m d ys y M) (hL:L<=1000000) (hM:M<=1000000):
  Calls prog 72 #[.agg #[.bool n1,.slice A n c],.agg #[.bool n2,.slice B m d]] w (RetZ w (x - y) (max L M+1)):=by
 have hbx:=box3 w 70 70 70 #[.bool n1,.slice A n c] #[.bool n2,.slice B m d] #[.bool false,.slice none 0 0];go_enter func72,ntmps72;have Ha:=hid ha;have Hb:=hid hb;have Hbx:=hid hbx;clear ha hb hbx
 go_wp2_with fail
 generalize ((w.alloc (Obj.cells #[Value.bool n1,Value.slice A n c] 70)).alloc (Obj.cells #[Value.bool n2,Value.slice B m d] 70)).alloc (Obj.cells #[Value.bool false,Value.slice none 0 0] 70)=W at*;obtain ⟨hb0,hb1,hb2,hbel,hsz⟩:=Hbx.out
 have HR:Hid (Res w (w.heap.size+1+1) W.drew):=Res.below ⟨hb2,hbel,by omega⟩ (below_drew W)
 have HA:Hid (ZD W.drew n1 A n c xs x L):=(Ha.out.below hbel).below (below_drew W);have HB:Hid (ZD W.drew n2 B m d ys y M):=(Hb.out.below hbel).below (below_drew W);have q0:=hb0.cell 0;have q1:=hb0.cell 1;have q2:=hb1.cell 0;have q3:=hb1.cell 1;clear hb2 hbel Hbx hb0 hb1 Ha Hb
 go_region_held3 (fun w'=>w'.cell? ⟨w.heap.size,0,none⟩=some (.bool n1)/\w'.cell? ⟨w.heap.size,1,none⟩=some (.slice A n c)/\w'.cell? ⟨w.heap.size+1,0,none⟩=some (.bool n2)/\w'.cell? ⟨w.heap.size+1,1,none⟩=some (.slice B m d)) (first|(simp [*];done)|exact keep4_set (by assumption) (by dsimp only;omega) (by dsimp only;omega) (by dsimp only;omega) (by dsimp only;omega) _ _)
  (first
   |(go_at_call 104;refine (neg_any n2 B m d ys y M W.drew HB.out).mono ?_;rintro e w1 ⟨v,rfl,⟨neg1,A1,k1,c1,ds1,rfl,hz1⟩,hb1⟩;have HR1:Hid (Res w (w.heap.size+1+1) w1):=HR.out.below hb1;have HA1:Hid (ZD w1 n1 A n c xs x L):=HA.out.below hb1;have kk:=keep4 (by assumption) hb1)
   |(go_at_call 33;refine (add_any n1 neg1 A A1 n k1 c c1 xs ds1 x (-y) L M w1 HA1.out hz1 hL hM).mono ?_;rintro e w2 ⟨v,rfl,⟨neg',A2,k2,c2,ds2,rfl,hz⟩,hb2⟩;have HR2:Hid (Res w (w.heap.size+1+1) w2):=HR1.out.below hb2;obtain ⟨g0,g1,g2,g3⟩:=HR2.out.cells;have kk2:=keep4 (by assumption) hb2))
 go_wp2
 refine bodyPost_ret (v:= .agg #[.bool neg',.slice A2 k2 c2]) (by simp [results,Tryz.results72,go_sem,g0,g1]) rfl ?_
 exact HR2.out.stored hz (by omega)
theorem ZD.zero (w:World) (L:Nat):ZD w false none 0 0 [] 0 L:=⟨Sl.nil_ _,Canon.nil,by simp [dval_nil],fun _=>rfl,Nat.zero_le _⟩
theorem of_any (a:Int) (w:World) (h0: -9223372036854775808<=a) (h1:a<=9223372036854775807):
  Calls prog 35 #[.int .i64 a] w (RetZ w a 6):=by
 have hbx:=box1 w 70 #[.bool false,.slice none 0 0];have HR:Hid (Res w w.heap.size (w.alloc (.cells #[.bool false,.slice none 0 0] 70))):=⟨hbx.1,hbx.2.1,Nat.le_refl _⟩;have hsz:=hbx.2.2;clear hbx
 by_cases hn:a<0
 ·have e1: -9223372036854775808<=-(a+1):=by omega
  have e2: -(a+1)<=9223372036854775807:=by omega
  have e3:0<=-(a+1):=by omega
  go_enter func35,ntmps35
  go_wp2_with fail
  generalize w.alloc (Obj.cells #[Value.bool false,Value.slice none 0 0] 70)=W at*
  refine (ofU_any _ W (by omega) (by omega)).mono ?_
  rintro e w1 ⟨v,rfl,⟨g1,A1,k1,c1,ds1,rfl,hz1⟩,hb1⟩;have HR1:Hid (Res w w.heap.size w1):=HR.out.below hb1
  go_wp2_with fail
  refine (ofU_any 1 w1 (by omega) (by omega)).mono ?_
  rintro e w2 ⟨v,rfl,⟨g2,A2,k2,c2,ds2,rfl,hz2⟩,hb2⟩;have HR2:Hid (Res w w.heap.size w2):=HR1.out.below hb2;have hz1':=hz1.below hb2
  go_wp2_with fail
  refine (add_any _ _ _ _ _ _ _ _ _ _ _ _ _ _ w2 hz1' hz2 (by omega) (by omega)).mono ?_
  rintro e w3 ⟨v,rfl,⟨g3,A3,k3,c3,ds3,rfl,hz3⟩,hb3⟩;have HR3:Hid (Res w w.heap.size w3):=HR2.out.below hb3
  go_wp2_with fail
  refine (sub_any _ _ _ _ _ _ _ _ _ _ _ _ _ _ w3 (ZD.zero w3 0) hz3 (by omega) (by omega)).mono ?_
  rintro e w4 ⟨v,rfl,⟨g4,A4,k4,c4,ds4,rfl,hz4⟩,hb4⟩;have HR4:Hid (Res w w.heap.size w4):=HR3.out.below hb4;obtain ⟨q0,q1,q2,q3⟩:=HR4.out.cells;go_wp2
  refine bodyPost_ret (v:= .agg #[.bool g4,.slice A4 k4 c4]) (by simp [results,Tryz.results35,go_sem,q0,q1]) rfl ?_
  exact HR4.out.stored (hz4.more (by decide)) (by omega)
 ·have hn':0<=a:=by omega
  go_enter func35,ntmps35
  go_wp2_with fail
  generalize w.alloc (Obj.cells #[Value.bool false,Value.slice none 0 0] 70)=W at*
  refine (ofU_any _ W (by omega) (by omega)).mono ?_
  rintro e w1 ⟨v,rfl,⟨g1,A1,k1,c1,ds1,rfl,hz1⟩,hb1⟩;have HR1:Hid (Res w w.heap.size w1):=HR.out.below hb1;obtain ⟨q0,q1,q2,q3⟩:=HR1.out.cells;go_wp2
  refine bodyPost_ret (v:= .agg #[.bool g1,.slice A1 k1 c1]) (by simp [results,Tryz.results35,go_sem,q0,q1]) rfl ?_
  exact HR1.out.stored (hz1.more (by decide)) rfl
theorem abs_any (neg:Bool) (A:Option Addr) (n c:Nat) (ds:List Int) (z:Int) (L:Nat) (w:World) (h:ZD w neg A n c ds z L):
  Calls prog 106 #[.agg #[.bool neg,.slice A n c]] w (RetZ w (dval ds) L):=by
 have hb:=box2 w 70 70 #[.bool neg,.slice A n c] #[.bool false,.slice none 0 0];go_enter func106,ntmps106;have H:=hid h;have Hb:=hid hb;clear h hb
 go_wp2_with fail
 generalize (w.alloc (Obj.cells #[Value.bool neg,Value.slice A n c] 70)).alloc (Obj.cells #[Value.bool false,Value.slice none 0 0] 70)=W at*;obtain ⟨_,hb2,hbel,hsz⟩:=Hb.out
 have HR:Res w (w.heap.size+1) W:=⟨hb2,hbel,by omega⟩
 clear hb2 hbel Hb;have HW:=H.out.below HR.bel
 refine (tidy_any false A n c ds W HW.canon.1 HW.sl).mono ?_
 rintro e w2 ⟨v,rfl,⟨neg',A2,n2,c2,ds2,rfl,hz⟩,hb2⟩;have HR2:=HR.below hb2;obtain ⟨g0,g1,g2,g3⟩:=HR2.cells;go_wp2
 refine bodyPost_ret (v:= .agg #[.bool neg',.slice A2 n2 c2]) (by simp [results,Tryz.results106,go_sem,g0,g1]) rfl ?_
 exact HR2.stored (hz.more HW.le) (sg_false _)
theorem ZD.sign {w:World} {neg:Bool} {A:Option Addr} {n c:Nat} {ds:List Int} {z:Int} {L:Nat} (h:ZD w neg A n c ds z L):(n=0/\z=0)\/(0<n/\neg=true/\z<0)\/(0<n/\neg=false/\0<z):=by
 have hl:=h.sl.len;have hv:=h.val
 by_cases hd:ds=[]
 ·subst hd
  left
  refine ⟨by simpa using hl.symm,?_⟩
  rw [hv,dval_nil];simp
 ·right
  have hp:=h.canon.pos hd;have hq:=pw_pos (ds.length - 1)
  have hn:0<n:=by
   rcases Nat.eq_zero_or_pos n with h0|h0
   ·rw [h0] at hl;exact absurd (List.eq_nil_of_length_eq_zero hl) hd
   ·exact h0
  cases neg
  ·right;rw [sg_false] at hv;exact ⟨hn,rfl,by omega⟩
  ·left;rw [sg_true] at hv;exact ⟨hn,rfl,by omega⟩
theorem cmp_any (n1 n2:Bool) (A B:Option Addr) (n m c d:Nat) (xs ys:List Int) (x y:Int) (L M:Nat) (w:World) (ha:ZD w n1 A n c xs x L) (hb:ZD w n2 B m d ys y M) (hL:L<=1000000) (hM:M<=1000000):
  Calls prog 107 #[.agg #[.bool n1,.slice A n c],.agg #[.bool n2,.slice B m d]] w fun e w'=>e= .returned (.int .i64 (cmpI x y))/\Below w.heap.size w w':=by
 have hbx:=box2 w 70 70 #[.bool n1,.slice A n c] #[.bool n2,.slice B m d];go_enter func107,ntmps107;have Ha:=hid ha;have Hb:=hid hb;have Hbx:=hid hbx;clear ha hb hbx
 go_wp2_with fail
 generalize (w.alloc (Obj.cells #[Value.bool n1,Value.slice A n c] 70)).alloc (Obj.cells #[Value.bool n2,Value.slice B m d] 70)=W at*;obtain ⟨hb0,hb1,hbel,hsz⟩:=Hbx.out
 refine (sub_any _ _ _ _ _ _ _ _ _ _ _ _ _ _ W (Ha.out.below hbel) (Hb.out.below hbel) hL hM).mono ?_
 rintro e w1 ⟨v,rfl,⟨g,A1,k,c1,ds,rfl,hz⟩,hb2⟩;have hs:=hz.sign;have Hbel:Hid (Below w.heap.size w w1):=hbel.trans (hb2.mono hbel.size);have hsz1:=Hbel.out.size;clear hb0 hb1 hbel hsz Ha Hb Hbx hb2
 rcases hs with ⟨rfl,h⟩|⟨h0,rfl,h⟩|⟨h0,rfl,h⟩
 ·have e:=cmpI_eq (x:=x) (y:=y) (by omega)
  have E:=hid e;clear e h;go_wp2;go_ret;rw [E.out];exact ⟨rfl,(Hbel.out.alloc hsz1 _)⟩
 ·have e:=cmpI_lt (x:=x) (y:=y) (by omega)
  have E:=hid e;clear e h
  have hk:((k:Int) == 0)=false:=by simp;omega
  go_wp2;go_ret;rw [E.out];exact ⟨rfl,(Hbel.out.alloc hsz1 _)⟩
 ·have e:=cmpI_gt (x:=x) (y:=y) (by omega)
  have E:=hid e;clear e h
  have hk:((k:Int) == 0)=false:=by simp;omega
  go_wp2;go_ret;rw [E.out];exact ⟨rfl,(Hbel.out.alloc hsz1 _)⟩
theorem ZD.put {w:World} {neg:Bool} {A:Option Addr} {n c:Nat} {ds:List Int} {z:Int} {L b:Nat} (h:ZD w neg A n c ds z L) {p:Bool} {q:Option Addr} {r s:Nat}
  (g:Blk w b 70 #[.bool p,.slice q r s]) (x y:Value):ZD ((w.setCell ⟨b,0,none⟩ x).setCell ⟨b,1,none⟩ y) neg A n c ds z L:=
 ⟨(h.sl.set (g.cell 0) (by simp) x).set (u:= .slice q r s) (by rw [World.cell?_setCell_other _ _ _ _ (by simp)];exact g.cell 1) (by simp) y,h.canon,h.val,h.sgn,h.le⟩
theorem ZD.alloc {w:World} {neg:Bool} {A:Option Addr} {n c:Nat} {ds:List Int} {z:Int} {L:Nat} (h:ZD w neg A n c ds z L) (o:Obj):ZD (w.alloc o) neg A n c ds z L:=h.below ((Below.refl _ _).alloc (Nat.le_refl _) o)
theorem Res.alloc {w W:World} {b:Nat} (h:Res w b W) (o:Obj):Res w b (W.alloc o):=h.below ((Below.refl _ _).alloc (Nat.le_refl _) o)
theorem blk_put {w:World} {b:Nat} {t:TypeId} {p q:Value} (g:Blk w b t #[p,q]) (x y:Value):Blk ((w.setCell ⟨b,0,none⟩ x).setCell ⟨b,1,none⟩ y) b t #[x,y]:=by
 have:=(g.set_ 0 x).set_ 1 y
 simpa using this
theorem blk_put_far {w:World} {b b':Nat} {t:TypeId} {cs:Array Value} (g:Blk w b t cs) (hne:b≠b') (x y:Value):Blk ((w.setCell ⟨b',0,none⟩ x).setCell ⟨b',1,none⟩ y) b t cs:=
 (g.far (p:=⟨b',0,none⟩) hne x).far (p:=⟨b',1,none⟩) hne y
theorem Res.put {w W:World} {b b':Nat} (h:Res w b W) (hne:b≠b') (hle:w.heap.size<=b') (x y:Value):Res w b ((W.setCell ⟨b',0,none⟩ x).setCell ⟨b',1,none⟩ y):=
 ⟨blk_put_far h.blk hne x y,(h.bel.setCell hle x).setCell hle y,h.le⟩
def two (n:Nat):Int:=2 ^ n
theorem two_succ (n:Nat):two (n+1)=two n+two n:=by unfold two;rw [Int.pow_succ];omega
theorem two_63:two 63=9223372036854775808:=by decide
theorem two_pos (n:Nat):0<two n:=by
 induction n with
 |zero=>decide
 |succ n ih=>rw [two_succ];omega
theorem power_any (n:Nat) (w:World) (hn:n<=1000):
  Calls prog 108 #[.int .i64 n] w (RetZ w (two n) (n+4)):=by
 have hbx:=box1 w 70 #[.bool false,.slice none 0 0];have HR:Hid (Res w w.heap.size (w.alloc (.cells #[.bool false,.slice none 0 0] 70))):=⟨hbx.1,hbx.2.1,Nat.le_refl _⟩;have hsz:=hbx.2.2;clear hbx;go_enter func108,ntmps108
 go_wp2_with fail
 generalize w.alloc (Obj.cells #[Value.bool false,Value.slice none 0 0] 70)=W at*
 refine (ofU_any 1 W (by omega) (by omega)).mono ?_
 rintro e w1 ⟨v,rfl,⟨g1,A1,k1,c1,ds1,rfl,hz1⟩,hb1⟩;have HR1:Hid (Res w w.heap.size w1):=HR.out.below hb1;have hb:=box1 w1 70 #[.bool g1,.slice A1 k1 c1];have Hb:=hid hb;have Hz:=hid hz1;have hlt:w.heap.size<w1.heap.size:=HR1.out.blk.lt;clear hb hz1 HR hb1 hsz;go_wp2;generalize hb1:w1.heap.size=b1 at*;have HH:=hid hb1;clear hb1
 go_loopw [4] (fun i wr=>∃ (k:Nat) (g:Bool) (A:Option Addr) (q c:Nat) (ds:List Int),i= .int .i64 k/\k<=n/\Blk wr b1 70 #[.bool g,.slice A q c]/\ZD wr g A q c ds (two k) (k+4)/\Res w w.heap.size wr) (fun i _=>n - (intOf i).toNat)
 case atStart=>exact ⟨0,g1,A1,k1,c1,ds1,rfl,Nat.zero_le _,Hb.out.1,(by rw [show two 0=1 from rfl];exact Hz.out.alloc _),HR1.out.alloc _⟩
 case round=>
  obtain ⟨k,g,A,q,c,ds,rfl,hk,hblk,hz,hres⟩:=hrel;have q0:=hblk.cell 0;have q1:=hblk.cell 1;have f0:=hblk.frozen 0;have f1:=hblk.frozen 1;have hltr:=hblk.lt;have Hblk:=hid hblk;have Hz:=hid hz;have Hres:=hid hres;clear hblk hz hres
  by_cases hkn:k<n
  ·go_wp2_with fail
   refine (add_any _ _ _ _ _ _ _ _ _ _ _ _ _ _ wr Hz.out Hz.out (by omega) (by omega)).mono ?_
   rintro e w2 ⟨v,rfl,⟨g2,A2,q2,c2,ds2,rfl,hz2⟩,hb2⟩;have hblk2:=Hblk.out.below hb2 hltr;have p0:=hblk2.cell 0;have p1:=hblk2.cell 1;have r0:=hblk2.frozen 0;have r1:=hblk2.frozen 1;have Hblk2:=hid hblk2;have Hz2:=hid hz2;have Hb2:=hid hb2;clear hblk2 hz2 hb2 q0 q1 f0 f1;go_wp2
   go_roundw
   case rel=>exact ⟨k+1,g2,A2,q2,c2,ds2,by go_num,by omega,blk_put Hblk2.out _ _,by rw [two_succ];exact (Hz2.out.put Hblk2.out _ _).more (by omega),(Hres.out.below Hb2.out).put (by omega) (by omega) _ _⟩
   case measure=>simp [intOf];omega
  ·obtain rfl:k=n:=by omega
   obtain ⟨s0,s1,s2,s3⟩:=Hres.out.cells;go_wp2
   refine bodyPost_ret (v:= .agg #[.bool g,.slice A q c]) (by simp [results,Tryz.results108,go_sem,s0,s1]) rfl ?_
   exact Hres.out.stored Hz.out rfl
end RefZ
end
end Go.Proofs.YtiiekaehbahenaaGreatDoor
