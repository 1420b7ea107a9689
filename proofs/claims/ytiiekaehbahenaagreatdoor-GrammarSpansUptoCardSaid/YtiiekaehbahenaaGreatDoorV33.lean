/-
  Contracts of the code that the law reaches, and plain laws. Conditions: as each says.
-/
import Derived.Test.YtiiekaehbahenaaGreatDoorV31
set_option linter.all false
set_option maxHeartbeats 40000000
set_option maxRecDepth 100000
namespace Go.Proofs.YtiiekaehbahenaaGreatDoor
open Lib (hid)
open Tryz
section
namespace RefZ
open Go.RowKit Mem Dig
structure Var (W:World) (b:Nat) (g:Bool) (A:Option Addr) (k c:Nat) (ds:List Int) (z:Int) (L:Nat):Prop where
 blk:Blk W b 70 #[.bool g,.slice A k c]
 zd:ZD W g A k c ds z L
theorem Var.below {W W':World} {b:Nat} {g:Bool} {A:Option Addr} {k c:Nat} {ds:List Int} {z:Int} {L:Nat} (h:Var W b g A k c ds z L) (hb:Below W.heap.size W W'):Var W' b g A k c ds z L:=
 ⟨h.blk.below hb h.blk.lt,h.zd.below hb⟩
theorem Var.put {W:World} {b b':Nat} {g:Bool} {A:Option Addr} {k c:Nat} {ds:List Int} {z:Int} {L:Nat} (h:Var W b g A k c ds z L) {p:Bool} {q:Option Addr} {r s:Nat}
  (hp:Blk W b' 70 #[.bool p,.slice q r s]) (hne:b≠b') (x y:Value):Var ((W.setCell ⟨b',0,none⟩ x).setCell ⟨b',1,none⟩ y) b g A k c ds z L:=
 ⟨blk_put_far h.blk hne x y,h.zd.put hp x y⟩
theorem Var.mine {W:World} {b:Nat} {g:Bool} {A:Option Addr} {k c:Nat} {ds:List Int} {z:Int} {L:Nat} (h:ZD W g A k c ds z L) {p:Bool} {q:Option Addr} {r s:Nat}
  (hp:Blk W b 70 #[.bool p,.slice q r s]):Var ((W.setCell ⟨b,0,none⟩ (.bool g)).setCell ⟨b,1,none⟩ (.slice A k c)) b g A k c ds z L:=
 ⟨blk_put hp _ _,h.put hp _ _⟩
theorem Var.cells {W:World} {b:Nat} {g:Bool} {A:Option Addr} {k c:Nat} {ds:List Int} {z:Int} {L:Nat} (h:Var W b g A k c ds z L):
  W.cell? ⟨b,0,none⟩=some (.bool g)/\W.cell? ⟨b,1,none⟩=some (.slice A k c)/\W.frozen? ⟨b,0,none⟩=false/\W.frozen? ⟨b,1,none⟩=false:=
 ⟨h.blk.cell 0,h.blk.cell 1,h.blk.frozen 0,h.blk.frozen 1⟩
theorem Var.more {W:World} {b:Nat} {g:Bool} {A:Option Addr} {k c:Nat} {ds:List Int} {z:Int} {L L':Nat} (h:Var W b g A k c ds z L) (hl:L<=L'):Var W b g A k c ds z L':=⟨h.blk,h.zd.more hl⟩
theorem box4 (w:World) (t:TypeId) (a b c d:Array Value):
  let W:=(((w.alloc (.cells a t)).alloc (.cells b t)).alloc (.cells c t)).alloc (.cells d t)
  Blk W w.heap.size t a/\Blk W (w.heap.size+1) t b/\Blk W (w.heap.size+1+1) t c/\Blk W (w.heap.size+1+1+1) t d/\Below w.heap.size w W/\w.heap.size+1+1+1<W.heap.size:=by
 obtain ⟨h1,h2,h3,h4,h5⟩:=box3 w t t t a b c;have h6:=Blk.new (((w.alloc (.cells a t)).alloc (.cells b t)).alloc (.cells c t)) t d;simp only [World.size_alloc] at h6
 exact ⟨h1.alloc _,h2.alloc _,h3.alloc _,h6,h4.alloc (by simp;omega) _,by simp⟩
theorem box6 (w:World) (t:TypeId) (a b c d e f:Array Value):
  let W:=(((((w.alloc (.cells a t)).alloc (.cells b t)).alloc (.cells c t)).alloc (.cells d t)).alloc (.cells e t)).alloc (.cells f t)
  Blk W w.heap.size t a/\Blk W (w.heap.size+1) t b/\Blk W (w.heap.size+1+1) t c/\Blk W (w.heap.size+1+1+1) t d/\Blk W (w.heap.size+1+1+1+1) t e/\Blk W (w.heap.size+1+1+1+1+1) t f/\Below w.heap.size w W/\w.heap.size+1+1+1+1+1<W.heap.size:=by
 obtain ⟨h1,h2,h3,h4,h5⟩:=box3 w t t t a b c;have h6:=Blk.new (((w.alloc (.cells a t)).alloc (.cells b t)).alloc (.cells c t)) t d;have h7:=Blk.new ((((w.alloc (.cells a t)).alloc (.cells b t)).alloc (.cells c t)).alloc (.cells d t)) t e;have h8:=Blk.new (((((w.alloc (.cells a t)).alloc (.cells b t)).alloc (.cells c t)).alloc (.cells d t)).alloc (.cells e t)) t f;simp only [World.size_alloc] at h6 h7 h8
 refine ⟨((h1.alloc _).alloc _).alloc _,((h2.alloc _).alloc _).alloc _,((h3.alloc _).alloc _).alloc _,(h6.alloc _).alloc _,h7.alloc _,h8,?_,by simp⟩
 exact ((h4.alloc (by simp;omega) _).alloc (by simp;omega) _).alloc (by simp;omega) _
structure LongSt (w:World) (n1:Bool) (A:Option Addr) (n c:Nat) (n2:Bool) (B:Option Addr) (m d:Nat) (xs ys:List Int) (x y:Int) (L M:Nat) (W:World):Prop where
 a:Var W w.heap.size n1 A n c xs x L
 b:Var W (w.heap.size+1) n2 B m d ys y M
 p:Res w (w.heap.size+1+1) W
 q:Res w (w.heap.size+1+1+1) W
section
variable {w W W':World} {n1 n2:Bool} {A B:Option Addr} {n c m d:Nat} {xs ys:List Int} {x y:Int} {L M:Nat}
theorem LongSt.below (h:LongSt w n1 A n c n2 B m d xs ys x y L M W) (hb:Below W.heap.size W W'):LongSt w n1 A n c n2 B m d xs ys x y L M W':=⟨h.a.below hb,h.b.below hb,h.p.below hb,h.q.below hb⟩
theorem LongSt.put (h:LongSt w n1 A n c n2 B m d xs ys x y L M W) {b:Nat} {p:Bool} {q:Option Addr} {r s:Nat} (hp:Blk W b 70 #[.bool p,.slice q r s]) (hb:w.heap.size+1+1+1<b) (u v:Value):
  LongSt w n1 A n c n2 B m d xs ys x y L M ((W.setCell ⟨b,0,none⟩ u).setCell ⟨b,1,none⟩ v):=
 ⟨h.a.put hp (by omega) u v,h.b.put hp (by omega) u v,h.p.put (by omega) (by omega) u v,h.q.put (by omega) (by omega) u v⟩
end
def RetLong (w:World) (v y:Int) (L:Nat) (e:Ending) (w':World):Prop:=
 ∃ v1 v2 q r,e= .returned (.tuple #[v1,v2])/\IsZ w' v1 q L/\IsZ w' v2 r L/\q*y+r=v/\(0<=r/\r<y)/\Below w.heap.size w w'
theorem long_any (n1 n2:Bool) (A B:Option Addr) (n m c d:Nat) (xs ys:List Int) (x y:Int) (L M:Nat) (w:World) (ha:ZD w n1 A n c xs x L) (hb:ZD w n2 B m d ys y M) (hL:n<=1000) (hM:M<=1000) (hy:0<y):
  Calls prog 105 #[.agg #[.bool n1,.slice A n c],.agg #[.bool n2,.slice B m d]] w (RetLong w (dval xs) y (M+10+64*n)):=by
 have hnc:=ha.sl.cap;have hcm:=ha.sl.capm;unfold maxLen at hcm;go_enter func105,ntmps105;have Ha:=hid ha;have Hb:=hid hb;clear ha hb;go_wp2;obtain ⟨hq0,hq1,hq2,hq3,hq4,hq5,hbel,hsz⟩:=box6 w 70 #[.bool n1,.slice A n c] #[.bool n2,.slice B m d] #[.bool false,.slice none 0 0] #[.bool false,.slice none 0 0] #[.bool false,.slice none 0 0] #[.bool false,.slice none 0 0];have HA0:=Ha.out.below hbel;have HB0:=Hb.out.below hbel
 have S0:LongSt w n1 A n c n2 B m d xs ys x y L M ((((((w.alloc (Obj.cells #[Value.bool n1,Value.slice A n c] 70)).alloc (Obj.cells #[Value.bool n2,Value.slice B m d] 70)).alloc (Obj.cells #[Value.bool false,Value.slice none 0 0] 70)).alloc (Obj.cells #[Value.bool false,Value.slice none 0 0] 70)).alloc (Obj.cells #[Value.bool false,Value.slice none 0 0] 70)).alloc (Obj.cells #[Value.bool false,Value.slice none 0 0] 70)):=⟨⟨hq0,HA0⟩,⟨hq1,HB0⟩,⟨hq2,hbel,by omega⟩,⟨hq3,hbel,by omega⟩⟩
 have HS0:=hid S0;have HQ4:=hid hq4;have HQ5:=hid hq5;clear S0 hq0 hq1 hq2 hq3 hq4 hq5 hbel hsz HA0 HB0;generalize ((((((w.alloc (Obj.cells #[Value.bool n1,Value.slice A n c] 70)).alloc (Obj.cells #[Value.bool n2,Value.slice B m d] 70)).alloc (Obj.cells #[Value.bool false,Value.slice none 0 0] 70)).alloc (Obj.cells #[Value.bool false,Value.slice none 0 0] 70)).alloc (Obj.cells #[Value.bool false,Value.slice none 0 0] 70)).alloc (Obj.cells #[Value.bool false,Value.slice none 0 0] 70))=W0 at*
 go_loopw [8] (fun iv wr=>∃ (k:Nat) (g4 g5:Bool) (A4 A5:Option Addr) (k4 k5 c4 c5:Nat) (d4 d5:List Int) (qv rv:Int),iv= .int .i64 ((k:Int) - 1)/\k<=16*n/\LongSt w n1 A n c n2 B m d xs ys x y L M wr/\Var wr (w.heap.size+1+1+1+1) g4 A4 k4 c4 d4 qv (M+10+4*(16*n - k))/\Var wr (w.heap.size+1+1+1+1+1) g5 A5 k5 c5 d5 rv (M+10+4*(16*n - k))/\qv*y+rv=dval xs / 2 ^ k/\0<=rv/\rv<y) (fun iv _=>(intOf iv+1).toNat)
 case atStart=>
  refine ⟨16*n,false,false,none,none,0,0,0,0,[],[],0,0,?_,Nat.le_refl _,HS0.out,⟨HQ4.out,ZD.zero _ _⟩,⟨HQ5.out,ZD.zero _ _⟩,?_,Int.le_refl _,hy⟩
  ·go_num
  ·have:=dval_shift_all Ha.out.canon.1
   rw [Ha.out.sl.len] at this;rw [this];simp
 case round=>
  obtain ⟨k,g4,g5,A4,A5,k4,k5,c4,c5,d4,d5,qv,rv,rfl,hk,hS,hq,hr,hv,hr0,hr1⟩:=hrel;have HS:=hid hS;have HQ:=hid hq;have HR:=hid hr;have HV:=hid hv;have HR0:=hid (And.intro hr0 hr1);clear hS hq hr hv hr0 hr1;have q1:=HS.out.a.blk.cell 1;obtain ⟨s0,s1,s2,s3⟩:=HQ.out.cells;obtain ⟨r0,r1,r2,r3⟩:=HR.out.cells
  by_cases hk0:0<k
  ·obtain ⟨k,rfl⟩:∃ j,k=j+1:=⟨k - 1,by omega⟩
   obtain ⟨ad,rfl,hcell⟩:=HS.out.a.zd.sl.cell (k:=k / 16) (by omega)
   have hdg:=Ha.out.canon.1.at_ (k / 16);have hbd:=bit_bd (dg xs (k / 16) / 2 ^ (k % 16));have hbit:=bit_of Ha.out.canon.1 k
   have hpos:(0:Int)<=dg xs (k / 16) / 2 ^ (k % 16):=Int.ediv_nonneg hdg.1 (Int.le_of_lt (Int.pow_pos (by decide)))
   have htm:(dg xs (k / 16) / 2 ^ (k % 16)).tmod 2=dg xs (k / 16) / 2 ^ (k % 16) % 2:=Int.tmod_eq_emod_of_nonneg hpos;have Htm:=hid htm;have Hbit:=hid hbit;clear htm hbit;obtain ⟨lz,hlz⟩:∃ lz,M+10+4*(16*n - (k+1))=lz:=⟨_,rfl⟩;rw [hlz] at HQ HR
   have hlz2:lz<=100000:=by omega
   have hlz3:M+10<=lz/\lz+4<=M+10+4*(16*n - k):=by omega
   have Hlz:=hid hlz;clear hlz hpos
   go_wp2_with fail
   refine (add_any _ _ _ _ _ _ _ _ _ _ _ _ _ _ wr HR.out.zd HR.out.zd (by omega) (by omega)).mono ?_
   rintro e w1 ⟨v,rfl,⟨ga,Aa,ka,ca,da,rfl,hza⟩,hba⟩;have HS1:=hid (HS.out.below hba);have HQ1:=hid (HQ.out.below hba);have HR1:=hid (HR.out.below hba);clear hcell q1 s0 s1 s2 s3 r0 r1 r2 r3 HS HQ HR;rw [Htm.out];generalize hbt:dg xs (k / 16) / 2 ^ (k % 16) % 2=bt at*;have Hbt:=hid hbt;clear hbt;obtain ⟨bt0,bt1⟩:=hbd
   go_wp2_with fail
   refine (ofU_any bt w1 (by omega) (by omega)).mono ?_
   rintro e w2 ⟨v,rfl,⟨gb,Ab,kb,cb,db,rfl,hzb⟩,hbb⟩;have HS2:=hid (HS1.out.below hbb);have HQ2:=hid (HQ1.out.below hbb);have HR2:=hid (HR1.out.below hbb);have hza2:=hza.below hbb
   go_wp2_with fail
   refine (add_any _ _ _ _ _ _ _ _ _ _ _ _ _ _ w2 hza2 hzb (by omega) (by omega)).mono ?_
   rintro e w3 ⟨v,rfl,⟨gc,Ac,kc,cc,dc,rfl,hzc⟩,hbc⟩;have HS3:=hid (HS2.out.below hbc);have HQ3:=hid (HQ2.out.below hbc);have HR3:=hid (HR2.out.below hbc);obtain ⟨r0,r1,r2,r3⟩:=HR3.out.cells
   have HS4:=hid (HS3.out.put HR3.out.blk (by omega) (.bool gc) (.slice Ac kc cc))
   have HQ4':=hid (HQ3.out.put HR3.out.blk (by omega) (.bool gc) (.slice Ac kc cc))
   have HR4:=hid (Var.mine hzc HR3.out.blk);clear hza hza2 hzb hzc hba hbb hbc HS1 HS2 HS3 HQ1 HQ2 HQ3 HR1 HR2 HR3;obtain ⟨s0,s1,s2,s3⟩:=HQ4'.out.cells
   go_wp2_with fail
   generalize (w3.setCell ⟨w.heap.size+1+1+1+1+1,0,none⟩ (Value.bool gc)).setCell ⟨w.heap.size+1+1+1+1+1,1,none⟩ (Value.slice Ac kc cc)=w4 at*;clear r0 r1 r2 r3 s0 s1 s2 s3
   refine (add_any _ _ _ _ _ _ _ _ _ _ _ _ _ _ w4 HQ4'.out.zd HQ4'.out.zd (by omega) (by omega)).mono ?_
   rintro e w5 ⟨v,rfl,⟨gd,Ad,kd,cd,dd,rfl,hzd⟩,hbd⟩;have HS5:=hid (HS4.out.below hbd);have HQ5':=hid (HQ4'.out.below hbd);have HR5:=hid (HR4.out.below hbd);obtain ⟨s0,s1,s2,s3⟩:=HQ5'.out.cells
   have HS6:=hid (HS5.out.put HQ5'.out.blk (by omega) (.bool gd) (.slice Ad kd cd))
   have HR6:=hid (HR5.out.put HQ5'.out.blk (by omega) (.bool gd) (.slice Ad kd cd))
   have HQ6:=hid (Var.mine hzd HQ5'.out.blk);clear hzd hbd HS4 HS5 HQ4' HQ5' HR4 HR5;obtain ⟨r0,r1,r2,r3⟩:=HR6.out.cells;obtain ⟨t0,t1,t2,t3⟩:=HS6.out.b.cells
   go_wp2_with fail
   generalize (w5.setCell ⟨w.heap.size+1+1+1+1,0,none⟩ (Value.bool gd)).setCell ⟨w.heap.size+1+1+1+1,1,none⟩ (Value.slice Ad kd cd)=w6 at*;clear r0 r1 r2 r3 s0 s1 s2 s3 t0 t1 t2 t3
   refine (cmp_any _ _ _ _ _ _ _ _ _ _ _ _ _ _ w6 HR6.out.zd HS6.out.b.zd (by omega) (by omega)).mono ?_
   rintro e w7 ⟨rfl,hbe⟩;have HS7:=hid (HS6.out.below hbe);have HQ7:=hid (HQ6.out.below hbe);have HR7:=hid (HR6.out.below hbe);clear hbe HS6 HQ6 HR6;obtain ⟨r0,r1,r2,r3⟩:=HR7.out.cells;obtain ⟨t0,t1,t2,t3⟩:=HS7.out.b.cells
   by_cases hge:y<=rv+rv+bt
   ·have hcm2:decide (0<=cmpI (rv+rv+bt) y)=true:=by
     rcases cmpI_cases (rv+rv+bt) y with ⟨h,e⟩|⟨h,e⟩|⟨h,e⟩<;>rw [e]<;>first|rfl|omega
    have Hge:=hid hge;clear hge
    go_wp2_with fail
    refine (sub_any _ _ _ _ _ _ _ _ _ _ _ _ _ _ w7 HR7.out.zd HS7.out.b.zd (by omega) (by omega)).mono ?_
    rintro e w8 ⟨v,rfl,⟨ge,Ae,ke,ce,de,rfl,hze⟩,hbf⟩;have HS8:=hid (HS7.out.below hbf);have HQ8:=hid (HQ7.out.below hbf);have HR8:=hid (HR7.out.below hbf);clear r0 r1 r2 r3 t0 t1 t2 t3;obtain ⟨r0,r1,r2,r3⟩:=HR8.out.cells
    have HS9:=hid (HS8.out.put HR8.out.blk (by omega) (.bool ge) (.slice Ae ke ce))
    have HQ9:=hid (HQ8.out.put HR8.out.blk (by omega) (.bool ge) (.slice Ae ke ce))
    have HR9:=hid (Var.mine hze HR8.out.blk);clear hze hbf HS7 HS8 HQ7 HQ8 HR7 HR8
    go_wp2_with fail
    generalize (w8.setCell ⟨w.heap.size+1+1+1+1+1,0,none⟩ (Value.bool ge)).setCell ⟨w.heap.size+1+1+1+1+1,1,none⟩ (Value.slice Ae ke ce)=w9 at*;clear r0 r1 r2 r3;have HSa:Hid (LongSt w n1 (some ad) n c n2 B m d xs ys x y L M w9.drew):=HS9.out.below (below_drew _);have HQa:Hid (Var w9.drew (w.heap.size+1+1+1+1) gd Ad kd cd dd (qv+qv) (max lz lz+1)):=HQ9.out.below (below_drew _);have HRa:Hid (Var w9.drew (w.heap.size+1+1+1+1+1) ge Ae ke ce de (rv+rv+bt - y) _):=HR9.out.below (below_drew _);obtain ⟨s0,s1,s2,s3⟩:=HQa.out.cells
    go_region_with (first
     |(go_at_call 73;refine (ofU_any 1 w9.drew (by omega) (by omega)).mono ?_;rintro e wa ⟨v,rfl,⟨gf,Af,kf,cf,df,rfl,hzf⟩,hbg⟩;have HSb:=hid (HSa.out.below hbg);have HQb:=hid (HQa.out.below hbg);have HRb:=hid (HRa.out.below hbg);obtain ⟨u0,u1,u2,u3⟩:=HQb.out.cells)
     |(go_at_call 33;refine (add_any _ _ _ _ _ _ _ _ _ _ _ _ _ _ wa HQb.out.zd hzf (by omega) (by omega)).mono ?_;rintro e wb ⟨v,rfl,⟨gg,Ag,kg,cg,dg',rfl,hzg⟩,hbh⟩;have HSc:=hid (HSb.out.below hbh);have HQc:=hid (HQb.out.below hbh);have HRc:=hid (HRb.out.below hbh);obtain ⟨v0,v1,v2,v3⟩:=HQc.out.cells))
    all_goals
     have HSd:=hid (HSc.out.put HQc.out.blk (by omega) (.bool gg) (.slice Ag kg cg))
     have HRd:=hid (HRc.out.put HQc.out.blk (by omega) (.bool gg) (.slice Ag kg cg))
     have HQd:=hid (Var.mine hzg HQc.out.blk);clear hzg hzf hbg hbh HSa HSb HSc HQa HQb HQc HRa HRb HRc u0 u1 u2 u3 v0 v1 v2 v3 s0 s1 s2 s3 HS9 HQ9 HR9;go_wp2
     go_roundw
     case rel=>
      refine ⟨k,gg,ge,Ag,Ae,kg,ke,cg,ce,dg',de,qv+qv+1,rv+rv+bt - y,by go_num,by omega,HSd.out,HQd.out.more (by omega),HRd.out.more (by omega),?_,?_,?_⟩
      ·rw [Hbit.out,<-HV.out,Int.add_mul,Int.add_mul];omega
      ·have:=Hge.out;omega
      ·have:=HR0.out;omega
     case measure=>simp [intOf]
   ·have hcm2:decide (0<=cmpI (rv+rv+bt) y)=false:=by
     rcases cmpI_cases (rv+rv+bt) y with ⟨h,e⟩|⟨h,e⟩|⟨h,e⟩<;>rw [e]<;>first|rfl|omega
    have Hge:=hid hge;clear hge;go_wp2
    go_roundw
    case rel=>
     refine ⟨k,gd,gc,Ad,Ac,kd,kc,cd,cc,dd,dc,qv+qv,rv+rv+bt,by go_num,by omega,HS7.out,HQ7.out.more (by omega),HR7.out.more (by omega),?_,?_,?_⟩
     ·rw [Hbit.out,<-HV.out,Int.add_mul];omega
     ·have:=HR0.out;omega
     ·have:=Hge.out;omega
    case measure=>simp [intOf]
  ·obtain rfl:k=0:=by omega
   go_wp2;have HSa:Hid (LongSt w n1 A n c n2 B m d xs ys x y L M wr.drew):=HS.out.below (below_drew _);have HQa:Hid (Var wr.drew (w.heap.size+1+1+1+1) g4 A4 k4 c4 d4 qv (M+10+4*(16*n - 0))):=HQ.out.below (below_drew _);have HRa:Hid (Var wr.drew (w.heap.size+1+1+1+1+1) g5 A5 k5 c5 d5 rv (M+10+4*(16*n - 0))):=HR.out.below (below_drew _);obtain ⟨u0,u1,u2,u3⟩:=HS.out.p.cells;obtain ⟨v0,v1,v2,v3⟩:=HS.out.q.cells
   go_region_held3 (fun w'=>w'.cell? ⟨w.heap.size+1+1+1+1,0,none⟩=some (.bool g4)/\w'.cell? ⟨w.heap.size+1+1+1+1,1,none⟩=some (.slice A4 k4 c4)/\w'.cell? ⟨w.heap.size+1+1+1+1+1,0,none⟩=some (.bool g5)/\w'.cell? ⟨w.heap.size+1+1+1+1+1,1,none⟩=some (.slice A5 k5 c5)) (first|(simp [*];done)|exact keep4_set (by assumption) (by dsimp only;omega) (by dsimp only;omega) (by dsimp only;omega) (by dsimp only;omega) _ _) (fail)
   go_wp2;have hp:=HS.out.p
   have hq:=HS.out.q.put (b':=w.heap.size+1+1) (by omega) (by omega) (.bool g4) (.slice A4 k4 c4)
   have hz1:=((HQ.out.zd.put hp.blk (.bool g4) (.slice A4 k4 c4)).put hq.blk (.bool g5) (.slice A5 k5 c5)).below (below_drew _);have hz2:=((HR.out.zd.put hp.blk (.bool g4) (.slice A4 k4 c4)).put hq.blk (.bool g5) (.slice A5 k5 c5)).below (below_drew _);have hbl:=((((hp.bel.setCell (p:=⟨w.heap.size+1+1,0,none⟩) hp.le (.bool g4)).setCell (p:=⟨w.heap.size+1+1,1,none⟩) hp.le (.slice A4 k4 c4)).setCell (p:=⟨w.heap.size+1+1+1,0,none⟩) hq.le (.bool g5)).setCell (p:=⟨w.heap.size+1+1+1,1,none⟩) hq.le (.slice A5 k5 c5)).drew
   refine bodyPost_ret (v:= .tuple #[.agg #[.bool g4,.slice A4 k4 c4],.agg #[.bool g5,.slice A5 k5 c5]]) (by simp [results,Tryz.results105,go_sem,u0,u1,v0,v1]) rfl ?_
   have hv:=HV.out;rw [Int.pow_zero,Int.ediv_one] at hv
   exact ⟨_,_,qv,rv,rfl,⟨_,_,_,_,_,rfl,hz1.more (by omega)⟩,⟨_,_,_,_,_,rfl,hz2.more (by omega)⟩,hv,HR0.out,hbl⟩
end RefZ
end
end Go.Proofs.YtiiekaehbahenaaGreatDoor
