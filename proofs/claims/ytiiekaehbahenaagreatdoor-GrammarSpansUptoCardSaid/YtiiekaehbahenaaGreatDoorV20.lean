/-
  Contracts of the code that the law reaches, and plain laws. Conditions: as each says.
-/
import Derived.Test.YtiiekaehbahenaaGreatDoorV19
set_option linter.all false
set_option maxHeartbeats 40000000
set_option maxRecDepth 100000
namespace Go.Proofs.YtiiekaehbahenaaGreatDoor
open Lib (hid)
open Tryz
section
section
namespace Wid
open Go.RowKit Mem Atl
theorem parts_small (x:Nat) (w:World):
  Calls prog 124 #[.agg #[.int .i64 0,.int .u64 x]] w fun r w'=>r= .returned (.tuple #[.agg #[.int .u64 0,.int .u64 x],.bool false])/\Below w.heap.size w w':=by
 go_enter func124,ntmps124
 go_wp2_with fail
 obtain ⟨-,bR,hb,-⟩:=box2 w 112 178 #[.int .i64 0,.int .u64 x] #[.int .u64 0,.int .u64 x];have cF:=bR.cell
 exact bodyPost_ret (v:= .tuple #[.agg #[.int .u64 0,.int .u64 x],.bool false]) (by simp [results,Tryz.results124,go_sem,cF]) rfl ⟨rfl,hb⟩
theorem bsigned_small (x:Nat) (w:World):
  Calls prog 126 #[.agg #[.int .u64 0,.int .u64 x],.bool false] w fun r w'=>r= .returned (.tuple #[.agg #[.int .i64 0,.int .u64 x],.int .i64 0])/\Below w.heap.size w w':=by
 go_enter func126,ntmps126
 go_wp2_with fail
 obtain ⟨-,bR,-,hb,-⟩:=box3 w 178 112 112 #[.int .u64 0,.int .u64 x] #[.int .i64 0,.int .u64 x] #[.int .i64 0,.int .u64 x];have cF:=bR.cell
 exact bodyPost_ret (v:= .tuple #[.agg #[.int .i64 0,.int .u64 x],.int .i64 0]) (by simp [results,Tryz.results126,go_sem,cF]) rfl ⟨rfl,hb⟩
theorem box4 (w:World) (t:TypeId) (c d e f:Array Value):Blk ((((w.alloc (.cells c t)).alloc (.cells d t)).alloc (.cells e t)).alloc (.cells f t)).drew (w.heap.size+1+1) t e/\
  Blk ((((w.alloc (.cells c t)).alloc (.cells d t)).alloc (.cells e t)).alloc (.cells f t)).drew (w.heap.size+1+1+1) t f/\Below w.heap.size w ((((w.alloc (.cells c t)).alloc (.cells d t)).alloc (.cells e t)).alloc (.cells f t)).drew:=by
 obtain ⟨-,-,h3,h4,h5⟩:=box3 w t t t c d e
 refine ⟨(h3.alloc (.cells f t)),?_,(h4.alloc (by simp;omega) _).drew⟩
 have h:=Blk.new (((w.alloc (.cells c t)).alloc (.cells d t)).alloc (.cells e t)) t f
 have h':Blk ((((w.alloc (.cells c t)).alloc (.cells d t)).alloc (.cells e t)).alloc (.cells f t)) (w.heap.size+1+1+1) t f:=by simpa using h
 exact h'
theorem over_small (x y:Nat) (hx:x<9223372036854775808) (hy:y<9223372036854775808) (hy0:0<y) (w:World):
  Calls prog 125 #[.agg #[.int .u64 0,.int .u64 x],.agg #[.int .u64 0,.int .u64 y]] w fun r w'=>r= .returned (.tuple #[.agg #[.int .u64 0,.int .u64 ((x / y:Nat):Int)],.agg #[.int .u64 0,.int .u64 ((x % y:Nat):Int)]])/\Below w.heap.size w w':=by
 go_enter func125,ntmps125
 go_wp2_with fail
 have hz:((y:Int) == 0)=false:=by rw [beq_eq_false_iff_ne];omega
 have hw1:IntKind.u64.wrap ((x:Int) / (y:Int))=((x / y:Nat):Int):=by
  have h:=Nat.div_le_self x y;rw [IntKind.wrap_u64,<-Int.natCast_ediv];generalize x / y=q at*;omega
 have hw2:(x:Int) % (y:Int)=((x % y:Nat):Int):=(Int.natCast_emod x y).symm;have Hw:=hid (And.intro hw1 hw2);clear hw1 hw2
 go_region
 rw [Hw.out.1,Hw.out.2];clear Hw hz;obtain ⟨q,hq⟩:∃ q,x / y=q:=⟨_,rfl⟩;obtain ⟨m,hm⟩:∃ q,x % y=q:=⟨_,rfl⟩;simp only [hq,hm];obtain ⟨b4,b5,hB⟩:=box4 w 178 #[.int .u64 0,.int .u64 x] #[.int .u64 0,.int .u64 y] #[.int .u64 0,.int .u64 q] #[.int .u64 0,.int .u64 m];have HB:=hid (And.intro b4 (And.intro b5 hB));clear b4 b5 hB;generalize World.drew _=WF at*;have cF4:=HB.out.1.cell;have cF5:=HB.out.2.1.cell;go_wp2
 exact bodyPost_ret (v:= .tuple #[.agg #[.int .u64 0,.int .u64 q],.agg #[.int .u64 0,.int .u64 m]]) (by simp [results,Tryz.results125,go_sem,cF4,cF5]) rfl ⟨by rw [hq,hm],HB.out.2.2⟩
end Wid
end
end
section
section
namespace Wid
open Go.RowKit Mem Atl
theorem box4n (w:World) (t:TypeId) (c d e f:Array Value):Blk ((((w.alloc (.cells c t)).alloc (.cells d t)).alloc (.cells e t)).alloc (.cells f t)) (w.heap.size+1) t d/\
  Blk ((((w.alloc (.cells c t)).alloc (.cells d t)).alloc (.cells e t)).alloc (.cells f t)) (w.heap.size+1+1) t e/\
  Blk ((((w.alloc (.cells c t)).alloc (.cells d t)).alloc (.cells e t)).alloc (.cells f t)) (w.heap.size+1+1+1) t f/\Below w.heap.size w ((((w.alloc (.cells c t)).alloc (.cells d t)).alloc (.cells e t)).alloc (.cells f t)):=by
 obtain ⟨-,h2,h3,h4,h5⟩:=box3 w t t t c d e
 refine ⟨h2.alloc _,h3.alloc _,?_,h4.alloc (by simp;omega) _⟩
 have h:=Blk.new (((w.alloc (.cells c t)).alloc (.cells d t)).alloc (.cells e t)) t f
 simpa using h
theorem trunc_small (x y:Nat) (hx:x<9223372036854775808) (hy:y<9223372036854775808) (hy0:0<y) (w:World):
  Calls prog 99 #[.agg #[.int .i64 0,.int .u64 x],.agg #[.int .i64 0,.int .u64 y]] w fun r w'=>r= .returned (.tuple #[.agg #[.int .i64 0,.int .u64 ((x / y:Nat):Int)],.agg #[.int .i64 0,.int .u64 ((x % y:Nat):Int)],.int .i64 0])/\Below w.heap.size w w':=by
 have HPx:=hid (fun z=>parts_small x z);have HPy:=hid (fun z=>parts_small y z);have hO:=fun z=>over_small x y hx hy hy0 z;obtain ⟨q,hq⟩:∃ q,x / y=q:=⟨_,rfl⟩;obtain ⟨m,hm⟩:∃ q,x % y=q:=⟨_,rfl⟩;rw [hq,hm] at hO;rw [hq,hm];have HO:=hid hO;have HSq:=hid (fun z=>bsigned_small q z);have HSm:=hid (fun z=>bsigned_small m z);clear hO hq hm
 have hz:((y:Int) == 0)=false:=by rw [beq_eq_false_iff_ne];omega
 have HX:=hid (box4n w 112 #[.int .i64 0,.int .u64 x] #[.int .i64 0,.int .u64 y] #[.int .i64 0,.int .u64 0] #[.int .i64 0,.int .u64 0]);go_enter func99,ntmps99
 go_wp2_with fail
 generalize (((w.alloc (.cells #[.int .i64 0,.int .u64 x] 112)).alloc (.cells #[.int .i64 0,.int .u64 y] 112)).alloc (.cells #[.int .i64 0,.int .u64 0] 112)).alloc (.cells #[.int .i64 0,.int .u64 0] 112)=W at*
 go_at_call 124
 refine (HPx.out W).mono ?_
 rintro r w1 ⟨rfl,hb⟩;have hs0:=HX.out.2.2.1.lt;have hs1:=hb.size;have b3:=(HX.out.1.below hb HX.out.1.lt).alloc (.cells #[.int .u64 0,.int .u64 x] 178);have n7:=Blk.new w1 178 #[.int .u64 0,.int .u64 x]
 have H1:=hid (And.intro ((HX.out.2.1.below hb HX.out.2.1.lt).alloc (.cells #[.int .u64 0,.int .u64 x] 178)) (And.intro ((HX.out.2.2.1.below hb HX.out.2.2.1.lt).alloc (.cells #[.int .u64 0,.int .u64 x] 178)) (And.intro n7 ((HX.out.2.2.2.trans (hb.mono (by omega))).alloc (B:=w.heap.size) (by omega) (.cells #[.int .u64 0,.int .u64 x] 178)))))
 have c3:=b3.cell;clear hb b3 n7 HX
 go_wp2_with fail
 obtain ⟨T7,hT7⟩:∃ T,w1.heap.size=T:=⟨_,rfl⟩;rw [hT7] at H1 hs1;rw [hT7];clear hT7;generalize w1.alloc (.cells #[.int .u64 0,.int .u64 x] 178)=W1 at*;clear c3
 go_at_call 124
 refine (HPy.out W1).mono ?_
 rintro r w2 ⟨rfl,hb⟩;have hs2:=hb.size;have hs7:=H1.out.2.2.1.lt;have b7:=(H1.out.2.2.1.below hb hs7).alloc (.cells #[.int .u64 0,.int .u64 y] 178);have n9:=Blk.new w2 178 #[.int .u64 0,.int .u64 y]
 have H2:=hid (And.intro ((H1.out.1.below hb H1.out.1.lt).alloc (.cells #[.int .u64 0,.int .u64 y] 178)) (And.intro ((H1.out.2.1.below hb H1.out.2.1.lt).alloc (.cells #[.int .u64 0,.int .u64 y] 178)) ((H1.out.2.2.2.trans (hb.mono (by omega))).alloc (B:=w.heap.size) (by omega) (.cells #[.int .u64 0,.int .u64 y] 178))))
 have c7:=b7.cell;have c9:=n9.cell;clear hb b7 n9 H1
 go_wp2_with fail
 generalize w2.alloc (.cells #[.int .u64 0,.int .u64 y] 178)=W2 at*;clear c7 c9 hs7;have hw2:w.heap.size+1+1+1<W2.heap.size:=H2.out.2.1.lt
 go_at_call 125
 refine (HO.out W2).mono ?_
 rintro r w3 ⟨rfl,hb⟩;have hs3:=hb.size;have n11:=box2 w3 178 178 #[.int .u64 0,.int .u64 q] #[.int .u64 0,.int .u64 m]
 have H3:=hid (And.intro (((H2.out.1.below hb H2.out.1.lt).alloc (.cells #[.int .u64 0,.int .u64 q] 178)).alloc (.cells #[.int .u64 0,.int .u64 m] 178)) (And.intro (((H2.out.2.1.below hb H2.out.2.1.lt).alloc (.cells #[.int .u64 0,.int .u64 q] 178)).alloc (.cells #[.int .u64 0,.int .u64 m] 178)) (And.intro n11.2.1 ((H2.out.2.2.trans (hb.mono (by omega))).trans (n11.2.2.1.mono (by omega))))))
 have c11:=n11.1.cell;have hs4:=n11.2.2.2;clear hb n11 H2
 go_wp2_with fail
 obtain ⟨T,hT⟩:∃ T,w3.heap.size=T:=⟨_,rfl⟩;rw [hT] at H3 hs3 hs4;rw [hT];clear hT c11;generalize (w3.alloc (.cells #[.int .u64 0,.int .u64 q] 178)).alloc (.cells #[.int .u64 0,.int .u64 m] 178)=W3 at*
 go_at_call 126
 refine (HSq.out W3).mono ?_
 rintro r w4 ⟨rfl,hb⟩;have hs5:=hb.size;have b12:=(H3.out.2.2.1.below hb H3.out.2.2.1.lt).alloc (.cells #[.int .i64 0,.int .u64 q] 112);have n13:=Blk.new w4 112 #[.int .i64 0,.int .u64 q]
 have H4:=hid (And.intro ((H3.out.1.below hb H3.out.1.lt).alloc (.cells #[.int .i64 0,.int .u64 q] 112)) (And.intro ((H3.out.2.1.below hb H3.out.2.1.lt).alloc (.cells #[.int .i64 0,.int .u64 q] 112)) (And.intro n13 ((H3.out.2.2.2.trans (hb.mono (by omega))).alloc (B:=w.heap.size) (by omega) (.cells #[.int .i64 0,.int .u64 q] 112)))))
 have c12:=b12.cell;clear hb b12 n13 H3
 go_wp2_with fail
 obtain ⟨T13,hT⟩:∃ T,w4.heap.size=T:=⟨_,rfl⟩;rw [hT] at H4 hs5;rw [hT];clear hT c12;generalize w4.alloc (.cells #[.int .i64 0,.int .u64 q] 112)=W4 at*
 go_at_call 126
 refine (HSm.out W4).mono ?_
 rintro r w5 ⟨rfl,hb⟩;have hs6:=hb.size;have hs13:=H4.out.2.2.1.lt
 have H5:=hid (And.intro ((H4.out.1.below hb H4.out.1.lt).alloc (.cells #[.int .i64 0,.int .u64 m] 112)) (And.intro ((H4.out.2.1.below hb H4.out.2.1.lt).alloc (.cells #[.int .i64 0,.int .u64 m] 112)) (And.intro ((H4.out.2.2.1.below hb H4.out.2.2.1.lt).alloc (.cells #[.int .i64 0,.int .u64 m] 112)) (And.intro (Blk.new w5 112 #[.int .i64 0,.int .u64 m]) ((H4.out.2.2.2.trans (hb.mono (by omega))).alloc (B:=w.heap.size) (by omega) (.cells #[.int .i64 0,.int .u64 m] 112))))))
 clear hb H4
 go_wp2_with fail
 obtain ⟨T15,hT⟩:∃ T,w5.heap.size=T:=⟨_,rfl⟩;rw [hT] at H5 hs6;rw [hT];clear hT;generalize w5.alloc (.cells #[.int .i64 0,.int .u64 m] 112)=W5 at*;have c4:=H5.out.1.cell;have c5:=H5.out.2.1.cell;have c13:=H5.out.2.2.1.cell;have c15:=H5.out.2.2.2.1.cell;have f4:=H5.out.1.frozen;have f5:=H5.out.2.1.frozen
 have ne1:w.heap.size+1+1≠T13:=by omega
 have ne2:w.heap.size+1+1≠T15:=by omega
 have ne3:w.heap.size+1+1+1≠T13:=by omega
 have ne4:w.heap.size+1+1+1≠T15:=by omega
 clear hs0 hs1 hs2 hs3 hs4 hs5 hs6 hs13 hw2 hx hy hy0 HPx HPy HO HSq HSm
 go_region
 have b4:=((set2 (x0:= .int .i64 0) (x1:= .int .u64 q) H5.out.1).far (p:=⟨w.heap.size+1+1+1,0,none⟩) (by show w.heap.size+1+1≠w.heap.size+1+1+1;omega) (.int .i64 0)).far (p:=⟨w.heap.size+1+1+1,1,none⟩) (by show w.heap.size+1+1≠w.heap.size+1+1+1;omega) (.int .u64 m)
 have b5:=set2 (x0:= .int .i64 0) (x1:= .int .u64 m) ((H5.out.2.1.far (p:=⟨w.heap.size+1+1,0,none⟩) (by show w.heap.size+1+1+1≠w.heap.size+1+1;omega) (.int .i64 0)).far (p:=⟨w.heap.size+1+1,1,none⟩) (by show w.heap.size+1+1+1≠w.heap.size+1+1;omega) (.int .u64 q))
 have hF:=((((H5.out.2.2.2.2.setCell (p:=⟨w.heap.size+1+1,0,none⟩) (by show w.heap.size<=w.heap.size+1+1;omega) (.int .i64 0)).setCell (p:=⟨w.heap.size+1+1,1,none⟩) (by show w.heap.size<=w.heap.size+1+1;omega) (.int .u64 q)).setCell (p:=⟨w.heap.size+1+1+1,0,none⟩) (by show w.heap.size<=w.heap.size+1+1+1;omega) (.int .i64 0)).setCell (p:=⟨w.heap.size+1+1+1,1,none⟩) (by show w.heap.size<=w.heap.size+1+1+1;omega) (.int .u64 m)).drew
 have d4:=b4.drew;have d5:=b5.drew;clear b4 b5 c4 c5 c13 c15 f4 f5 H5 ne1 ne2 ne3 ne4;generalize World.drew _=WF at*;have cF4:=d4.cell;have cF5:=d5.cell;go_wp2
 exact bodyPost_ret (v:= .tuple #[.agg #[.int .i64 0,.int .u64 q],.agg #[.int .i64 0,.int .u64 m],.int .i64 0]) (by simp [results,Tryz.results99,go_sem,cF4,cF5]) rfl ⟨rfl,hF⟩
end Wid
end
end
end Go.Proofs.YtiiekaehbahenaaGreatDoor
