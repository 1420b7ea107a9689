/-
  Contracts of the code that the law reaches, and plain laws. Conditions: as each says.
-/
import Derived.Test.YtiiekaehbahenaaGreatDoorV01
import Derived.Test.YtiiekaehbahenaaGreatDoorV03
import Derived.Test.YtiiekaehbahenaaGreatDoorV04
import Derived.Shelf.Spec.BitsCarry
import Derived.StillTailTactics
set_option linter.all false
set_option maxHeartbeats 40000000
set_option maxRecDepth 100000
namespace Go.Proofs.YtiiekaehbahenaaGreatDoor
open Lib (hid)
open Tryz
section
section
namespace Wid
open Go.RowKit Mem Atl
abbrev B64:Nat:=18446744073709551616
abbrev hiN (x:Nat):Value:= .int .i64 ((x / 18446744073709551616:Nat):Int)
abbrev loN (x:Nat):Value:= .int .u64 ((x % 18446744073709551616:Nat):Int)
abbrev wN (x:Nat):Value:= .agg #[hiN x,loN x]
theorem add64_run (x y c:Nat) (hx:x<18446744073709551616) (hy:y<18446744073709551616) (hc:c<=1) (w:World):
  (callFunc 130 #[.int .u64 x,.int .u64 y,.int .u64 c]).run prog w=
   .ok (.value (.tuple #[.int .u64 (((x+y+c) % 18446744073709551616:Nat):Int),.int .u64 (((x+y+c) / 18446744073709551616:Nat):Int)])) w:=by
 rw [run_callFunc_extern func130 (by kernel_rfl) (by kernel_rfl) (by kernel_rfl) (e:=add64Entry) (by kernel_rfl),run_add64 x y c (by omega) (by omega) (by omega) (by omega)]
 simp only [Result.andThen]
 congr 5<;>omega
theorem of_nn (n:Nat) (hn:n<9223372036854775808) (w:World):
  Calls prog 60 #[.int .i64 n] w fun e w'=>e= .returned (wN n)/\Below w.heap.size w w':=by
 have h1:n / 18446744073709551616=0:=by omega
 have h2:n % 18446744073709551616=n:=by omega
 have h3:(n:Int) / 9223372036854775808=0:=by omega
 rw [wN,hiN,loN,h1,h2];clear h1 h2;go_enter func60,ntmps60;go_wp2;have cF:=fun i=>(Blk.new w 112 #[.int .i64 0,.int .u64 n]).cell i
 refine bodyPost_ret (v:= .agg #[.int .i64 0,.int .u64 n]) (by simp [results,Tryz.results60,go_sem,cF]) rfl ⟨rfl,(Below.refl _ _).alloc (Nat.le_refl _) _⟩
theorem ret_int {k:IntKind} {a b:Int} (h:a=b):Ending.returned (.int k a)= .returned (.int k b):=by rw [h]
theorem cmp_nn (a b:Nat) (w:World):
  Calls prog 65 #[wN a,wN b] w fun e w'=>e= .returned (.int .i64 (if a=b then 0 else if a<b then -1 else 1))/\Below w.heap.size w w':=by
 obtain ⟨x,hx⟩:∃ x,a / 18446744073709551616=x:=⟨_,rfl⟩;obtain ⟨y,hy⟩:∃ x,a % 18446744073709551616=x:=⟨_,rfl⟩;obtain ⟨z,hz⟩:∃ x,b / 18446744073709551616=x:=⟨_,rfl⟩;obtain ⟨u,hu⟩:∃ x,b % 18446744073709551616=x:=⟨_,rfl⟩;rw [wN,wN,hiN,loN,hiN,loN,hx,hy,hz,hu]
 obtain ⟨R,hR⟩:∃ R:Int,(if a=b then (0:Int) else if a<b then -1 else 1)=R:=⟨_,rfl⟩
 rw [hR];have hb2:=box2 w 112 112 #[.int .i64 x,.int .u64 y] #[.int .i64 z,.int .u64 u];obtain ⟨W,hW⟩:∃ W,(w.alloc (.cells #[.int .i64 x,.int .u64 y] 112)).alloc (.cells #[.int .i64 z,.int .u64 u] 112)=W:=⟨_,rfl⟩;rw [hW] at hb2;obtain ⟨b1,b2,hbw,_⟩:=hb2;have c1:=b1.cell;have c2:=b2.cell;have HB:=hid hbw;clear b1 b2 hbw;go_enter func65,ntmps65;go_wp2
 all_goals
  go_ret
  refine ⟨ret_int ?_,HB.out⟩
  rw [<-hR]
  (repeat' split)<;>omega
theorem sign_nn (a:Nat) (w:World):
  Calls prog 62 #[wN a] w fun e w'=>e= .returned (.int .i64 (if a=0 then 0 else 1))/\Below w.heap.size w w':=by
 have hc:=fun z=>cmp_nn a 0 z
 have e:(if a=0 then (0:Int) else if a<0 then -1 else 1)=if a=0 then 0 else 1:=by split<;>rfl
 rw [e] at hc;rw [show wN 0= .agg #[.int .i64 0,.int .u64 0] from rfl] at hc;have HC:=hid hc;clear hc e;obtain ⟨x,hx⟩:∃ x,a / 18446744073709551616=x:=⟨_,rfl⟩;obtain ⟨y,hy⟩:∃ x,a % 18446744073709551616=x:=⟨_,rfl⟩
 obtain ⟨R,hR⟩:∃ R:Int,(if a=0 then (0:Int) else 1)=R:=⟨_,rfl⟩
 rw [wN,hiN,loN,hx,hy,hR] at HC;rw [wN,hiN,loN,hx,hy,hR];clear hx hy hR;have hb1:=box1 w 112 #[.int .i64 x,.int .u64 y];obtain ⟨b1,hbw,_⟩:=hb1;have HB:=hid hbw;clear b1 hbw;go_enter func62,ntmps62
 go_wp2_with (go_at_call 65;refine (HC.out _).mono ?_;rintro e w1 ⟨rfl,hb⟩;have HB2:=hid (HB.out.trans (hb.mono HB.out.size));clear hb)
 go_ret;exact ⟨rfl,HB2.out⟩
theorem bare_nn (n:Nat) (hn:n<9223372036854775808) (w:World):Calls prog 128 #[.int .i64 n] w fun e w'=>e= .returned (.int .u64 n)/\w=w':=by
 have h0:(0:Int)<=(n:Int):=by omega
 go_enter func128,ntmps128;go_wp2;go_ret;exact ⟨rfl,rfl⟩
theorem signed_nn (hi lo:Nat) (h1:hi<9223372036854775808) (h2:lo<18446744073709551616) (w:World):
  Calls prog 129 #[.bool false,.int .u64 hi,.int .u64 lo] w fun e w'=>e= .returned (.tuple #[.agg #[.int .i64 hi,.int .u64 lo],.int .i64 0])/\Below w.heap.size w w':=by
 go_enter func129,ntmps129;have hb:=box2 w 112 112 #[.int .i64 hi,.int .u64 lo] #[.int .i64 hi,.int .u64 lo];go_wp2
 all_goals
  try subst_vars
  refine bodyPost_ret (v:= .tuple #[.agg #[.int .i64 _,.int .u64 _],.int .i64 0]) (by simp [results,Tryz.results129,go_sem]) rfl ⟨rfl,hb.2.2.1⟩
theorem set2 {W:World} {b:Nat} {T:TypeId} {a0 a1 x0 x1:Value} (h:Blk W b T #[a0,a1]):Blk ((W.setCell ⟨b,0,none⟩ x0).setCell ⟨b,1,none⟩ x1) b T #[x0,x1]:=by
 simpa using (h.set_ 0 x0).set_ 1 x1
theorem mul_nn (a b:Nat) (ha:a<9223372036854775808) (hb:b<9223372036854775808) (w:World):
  Calls prog 101 #[.int .i64 a,.int .i64 b] w fun e w'=>e= .returned (wN (a*b))/\Below w.heap.size w w':=by
 have hab:a*b / 18446744073709551616<9223372036854775808:=by
  rw [Nat.div_lt_iff_lt_mul (by decide)]
  have:a*b<=9223372036854775808*9223372036854775808:=Nat.mul_le_mul (by omega) (by omega)
  omega
 have HM:=hid (fun z=>Tryz.bits_Mul64 a b (by omega) (by omega) z)
 obtain ⟨hi,hhi⟩:∃ x,a*b / 18446744073709551616=x:=⟨_,rfl⟩;obtain ⟨lo,hlo⟩:∃ x,a*b % 18446744073709551616=x:=⟨_,rfl⟩
 have hl2:lo<18446744073709551616:=by rw [<-hlo];exact Nat.mod_lt _ (by decide)
 rw [hhi] at hab;rw [hhi,hlo] at HM;rw [wN,hiN,loN,hhi,hlo];clear hhi hlo
 have ha0:(0:Int)<=(a:Int):=by omega
 have hb0:(0:Int)<=(b:Int):=by omega
 have h1:=Blk.new w 112 #[.int .i64 0,.int .u64 0];have hb1:Below w.heap.size w (w.alloc (.cells #[.int .i64 0,.int .u64 0] 112)):=(Below.refl _ _).alloc (Nat.le_refl _) _;have H1:=hid (And.intro h1 hb1);clear h1 hb1;go_enter func101,ntmps101
 go_wp2_with (first
  |(go_at_call 128;refine (bare_nn _ (by assumption) _).mono ?_;rintro e w1 ⟨rfl,rfl⟩)
  |(go_at_call 127;refine (HM.out _).mono ?_;rintro e w1 ⟨rfl,rfl⟩)
  |(go_at_call 129;refine (signed_nn hi lo hab hl2 _).mono ?_;rintro e w1 ⟨rfl,hb⟩;have h2:=H1.out.1.below hb (by simp);have HB2:=hid (H1.out.2.trans (hb.mono (by simp)));have c2:=h2.cell;have f2:=h2.frozen;have hz2:=h2.lt;have H2:=hid h2;clear hb h2 H1))
 have bF:=(set2 (x0:= .int .i64 hi) (x1:= .int .u64 lo) H2.out).alloc (.cells #[.int .i64 hi,.int .u64 lo] 112)
 have hF:=((HB2.out.setCell (p:=⟨w.heap.size,0,none⟩) (Nat.le_refl _) (.int .i64 hi)).setCell (p:=⟨w.heap.size,1,none⟩) (Nat.le_refl _) (.int .u64 lo)).alloc (by simp;omega) (.cells #[.int .i64 hi,.int .u64 lo] 112)
 clear c2 f2 H2 HB2;generalize World.alloc _ _=WF at*;have cF:=bF.cell
 exact bodyPost_ret (v:= .agg #[.int .i64 hi,.int .u64 lo]) (by simp [results,Tryz.results101,go_sem,cF]) rfl ⟨rfl,hF⟩
theorem int_nn (n:Nat) (hn:n<9223372036854775808) (w:World):
  Calls prog 100 #[wN n] w fun e w'=>e= .returned (.tuple #[.int .i64 n,.bool true])/\Below w.heap.size w w':=by
 have h1:n / 18446744073709551616=0:=by omega
 have h2:n % 18446744073709551616=n:=by omega
 have HO:=hid (fun z=>of_nn n hn z);rw [wN,hiN,loN,h1,h2] at HO;rw [wN,hiN,loN,h1,h2];clear h1 h2;go_enter func100,ntmps100
 go_wp2_with fail
 obtain ⟨bW,hbW,hzW⟩:=box1 w 112 #[.int .i64 0,.int .u64 n];generalize w.alloc (.cells #[.int .i64 0,.int .u64 n] 112)=W at*;obtain ⟨Cls,hCls⟩:∃ C:World->Prop,C=fun z=>Below W.heap.size W z:=⟨_,rfl⟩
 have hC:∀ z,Cls z->Below W.heap.size W z:=fun z h=>by rw [hCls] at h;exact h
 have hstart:Cls W.drew:=by rw [hCls];exact (Below.refl _ _).drew
 have inst:Nonempty (Qt.In Cls):=⟨⟨_,hstart⟩⟩;have gE:=fun (z:Qt.In Cls) (i:Nat)=>(bW.below (hC z.w z.h) bW.lt).cell i
 have hn:∀ z,Cls z->Calls prog 60 #[.int .i64 n] z fun e w'=>e= .returned (.agg #[.int .i64 0,.int .u64 n])/\Cls w':=fun z hz=>by
  refine (HO.out z).mono ?_
  rintro e w' ⟨rfl,hb⟩
  exact ⟨rfl,by rw [hCls];exact (hC z hz).trans (hb.mono (hC z hz).size)⟩
 have HC:=hid hC;have HSt:=hid hstart;have HMl:=hid hn;have HbW:=hid (And.intro hbW bW);clear hC hstart hCls hn hbW bW
 refine Qt.wp_region_cls Cls (by kernel_rfl) (by kernel_rfl) HSt.out ?_
 repeat (go_big_quiet_step ((go_at_call 60;exact Qt.quiet_cls (HMl.out _ (Qt.In.h _)))))
 refine wpQuiet_nil ?_
 rintro wq ⟨⟨w9,hq⟩,e9⟩
 have hbq:=HC.out wq (by rw [e9];exact hq)
 have HF:=hid (HbW.out.1.trans (hbq.mono HbW.out.1.size));clear hq e9 gE HC HSt HMl hbq inst;go_wp2
 go_ret2
 exact ⟨rfl,HF.out⟩
end Wid
end
end
section
section
namespace Wid
open Go.RowKit Mem Atl
def wCells (n:Nat):List Value:=[hiN n,loN n]
theorem wide_cells {w:World} {B n:Nat} {A:Option Addr} {ss:List Nat} (h:Reads w B 2 A n (ss.flatMap wCells)) {k:Nat} (hk:k<ss.length) (hn:ss.length=n):
  ∃ ad,A=some ad/\ad.block<B/\w.cell? (ad.add (k*2))=some (hiN ss[k])/\w.cell? ⟨(ad.add (k*2)).block,(ad.add (k*2)).off+1,none⟩=some (loN ss[k]):=by
 obtain ⟨ad,e,hb,hc⟩:=h.2 (by omega)
 have g:∀ j,j<2->(ss.flatMap wCells)[k*2+j]?=(wCells ss[k])[j]?:=fun j hj=>by
  rw [Img.flat_get wCells 2 (fun _=>rfl) ss k j hj,List.getElem?_eq_getElem hk];rfl
 refine ⟨ad,e,hb,hc (k*2) _ (g 0 (by omega)),?_⟩
 rw [<-Img.add_pos _ (by omega:0<1),add_of_add];exact hc _ _ (g 1 (by omega))
theorem sum_le (l:List Nat) (k:Nat):(l.take k).sum<=l.sum:=by
 conv=>rhs;rw [<-List.take_append_drop k l,List.sum_append]
 omega
def SumP (w:World) (s:Nat) (e:Ending) (w':World):Prop:=e= .returned (.tuple #[wN s,.int .i64 0])/\Below w.heap.size w w'
theorem sum_nn (ns:List Nat) (A:Option Addr) (c:Nat) (w:World) (h:Reads w w.heap.size 2 A ns.length (ns.flatMap wCells)) (hl:ns.length<=1000000) (hs:ns.sum<85070591730234615865843651857942052864):
  Calls prog 102 #[.slice A ns.length c] w (SumP w ns.sum):=by
 have HR:=hid h;clear h;obtain ⟨b0,b1,hbW,hzW⟩:=box2 w 112 112 #[.int .i64 0,.int .u64 0] #[.int .i64 0,.int .u64 0];have HW:=hid (And.intro b0 (And.intro b1 hbW));clear b0 b1 hbW;go_enter func102,ntmps102
 go_wp2_with fail
 generalize (w.alloc (.cells #[.int .i64 0,.int .u64 0] 112)).alloc (.cells #[.int .i64 0,.int .u64 0] 112)=W at*
 go_loopw [5,15] (fun v i wr=>∃ (k s:Nat),k<=ns.length/\i= .int .i64 k/\v= .int .i64 0/\(ns.take k).sum=s/\Blk wr w.heap.size 112 #[.int .i64 0,.int .u64 0]/\Blk wr (w.heap.size+1) 112 #[hiN s,loN s]/\Below w.heap.size w wr/\w.heap.size+1<wr.heap.size) (fun _ i _=>ns.length - (intOf i).toNat)
 case atStart=>exact ⟨0,0,Nat.zero_le _,rfl,rfl,rfl,HW.out.1,HW.out.2.1,HW.out.2.2,hzW⟩
 case round=>
  clear HW hzW;obtain ⟨k,s,hk,rfl,rfl,hsum,h0,h1,hb,hz⟩:=hrel;have Hsum:=hid hsum;have HS:=hid (And.intro h0 (And.intro h1 hb))
  have hsle:s<=ns.sum:=by rw [<-hsum];exact sum_le ns k
  clear hsum h0 hb
  by_cases hkn:k<ns.length
  ·obtain ⟨ad,hA,hadb,a0,a1⟩:=wide_cells (HR.out.below HS.out.2.2) hkn rfl
   subst hA
   have Hs1:=hid (show (ns.take (k+1)).sum=s+ns[k] from by rw [List.take_succ_eq_append_getElem hkn,List.sum_append,Hsum.out];simp)
   have hs1:s+ns[k]<=ns.sum:=by rw [<-Hs1.out];exact sum_le ns _
   obtain ⟨x,hx⟩:∃ x,ns[k]=x:=⟨_,rfl⟩;rw [hx] at a0 a1 Hs1 hs1;clear hx;have c1:=h1.cell;have f1:=h1.frozen;clear h1;obtain ⟨sh,e1⟩:∃ y,s / 18446744073709551616=y:=⟨_,rfl⟩;obtain ⟨sl,e2⟩:∃ y,s % 18446744073709551616=y:=⟨_,rfl⟩;obtain ⟨xh,e3⟩:∃ y,x / 18446744073709551616=y:=⟨_,rfl⟩;obtain ⟨xl,e4⟩:∃ y,x % 18446744073709551616=y:=⟨_,rfl⟩;obtain ⟨th,e5⟩:∃ y,(s+x) / 18446744073709551616=y:=⟨_,rfl⟩;obtain ⟨tl,e6⟩:∃ y,(s+x) % 18446744073709551616=y:=⟨_,rfl⟩;obtain ⟨cy,e7⟩:∃ y,(sl+xl+0) / 18446744073709551616=y:=⟨_,rfl⟩
   have g1:(sl+xl+0) % 18446744073709551616=tl:=by omega
   have g2:(sh+xh+cy) % 18446744073709551616=th:=by omega
   have r1:∀ z,(callFunc 130 #[.int .u64 sl,.int .u64 xl,.int .u64 0]).run prog z= .ok (.value (.tuple #[.int .u64 (((sl+xl+0) % 18446744073709551616:Nat):Int),.int .u64 (((sl+xl+0) / 18446744073709551616:Nat):Int)])) z:=fun z=>add64_run sl xl 0 (by omega) (by omega) (by omega) z
   have r2:=fun z=>add64_run sh xh cy (by omega) (by omega) (by omega) z
   rw [g1,e7] at r1;rw [g2] at r2
   have k1:sh<9223372036854775808:=by omega
   have k2:xh<9223372036854775808:=by omega
   have k3:th<9223372036854775808:=by omega
   have He:=hid (And.intro e5 e6);simp only [hiN,loN,e1,e2] at c1;simp only [hiN,loN,e3,e4] at a0 a1;clear e1 e2 e3 e4 e5 e6 e7 g1 g2
   have hd1:decide ((sh:Int)<0)=false:=decide_eq_false (by omega)
   have hd2:decide ((xh:Int)<0)=false:=decide_eq_false (by omega)
   have hd3:decide ((th:Int)<0)=false:=decide_eq_false (by omega)
   have hz0:w.heap.size<wr.heap.size:=by omega
   have hz1:¬ w.heap.size=wr.heap.size:=by omega
   have hz2:¬ w.heap.size+1=wr.heap.size:=by omega
   have hz3:w.heap.size+1<wr.heap.size+1:=by omega
   go_wp2_with fail
   have b1:=set2 (x0:= .int .i64 th) (x1:= .int .u64 tl) HS.out.2.1
   have b0:=(HS.out.1.far (p:=⟨w.heap.size+1,0,none⟩) (by show w.heap.size≠w.heap.size+1;omega) (.int .i64 th)).far (p:=⟨w.heap.size+1,1,none⟩) (by show w.heap.size≠w.heap.size+1;omega) (.int .u64 tl)
   have hb:=(HS.out.2.2.setCell (p:=⟨w.heap.size+1,0,none⟩) (by show w.heap.size<=w.heap.size+1;omega) (.int .i64 th)).setCell (p:=⟨w.heap.size+1,1,none⟩) (by show w.heap.size<=w.heap.size+1;omega) (.int .u64 tl)
   have hsz:=hb.size
   refine ⟨⟨k+1,s+x,by omega,by go_num,rfl,Hs1.out,(b0.alloc _).alloc _,?_,(hb.alloc hsz _).alloc (by simp;omega) _,by simp;omega⟩,by simp [intOf];omega⟩
   rw [hiN,loN,He.out.1,He.out.2];exact (b1.alloc _).alloc _
  ·obtain rfl:k=ns.length:=by omega
   have hs2:=Hsum.out;rw [List.take_length] at hs2;subst hs2;clear Hsum;have c0:=HS.out.1.cell;have f0:=HS.out.1.frozen;have c1:=h1.cell;clear h1;obtain ⟨hi,hhi⟩:∃ y,ns.sum / 18446744073709551616=y:=⟨_,rfl⟩;obtain ⟨lo,hlo⟩:∃ y,ns.sum % 18446744073709551616=y:=⟨_,rfl⟩;simp only [hiN,loN,hhi,hlo] at c1;have HH:=hid (And.intro hhi hlo);clear hhi hlo;go_wp2;have bF:=set2 (x0:= .int .i64 hi) (x1:= .int .u64 lo) HS.out.1;have hF:=(HS.out.2.2.setCell (p:=⟨w.heap.size,0,none⟩) (Nat.le_refl _) (.int .i64 hi)).setCell (p:=⟨w.heap.size,1,none⟩) (Nat.le_refl _) (.int .u64 lo);clear c0 f0 c1 HS;generalize World.setCell _ ⟨w.heap.size,1,none⟩ _=WF at*;have cF:=bF.cell
   exact bodyPost_ret (v:= .tuple #[.agg #[.int .i64 hi,.int .u64 lo],.int .i64 0]) (by simp [results,Tryz.results102,go_sem,cF]) rfl ⟨by rw [wN,hiN,loN,HH.out.1,HH.out.2],hF⟩
end Wid
end
end
section
section
namespace Wid
open Go.RowKit Mem Atl
abbrev durC (a b c d e f g h:Int):Array Value:=#[.int .i64 a,.int .i64 b,.int .i64 c,.int .i64 d,.int .i64 e,.int .i64 f,.int .i64 g,.int .i64 h]
abbrev ptrC (X:Nat):Array Value:=#[.pointer none,.pointer (some ⟨X,0,none⟩),.pointer (some ⟨X,1,none⟩),.pointer (some ⟨X,2,none⟩),.pointer (some ⟨X,3,none⟩),.pointer (some ⟨X,4,none⟩),.pointer (some ⟨X,5,none⟩),.pointer (some ⟨X,6,none⟩),.pointer (some ⟨X,7,none⟩)]
theorem fields_any (X:Nat) (w:World):
  Calls prog 45 #[.pointer (some ⟨X,0,none⟩)] w fun e w'=>e= .returned (.slice (some ⟨w.heap.size,0,none⟩) 9 9)/\Blk w' w.heap.size 62 (ptrC X)/\Below w.heap.size w w':=by
 go_enter func45,ntmps45;go_wp2
 go_still_tail 24,(by kernel_rfl)
 go_wp2;go_ret;exact ⟨rfl,Blk.new _ _ _,((Below.refl w.heap.size w).alloc (Nat.le_refl _) _).drew⟩
def oct (a b c d e f g h:Nat):Nat->Nat
 |0=>a|1=>b|2=>c|3=>d|4=>e|5=>f|6=>g|7=>h|_=>0
abbrev durV (a b c d e f g h:Nat):Array Value:=#[.int .i64 a,.int .i64 b,.int .i64 c,.int .i64 d,.int .i64 e,.int .i64 f,.int .i64 g,.int .i64 h]
theorem oct_cell {w:World} {X a b c d e f g h:Nat} (hb:Blk w X 32 (durV a b c d e f g h)) {k:Nat} (hk:k<8):w.cell? ⟨X,k,none⟩=some (.int .i64 (oct a b c d e f g h k)):=by
 rw [hb.cell k]
 have:k=0\/k=1\/k=2\/k=3\/k=4\/k=5\/k=6\/k=7:=by omega
 rcases this with rfl|rfl|rfl|rfl|rfl|rfl|rfl|rfl<;>rfl
theorem ptr_cell {w:World} {F X:Nat} (hb:Blk w F 62 (ptrC X)) {k:Nat} (hk:k<8):w.cell? ⟨F,1+k,none⟩=some (.pointer (some ⟨X,k,none⟩)):=by
 rw [hb.cell (1+k)]
 have:k=0\/k=1\/k=2\/k=3\/k=4\/k=5\/k=6\/k=7:=by omega
 rcases this with rfl|rfl|rfl|rfl|rfl|rfl|rfl|rfl<;>rfl
def allZ (D:Nat->Nat) (n:Nat):Bool:=(List.range n).all fun i=>D i == 0
theorem allZ_succ (D:Nat->Nat) (n:Nat):allZ D (n+1)=(allZ D n && D n == 0):=by
 rw [allZ,List.range_succ,List.all_append];simp [allZ]
theorem allZ_le {D:Nat->Nat} {n m:Nat} (h:allZ D m=true) (hn:n<=m):allZ D n=true:=by
 unfold allZ at*;rw [List.all_eq_true] at*
 exact fun x hx=>h x (by rw [List.mem_range] at *;omega)
theorem allZ_no {D:Nat->Nat} {n m:Nat} (h:D n≠0) (hn:n<m):allZ D m=false:=by
 rw [allZ,List.all_eq_false]
 exact ⟨n,List.mem_range.2 hn,by simpa using h⟩
theorem dsign_any (a b c d e f g h:Nat) (hD:∀ k,oct a b c d e f g h k<9223372036854775808) (w:World):
  Calls prog 61 #[.agg (durV a b c d e f g h)] w fun r w'=>r= .returned (.int .i64 (if allZ (oct a b c d e f g h) 8=true then 0 else 1))/\Below w.heap.size w w':=by
 obtain ⟨bX,hbX,hzX⟩:=box1 w 32 (durV a b c d e f g h);have HX:=hid (And.intro bX hbX);clear bX hbX hzX;obtain ⟨D,hDD⟩:∃ D,oct a b c d e f g h=D:=⟨_,rfl⟩;have HDc:=hid (fun (z:World) (k:Nat) (hz:Blk z w.heap.size 32 (durV a b c d e f g h)) (hk:k<8)=>oct_cell hz hk);rw [hDD] at HDc hD ⊢;have HD:=hid hD;clear hDD hD
 obtain ⟨R,hR⟩:∃ R:Int,(if allZ D 8=true then (0:Int) else 1)=R:=⟨_,rfl⟩
 rw [hR];have HR:=hid hR;clear hR;go_enter func61,ntmps61
 go_wp2_with fail
 generalize w.alloc (.cells (durV a b c d e f g h) 32)=W at*
 go_at_call 45
 refine (fields_any w.heap.size W).mono ?_
 rintro r w1 ⟨rfl,bF,hb⟩;have HW:=hid (And.intro (HX.out.1.below hb HX.out.1.lt) (And.intro bF (HX.out.2.trans (hb.mono HX.out.2.size))));clear bF hb;generalize W.heap.size=F at*;clear HX
 go_wp2_with fail
 go_loopw [8] (fun i wr=>∃ k:Nat,k<=8/\i= .int .i64 k/\allZ D k=true/\wr=w1) (fun i _=>8 - (intOf i).toNat)
 case atStart=>exact ⟨0,by omega,rfl,rfl,rfl⟩
 case round=>
  obtain ⟨k,hk,rfl,haz,rfl⟩:=hrel;have HZ:=hid haz;clear haz
  by_cases hk8:k<8
  ·have p1:=ptr_cell HW.out.2.1 hk8
   have p2:=HDc.out wr k HW.out.1 hk8;have p3:=HD.out k
   have ad:Addr.add ⟨F,1,none⟩ k=⟨F,1+k,none⟩:=by unfold Addr.add;split<;>simp_all
   obtain ⟨x,hx⟩:∃ x,D k=x:=⟨_,rfl⟩;rw [hx] at p2 p3;have Hx:=hid hx;clear hx
   by_cases hx0:x=0
   ·subst hx0
    go_wp2
    refine ⟨⟨k+1,by omega,by go_num,by rw [allZ_succ,HZ.out,Hx.out];rfl,trivial⟩,by simp [intOf];omega⟩
   ·have hne:((x:Int) != 0)=true:=by rw [bne_iff_ne];omega
    have hR:=HR.out
    rw [allZ_no (by rw [Hx.out];exact hx0) hk8] at hR
    simp only [Bool.false_eq_true,if_false] at hR;subst hR;have HSn:=hid (fun z=>sign_nn x z);rw [if_neg hx0] at HSn;clear HR
    go_wp2_with (first
     |(go_at_call 60;refine (of_nn x p3 _).mono ?_;rintro r w2 ⟨rfl,hb⟩;have HB:=hid (HW.out.2.2.trans (hb.mono HW.out.2.2.size));clear hb)
     |(go_at_call 62;refine (HSn.out _).mono ?_;rintro r w3 ⟨rfl,hb⟩;have HB2:=hid (HB.out.trans (hb.mono HB.out.size));clear hb))
    go_ret;exact ⟨rfl,HB2.out⟩
  ·obtain rfl:k=8:=by omega
   have hR:=HR.out;rw [HZ.out] at hR;simp only [if_true] at hR;subst hR;clear HR;go_wp2;go_ret;exact ⟨rfl,HW.out.2.2⟩
end Wid
end
end
end Go.Proofs.YtiiekaehbahenaaGreatDoor
