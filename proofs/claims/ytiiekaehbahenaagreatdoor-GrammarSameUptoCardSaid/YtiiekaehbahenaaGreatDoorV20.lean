/-
  Contracts of the code that the law reaches, and plain laws. Conditions: as each says.
-/
import Derived.Test.YtiiekaehbahenaaGreatDoorV01
import Derived.Test.YtiiekaehbahenaaGreatDoorV03
import Derived.Test.YtiiekaehbahenaaGreatDoorV04
import Derived.Shelf.Spec.BitsCarry
set_option linter.all false
set_option maxHeartbeats 40000000
set_option maxRecDepth 100000
namespace Go.Proofs.YtiiekaehbahenaaGreatDoor
open Lib (hid)
open Tryz
section
namespace Wid
open Go.RowKit Mem Atl
abbrev B64:Nat:=18446744073709551616
abbrev hiN (x:Nat):Value:= .int .i64 ((x / 18446744073709551616:Nat):Int)
abbrev loN (x:Nat):Value:= .int .u64 ((x % 18446744073709551616:Nat):Int)
abbrev wN (x:Nat):Value:= .agg #[hiN x,loN x]
theorem add64_run (x y c:Nat) (hx:x<18446744073709551616) (hy:y<18446744073709551616) (hc:c<=1) (w:World):
  (callFunc 130 #[.int .u64 x,.int .u64 y,.int .u64 c]).run prog w=
   .ok (.value (.tuple #[.int .u64 (((x+y+c) % 18446744073709551616:Nat):Int),.int .u64 (((x+y+c) / 18446744073709551616:Nat):Int)])) w:=by
 rw [run_callFunc_extern func130 (by kernel_rfl) (by kernel_rfl) (by kernel_rfl) (e:=add64Entry) (by kernel_rfl),run_add64 x y c (by omega) (by omega) (by omega) (by omega)]
 simp only [Result.andThen]
 congr 5<;>omega
theorem of_nn (n:Nat) (hn:n<9223372036854775808) (w:World):
  Calls prog 60 #[.int .i64 n] w fun e w'=>e= .returned (wN n)/\Below w.heap.size w w':=by
 have h1:n / 18446744073709551616=0:=by omega
 have h2:n % 18446744073709551616=n:=by omega
 have h3:(n:Int) / 9223372036854775808=0:=by omega
 rw [wN,hiN,loN,h1,h2];clear h1 h2;go_enter func60,ntmps60;go_wp2;have cF:=fun i=>(Blk.new w 112 #[.int .i64 0,.int .u64 n]).cell i
 refine bodyPost_ret (v:= .agg #[.int .i64 0,.int .u64 n]) (by simp [results,Tryz.results60,go_sem,cF]) rfl ⟨rfl,(Below.refl _ _).alloc (Nat.le_refl _) _⟩
theorem ret_int {k:IntKind} {a b:Int} (h:a=b):Ending.returned (.int k a)= .returned (.int k b):=by rw [h]
theorem cmp_nn (a b:Nat) (w:World):
  Calls prog 65 #[wN a,wN b] w fun e w'=>e= .returned (.int .i64 (if a=b then 0 else if a<b then -1 else 1))/\Below w.heap.size w w':=by
 obtain ⟨x,hx⟩:∃ x,a / 18446744073709551616=x:=⟨_,rfl⟩;obtain ⟨y,hy⟩:∃ x,a % 18446744073709551616=x:=⟨_,rfl⟩;obtain ⟨z,hz⟩:∃ x,b / 18446744073709551616=x:=⟨_,rfl⟩;obtain ⟨u,hu⟩:∃ x,b % 18446744073709551616=x:=⟨_,rfl⟩;rw [wN,wN,hiN,loN,hiN,loN,hx,hy,hz,hu]
 obtain ⟨R,hR⟩:∃ R:Int,(if a=b then (0:Int) else if a<b then -1 else 1)=R:=⟨_,rfl⟩
 rw [hR];have hb2:=box2 w 112 112 #[.int .i64 x,.int .u64 y] #[.int .i64 z,.int .u64 u];obtain ⟨W,hW⟩:∃ W,(w.alloc (.cells #[.int .i64 x,.int .u64 y] 112)).alloc (.cells #[.int .i64 z,.int .u64 u] 112)=W:=⟨_,rfl⟩;rw [hW] at hb2;obtain ⟨b1,b2,hbw,_⟩:=hb2;have c1:=b1.cell;have c2:=b2.cell;have HB:=hid hbw;clear b1 b2 hbw;go_enter func65,ntmps65;go_wp2
 all_goals
  go_ret
  refine ⟨ret_int ?_,HB.out⟩
  rw [<-hR]
  (repeat' split)<;>omega
theorem sign_nn (a:Nat) (w:World):
  Calls prog 62 #[wN a] w fun e w'=>e= .returned (.int .i64 (if a=0 then 0 else 1))/\Below w.heap.size w w':=by
 have hc:=fun z=>cmp_nn a 0 z
 have e:(if a=0 then (0:Int) else if a<0 then -1 else 1)=if a=0 then 0 else 1:=by split<;>rfl
 rw [e] at hc;rw [show wN 0= .agg #[.int .i64 0,.int .u64 0] from rfl] at hc;have HC:=hid hc;clear hc e;obtain ⟨x,hx⟩:∃ x,a / 18446744073709551616=x:=⟨_,rfl⟩;obtain ⟨y,hy⟩:∃ x,a % 18446744073709551616=x:=⟨_,rfl⟩
 obtain ⟨R,hR⟩:∃ R:Int,(if a=0 then (0:Int) else 1)=R:=⟨_,rfl⟩
 rw [wN,hiN,loN,hx,hy,hR] at HC;rw [wN,hiN,loN,hx,hy,hR];clear hx hy hR;have hb1:=box1 w 112 #[.int .i64 x,.int .u64 y];obtain ⟨b1,hbw,_⟩:=hb1;have HB:=hid hbw;clear b1 hbw;go_enter func62,ntmps62
 go_wp2_with (go_at_call 65;refine (HC.out _).mono ?_;rintro e w1 ⟨rfl,hb⟩;have HB2:=hid (HB.out.trans (hb.mono HB.out.size));clear hb)
 go_ret;exact ⟨rfl,HB2.out⟩
theorem bare_nn (n:Nat) (hn:n<9223372036854775808) (w:World):Calls prog 128 #[.int .i64 n] w fun e w'=>e= .returned (.int .u64 n)/\w=w':=by
 have h0:(0:Int)<=(n:Int):=by omega
 go_enter func128,ntmps128;go_wp2;go_ret;exact ⟨rfl,rfl⟩
theorem signed_nn (hi lo:Nat) (h1:hi<9223372036854775808) (h2:lo<18446744073709551616) (w:World):
  Calls prog 129 #[.bool false,.int .u64 hi,.int .u64 lo] w fun e w'=>e= .returned (.tuple #[.agg #[.int .i64 hi,.int .u64 lo],.int .i64 0])/\Below w.heap.size w w':=by
 go_enter func129,ntmps129;have hb:=box2 w 112 112 #[.int .i64 hi,.int .u64 lo] #[.int .i64 hi,.int .u64 lo];go_wp2
 all_goals
  try subst_vars
  refine bodyPost_ret (v:= .tuple #[.agg #[.int .i64 _,.int .u64 _],.int .i64 0]) (by simp [results,Tryz.results129,go_sem]) rfl ⟨rfl,hb.2.2.1⟩
theorem set2 {W:World} {b:Nat} {T:TypeId} {a0 a1 x0 x1:Value} (h:Blk W b T #[a0,a1]):Blk ((W.setCell ⟨b,0,none⟩ x0).setCell ⟨b,1,none⟩ x1) b T #[x0,x1]:=by
 simpa using (h.set_ 0 x0).set_ 1 x1
theorem mul_nn (a b:Nat) (ha:a<9223372036854775808) (hb:b<9223372036854775808) (w:World):
  Calls prog 101 #[.int .i64 a,.int .i64 b] w fun e w'=>e= .returned (wN (a*b))/\Below w.heap.size w w':=by
 have hab:a*b / 18446744073709551616<9223372036854775808:=by
  rw [Nat.div_lt_iff_lt_mul (by decide)]
  have:a*b<=9223372036854775808*9223372036854775808:=Nat.mul_le_mul (by omega) (by omega)
  omega
 have HM:=hid (fun z=>Tryz.bits_Mul64 a b (by omega) (by omega) z)
 obtain ⟨hi,hhi⟩:∃ x,a*b / 18446744073709551616=x:=⟨_,rfl⟩;obtain ⟨lo,hlo⟩:∃ x,a*b % 18446744073709551616=x:=⟨_,rfl⟩
 have hl2:lo<18446744073709551616:=by rw [<-hlo];exact Nat.mod_lt _ (by decide)
 rw [hhi] at hab;rw [hhi,hlo] at HM;rw [wN,hiN,loN,hhi,hlo];clear hhi hlo
 have ha0:(0:Int)<=(a:Int):=by omega
 have hb0:(0:Int)<=(b:Int):=by omega
 have h1:=Blk.new w 112 #[.int .i64 0,.int .u64 0];have hb1:Below w.heap.size w (w.alloc (.cells #[.int .i64 0,.int .u64 0] 112)):=(Below.refl _ _).alloc (Nat.le_refl _) _;have H1:=hid (And.intro h1 hb1);clear h1 hb1;go_enter func101,ntmps101
 go_wp2_with (first
  |(go_at_call 128;refine (bare_nn _ (by assumption) _).mono ?_;rintro e w1 ⟨rfl,rfl⟩)
  |(go_at_call 127;refine (HM.out _).mono ?_;rintro e w1 ⟨rfl,rfl⟩)
  |(go_at_call 129;refine (signed_nn hi lo hab hl2 _).mono ?_;rintro e w1 ⟨rfl,hb⟩;have h2:=H1.out.1.below hb (by simp);have HB2:=hid (H1.out.2.trans (hb.mono (by simp)));have c2:=h2.cell;have f2:=h2.frozen;have hz2:=h2.lt;have H2:=hid h2;clear hb h2 H1))
 have bF:=(set2 (x0:= .int .i64 hi) (x1:= .int .u64 lo) H2.out).alloc (.cells #[.int .i64 hi,.int .u64 lo] 112)
 have hF:=((HB2.out.setCell (p:=⟨w.heap.size,0,none⟩) (Nat.le_refl _) (.int .i64 hi)).setCell (p:=⟨w.heap.size,1,none⟩) (Nat.le_refl _) (.int .u64 lo)).alloc (by simp;omega) (.cells #[.int .i64 hi,.int .u64 lo] 112)
 clear c2 f2 H2 HB2;generalize World.alloc _ _=WF at*;have cF:=bF.cell
 exact bodyPost_ret (v:= .agg #[.int .i64 hi,.int .u64 lo]) (by simp [results,Tryz.results101,go_sem,cF]) rfl ⟨rfl,hF⟩
theorem int_nn (n:Nat) (hn:n<9223372036854775808) (w:World):
  Calls prog 100 #[wN n] w fun e w'=>e= .returned (.tuple #[.int .i64 n,.bool true])/\Below w.heap.size w w':=by
 have h1:n / 18446744073709551616=0:=by omega
 have h2:n % 18446744073709551616=n:=by omega
 have HO:=hid (fun z=>of_nn n hn z);rw [wN,hiN,loN,h1,h2] at HO;rw [wN,hiN,loN,h1,h2];clear h1 h2;go_enter func100,ntmps100
 go_wp2_with fail
 obtain ⟨bW,hbW,hzW⟩:=box1 w 112 #[.int .i64 0,.int .u64 n];generalize w.alloc (.cells #[.int .i64 0,.int .u64 n] 112)=W at*;obtain ⟨Cls,hCls⟩:∃ C:World->Prop,C=fun z=>Below W.heap.size W z:=⟨_,rfl⟩
 have hC:∀ z,Cls z->Below W.heap.size W z:=fun z h=>by rw [hCls] at h;exact h
 have hstart:Cls W.drew:=by rw [hCls];exact (Below.refl _ _).drew
 have inst:Nonempty (Qt.In Cls):=⟨⟨_,hstart⟩⟩;have gE:=fun (z:Qt.In Cls) (i:Nat)=>(bW.below (hC z.w z.h) bW.lt).cell i
 have hn:∀ z,Cls z->Calls prog 60 #[.int .i64 n] z fun e w'=>e= .returned (.agg #[.int .i64 0,.int .u64 n])/\Cls w':=fun z hz=>by
  refine (HO.out z).mono ?_
  rintro e w' ⟨rfl,hb⟩
  exact ⟨rfl,by rw [hCls];exact (hC z hz).trans (hb.mono (hC z hz).size)⟩
 have HC:=hid hC;have HSt:=hid hstart;have HMl:=hid hn;have HbW:=hid (And.intro hbW bW);clear hC hstart hCls hn hbW bW
 refine Qt.wp_region_cls Cls (by kernel_rfl) (by kernel_rfl) HSt.out ?_
 repeat (go_big_quiet_step ((go_at_call 60;exact Qt.quiet_cls (HMl.out _ (Qt.In.h _)))))
 refine wpQuiet_nil ?_
 rintro wq ⟨⟨w9,hq⟩,e9⟩
 have hbq:=HC.out wq (by rw [e9];exact hq)
 have HF:=hid (HbW.out.1.trans (hbq.mono HbW.out.1.size));clear hq e9 gE HC HSt HMl hbq inst;go_wp2
 go_ret2
 exact ⟨rfl,HF.out⟩
end Wid
end
end Go.Proofs.YtiiekaehbahenaaGreatDoor
