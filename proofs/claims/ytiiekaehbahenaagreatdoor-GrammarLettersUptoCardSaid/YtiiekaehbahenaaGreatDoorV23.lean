/-
  Contracts of the code that the law reaches, and plain laws. Conditions: as each says.
-/
import Derived.Test.YtiiekaehbahenaaGreatDoorV21
import Derived.Test.YtiiekaehbahenaaGreatDoorV22
set_option linter.all false
set_option maxHeartbeats 40000000
set_option maxRecDepth 100000
namespace Go.Proofs.YtiiekaehbahenaaGreatDoor
open Lib (hid)
open Tryz
section
namespace Wid
open Go.RowKit Mem Atl
def lenU:Nat->Nat
 |4=>86400000000000|5=>3600000000000|6=>60000000000|7=>1000000000|8=>1|_=>0
theorem lenI0 (w:World):(Instr.index 150 (.agg #[.int .i64 86400000000000,.int .i64 3600000000000,.int .i64 60000000000,.int .i64 1000000000,.int .i64 1]) (.int .i64 0)).run prog w= .ok (.int .i64 86400000000000) w:=by kernel_rfl
theorem lenI1 (w:World):(Instr.index 150 (.agg #[.int .i64 86400000000000,.int .i64 3600000000000,.int .i64 60000000000,.int .i64 1000000000,.int .i64 1]) (.int .i64 1)).run prog w= .ok (.int .i64 3600000000000) w:=by kernel_rfl
theorem lenI2 (w:World):(Instr.index 150 (.agg #[.int .i64 86400000000000,.int .i64 3600000000000,.int .i64 60000000000,.int .i64 1000000000,.int .i64 1]) (.int .i64 2)).run prog w= .ok (.int .i64 60000000000) w:=by kernel_rfl
theorem lenI3 (w:World):(Instr.index 150 (.agg #[.int .i64 86400000000000,.int .i64 3600000000000,.int .i64 60000000000,.int .i64 1000000000,.int .i64 1]) (.int .i64 3)).run prog w= .ok (.int .i64 1000000000) w:=by kernel_rfl
theorem lenI4 (w:World):(Instr.index 150 (.agg #[.int .i64 86400000000000,.int .i64 3600000000000,.int .i64 60000000000,.int .i64 1000000000,.int .i64 1]) (.int .i64 4)).run prog w= .ok (.int .i64 1) w:=by kernel_rfl
theorem length_any (u:Nat) (h1:4<=u) (h2:u<=8) (w:World):Calls prog 58 #[.int .i64 u] w fun e w'=>e= .returned (.int .i64 (lenU u))/\w=w':=by
 have:u=4\/u=5\/u=6\/u=7\/u=8:=by omega
 rcases this with rfl|rfl|rfl|rfl|rfl
 ·show Calls prog 58 #[.int .i64 4] w fun e w'=>e= .returned (.int .i64 86400000000000)/\w=w'
  have l:=lenI0;go_enter func58,ntmps58;go_wp2;go_ret;exact ⟨rfl,rfl⟩
 ·show Calls prog 58 #[.int .i64 5] w fun e w'=>e= .returned (.int .i64 3600000000000)/\w=w'
  have l:=lenI1;go_enter func58,ntmps58;go_wp2;go_ret;exact ⟨rfl,rfl⟩
 ·show Calls prog 58 #[.int .i64 6] w fun e w'=>e= .returned (.int .i64 60000000000)/\w=w'
  have l:=lenI2;go_enter func58,ntmps58;go_wp2;go_ret;exact ⟨rfl,rfl⟩
 ·show Calls prog 58 #[.int .i64 7] w fun e w'=>e= .returned (.int .i64 1000000000)/\w=w'
  have l:=lenI3;go_enter func58,ntmps58;go_wp2;go_ret;exact ⟨rfl,rfl⟩
 ·show Calls prog 58 #[.int .i64 8] w fun e w'=>e= .returned (.int .i64 1)/\w=w'
  have l:=lenI4;go_enter func58,ntmps58;go_wp2;go_ret;exact ⟨rfl,rfl⟩
theorem limit_any (w:World):Calls prog 66 #[] w fun e w'=>e= .returned (wN 9007199254740992000000000)/\Below w.heap.size w w':=by
 have hm:=fun z=>mul_nn 9007199254740992 1000000000 (by decide) (by decide) z
 rw [show 9007199254740992*1000000000=9007199254740992000000000 from rfl] at hm;obtain ⟨hi,hhi⟩:∃ y,9007199254740992000000000 / 18446744073709551616=y:=⟨_,rfl⟩;obtain ⟨lo,hlo⟩:∃ y,9007199254740992000000000 % 18446744073709551616=y:=⟨_,rfl⟩;rw [wN,hiN,loN,hhi,hlo] at hm;rw [wN,hiN,loN,hhi,hlo];clear hhi hlo;have HM:=hid (show ∀ z,Calls prog 101 #[.int .i64 9007199254740992,.int .i64 1000000000] z fun e w'=>e= .returned (.agg #[.int .i64 hi,.int .u64 lo])/\Below z.heap.size z w' from hm);clear hm;have h1:=Blk.new w 112 #[.int .i64 0,.int .u64 0];have H1:=hid h1;clear h1;go_enter func66,ntmps66
 go_wp2_with (go_at_call 101;refine (HM.out _).mono ?_;rintro e w1 ⟨rfl,hb⟩;have h2:=H1.out.below hb (by simp);have HB2:=hid (((Below.refl w.heap.size w).alloc (Nat.le_refl _) _).trans (hb.mono (by simp)));have c2:=h2.cell;have f2:=h2.frozen;have H2:=hid h2;clear hb h2 H1)
 have bF:=set2 (x0:= .int .i64 hi) (x1:= .int .u64 lo) H2.out;have hF:=(HB2.out.setCell (p:=⟨w.heap.size,0,none⟩) (Nat.le_refl _) (.int .i64 hi)).setCell (p:=⟨w.heap.size,1,none⟩) (Nat.le_refl _) (.int .u64 lo);clear c2 f2 H2 HB2;generalize World.setCell _ ⟨w.heap.size,1,none⟩ _=WF at*;have cF:=bF.cell
 exact bodyPost_ret (v:= .agg #[.int .i64 hi,.int .u64 lo]) (by simp [results,Tryz.results66,go_sem,cF]) rfl ⟨rfl,hF⟩
def totL (D:Nat->Nat) (k:Nat):List Nat:=(List.range k).map fun i=>D (i+3)*lenU (i+4)
def totN (D:Nat->Nat):Nat:=(totL D 5).sum
theorem totL_succ (D:Nat->Nat) (k:Nat):totL D (k+1)=totL D k++[D (k+3)*lenU (k+4)]:=by
 rw [totL,List.range_succ,List.map_append];rfl
theorem lenU_lt (u:Nat):lenU u<9223372036854775808:=by unfold lenU;split<;>decide
theorem sum5 {a b c d e K:Nat} (ha:a<K) (hb:b<K) (hc:c<K) (hd:d<K) (he:e<K):a+(b+(c+(d+(e+0))))<5*K:=by omega
theorem lenU_le (u:Nat):lenU u<=1000000000000000:=by unfold lenU;split<;>decide
theorem totN_lt {D:Nat->Nat} (hD:∀ k,D k<9223372036854775808):totN D<85070591730234615865843651857942052864:=by
 have key:∀ L:Nat->Nat,(∀ u,L u<=1000000000000000)->((List.range 5).map fun i=>D (i+3)*L (i+4)).sum<85070591730234615865843651857942052864:=by
  intro L hL
  have one (k u:Nat):D k*L u<9223372036854775808*1000000000000000:=
   Nat.lt_of_le_of_lt (Nat.mul_le_mul_left _ (hL u)) (Nat.mul_lt_mul_of_pos_right (hD k) (by decide))
  have h:=sum5 (one 3 4) (one 4 5) (one 5 6) (one 6 7) (one 7 8)
  exact Nat.lt_of_lt_of_le h (by decide)
 exact key lenU lenU_le
theorem own_below {base n size:Nat} {e:TypeId} {v:Value} {xs:List Value} {W X:World} (h:W.ownsRow base e size v n xs) (hb:Below W.heap.size W X):X.ownsRow base e size v n xs:=by
 obtain ⟨h1,h2⟩:=h
 refine ⟨h1,?_⟩
 rcases h2 with h2|⟨g,cap,cur,hv,hbl,hg,r⟩
 ·exact .inl h2
 ·exact .inr ⟨g,cap,cur,hv,hbl,(hb.block g (Array.getElem?_eq_some_iff.1 hg).1).trans hg,r⟩
theorem own_sl {w:World} {base size n:Nat} {e:TypeId} {v:Value} {xs:List Value} (h:w.ownsRow base e size v n xs):∃ A c,v= .slice A n c:=by
 rcases h.2 with ⟨hv,h0⟩|⟨g,cap,cur,hv,_⟩
 ·exact ⟨none,0,by rw [hv,h0]⟩
 ·exact ⟨_,_,hv⟩
theorem info_wide:(prog.info? 112).map (fun i=>(i.zero,i.size,i.bytes))=some (some (.agg #[.int .i64 0,.int .u64 0]),2,16):=by kernel_rfl
theorem wide_one {x y:Int}:∀ u∈(#[Value.int .i64 x,.int .u64 y]:Array Value).toList,u.oneCell'=true:=by
 intro u hu;simp at hu
 rcases hu with rfl|rfl<;>rfl
theorem total_any (a b c d e f g h:Nat) (hD:∀ k,oct a b c d e f g h k<9223372036854775808) (w:World):
  Calls prog 63 #[.agg (durV a b c d e f g h)] w fun r w'=>r= .returned (wN (totN (oct a b c d e f g h)))/\Below w.heap.size w w':=by
 obtain ⟨i0,hi0,hz0,hz1,hz2⟩:=info_parts info_wide;obtain ⟨bX,bR,hbX,hzX⟩:=box2 w 32 112 (durV a b c d e f g h) #[.int .i64 0,.int .u64 0];have HX:=hid (And.intro bX (And.intro bR hbX));clear bX bR hbX;obtain ⟨D,hDD⟩:∃ D,oct a b c d e f g h=D:=⟨_,rfl⟩;have HDc:=hid (fun (z:World) (k:Nat) (hz:Blk z w.heap.size 32 (durV a b c d e f g h)) (hk:k<8)=>oct_cell hz hk);rw [hDD] at HDc hD ⊢;have HD:=hid hD;have HT:=hid (totN_lt hD);obtain ⟨hi,hhi⟩:∃ y,totN D / 18446744073709551616=y:=⟨_,rfl⟩;obtain ⟨lo,hlo⟩:∃ y,totN D % 18446744073709551616=y:=⟨_,rfl⟩;rw [wN,hiN,loN,hhi,hlo];have HH:=hid (And.intro hhi hlo);clear hhi hlo;clear hDD hD;go_enter func63,ntmps63
 go_wp2_with fail
 generalize (w.alloc (.cells (durV a b c d e f g h) 32)).alloc (.cells #[.int .i64 0,.int .u64 0] 112)=W at*
 go_at_call 45
 refine (fields_any w.heap.size W).mono ?_
 rintro r w1 ⟨rfl,bF,hb⟩;have HW:=hid (And.intro (HX.out.1.below hb HX.out.1.lt) (And.intro bF (And.intro (HX.out.2.1.below hb HX.out.2.1.lt) (HX.out.2.2.trans (hb.mono HX.out.2.2.size)))));have hF1:=bF.lt;clear bF hb;obtain ⟨F,hF⟩:∃ F,W.heap.size=F:=⟨_,rfl⟩;rw [hF] at HW hF1 hzX ⊢;clear HX hF
 go_wp2_with fail
 go_loopw [3,5] (fun v i wr=>∃ k:Nat,k<=5/\i= .int .i64 ((k+4:Nat):Int)/\wr.ownsRow w1.heap.size 112 2 v k ((totL D k).flatMap wCells)/\Below w1.heap.size w1 wr) (fun _ i _=>9 - (intOf i).toNat)
 case atStart=>exact ⟨0,by omega,rfl,World.ownsRow_nil _ _ _ _,Below.refl _ _⟩
 case round=>
  obtain ⟨k,hk,rfl,hown,hb⟩:=hrel;have HO:=hid hown;have HB:=hid hb;have hsz:=hb.size;clear hown hb
  by_cases hk5:k<5
  ·obtain ⟨x,hx⟩:∃ x,D (k+3)=x:=⟨_,rfl⟩
   obtain ⟨y,hy⟩:∃ y,lenU (k+4)=y:=⟨_,rfl⟩
   have hx2:x<9223372036854775808:=by rw [<-hx];exact HD.out _
   have hy2:y<9223372036854775808:=by rw [<-hy];exact lenU_lt _
   obtain ⟨Cls,hCls⟩:∃ C:World->Prop,C=fun z=>Below wr.heap.size wr z:=⟨_,rfl⟩
   have hC:∀ z,Cls z->Below wr.heap.size wr z:=fun z h=>by rw [hCls] at h;exact h
   have hstart:Cls wr.drew:=by rw [hCls];exact (Below.refl _ _).drew
   have inst:Nonempty (Qt.In Cls):=⟨⟨_,hstart⟩⟩
   have p1:∀ z:Qt.In Cls,z.w.cell? ⟨F,k+4,none⟩=some (.pointer (some ⟨w.heap.size,k+3,none⟩)):=fun z=>by
    have:=ptr_cell ((HW.out.2.1.below HB.out hF1).below (hC z.w z.h) (by omega)) (k:=k+3) (by omega)
    rwa [show 1+(k+3)=k+4 from by omega] at this
   have p2:∀ z:Qt.In Cls,z.w.cell? ⟨w.heap.size,k+3,none⟩=some (.int .i64 x):=fun z=>by
    rw [<-hx]
    exact HDc.out z.w (k+3) ((HW.out.1.below HB.out (by have:=HW.out.1.lt;omega)).below (hC z.w z.h) (by have:=HW.out.1.lt;omega)) (by omega)
   have hL:∀ z,Cls z->Calls prog 58 #[.int .i64 ((k+4:Nat):Int)] z fun e z'=>e= .returned (.int .i64 y)/\Cls z':=fun z hz=>by
    rw [<-hy]
    refine (length_any (k+4) (by omega) (by omega) z).mono ?_
    rintro e w' ⟨rfl,rfl⟩;exact ⟨rfl,hz⟩
   have hM:∀ z,Cls z->Calls prog 101 #[.int .i64 x,.int .i64 y] z fun e z'=>e= .returned (wN (x*y))/\Cls z':=fun z hz=>by
    refine (mul_nn x y hx2 hy2 z).mono ?_
    rintro e w' ⟨rfl,hb⟩
    exact ⟨rfl,by rw [hCls];exact (hC z hz).trans (hb.mono (hC z hz).size)⟩
   have HC:=hid hC;have HSt:=hid hstart;have HLn:=hid hL;have HMl:=hid hM
   have Hxy:=hid (show x*y=D (k+3)*lenU (k+4) from by rw [hx,hy])
   clear hC hstart hCls hL hM hx hy
   have ad:Addr.add ⟨F,0,none⟩ (k+4)=⟨F,k+4,none⟩:=by unfold Addr.add;split<;>simp_all
   have hk4:decide (((k+4:Nat):Int)<=8)=true:=decide_eq_true (by omega)
   go_wp2_with fail
   refine Qt.wp_region_cls_float Cls 10 (by kernel_rfl) (by kernel_rfl) HSt.out (.inl ⟨by rfl,fun w9=>by simp [execOp,Act.eval,go_sem];rfl⟩) ?_
   simp only [List.take_succ_cons,List.take_zero,List.drop_succ_cons,List.drop_zero,Nat.reduceSub,Act.put,List.setIfInBounds_toArray,List.set_cons_succ,List.set_cons_zero]
   repeat (go_big_quiet_step (first
    |(go_at_call 58;exact Qt.quiet_cls (HLn.out _ (Qt.In.h _)))
    |(go_at_call 101;exact Qt.quiet_cls (HMl.out _ (Qt.In.h _)))))
   refine wpQuiet_nil ?_
   rintro wq ⟨⟨w9,hq⟩,e9⟩
   have hbq:=HC.out wq (by rw [e9];exact hq)
   clear hq e9 p1 p2 inst HC HSt HLn HMl;have HO2:=hid (own_below HO.out hbq);have HB2:=hid (HB.out.trans (hbq.mono HB.out.size))
   have M1:=hid (show k+1<=maxLen from by simp only [maxLen];omega)
   have M2:=hid (show (k+1)*16<=140737488355328 from by omega)
   clear hbq HO HB
   go_wp2_with (at_builtin;refine wpList_append1 wq rfl (.tmp 13) (.tmp 23) 155 rfl w1.heap.size 112 i0 _ 2 16 underlying155 hi0 hz0 hz1 hz2 rfl (by decide) _ k ((totL D k).flatMap wCells) rfl HO2.out (by simp [Act.eval]) rfl wide_one M1.out M2.out HB2.out.size ?_;intro v' w3 ho3 hb3;have HO3:=hid ho3;have HB3:=hid (HB2.out.trans hb3);clear ho3 hb3)
   refine NoPanic.normal ?_
   go_wp2
   refine ⟨⟨k+1,by omega,by go_num,?_,HB3.out⟩,by simp [intOf];omega⟩
   rw [totL_succ,List.flatMap_append,<-Hxy.out];exact HO3.out
  ·obtain rfl:k=5:=by omega
   obtain ⟨A,c,rfl⟩:=own_sl HO.out
   have hS:∀ z,Below wr.heap.size wr z->Calls prog 102 #[.slice A 5 c] z fun e w'=>e= .returned (.tuple #[.agg #[.int .i64 hi,.int .u64 lo],.int .i64 0])/\Below z.heap.size z w':=fun z hz=>by
    refine (sum_nn (totL D 5) A c z (Reads.of_own (own_below HO.out hz)) (show 5<=1000000 by decide) HT.out).mono ?_
    rintro e w' ⟨he,hb⟩;have he:e= .returned (.tuple #[wN (totN D),.int .i64 0]):=he;rw [wN,hiN,loN,HH.out.1,HH.out.2] at he;exact ⟨he,hb⟩
   have HSm:=hid hS;have HR0:=hid (And.intro (HW.out.2.2.1.below HB.out HW.out.2.2.1.lt) (HW.out.2.2.2.trans (HB.out.mono HW.out.2.2.2.size)));clear hS HO HT
   go_wp2_with (go_at_call 102;refine (HSm.out _ (Below.refl _ _)).mono ?_;rintro e w2 ⟨rfl,hb⟩;have h2:=HR0.out.1.below hb HR0.out.1.lt;have HB2:=hid (HR0.out.2.trans (hb.mono HR0.out.2.size));have c2:=h2.cell;have f2:=h2.frozen;have hz2:=h2.lt;have H2:=hid h2;clear hb h2 HR0)
   have bF:=(set2 (x0:= .int .i64 hi) (x1:= .int .u64 lo) H2.out).alloc (.cells #[.int .i64 hi,.int .u64 lo] 112)
   have hF:=((HB2.out.setCell (p:=⟨w.heap.size+1,0,none⟩) (by simp) (.int .i64 hi)).setCell (p:=⟨w.heap.size+1,1,none⟩) (by simp) (.int .u64 lo)).alloc (by simp;omega) (.cells #[.int .i64 hi,.int .u64 lo] 112)
   clear c2 f2 H2 HB2;generalize World.alloc _ _=WF at*;have cF:=bF.cell
   exact bodyPost_ret (v:= .agg #[.int .i64 hi,.int .u64 lo]) (by simp [results,Tryz.results63,go_sem,cF]) rfl ⟨rfl,hF⟩
end Wid
end
end Go.Proofs.YtiiekaehbahenaaGreatDoor
