/-
  Contracts of the code that the law reaches, and plain laws. Conditions: as each says.
-/
import Derived.Test.YtiiekaehbahenaaGreatDoorV31
import Derived.Laws.MakeOwn
set_option linter.all false
set_option maxHeartbeats 40000000
set_option maxRecDepth 100000
namespace Go.Proofs.YtiiekaehbahenaaGreatDoor
open Lib (hid)
open Tryz
section
namespace RefZ
open Go.RowKit Mem Dig
structure MulSt (W0:World) (g:Nat) (wr:World) (zs:List Int):Prop where
 grown:W0.grownBy wr (some g)
 blk:Blk wr g 3 (ints zs).toArray
theorem MulSt.cell {W0 wr:World} {g:Nat} {zs:List Int} (h:MulSt W0 g wr zs) {p:Addr} {v:Value} (hc:W0.cell? p=some v) (hne:p.block≠g):wr.cell? p=some v:=
 h.grown.cell hc (by intro e;injection e with e;exact hne e)
theorem MulSt.at_ {W0 wr:World} {g:Nat} {zs:List Int} (h:MulSt W0 g wr zs) {k:Nat} (hk:k<zs.length):wr.cell? ⟨g,k,none⟩=some (.int .i64 (dg zs k)):=by
 rw [h.blk.cell k]
 simp [ints,List.getElem?_map,dg_get hk]
theorem MulSt.set {W0 wr:World} {g:Nat} {zs:List Int} (h:MulSt W0 g wr zs) (k:Nat) (v:Int):MulSt W0 g (wr.setCell ⟨g,k,none⟩ (.int .i64 v)) (zs.set k v):=by
 refine ⟨⟨h.grown.os,h.grown.tape,h.grown.output,by simpa [World.setCell] using h.grown.size,fun i hi hne=>(Below.heap_setCell wr ⟨g,k,none⟩ _ i (by intro e;exact hne (by rw [e]))).trans (h.grown.block i hi hne)⟩,?_⟩
 have:=h.blk.set_ k (.int .i64 v)
 have e:(ints zs).toArray.setIfInBounds k (.int .i64 v)=(ints (zs.set k v)).toArray:=by simp [ints,List.map_set]
 rw [e] at this;exact this
theorem MulSt.drewN {W0 wr:World} {g:Nat} {zs:List Int} (h:MulSt W0 g wr zs) (n:Nat):MulSt W0 g (wr.drewN n) zs:=⟨⟨h.grown.os,h.grown.tape,h.grown.output,h.grown.size,h.grown.block⟩,h.blk⟩
theorem MulSt.sl {W0 wr w:World} {g:Nat} {zs:List Int} (h:MulSt W0 g wr zs) {A:Option Addr} {n c:Nat} {ds:List Int} (hs:Sl w A n c ds) (hb:Below w.heap.size w W0) (hg:w.heap.size<=g):Sl wr A n c ds:=
 ⟨(((hs.rd.below hb).grown h.grown hb.size (fun k hk=>by injection hk with hk;omega))).more (Nat.le_trans hb.size h.grown.size),hs.len,hs.cap,hs.capm⟩
theorem made_ints (n:Nat):madeCells #[Value.int .i64 0] n=(ints (List.replicate n 0)).toArray:=by
 have h:=toList_madeCells_one (.int .i64 0) n
 have h2:(ints (List.replicate n 0)).toArray.toList=List.replicate n (.int .i64 0):=by simp [ints]
 rw [<-Array.toList_inj,h,h2]
theorem mul_any (n1 n2:Bool) (A B:Option Addr) (n m c d:Nat) (xs ys:List Int) (x y:Int) (L M:Nat) (w:World) (ha:ZD w n1 A n c xs x L) (hb:ZD w n2 B m d ys y M) (hL:L<=1000000) (hM:M<=1000000):
  Calls prog 34 #[.agg #[.bool n1,.slice A n c],.agg #[.bool n2,.slice B m d]] w (RetZ w (x*y) (L+M+1)):=by
 obtain ⟨i0,hi0,hz0,hz1,hz2⟩:=info_parts Tryz.intInfo;have hbx:=box3 w 70 70 70 #[.bool n1,.slice A n c] #[.bool n2,.slice B m d] #[.bool false,.slice none 0 0];have hn:n<=1000000:=Nat.le_trans ha.le hL;have hm:m<=1000000:=Nat.le_trans hb.le hM
 have hmk:∀ W:World,(Instr.makeSlice 68 (.int .i64 ((n:Int)+(m:Int)+1)) (.int .i64 ((n:Int)+(m:Int)+1))).run prog W= .ok (.slice (some ⟨W.heap.size,0,none⟩) (n+m+1) (n+m+1)) (W.alloc (.cells (ints (List.replicate (n+m+1) 0)).toArray 3)):=by
  intro W
  have h:=run_make (P:=prog) W 68 3 i0 _ underlying68 hi0 hz0 .i64 .i64 ((n:Int)+(m:Int)+1) ((n:Int)+(m:Int)+1) (by omega) (by omega) (by rw [hz2];omega) (by omega)
  have e:((n:Int)+(m:Int)+1).toNat=n+m+1:=by omega
  rw [e,hz1,Nat.mul_one] at h;rw [h]
  congr 2
  exact congrArg (fun q=>Obj.cells q 3) (made_ints _)
 go_enter func34,ntmps34;have Ha:=hid ha;have Hb:=hid hb;have Hbx:=hid hbx;clear ha hb hbx;go_wp2
 have hst:MulSt ((((w.alloc (Obj.cells #[Value.bool n1,Value.slice A n c] 70)).alloc (Obj.cells #[Value.bool n2,Value.slice B m d] 70)).alloc (Obj.cells #[Value.bool false,Value.slice none 0 0] 70)).alloc (Obj.cells (ints (List.replicate (n+m+1) 0)).toArray 3)) (w.heap.size+1+1+1) ((((w.alloc (Obj.cells #[Value.bool n1,Value.slice A n c] 70)).alloc (Obj.cells #[Value.bool n2,Value.slice B m d] 70)).alloc (Obj.cells #[Value.bool false,Value.slice none 0 0] 70)).alloc (Obj.cells (ints (List.replicate (n+m+1) 0)).toArray 3)) (List.replicate (n+m+1) 0):=
  ⟨World.grownBy.refl _ _,by have h:=Blk.new (((w.alloc (Obj.cells #[Value.bool n1,Value.slice A n c] 70)).alloc (Obj.cells #[Value.bool n2,Value.slice B m d] 70)).alloc (Obj.cells #[Value.bool false,Value.slice none 0 0] 70)) 3 (ints (List.replicate (n+m+1) 0)).toArray;simpa using h⟩
 obtain ⟨hb0,hb1,hb2,hbel,hsz⟩:=Hbx.out
 have HR:Hid (Res w (w.heap.size+1+1) ((((w.alloc (Obj.cells #[Value.bool n1,Value.slice A n c] 70)).alloc (Obj.cells #[Value.bool n2,Value.slice B m d] 70)).alloc (Obj.cells #[Value.bool false,Value.slice none 0 0] 70)).alloc (Obj.cells (ints (List.replicate (n+m+1) 0)).toArray 3))):=Res.alloc ⟨hb2,hbel,by omega⟩ _
 have HB0:=hid (hb0.alloc (.cells (ints (List.replicate (n+m+1) 0)).toArray 3));have HB1:=hid (hb1.alloc (.cells (ints (List.replicate (n+m+1) 0)).toArray 3));have Hst:=hid hst;clear hst hb0 hb1 hb2 hbel hsz Hbx hmk;generalize ((((w.alloc (Obj.cells #[Value.bool n1,Value.slice A n c] 70)).alloc (Obj.cells #[Value.bool n2,Value.slice B m d] 70)).alloc (Obj.cells #[Value.bool false,Value.slice none 0 0] 70)).alloc (Obj.cells (ints (List.replicate (n+m+1) 0)).toArray 3))=W0 at*
 go_loopw [6] (fun iv wr=>∃ (i:Nat) (zs:List Int),iv= .int .i64 i/\i<=n/\zs.length=n+m+1/\Dig zs/\dval zs=dval (xs.take i)*dval ys/\MulSt W0 (w.heap.size+1+1+1) wr zs) (fun iv _=>n - (intOf iv).toNat)
 case atStart=>exact ⟨0,_,rfl,Nat.zero_le _,by simp,Dig.replicate _,by rw [dval_replicate];simp [dval_nil],Hst.out⟩
 case round=>
  obtain ⟨i,zs,rfl,hi,hzl,hzd,hzv,hs⟩:=hrel
  have q1:wr.cell? ⟨w.heap.size,1,none⟩=some (.slice A n c):=hs.cell (HB0.out.cell 1) (by dsimp only;omega)
  have q3:wr.cell? ⟨w.heap.size+1,1,none⟩=some (.slice B m d):=hs.cell (HB1.out.cell 1) (by dsimp only;omega)
  have Hzl:=hid hzl;have Hzd:=hid hzd;have Hzv:=hid hzv;have Hs:=hid hs;clear hzl hzd hzv hs;obtain ⟨wo,hwo⟩:∃ wo:World,wo=wr:=⟨_,rfl⟩;have Hwo:=hid hwo;clear hwo
  by_cases hin:i<n
  ·obtain ⟨ad,rfl,hca⟩:=(Ha.out.sl).cell hin
   have hxd:=Ha.out.canon.1.at_ i;obtain ⟨x0,hx0⟩:∃ x0,dg xs i=x0:=⟨_,rfl⟩;rw [hx0] at hca hxd;have Hx0:=hid hx0;have Hca:=hid hca
   have hapos:Hid (ad.block<w.heap.size):=by
    have:=World.block_lt_of_cell? _ _ hca
    rwa [block_of_add] at this
   clear hx0 hca;go_wp2
   go_loopw [7,8] (fun cv kv wi=>∃ (k:Nat) (ts:List Int) (q:Int),kv= .int .i64 k/\cv= .int .i64 q/\0<=q/\q<=65535/\(k<=m\/(k=m+1/\q=0))/\ts.length=n+m+1/\Dig ts/\dval ts+pw (i+k)*q=dval zs+x0*pw i*dval (ys.take k)/\Hid (∀ p,i+k<=p->dg ts p=dg zs p)/\MulSt W0 (w.heap.size+1+1+1) wi ts) (fun _ kv _=>m+1 - (intOf kv).toNat)
   case atStart=>exact ⟨0,zs,0,rfl,rfl,by omega,by omega,.inl (Nat.zero_le _),Hzl.out,Hzd.out,by simp [dval_nil],fun p _=>rfl,by rw [Hwo.out.symm] at Hs;rw [Hwo.out.symm];exact Hs.out⟩
   case round=>
    obtain ⟨k,ts,q,rfl,rfl,hq0,hq1,hk,htl,htd,htv,htp,hs⟩:=hrel
    have q1:wr.cell? ⟨w.heap.size,1,none⟩=some (.slice (some ad) n c):=hs.cell (HB0.out.cell 1) (by dsimp only;omega)
    have q3:wr.cell? ⟨w.heap.size+1,1,none⟩=some (.slice B m d):=hs.cell (HB1.out.cell 1) (by dsimp only;omega)
    have Htl:=hid htl;have Htd:=hid htd;have Htv:=hid htv;have Hs2:=hid hs;have Hk:=hid hk;clear htl htd htv hs hk
    by_cases hgo:k<m\/0<q
    ·have hkm:k<=m:=by have:=Hk.out;omega
     have hdd:=Htd.out.at_ (i+k)
     have hcell:=Hs2.out.at_ (k:=i+k) (by rw [Htl.out];omega)
     have hyd:=Hb.out.canon.1.at_ k;have hdig:=digit_any B m d ys k
     have hslb:Sl wr B m d ys:=Hs2.out.sl Hb.out.sl HR.out.bel (by omega)
     have hca:wr.cell? (ad.add i)=some (.int .i64 x0):=Hs2.out.cell (cell_later HR.out.bel Hca.out) (by have:=hapos.out;rw [block_of_add];omega)
     obtain ⟨dd,hdd0⟩:∃ dd,dg ts (i+k)=dd:=⟨_,rfl⟩;obtain ⟨yd,hyd0⟩:∃ yd,dg ys k=yd:=⟨_,rfl⟩;rw [hdd0] at hdd hcell;rw [hyd0] at hyd hdig;have hp0:0<=x0*yd:=Int.mul_nonneg hxd.1 hyd.1
     have hp1:x0*yd<=65535*65535:=Int.mul_le_mul (by omega) (by omega) hyd.1 (by omega)
     have hp2:x0*yd<=4294836225:=by omega
     have cy:∀ nq,Calls prog 71 #[.slice B m d,.int .i64 k] (wr.drewN nq) fun e w'=>e= .returned (.int .i64 yd)/\w'=wr.drewN nq:=fun nq=>
      (hdig (wr.drewN nq) (hslb.below (Post.below_drewN (Below.refl _ _) _))).mono fun _ _ h=>⟨h.1,h.2.symm⟩
     have Cy:=hid cy;have Hdd0:=hid hdd0;have Hyd0:=hid hyd0;clear cy hdig hslb hp1 hdd0 hyd0
     have hik:(i:Int)+(k:Int)<=3000000:=by omega
     have hnc:=Ha.out.sl.cap
     have hik2:(i:Int)+(k:Int)<(n:Int)+(m:Int)+1:=by omega
     have Hgo:=hid hgo;clear hgo
     rcases (show k<m\/(¬ k<m/\0<q) by have:=Hgo.out;omega) with g1|⟨g1,g2⟩
     all_goals
      go_wp2
      go_quiet ((go_at_call 71;exact Calls.quiet_of_same (Cy.out _)))
      obtain ⟨s,hs⟩:∃ s,dd+x0*yd+q=s:=⟨_,rfl⟩
      have hs0:0<=s:=by omega
      have hs1:s<=4294967295:=by omega
      have hsb:q<=65535/\dd+x0*yd<=4294901760:=by omega
      rw [hs];have Hsv:=hid hs;clear hs;have hms:Hid (MulSt W0 (w.heap.size+1+1+1) (wr.drewN nq) ts):=Hs2.out.drewN nq
      have hcell2:(wr.drewN nq).cell? ⟨w.heap.size+1+1+1,i+k,none⟩=some (.int .i64 dd):=by simpa using hcell
      have hfr:(wr.drewN nq).frozen? ⟨w.heap.size+1+1+1,i+k,none⟩=false:=hms.out.blk.frozen _;clear hcell hca;generalize wr.drewN nq=W2 at*;go_wp2
      go_roundw
      case rel=>
       refine ⟨k+1,ts.set (i+k) (s % 65536),s / 65536,by go_num,rfl,by omega,by omega,?_,by rw [List.length_set];exact Htl.out,Htd.out.set (by omega),?_,?_,hms.out.set _ _⟩
       ·by_cases hkm2:k<m
        ·exact .inl (by omega)
        ·refine .inr ⟨by omega,?_⟩
         have e1:yd=0:=by rw [<-Hyd0.out];exact dg_past (by rw [Hb.out.sl.len];omega)
         have e2:dd=0:=by
          rw [<-Hdd0.out,htp.out (i+k) (Nat.le_refl _)]
          refine dg_zero_of_lt Hzd.out (k:=i+m) ?_ (by omega)
          rw [Hzv.out,pw_add];have f1:=dval_lt (Ha.out.canon.1.take i);have f2:=dval_lt Hb.out.canon.1;have f3:=dval_nonneg (Ha.out.canon.1.take i);have f4:=dval_nonneg Hb.out.canon.1;rw [Hb.out.sl.len] at f2;rw [List.length_take,Ha.out.sl.len,Nat.min_eq_left hi] at f1;have f5:=Int.mul_le_mul_of_nonneg_right (Int.le_of_lt f1) f4;have f6:=Int.mul_lt_mul_of_pos_left f2 (pw_pos i);omega
         have:=Hsv.out;rw [e1,e2] at this;omega
       ·rw [dval_set (by rw [Htl.out];omega),Hdd0.out,show i+(k+1)=(i+k)+1 by omega,pw_succ,dval_take_succ,Hyd0.out]
        exact mul_step Htv.out (pw_add i k) Hsv.out.symm
       ·intro p hp
        rw [dg_set_other (by omega)]
        exact htp.out p (by omega)
      case measure=>simp [intOf];omega
    ·have g1:¬ k<m:=by omega
     have g2:¬ 0<q:=by omega
     obtain rfl:q=0:=by omega
     clear hgo;go_wp2
     go_roundw
     case rel=>
      refine ⟨i+1,ts,by go_num,by omega,Htl.out,Htd.out,?_,Hs2.out⟩
      have h1:=Htv.out;have h2:=Hzv.out
      have hkm:m<=k:=by omega
      rw [dval_take_all (by rw [Hb.out.sl.len];exact hkm)] at h1
      rw [dval_take_succ,Hx0.out,Int.add_mul,<-h2,Int.mul_comm (pw i) x0];omega
     case measure=>simp [intOf];omega
  ·obtain rfl:i=n:=by omega
   have q0:wr.cell? ⟨w.heap.size,0,none⟩=some (.bool n1):=Hs.out.cell (HB0.out.cell 0) (by dsimp only;omega)
   have q2:wr.cell? ⟨w.heap.size+1,0,none⟩=some (.bool n2):=Hs.out.cell (HB1.out.cell 0) (by dsimp only;omega)
   have hsl:Sl wr (some ⟨w.heap.size+1+1+1,0,none⟩) (i+m+1) (i+m+1) zs:=by
    refine ⟨⟨by rw [ints_length,Nat.mul_one];exact Hzl.out,fun _=>⟨_,rfl,Hs.out.blk.lt,fun j u hu=>?_⟩⟩,Hzl.out,Nat.le_refl _,by unfold maxLen;omega⟩
    have e1:(⟨w.heap.size+1+1+1,0,none⟩:Addr).add j=⟨w.heap.size+1+1+1,j,none⟩:=by unfold Addr.add;split<;>simp_all
    rw [e1,Hs.out.blk.cell j]
    simpa using hu
   have hres:Hid (Res w (w.heap.size+1+1) wr):=
    ⟨HR.out.blk.grown Hs.out.grown (by intro e;injection e with e;omega),HR.out.bel.grown Hs.out.grown HR.out.bel.size (fun k hk=>by injection hk with hk;omega),HR.out.le⟩
   go_wp2_with fail
   refine (tidy_any (n1 != n2) _ _ _ zs wr Hzd.out hsl).mono ?_
   rintro e w2 ⟨v,rfl,⟨neg',A2,k2,c2,ds2,rfl,hz⟩,hb2⟩;have HR2:Hid (Res w (w.heap.size+1+1) w2):=hres.out.below hb2;obtain ⟨g0,g1,g2,g3⟩:=HR2.out.cells;go_wp2
   refine bodyPost_ret (v:= .agg #[.bool neg',.slice A2 k2 c2]) (by simp [results,Tryz.results34,go_sem,g0,g1]) rfl ?_
   refine HR2.out.stored (hz.more (by have:=Ha.out.le;have:=Hb.out.le;omega)) ?_
   rw [Hzv.out,dval_take_all (by rw [Ha.out.sl.len];exact Nat.le_refl _),Ha.out.val,Hb.out.val]
   cases n1<;>cases n2<;>simp [sg,Int.neg_mul,Int.mul_neg]
end RefZ
end
end Go.Proofs.YtiiekaehbahenaaGreatDoor
