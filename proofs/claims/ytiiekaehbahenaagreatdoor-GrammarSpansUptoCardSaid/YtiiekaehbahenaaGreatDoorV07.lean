/-
  Contracts of the code that the law reaches, and plain laws. Conditions: as each says.
-/
import Derived.Test.YtiiekaehbahenaaGreatDoorV06
import Derived.Recover
import Derived.Defers
import Derived.Laws.Pointers
set_option linter.all false
set_option maxHeartbeats 40000000
set_option maxRecDepth 100000
namespace Go.Proofs.YtiiekaehbahenaaGreatDoor
open Lib (hid)
open Tryz
section
section
namespace Gr
open Go.RowKit Mem Atl
theorem whole_any (g:Nat) (s:ByteArray) (k:Nat) (w:World) (h:Rd w g s k):
  Calls prog 19 #[.pointer (some ⟨g,0,none⟩)] w fun e w'=>(if k<s.size then e=badE else e= .returned (.tuple #[]))/\∃ n,w'=w.drewN n:=by
 by_cases hk:k<s.size
 ·simp only [if_pos hk]
  have hj:decide ((k:Int)<(s.size:Int))=true:=by simpa using hk
  go_enter func19,ntmps19;have c0:=h.cell 0;have c1:=h.cell 1;clear h;go_wp2
  go_quiet (fail)
  go_wp2_with (go_at_call 23;refine (wrong_any g _).mono ?_;rintro e w2 ⟨rfl,rfl⟩)
  exact ⟨rfl,rfl,_,rfl⟩
 ·simp only [if_neg hk]
  have hj:decide ((k:Int)<(s.size:Int))=false:=by simpa using hk
  go_enter func19,ntmps19;have c0:=h.cell 0;have c1:=h.cell 1;clear h;go_wp2
  go_quiet (fail)
  go_wp2
  go_end0
  exact ⟨rfl,_,rfl⟩
abbrev timV (v:TimT):Value:= .agg #[.int .i64 v.h,.int .i64 v.m,.int .i64 v.s,.int .i64 v.ns]
theorem Kp.new_ {P:Nat->Prop} {w W:World} (h:Kp P w W) {p:Addr} (hp:w.heap.size<=p.block) (v:Value):Kp P w (W.setCell p v):=
 ⟨h.os,h.tape,h.output,by have:=h.size;simp;omega,fun k h1 h2=>(Below.heap_setCell W p v k (fun e=>by omega)).trans (h.same k h1 h2)⟩
theorem clk_bd {l:Txt} {most i:Nat} {x:ClkT×Nat} (e:clkA l most i=some x):x.1.h<=23/\x.1.m<=59/\x.1.s<=most/\1<=x.1.n/\x.1.n<=3:=by
 obtain ⟨y,hy,e⟩:=Option.bind_eq_some_iff.1 e;have hh:=two_bd hy;unfold minA at e
 split at e
 ·obtain ⟨z,hz,e⟩:=Option.bind_eq_some_iff.1 e
  have hm:=two_bd hz;unfold secA at e
  split at e
  ·obtain ⟨t,ht,e⟩:=Option.bind_eq_some_iff.1 e
   have hs:=two_bd ht
   cases e
   exact ⟨hh.2,hm.2,hs.2,by simp,by simp⟩
  ·cases e
   exact ⟨hh.2,hm.2,Nat.zero_le _,by simp,by simp⟩
 ·cases e
  exact ⟨hh.2,Nat.zero_le _,Nat.zero_le _,by simp,by simp⟩
theorem set4 {W:World} {b:Nat} {T:TypeId} {a0 a1 a2 a3 x0 x1 x2 x3:Value} (h:Blk W b T #[a0,a1,a2,a3]):Blk ((((W.setCell ⟨b,0,none⟩ x0).setCell ⟨b,1,none⟩ x1).setCell ⟨b,2,none⟩ x2).setCell ⟨b,3,none⟩ x3) b T #[x0,x1,x2,x3]:=by
 simpa using (((h.set_ 0 x0).set_ 1 x1).set_ 2 x2).set_ 3 x3
theorem far4 {W:World} {b g:Nat} {T:TypeId} {cs:Array Value} {x0 x1 x2 x3:Value} (h:Blk W g T cs) (hne:g≠b):Blk ((((W.setCell ⟨b,0,none⟩ x0).setCell ⟨b,1,none⟩ x1).setCell ⟨b,2,none⟩ x2).setCell ⟨b,3,none⟩ x3) g T cs:=
 (((h.far (p:=⟨b,0,none⟩) hne x0).far (p:=⟨b,1,none⟩) hne x1).far (p:=⟨b,2,none⟩) hne x2).far (p:=⟨b,3,none⟩) hne x3
theorem kpn4 {P:Nat->Prop} {w W:World} {b:Nat} {x0 x1 x2 x3:Value} (h:Kp P w W) (hb:w.heap.size<=b):Kp P w ((((W.setCell ⟨b,0,none⟩ x0).setCell ⟨b,1,none⟩ x1).setCell ⟨b,2,none⟩ x2).setCell ⟨b,3,none⟩ x3):=
 Kp.new_ (Kp.new_ (Kp.new_ (Kp.new_ h (p:=⟨b,0,none⟩) hb x0) (p:=⟨b,1,none⟩) hb x1) (p:=⟨b,2,none⟩) hb x2) (p:=⟨b,3,none⟩) hb x3
theorem time_any (g:Nat) (s:ByteArray) (k:Nat) (w:World) (h:Rd w g s k) (hk0:k<=s.size) (hs:s.size<=2097152):
  Calls prog 18 #[.pointer (some ⟨g,0,none⟩)] w (RP timV g s w (timA (tx s) k)):=by
 obtain ⟨R,hR⟩:∃ R,timA (tx s) k=R:=⟨_,rfl⟩;rw [hR];unfold timA at hR;have HR:=hid hR;have H:=hid h;clear hR h;go_enter func18,ntmps18
 go_wp2_with fail
 have hlt:=H.out.lt;have hb0:=Blk.new w 23 #[.int .i64 0,.int .i64 0,.int .i64 0,.int .i64 0];have h1:=H.out.alloc (.cells #[.int .i64 0,.int .i64 0,.int .i64 0,.int .i64 0] 23);have k1:=(Kp.refl (·=g) w).alloc (.cells #[.int .i64 0,.int .i64 0,.int .i64 0,.int .i64 0] 23);generalize w.alloc (.cells #[.int .i64 0,.int .i64 0,.int .i64 0,.int .i64 0] 23)=W1 at*;have HC:=hid (clock_any 60 g s k W1 h1 hk0 hs);have HS:=hid (And.intro hb0 k1);clear hb0 h1 k1
 go_at_call 48
 refine HC.out.mono ?_
 rintro e w2 hr
 rcases hr.cases with ⟨hm,rfl,hg⟩|⟨x,k2,hm,rfl,hrd,hk2,hg⟩
 ·exact ⟨rfl,RP.fail (by rw [<-HR.out,hm];rfl) (HS.out.2.trans hg)⟩
 have hR:=HR.out;rw [hm] at hR;simp only [Option.bind_some] at hR;have hb0:=HS.out.1
 have hb1:=hg.blk hb0 (by show w.heap.size≠g;omega)
 have hk1:=HS.out.2.trans hg;obtain ⟨x1,x2,x3,x4,x5⟩:=clk_bd hm;obtain ⟨h',m',s',n'⟩:=x;simp only at x1 x2 x3 x4 x5 hR;have hz:=hb1.lt;have H2:=hid hrd;have HS2:=hid (And.intro hb1 hk1);have HR2:=hid hR;clear HC HR HS hm hr hR hb0 hb1 hk1 hrd hg H
 have hmin:min (s':Int) 59=((min s' 59:Nat):Int):=by omega
 obtain ⟨mn,hmn⟩:∃ m,min s' 59=m:=⟨_,rfl⟩;rw [hmn] at hmin HR2
 have hmn9:mn<=59:=by omega
 clear hmn;have cB:=HS2.out.1.cell;have fB:=HS2.out.1.frozen
 by_cases hn:n'=3
 ·subst hn
  have hR:=HR2.out;simp only [if_true] at hR;have HR:=hid hR;clear HR2 hR x4 x5;have hb1:=Blk.new w2 23 #[.int .i64 h',.int .i64 m',.int .i64 mn,.int .i64 0];have h3:=H2.out.alloc (.cells #[.int .i64 h',.int .i64 m',.int .i64 mn,.int .i64 0] 23);have hb0:=HS2.out.1.alloc (.cells #[.int .i64 h',.int .i64 m',.int .i64 mn,.int .i64 0] 23);have k3:=HS2.out.2.alloc (.cells #[.int .i64 h',.int .i64 m',.int .i64 mn,.int .i64 0] 23);have H3:=hid (And.intro hb1 (And.intro h3 (And.intro hb0 k3)));clear hb1 h3 hb0 k3
  go_wp2_with fail
  generalize w2.alloc (.cells #[.int .i64 h',.int .i64 m',.int .i64 mn,.int .i64 0] 23)=W3 at*;have HP:=hid (part_any g s k2 W3 H3.out.2.1 hk2 hs);clear cB fB
  go_at_call 27
  refine HP.out.mono ?_
  rintro e w4 hr
  rcases hr.cases with ⟨hm,rfl,hg⟩|⟨v,k3,hm,rfl,hrd,hk3,hg⟩
  ·exact ⟨rfl,RP.fail (by rw [<-HR.out,hm];rfl) (H3.out.2.2.2.trans hg)⟩
  have hR:=HR.out;rw [hm] at hR;simp only [Option.bind_some] at hR
  have hmax:max v 0=((v.toNat:Nat):Int):=by omega
  obtain ⟨ns,hns⟩:∃ m,v.toNat=m:=⟨_,rfl⟩;rw [hns] at hmax hR
  have b1:=hg.blk H3.out.1 (by show w2.heap.size≠g;omega)
  have b0:=hg.blk H3.out.2.2.1 (by show w.heap.size≠g;omega)
  have HF:=hid (And.intro hR (And.intro hrd (And.intro (H3.out.2.2.2.trans hg) (And.intro b0 b1))));have cB:=b0.cell;have fB:=b0.frozen;have cC:=b1.cell;have fC:=b1.frozen
  have hne1:¬ w2.heap.size=w.heap.size:=by omega
  have hne2:¬ w.heap.size=w2.heap.size:=by omega
  clear hR hrd hg b0 b1 HP H3 HR hm hr hns H2 HS2;go_wp2;obtain ⟨hR,hrd,hkp,b0,b1⟩:=HF.out;have bF:=set4 (x0:= .int .i64 h') (x1:= .int .i64 m') (x2:= .int .i64 mn) (x3:= .int .i64 ns) (b0.far (p:=⟨w2.heap.size,3,none⟩) hne2 (.int .i64 ns))
  have rF:=far4 (x0:= .int .i64 h') (x1:= .int .i64 m') (x2:= .int .i64 mn) (x3:= .int .i64 ns) (Blk.far hrd (p:=⟨w2.heap.size,3,none⟩) (by show g≠w2.heap.size;omega) (.int .i64 ns)) (b:=w.heap.size) (by omega)
  have kF:=kpn4 (x0:= .int .i64 h') (x1:= .int .i64 m') (x2:= .int .i64 mn) (x3:= .int .i64 ns) (b:=w.heap.size) (Kp.new_ hkp (p:=⟨w2.heap.size,3,none⟩) (by show w.heap.size<=w2.heap.size;omega) (.int .i64 ns)) (Nat.le_refl _)
  clear cB fB cC fC HF b0 b1 hrd hkp;generalize World.setCell _ ⟨w.heap.size,3,none⟩ _=W at*;have cF:=bF.cell
  refine bodyPost_ret (v:=timV ⟨h',m',mn,ns⟩) (by simp [results,Tryz.results18,go_sem,cF]) rfl ?_
  exact RP.done (enc:=timV) (v:=TimT.mk h' m' mn ns) hR.symm kF rF hk3
 ·have hn3:((n':Int) == 3)=false:=by rw [beq_eq_false_iff_ne];omega
  go_wp2;have hR:=HR2.out;rw [if_neg hn] at hR;have bF:=(set4 (x0:= .int .i64 h') (x1:= .int .i64 m') (x2:= .int .i64 mn) (x3:= .int .i64 0) HS2.out.1).alloc (.cells #[.int .i64 h',.int .i64 m',.int .i64 mn,.int .i64 0] 23)
  have rF:=(far4 (x0:= .int .i64 h') (x1:= .int .i64 m') (x2:= .int .i64 mn) (x3:= .int .i64 0) H2.out (b:=w.heap.size) (by omega)).alloc (.cells #[.int .i64 h',.int .i64 m',.int .i64 mn,.int .i64 0] 23)
  have kF:=(kpn4 (x0:= .int .i64 h') (x1:= .int .i64 m') (x2:= .int .i64 mn) (x3:= .int .i64 0) (b:=w.heap.size) HS2.out.2 (Nat.le_refl _)).alloc (.cells #[.int .i64 h',.int .i64 m',.int .i64 mn,.int .i64 0] 23);clear cB fB HR2 HS2 H2;generalize World.alloc _ _=W at*;have cF:=bF.cell
  refine bodyPost_ret (v:=timV ⟨h',m',mn,0⟩) (by simp [results,Tryz.results18,go_sem,cF]) rfl ?_
  exact RP.done (enc:=timV) (v:=TimT.mk h' m' mn 0) hR.symm kF rF hk2
end Gr
end
end
section
section
namespace Gr
open Go.RowKit Mem
def ordB (c:UInt8):Bool:=decide (32<=c.toNat) && decide (c.toNat<127)
def Cov (l:Txt) (i k:Nat):Prop:=i<=k/\∀ j c,i<=j->j<k->l[j]?=some c->ordB c=true
theorem Cov.refl (l:Txt) (i:Nat):Cov l i i:=⟨Nat.le_refl _,fun j c h1 h2=>by omega⟩
theorem Cov.trans {l:Txt} {i j k:Nat} (h:Cov l i j) (g:Cov l j k):Cov l i k:=
 ⟨Nat.le_trans h.1 g.1,fun m c h1 h2 h3=>if hm:m<j then h.2 m c h1 hm h3 else g.2 m c (by omega) h2 h3⟩
theorem one_cov {l:Txt} {of:List UInt8} {i:Nat} (ho:of.all ordB=true) (h:oneA l of i=true):Cov l i (i+1):=by
 refine ⟨by omega,fun j c h1 h2 h3=>?_⟩
 obtain rfl:j=i:=by omega
 rw [oneA,h3] at h;rw [List.all_eq_true] at ho
 exact ho c (by simpa using h)
theorem dg_cov {l:Txt} {i:Nat} (h:dgA l i=true):Cov l i (i+1):=by
 refine ⟨by omega,fun j c h1 h2 h3=>?_⟩
 obtain rfl:j=i:=by omega
 rw [dgA,h3] at h;simp only [Bool.and_eq_true,decide_eq_true_eq] at h;simp only [ordB,Bool.and_eq_true,decide_eq_true_eq];omega
theorem num_cov {l:Txt}:∀ {n i v:Nat} {x:Nat×Nat},numA l n i v=some x->Cov l i x.2
 |0,i,v,x,h=>by cases h;exact Cov.refl _ _
 |n+1,i,v,x,h=>by
  rw [numA] at h
  split at h
  ·next hd=>exact (dg_cov hd).trans (num_cov h)
  ·cases h
theorem two_cov {l:Txt} {lo hi i:Nat} {x:Nat×Nat} (h:twoA l lo hi i=some x):Cov l i x.2:=by
 obtain ⟨y,hy,h⟩:=Option.bind_eq_some_iff.1 h
 split at h
 ·cases h
 ·cases h;exact num_cov hy
theorem skip_cov {l:Txt} {long:Bool} {i:Nat} (h:moreA l long i=true):Cov l i (skipA long i):=by
 unfold moreA at h;unfold skipA
 split at h
 ·next hl=>rw [if_pos hl];exact one_cov (by decide) h
 ·next hl=>rw [if_neg hl];exact Cov.refl _ _
theorem sec_cov {l:Txt} {most:Nat} {long:Bool} {h m i:Nat} {x:ClkT×Nat} (e:secA l most long h m i=some x):Cov l i x.2:=by
 unfold secA at e
 split at e
 ·next hm=>
  obtain ⟨y,hy,e⟩:=Option.bind_eq_some_iff.1 e
  cases e
  exact (skip_cov hm).trans (two_cov hy)
 ·cases e;exact Cov.refl _ _
theorem min_cov {l:Txt} {most:Nat} {long:Bool} {h i:Nat} {x:ClkT×Nat} (e:minA l most long h i=some x):Cov l i x.2:=by
 unfold minA at e
 split at e
 ·next hm=>
  obtain ⟨y,hy,e⟩:=Option.bind_eq_some_iff.1 e;exact ((skip_cov hm).trans (two_cov hy)).trans (sec_cov e)
 ·cases e;exact Cov.refl _ _
theorem clk_cov {l:Txt} {most i:Nat} {x:ClkT×Nat} (e:clkA l most i=some x):Cov l i x.2:=by
 obtain ⟨y,hy,e⟩:=Option.bind_eq_some_iff.1 e;exact (two_cov hy).trans (min_cov e)
theorem fra_cov {l:Txt}:∀ (f i v:Nat),Cov l i (fraA l f i v).2.2
 |0,i,v=>Cov.refl _ _
 |f+1,i,v=>by
  rw [fraA]
  split
  ·next hd=>exact (dg_cov hd).trans (fra_cov f _ _)
  ·exact Cov.refl _ _
theorem part_cov {l:Txt} {i:Nat} {x:Int×Nat} (e:partA l i=some x):Cov l i x.2:=by
 unfold partA at e
 split at e
 ·next hd=>
  split at e
  ·cases e
  ·cases e;exact (one_cov (by decide) hd).trans (fra_cov _ _ _)
 ·cases e;exact Cov.refl _ _
theorem tim_cov {l:Txt} {i:Nat} {x:TimT×Nat} (e:timA l i=some x):Cov l i x.2:=by
 obtain ⟨y,hy,e⟩:=Option.bind_eq_some_iff.1 e
 split at e
 ·obtain ⟨z,hz,e⟩:=Option.bind_eq_some_iff.1 e
  cases e
  exact (clk_cov hy).trans (part_cov hz)
 ·cases e;exact clk_cov hy
theorem off_cov {l:Txt} {i:Nat} {x:(Nat×Int)×Nat} (e:offA l i=some x):Cov l i x.2:=by
 unfold offA at e
 split at e
 ·next hd=>cases e;exact one_cov (by decide) hd
 ·split at e
  ·next hd=>
   obtain ⟨z,hz,e⟩:=Option.bind_eq_some_iff.1 e
   cases e
   exact (one_cov (by decide) hd).trans (clk_cov hz)
  ·cases e;exact Cov.refl _ _
theorem if_cov {l:Txt} {of:List UInt8} (ho:of.all ordB=true) (i:Nat):Cov l i (if oneA l of i=true then i+1 else i):=by
 split
 ·next h=>exact one_cov ho h
 ·exact Cov.refl _ _
theorem day_cov {l:Txt} {y:Int} {i:Nat} {x:DateT×Nat} (e:dayA l y i=some x):Cov l i x.2:=by
 obtain ⟨a,ha,e⟩:=Option.bind_eq_some_iff.1 e
 split at e
 ·cases e
 ·next hn=>
  obtain ⟨b,hb,e⟩:=Option.bind_eq_some_iff.1 e
  cases e
  refine ((if_cov (by decide) i).trans (two_cov ha)).trans (Cov.trans ?_ (two_cov hb))
  cases h1:oneA l [45] i
  ·exact Cov.refl _ _
  ·rw [if_pos rfl]
   refine one_cov (of:=[45]) (by decide) ?_
   simpa [h1] using hn
theorem date_cov {l:Txt} {i:Nat} {x:DateT×Nat} (e:dateA l i=some x):Cov l i x.2:=by
 unfold dateA at e
 split at e
 ·next hd=>
  obtain ⟨a,ha,e⟩:=Option.bind_eq_some_iff.1 e
  exact ((one_cov (by decide) hd).trans (num_cov ha)).trans (day_cov e)
 ·split at e
  ·next hd=>
   obtain ⟨a,ha,e⟩:=Option.bind_eq_some_iff.1 e
   split at e
   ·cases e
   ·exact ((one_cov (by decide) hd).trans (num_cov ha)).trans (day_cov e)
  ·obtain ⟨a,ha,e⟩:=Option.bind_eq_some_iff.1 e
   exact (num_cov ha).trans (day_cov e)
theorem no_cov {l:Txt} {k p:Nat} {c:UInt8} (h:Cov l 0 k) (hk:l.length<=k) (hp:l[p]?=some c) (hc:ordB c=false):False:=by
 have:=h.2 p c (Nat.zero_le _) (by have:=(List.getElem?_eq_some_iff.1 hp).1;omega) hp
 rw [hc] at this
 cases this
theorem clock_odd {l:Txt} {p:Nat} {c:UInt8} (hp:l[p]?=some c) (hc:ordB c=false):clockA l=none:=by
 cases h:clockA l with
 |none=>rfl
 |some t=>
  obtain ⟨x,hx,e⟩:=Option.bind_eq_some_iff.1 h
  split at e
  ·cases e
  ·exact (no_cov ((if_cov (by decide) 0).trans (tim_cov hx)) (by omega) hp hc).elim
theorem cnt_cov {l:Txt}:∀ (f i:Nat) (n:Int) (ok:Bool),Cov l i (cntA l f i n ok).2
 |0,i,n,ok=>Cov.refl _ _
 |f+1,i,n,ok=>by
  rw [cntA]
  split
  ·next hd=>exact (dg_cov hd).trans (cnt_cov f _ _ _)
  ·exact Cov.refl _ _
theorem wh_cov {l:Txt} {lets:List UInt8} {i j:Nat} (ho:(lets++lets.map (·+32)).all ordB=true) (h:whA l lets i=some j):Cov l i (i+1):=by
 refine ⟨by omega,fun m c h1 h2 h3=>?_⟩
 obtain rfl:m=i:=by omega
 rw [whA,h3] at h;simp only at h
 split at h
 ·next hd=>
  rw [List.all_eq_true] at ho
  exact ho c (by simpa using hd)
 ·cases h
theorem unit_cov {l:Txt} {lets:List UInt8} {b:Nat} {tm:Bool} (ho:(lets++lets.map (·+32)).all ordB=true):∀ {f:Nat} {s:UnT} {i:Nat} {x:UnT×Nat},unitA l lets b tm f s i=some x->Cov l i x.2
 |0,s,i,x,e=>by cases e;exact Cov.refl _ _
 |f+1,s,i,x,e=>by
  rw [unitA] at e
  split at e
  ·obtain ⟨c,hc,e⟩:=Option.bind_eq_some_iff.1 e
   obtain ⟨q,hq,e⟩:=Option.bind_eq_some_iff.1 e;obtain ⟨j,hj,e⟩:=Option.bind_eq_some_iff.1 e
   split at e
   ·cases e
   ·refine Cov.trans ?_ (unit_cov ho e)
    refine Cov.trans ?_ (wh_cov ho hj)
    refine Cov.trans (j:=c.2) ?_ ?_
    ·unfold countA at hc
     split at hc
     ·cases hc;exact cnt_cov _ _ _ _
     ·cases hc
    ·split at hq
     ·exact part_cov hq
     ·cases hq;exact Cov.refl _ _
  ·cases e;exact Cov.refl _ _
theorem end_cov {l:Txt} {had:Int} {room:Bool} {f:List Int} {i:Nat} {x:Bool×List Int} (h:endA l had room f i=some x):l.length<=i:=by
 unfold endA at h
 split at h
 ·cases h
 ·split at h
  ·cases h
  ·omega
theorem span_odd {l:Txt} {p:Nat} {c:UInt8} (hp:l[p]?=some c) (hc:ordB c=false):spanA l=none:=by
 cases h:spanA l with
 |none=>rfl
 |some t=>
  exfalso
  unfold spanA at h
  by_cases h1:oneA l [80,112] (if oneA l [43,45] 0=true then 1 else 0)=true
  ·rw [if_pos h1] at h
   have c0:Cov l 0 ((if oneA l [43,45] 0=true then 1 else 0)+1):=(if_cov (l:=l) (of:=[43,45]) (by decide) 0).trans (one_cov (of:=[80,112]) (by decide) h1)
   obtain ⟨x,hx,e⟩:=Option.bind_eq_some_iff.1 h
   have c1:=c0.trans (unit_cov (by decide) hx)
   split at e
   ·next h2=>
    obtain ⟨y,hy,e⟩:=Option.bind_eq_some_iff.1 e
    exact no_cov ((c1.trans (one_cov (of:=[84,116]) (by decide) h2)).trans (unit_cov (by decide) hy)) (end_cov e) hp hc
   ·exact no_cov c1 (end_cov e) hp hc
  ·rw [if_neg h1] at h
   cases h
end Gr
end
end
end Go.Proofs.YtiiekaehbahenaaGreatDoor
