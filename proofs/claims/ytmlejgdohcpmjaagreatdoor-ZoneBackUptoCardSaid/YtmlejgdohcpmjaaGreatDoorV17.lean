/-
  Contracts of the code that the law reaches, and plain laws. Conditions: as each says.
-/
import Derived.Test.YtmlejgdohcpmjaaGreatDoorV16
import Derived.Test.YtmlejgdohcpmjaaGreatDoorV10
import Derived.Test.YtmlejgdohcpmjaaGreatDoorV11
import Derived.Sort.Walk0
import Derived.Maps.RangeWalk
import Derived.StringKeys
import Derived.Sort.KeysCollected
import Derived.Sort.OwnSorted
set_option linter.all false
set_option maxHeartbeats 40000000
set_option maxRecDepth 100000
namespace Go.Proofs.YtmlejgdohcpmjaaGreatDoor
open Lib (hid)
open Tryz
section
section
namespace Src
open Go.RowKit Mem Civ Mom Img Plc Rul
def eraOf (x:Table):Era:=⟨x.off,0,0,⟨#[]⟩,x.format,false,0,⟨0,0,0,0,0,0⟩⟩
def tryOf (x:Table):Src:=⟨x.tail,[⟨x.name,[eraOf x],none,0⟩],[]⟩
def tailR (off:Int) (r:Rule):Bool:=(r.hi == 1000000) && Rgt.dayB (wrap64 (off+r.save))
def tailB (x:Table):Bool:=
 if x.tail.length=0 then (x.off == 0) && x.format.toList.isEmpty
 else x.tail.all (tailR x.off) && (decide (x.tail.length<=2) && (srcB (tryOf x) && !nearB x.tail))
theorem srcOk_try {x:Table} {A A2:Option Addr} {w w':World} (h:TabOk x A A2 w) (hb:Below w.heap.size w w') {g g2 c:Nat}
  (hg:Blk w' g 84 (eraOf x).cells.toArray) (hg2:Blk w' g2 124 #[.string x.name,.slice (some ⟨g,0,none⟩) 1 c]):
  SrcOk ⟨x.tail,[⟨x.name,[eraOf x],some ⟨g,0,none⟩,c⟩],[]⟩ A2 (some ⟨g2,0,none⟩) none w':=by
 have e1:∀ (b j:Nat),(⟨b,0,none⟩:Addr).add j=⟨b,j,none⟩:=fun b j=>by unfold Addr.add;split<;>simp_all
 refine ⟨(h.rt.below hb).more hb.size,⟨rfl,fun _=>⟨_,rfl,hg2.lt,fun j u hu=>?_⟩⟩,Reads.none_,?_,h.nt,by simp,by simp,by simp,h.rules,by simp;exact h.name,?_,by simp⟩
 ·rw [e1,hg2.cell j]
  change [Value.string x.name,Value.slice (some ⟨g,0,none⟩) 1 c][j]?=some u at hu
  simpa using hu
 ·intro z hz
  simp only [List.mem_singleton] at hz;subst hz
  refine ⟨rfl,fun _=>⟨_,rfl,hg.lt,fun j u hu=>?_⟩⟩
  rw [e1,hg.cell j]
  have e2:List.flatMap Era.cells [eraOf x]=(eraOf x).cells:=by simp
  rw [e2] at hu
  simpa using hu
 ·intro z hz e he
  simp only [List.mem_singleton] at hz;subst hz;simp only [List.mem_singleton] at he;subst he;exact ⟨Nat.zero_le _,h.format⟩
theorem tail_any (x:Table) (A A2:Option Addr) (c c2:Nat) (m:Int) (w:World) (h:TabOk x A A2 w) (hm:w.cell? ⟨0,0,none⟩=some (.int .i64 m)):
  Calls prog 54 #[.agg (tabCells x A c A2 c2)] w fun e w'=>e= .returned (.bool (tailB x))/\Below w.heap.size w w':=by
 have hone:=One.new w 27 (tabCells x A c A2 c2);have H:=hid h;have HM:=hid hm;have nt:=h.nt;clear h hm;obtain ⟨Q,hQ⟩:∃ Q,tailB x=Q:=⟨_,rfl⟩;rw [hQ];unfold tailB at hQ;have hts:∀ g cc,srcB ⟨x.tail,[⟨x.name,[eraOf x],some ⟨g,0,none⟩,cc⟩],[]⟩=srcB (tryOf x):=fun _ _=>rfl;have HTs:=hid hts;clear hts;have HNear:=hid (fun z (hb:Below w.heap.size w z)=>near_any x.tail A2 c2 z ((H.out.rt.below hb).more hb.size) nt);simp only [tabCells] at hone ⊢
 obtain ⟨W,hW⟩:∃ W,w.alloc (.cells #[.string x.name,.int .i64 x.first.off,.int .i64 x.first.save,.string x.first.abbr,.slice A x.shifts.length c,.int .i64 x.till,.slice A2 x.tail.length c2,.int .i64 x.off,.string x.format] 27)=W:=⟨_,rfl⟩
 rw [hW] at hone;have HO:=hid hone;have c0:=hone.1.cell;clear hone;go_enter func54,ntmps54
 by_cases h0:x.tail.length=0
 ·rw [if_pos h0] at hQ
  have h0b:(((x.tail.length:Nat):Int) == 0)=true:=by rw [h0];rfl
  clear h0
  cases h1:(x.off == 0)
  ·rw [h1] at hQ
   have hq:Q=false:=hQ.symm;subst hq;clear hQ;go_wp2;go_ret;exact ⟨rfl,HO.out.2⟩
  ·cases h2:x.format.toList.isEmpty
   ·rw [h1,h2] at hQ
    have hq:Q=false:=hQ.symm;subst hq;clear hQ;go_wp2;go_ret;exact ⟨rfl,HO.out.2⟩
   ·rw [h1,h2] at hQ
    have hq:Q=true:=hQ.symm;subst hq;clear hQ;go_wp2;go_ret;exact ⟨rfl,HO.out.2⟩
 ·rw [if_neg h0] at hQ
  have HQ:=hid hQ;clear hQ
  have h0b:(((x.tail.length:Nat):Int) == 0)=false:=by rw [beq_eq_false_iff_ne];omega
  go_wp2_with fail
  clear c0
  obtain ⟨CS,hCS⟩:∃ CS:Array Value,#[.string x.name,.int .i64 x.first.off,.int .i64 x.first.save,.string x.first.abbr,.slice A x.shifts.length c,.int .i64 x.till,.slice A2 x.tail.length c2,.int .i64 x.off,.string x.format]=CS:=⟨_,rfl⟩
  rw [hCS] at HO;have HCS:=hid hCS;clear hCS
  go_loopw [21] (fun i wr=>∃ k:Nat,k<=x.tail.length/\i= .int .i64 k/\(x.tail.take k).all (tailR x.off)=true/\One w w.heap.size 27 CS wr) (fun i _=>x.tail.length - (intOf i).toNat)
  case atStart=>exact ⟨0,Nat.zero_le _,rfl,rfl,HO.out⟩
  case round=>
   obtain ⟨k,hk,rfl,hall,hone⟩:=hrel;have Hall:=hid hall;have HOr:=hid hone;clear hall hone HO;obtain ⟨wo,rfl⟩:∃ wo:World,wo=wr:=⟨_,rfl⟩;have c0:=HOr.out.1.cell;rw [<-HCS.out] at c0
   by_cases hkn:k<x.tail.length
   ·obtain ⟨ad,hA,hadb,a0,a1,a2,a3,a4,a5,a6,a7,a8,a9,a10⟩:=rule_cells (H.out.rt.below HOr.out.2) hkn
    subst hA;have hst:=all_step (tailR x.off) x.tail k hkn Hall.out;have hno:=all_no (tailR x.off) x.tail k hkn;generalize hr:x.tail[k]=r at*;have htr:tailR x.off r=((r.hi == 1000000) && Rgt.dayB (wrap64 (x.off+r.save))):=rfl;have Hst:=hid hst;have Hno:=hid hno;have Htr:=hid htr;clear hst hno htr hr;generalize tailR x.off r=b at*;obtain ⟨r0,r1,r2,r3,r4,r5,r6,r7,r8,r9,r10⟩:=r;simp only at a0 a1 a2 a3 a4 a5 a6 a7 a8 a9 a10 Htr;have hbx:=(Below.refl wo.heap.size wo).alloc (Nat.le_refl _) (.cells #[.string r0,.int .i64 r1,.int .i64 r2,.int .i64 r3,.int .i64 r4,.int .i64 r5,.int .i64 r6,.int .i64 r7,.int .i64 r8,.int .i64 r9,.string r10] 69);have hox:=HOr.out.step hbx;have HOx:=hid hox;have c1:=hox.1.cell;rw [<-HCS.out] at c1;have cr:=fun i=>(Blk.new wo 69 #[.string r0,.int .i64 r1,.int .i64 r2,.int .i64 r3,.int .i64 r4,.int .i64 r5,.int .i64 r6,.int .i64 r7,.int .i64 r8,.int .i64 r9,.string r10]).cell i;have Hd:=hid (fun z=>Rgt.day_any (wrap64 (x.off+r9)) z);clear hbx hox;generalize Rgt.dayB (wrap64 (x.off+r9))=b2 at*
    by_cases h1:r2=1000000
    rotate_left
    ·have h1b:(r2 == 1000000)=false:=by simpa using h1
     have hq:Q=false:=by rw [<-HQ.out,Hno.out (by rw [Htr.out,h1b];rfl),Bool.false_and]
     subst hq;clear HQ Hno Hst Htr
     go_wp2_with (go_at_call 84;refine (Hd.out _).mono ?_;rintro e w2 ⟨rfl,rfl⟩)
     go_ret;exact ⟨rfl,HOx.out.2⟩
    ·subst h1
     cases b2
     ·have hq:Q=false:=by rw [<-HQ.out,Hno.out (by rw [Htr.out];rfl),Bool.false_and]
      subst hq;clear HQ Hno Hst Htr
      go_wp2_with (go_at_call 84;refine (Hd.out _).mono ?_;rintro e w2 ⟨rfl,rfl⟩)
      go_ret;exact ⟨rfl,HOx.out.2⟩
     ·have hst2:(x.tail.take (k+1)).all (tailR x.off)=true:=by rw [Hst.out,Htr.out];rfl
      have Hst2:=hid hst2;clear Hno Hst Htr hst2
      go_wp2_with (go_at_call 84;refine (Hd.out _).mono ?_;rintro e w2 ⟨rfl,rfl⟩)
      exact ⟨⟨k+1,by omega,by go_num,Hst2.out,HOx.out⟩,by simp [intOf];omega⟩
   ·obtain rfl:k=x.tail.length:=by omega
    have hq:=HQ.out;rw [List.take_length] at Hall;rw [Hall.out,Bool.true_and] at hq;have hq2:Q=(decide (x.tail.length<=2) && (srcB (tryOf x) && !nearB x.tail)):=hq.symm;have HQ2:=hid hq2;clear hq hq2 HQ;have hbE:=(Below.refl wo.heap.size wo).alloc (Nat.le_refl _) (.cells (eraOf x).cells.toArray 84);have hE:=Blk.new wo 84 (eraOf x).cells.toArray;have hbZ:=hbE.alloc hbE.size (.cells #[.string x.name,.slice (some ⟨wo.heap.size,0,none⟩) 1 1] 124);have hZ:=Blk.new (wo.alloc (.cells (eraOf x).cells.toArray 84)) 124 #[.string x.name,.slice (some ⟨wo.heap.size,0,none⟩) 1 1];have hE2:=hE.alloc (.cells #[.string x.name,.slice (some ⟨wo.heap.size,0,none⟩) 1 1] 124)
    rw [show (wo.alloc (.cells (eraOf x).cells.toArray 84)).heap.size=wo.heap.size+1 from by simp] at hZ
    have hbS:=hbZ.alloc hbZ.size (.cells #[.slice A2 x.tail.length c2,.slice (some ⟨wo.heap.size+1,0,none⟩) 1 1,.slice none 0 0] 82);have hS:=Blk.new ((wo.alloc (.cells (eraOf x).cells.toArray 84)).alloc (.cells #[.string x.name,.slice (some ⟨wo.heap.size,0,none⟩) 1 1] 124)) 82 #[.slice A2 x.tail.length c2,.slice (some ⟨wo.heap.size+1,0,none⟩) 1 1,.slice none 0 0]
    rw [show ((wo.alloc (.cells (eraOf x).cells.toArray 84)).alloc (.cells #[.string x.name,.slice (some ⟨wo.heap.size,0,none⟩) 1 1] 124)).heap.size=wo.heap.size+1+1 from by simp] at hS
    have hE3:=hE2.alloc (.cells #[.slice A2 x.tail.length c2,.slice (some ⟨wo.heap.size+1,0,none⟩) 1 1,.slice none 0 0] 82);have hZ3:=hZ.alloc (.cells #[.slice A2 x.tail.length c2,.slice (some ⟨wo.heap.size+1,0,none⟩) 1 1,.slice none 0 0] 82);simp only [eraOf,Era.cells] at hbE hbZ hbS hS hE3 hZ3;obtain ⟨W3,hW3⟩:∃ W3,((wo.alloc (.cells #[.int .i64 x.off,.int .i64 0,.int .i64 0,.string ⟨#[]⟩,.string x.format,.bool false,.int .i64 0,.int .i64 0,.int .i64 0,.int .i64 0,.int .i64 0,.int .i64 0,.int .i64 0] 84)).alloc (.cells #[.string x.name,.slice (some ⟨wo.heap.size,0,none⟩) 1 1] 124)).alloc (.cells #[.slice A2 x.tail.length c2,.slice (some ⟨wo.heap.size+1,0,none⟩) 1 1,.slice none 0 0] 82)=W3:=⟨_,rfl⟩;rw [hW3] at hbS hS hE3 hZ3;have fS:=hS.frozen;have cS3:=hS.cell;have hS4:=hS.set_ 2 (.slice none 0 0);simp only [List.setIfInBounds_toArray,List.set_cons_succ,List.set_cons_zero] at hS4
    have hE4:=hE3.far (p:=⟨wo.heap.size+1+1,2,none⟩) (by show wo.heap.size≠wo.heap.size+1+1;omega) (.slice none 0 0)
    have hZ4:=hZ3.far (p:=⟨wo.heap.size+1+1,2,none⟩) (by show wo.heap.size+1≠wo.heap.size+1+1;omega) (.slice none 0 0)
    have hbS4:=hbS.setCell (p:=⟨wo.heap.size+1+1,2,none⟩) (by show wo.heap.size<=wo.heap.size+1+1;omega) (.slice none 0 0)
    have hO3':=HOr.out.step hbS;have cT':=hO3'.1.cell;rw [<-HCS.out] at cT';obtain ⟨W4,hW4⟩:∃ W4,W3.setCell ⟨wo.heap.size+1+1,2,none⟩ (.slice none 0 0)=W4:=⟨_,rfl⟩;rw [hW4] at hS4 hE4 hZ4 hbS4;have hO3:=HOr.out.step hbS4;have cS:=hS4.cell;have cT:=hO3.1.cell;rw [<-HCS.out] at cT;have hm3:=cell_later hO3.2 HM.out;have hsk:=srcOk_try H.out hO3.2 (g:=wo.heap.size) (g2:=wo.heap.size+1) (c:=1) hE4 hZ4;have HRt:=hid (right_any _ A2 (some ⟨wo.heap.size+1,0,none⟩) none c2 1 0 m W4 hsk hm3);rw [HTs.out] at HRt;have HO3:=hid hO3;have HS4:=hid hS4;clear hbE hE hbZ hZ hE2 hbS hS hE3 hZ3 hO3 hO3' hm3 hsk hS4 hE4 hZ4 hbS4;simp only [List.length_singleton,List.length_nil] at HRt;generalize srcB (tryOf x)=b1 at*;generalize nearB x.tail=b2 at*
    by_cases h2:x.tail.length<=2
    ·rw [decide_eq_true h2] at HQ2
     cases b1
     ·have hq:Q=false:=HQ2.out
      subst hq;clear HQ2
      go_wp2_with (go_at_call 85;refine HRt.out.mono ?_;rintro e w5 ⟨rfl,hb⟩;have HB5:=hid (HO3.out.step hb);clear hb)
      go_ret;exact ⟨rfl,HB5.out.2⟩
     ·have hq:Q= !b2:=HQ2.out
      subst hq;clear HQ2
      go_wp2_with (first
       |(go_at_call 85;refine HRt.out.mono ?_;rintro e w5 ⟨rfl,hb⟩;have HB5:=hid (HO3.out.step hb);have ct5:=fun i=>(HO3.out.step hb).1.cell i;rw [<-HCS.out] at ct5;clear hb)
       |(go_at_call 86;refine (HNear.out _ HB5.out.2).mono ?_;rintro e w6 ⟨rfl,hb⟩;have HB6:=hid (HB5.out.step hb);clear hb))
      go_ret;exact ⟨rfl,HB6.out.2⟩
    ·rw [decide_eq_false h2] at HQ2
     have hq:Q=false:=HQ2.out;subst hq;clear HQ2
     go_wp2_with fail
     go_ret;exact ⟨rfl,HO3.out.2⟩
end Src
end
end
section
section
namespace Att
open Go.RowKit Mem Civ Mom Img Rul Rgt Src Rd Ahd Sch Abr
def shiftF (ss:List Shift) (t:Int) (i:Nat):Bool:=decide (t<((ss[i]?).map (·.sec)).getD 0)
def shiftP (x:Table) (t:Int):Phase:=hadAt x.first x.shifts (searchF (shiftF x.shifts t) x.shifts.length 0 x.shifts.length)
def tailP (x:Table) (t:Int):Phase:=⟨x.off+(forceP x.tail x.off t).1,(forceP x.tail x.off t).1,abbrB x.format (forceP x.tail x.off t).2 (x.off+(forceP x.tail x.off t).1) (forceP x.tail x.off t).1⟩
def atP (x:Table) (t:Int):Phase×Bool:=
 if rightB x (tailB x)=true then (if x.till<=t/\x.tail.length≠0 then tailP x t else shiftP x t,true) else (⟨0,0,⟨#[]⟩⟩,false)
theorem first_from {rs:List Rule} {t:Turn} (h:firstO rs=some t):∃ r∈rs,∃ z,turnL z r=some t:=by
 suffices key:∀ (l:List Rule) (b:Option Turn),(∀ u,b=some u->∃ r∈rs,∃ z,turnL z r=some u)->(∀ r∈l,r∈rs)->∀ u,l.foldl firstStep b=some u->∃ r∈rs,∃ z,turnL z r=some u from
  key rs none (fun u e=>by cases e) (fun r hr=>hr) t h
 intro l
 induction l with
 |nil=>intro b hb _ u hu;exact hb u hu
 |cons a l ih=>
  intro b hb hl u hu;rw [List.foldl_cons] at hu
  refine ih _ (fun v hv=>?_) (fun r hr=>hl r (List.mem_cons_of_mem _ hr)) u hu
  unfold firstStep at hv
  cases ht:turnL a.lo a with
  |none=>rw [ht] at hv;exact hb v hv
  |some x=>
   rw [ht] at hv;simp only at hv;have hx:∃ r∈rs,∃ z,turnL z r=some x:=⟨a,hl a List.mem_cons_self,_,ht⟩
   split at hv
   ·cases b with
    |none=>simp only [lessT] at hv;injection hv with hv;subst hv;exact hx
    |some y=>
     simp only [lessT] at hv
     split at hv
     ·injection hv with hv;subst hv;exact hx
     ·exact hb v hv
   ·exact hb v hv
theorem force_ok (rs:List Rule) (off t:Int) (h:∀ r∈rs,r.letter.size<=2097152): -43200<=(forceP rs off t).1/\(forceP rs off t).1<=43200/\(forceP rs off t).2.size<=2097152:=by
 unfold forceP
 split
 ·next hr=>
  cases hx:latestL (fun x=>decide (uniT rs off x<=t)) (yearI t) rs with
  |some x=>
   obtain ⟨r,hm,z,hz⟩:=latest_from hx;obtain ⟨_,e1,e2,_⟩:=turnL_at hz;have:=rule_save hr.1 hm
   refine ⟨by simp only [giveO];omega,by simp only [giveO];omega,?_⟩
   show x.letter.size<=_
   rw [e2];exact h r hm
  |none=>
   refine ⟨by simp [giveO],by simp [giveO],?_⟩
   show (firstP rs).size<=_
   unfold firstP
   cases hf:firstO rs with
   |none=>decide
   |some x=>
    obtain ⟨r,hm,z,hz⟩:=first_from hf;obtain ⟨_,_,e2,_⟩:=turnL_at hz
    show x.letter.size<=_
    rw [e2];exact h r hm
 ·exact ⟨by decide,by decide,by decide⟩
theorem at1_any (ss:List Shift) (A:Option Addr) (c:Nat) (v0 v1 v2 v3 v5 v6 v7 v8:Value) (t:Int) (b0 b1 i:Nat) (w:World) (h:Reads w w.heap.size 4 A ss.length (ss.flatMap Shift.cells)) (hi:i<ss.length)
  (h0:Blk w b0 27 #[v0,v1,v2,v3,.slice A ss.length c,v5,v6,v7,v8]) (h1:w.cell? ⟨b1,0,none⟩=some (.int .i64 t)):
  Calls prog 45 #[.int .i64 i,.pointer (some ⟨b0,0,none⟩),.pointer (some ⟨b1,0,none⟩)] w fun e w'=>e= .returned (.bool (shiftF ss t i))/\Below w.heap.size w w':=by
 obtain ⟨ad,rfl,hadb,c0,c1,c2,c3⟩:=shift_at h hi
 have hq:shiftF ss t i=decide (t<ss[i].sec):=by unfold shiftF;rw [List.getElem?_eq_getElem hi];rfl
 rw [hq];have d0:=fun j=>h0.cell j;clear h hq h0;generalize ss[i]=s at*;obtain ⟨sec,ph⟩:=s;simp only at c0 ⊢;clear c1 c2 c3;go_enter func45,ntmps45;go_wp2
 go_region
 go_wp2;go_ret;exact ⟨rfl,(Below.refl _ _).drew⟩
structure As (w:World) (cs:Array Value) (t:Int) (W:World):Prop where
 tb:Blk W w.heap.size 27 cs
 tt:Blk W (w.heap.size+1) 2 #[.int .i64 t]
 ph:Blk W (w.heap.size+1+1) 23 #[.int .i64 0,.int .i64 0,.string ⟨#[]⟩]
 bel:Below w.heap.size w W
theorem As.below {w W W':World} {cs:Array Value} {t:Int} (h:As w cs t W) (hb:Below W.heap.size W W'):As w cs t W':=
 ⟨h.tb.below hb h.tb.lt,h.tt.below hb h.tt.lt,h.ph.below hb h.ph.lt,h.bel.trans (hb.mono h.bel.size)⟩
theorem at_results {w:World} {R0:Nat} {b:Bool} {a0 a1 a2:Value} (h:Blk w R0 23 #[a0,a1,a2]) (tmps:Array Value) (ht:tmps[4]?=some (.pointer (some ⟨R0,0,none⟩))) (h5:tmps[5]?=some (.bool b)):
  (results Tryz.f24 tmps).run prog w= .ok (.tuple #[.agg #[a0,a1,a2],.bool b]) w:=by
 have hc:=h.cell;simp [results,Tryz.results24,go_sem,hc,ht,h5]
theorem right_t (x:Table) (A A2:Option Addr) (c c2:Nat) (m:Int) (w:World) (h:TabOk x A A2 w) (hm:w.cell? ⟨0,0,none⟩=some (.int .i64 m)):
  Calls prog 31 #[.agg (tabCells x A c A2 c2)] w fun e w'=>e= .returned (.bool (rightB x (tailB x)))/\Below w.heap.size w w':=
 Rgt.right_any x A A2 c c2 (tailB x) m w h.rs h.ns h.name h.first.2.2 (fun s hs=>(h.shifts s hs).2.2) hm fun w1 hb=>tail_any x A A2 c c2 m w1 (h.below hb) (cell_later hb hm)
theorem tail_day {x:Table} (h:tailB x=true) (h0:x.tail.length≠0): -86400<x.off/\x.off<86400:=by
 unfold tailB at h
 split at h
 ·next h1=>omega
 ·simp only [Bool.and_eq_true,decide_eq_true_eq] at h
  obtain ⟨_,h1,h2,_⟩:=h;simp only [srcB,tryOf,Bool.and_eq_true] at h2;obtain ⟨_,h3,h4,_⟩:=h2;simp only [List.all_cons,zoneB,Bool.and_eq_true,List.length_singleton,erasOk] at h4;have h5:=h4.1.2.2.2.2
  simp only [List.getElem?_cons_zero,Bool.and_eq_true,eraB,eraOf] at h5
  have h6:=h5.1.1.1;simp only [dayB,Bool.and_eq_true,decide_eq_true_eq] at h6;omega
theorem le2 (n:Nat):n<=n+1+1:=by omega
theorem at_any (x:Table) (A A2:Option Addr) (c c2:Nat) (t m:Int) (w:World) (h:TabOk x A A2 w) (hm:w.cell? ⟨0,0,none⟩=some (.int .i64 m)) (ht1: -9223372036854775808<=t) (ht2:t<=9223372036854775807):
  Calls prog 24 #[.agg (tabCells x A c A2 c2),.int .i64 t] w fun e w'=>e= .returned (.tuple #[.agg #[.int .i64 (atP x t).1.off,.int .i64 (atP x t).1.save,.string (atP x t).1.abbr],.bool (atP x t).2])/\Below w.heap.size w w':=by
 have hns:=h.ns;have hR:=fun z (hb:Below w.heap.size w z)=>right_t x A A2 c c2 m z (h.below hb) (cell_later hb hm);have hF:=fun z (hb:Below w.heap.size w z)=>force_any x.tail A2 c2 x.off t z (h.below hb).rt h.nt ht1 ht2;have hfo:=force_ok x.tail x.off t (fun r hr=>(h.rules r hr).2)
 have hAb:=fun (ho: -86400<x.off/\x.off<86400) z (hb:Below w.heap.size w z)=>abbr_any x.format (forceP x.tail x.off t).2 (x.off+(forceP x.tail x.off t).1) (forceP x.tail x.off t).1 m z h.format hfo.2.2 (by omega) (by omega) (cell_later hb hm)
 have hSr:=fun z (hz:As w (tabCells x A c A2 c2) t z)=>search_any x.shifts.length 45 #[.pointer (some ⟨w.heap.size,0,none⟩),.pointer (some ⟨w.heap.size+1,0,none⟩)] (shiftF x.shifts t) z h.ns (enters_of func45 (by kernel_rfl) rfl)
  (fun i z2 hi hb2=>at1_any x.shifts A c _ _ _ _ _ _ _ _ t w.heap.size (w.heap.size+1) i z2 (h.below (hz.below hb2).bel).rs hi (hz.below hb2).tb ((hz.below hb2).tt.cell 0))
 have hse:=search_le (shiftF x.shifts t) x.shifts.length 0 x.shifts.length (Nat.zero_le _);have hsh:=fun (j:Nat) (hj:j<x.shifts.length) z (hb:Below w.heap.size w z)=>shift_at (h.below hb).rs hj
 have htd:=fun (hr:rightB x (tailB x)=true) (h0:x.tail.length≠0)=>tail_day (by simp only [rightB,Bool.and_eq_true] at hr;exact hr.1.2.2.2) h0
 obtain ⟨b0,b1,b2,hbw,hsz⟩:=box3 w 27 2 23 (tabCells x A c A2 c2) #[.int .i64 t] #[.int .i64 0,.int .i64 0,.string ⟨#[]⟩];simp only [tabCells] at*
 obtain ⟨W,hW⟩:∃ W,((w.alloc (.cells #[.string x.name,.int .i64 x.first.off,.int .i64 x.first.save,.string x.first.abbr,.slice A x.shifts.length c,.int .i64 x.till,.slice A2 x.tail.length c2,.int .i64 x.off,.string x.format] 27)).alloc (.cells #[.int .i64 t] 2)).alloc (.cells #[.int .i64 0,.int .i64 0,.string ⟨#[]⟩] 23)=W:=⟨_,rfl⟩
 rw [hW] at b0 b1 b2 hbw hsz
 have HO:Hid (As w #[.string x.name,.int .i64 x.first.off,.int .i64 x.first.save,.string x.first.abbr,.slice A x.shifts.length c,.int .i64 x.till,.slice A2 x.tail.length c2,.int .i64 x.off,.string x.format] t W):=⟨b0,b1,b2,hbw⟩
 have c0:=HO.out.tb.cell;unfold atP tailP shiftP;have HR:=hid hR;have HF:=hid hF;have HFo:=hid hfo;have HAb:=hid hAb;have HSr:=hid hSr;have HSe:=hid hse;have HSh:=hid hsh;have HTd:=hid htd;clear h hR hF hfo hAb hSr hse hsh htd b0 b1 b2 hbw hm;obtain ⟨rb,hrb⟩:∃ rb,rightB x (tailB x)=rb:=⟨_,rfl⟩;rw [hrb] at HR HTd ⊢;clear hrb
 cases rb
 ·rw [if_neg (by decide)]
  clear HF HFo HAb HSr HSe HSh HTd;go_enter func24,ntmps24
  go_wp2_with (go_at_call 31;refine (HR.out _ HO.out.bel).mono ?_;rintro e w1 ⟨rfl,hb⟩;have HO1:=hid (HO.out.below hb);have d2:=HO1.out.ph.cell;have f2:=HO1.out.ph.frozen;clear hb)
  refine bodyPost_ret (at_results (((HO1.out.ph.set_ 0 (.int .i64 0)).set_ 1 (.int .i64 0)).set_ 2 (.string ⟨#[]⟩)) _ rfl rfl) rfl ?_
  exact ⟨rfl,(((HO1.out.bel.setCell (le2 _) _).setCell (le2 _) _).setCell (le2 _) _)⟩
 ·rw [if_pos rfl]
  by_cases hc:x.till<=t/\x.tail.length≠0
  ·rw [if_pos hc]
   have hd:=HTd.out rfl hc.2;have ha:=HAb.out hd;have c1b:decide (x.till<=t)=true:=decide_eq_true hc.1
   have c2b:decide (0<x.tail.length)=true:=decide_eq_true (by have:=hc.2;omega)
   have hfb:=HFo.out;generalize (forceP x.tail x.off t).1=sv at*;generalize (forceP x.tail x.off t).2=lt at*
   have hw: -9223372036854775808<=x.off+sv/\x.off+sv<=9223372036854775807:=by omega
   generalize abbrB x.format lt (x.off+sv) sv=ab at*;have HA2:=hid ha;clear HAb HSr HSe HSh HTd hc ha HFo;obtain ⟨hf1,hf2,_⟩:=hfb;go_enter func24,ntmps24
   go_wp2_with (first
    |(go_at_call 31;refine (HR.out _ HO.out.bel).mono ?_;rintro e w1 ⟨rfl,hb⟩;have HO1:=hid (HO.out.below hb);have d0:=HO1.out.tb.cell;have d1:=HO1.out.tt.cell;clear hb)
    |(go_at_call 42;refine (HF.out _ HO1.out.bel).mono ?_;rintro e w2 ⟨rfl,hb⟩;have HO2:=hid (HO1.out.below hb);have e0:=HO2.out.tb.cell;clear hb d0 d1)
    |(go_at_call 43;refine (HA2.out _ HO2.out.bel).mono ?_;rintro e w3 ⟨rfl,hb⟩;have HO3:=hid (HO2.out.below hb);have d2:=HO3.out.ph.cell;have f2:=HO3.out.ph.frozen;clear hb))
   refine bodyPost_ret (at_results (((HO3.out.ph.set_ 0 (.int .i64 (x.off+sv))).set_ 1 (.int .i64 sv)).set_ 2 (.string ab)) _ rfl rfl) rfl ?_
   exact ⟨rfl,(((HO3.out.bel.setCell (le2 _) _).setCell (le2 _) _).setCell (le2 _) _)⟩
  ·rw [if_neg hc]
   clear HF HFo HAb HTd;generalize hN:searchF (shiftF x.shifts t) x.shifts.length 0 x.shifts.length=N at*;clear hN
   have hcase:(∃ b,decide (x.till<=t)=true/\decide (0<x.tail.length)=false/\b=true)\/(∃ b,decide (x.till<=t)=false/\decide (0<x.tail.length)=b):=by
    by_cases h1:x.till<=t
    ·exact .inl ⟨true,decide_eq_true h1,decide_eq_false (by
      have:¬ x.tail.length≠0:=fun h2=>hc ⟨h1,h2⟩
      omega),rfl⟩
    ·exact .inr ⟨_,decide_eq_false h1,rfl⟩
   have hk:∃ K:Int,(N:Int)=K:=⟨_,rfl⟩;obtain ⟨K,hK⟩:=hk;rw [hK] at HSr
   cases N with
   |zero=>
    obtain rfl:K=0:=by omega
    simp only [hadAt];clear HSe HSh hc hK
    obtain ⟨_,q1,q2,_⟩|⟨b,q1,q2⟩:=hcase
    all_goals try cases b
    all_goals
     go_enter func24,ntmps24
     go_wp2_with (first
      |(go_at_call 31;refine (HR.out _ HO.out.bel).mono ?_;rintro e w1 ⟨rfl,hb⟩;have HO1:=hid (HO.out.below hb);have d0:=HO1.out.tb.cell;have d1:=HO1.out.tt.cell;clear hb)
      |(go_at_call 44;refine (HSr.out _ HO1.out).mono ?_;rintro e w2 ⟨rfl,hb⟩;have HO2:=hid (HO1.out.below hb);have e0:=HO2.out.tb.cell;have d2:=HO2.out.ph.cell;have f2:=HO2.out.ph.frozen;clear hb d0 d1))
     refine bodyPost_ret (at_results (((HO2.out.ph.set_ 0 (.int .i64 x.first.off)).set_ 1 (.int .i64 x.first.save)).set_ 2 (.string x.first.abbr)) _ rfl rfl) rfl ?_
     exact ⟨rfl,(((HO2.out.bel.setCell (le2 _) _).setCell (le2 _) _).setCell (le2 _) _)⟩
   |succ j=>
    have hj:j<x.shifts.length:=HSe.out
    obtain rfl:K=(j:Int)+1:=by omega
    have hsh:=HSh.out j hj
    have hg:hadAt x.first x.shifts (j+1)=(x.shifts[j]'hj).ph:=by simp only [hadAt,List.getElem?_eq_getElem hj];rfl
    rw [hg]
    have hKb:((j:Int)+1 == 0)=false:=by simp;omega
    have hwj:wrap64 (j:Int)=(j:Int):=by unfold wrap64;omega
    generalize (x.shifts[j]'hj)=s at*;obtain ⟨sec,⟨po,ps,pa⟩⟩:=s;simp only at hsh ⊢;have hj2:=hj;clear HSe HSh hc hK hg hj2;obtain ⟨ad,hA,hadb,_⟩:=hsh w (Below.refl _ _);subst hA;have HSh:=hid hsh;clear hsh
    obtain ⟨_,q1,q2,_⟩|⟨b,q1,q2⟩:=hcase
    all_goals try cases b
    all_goals
     go_enter func24,ntmps24
     go_wp2_with (first
      |(go_at_call 31;refine (HR.out _ HO.out.bel).mono ?_;rintro e w1 ⟨rfl,hb⟩;have HO1:=hid (HO.out.below hb);have d0:=HO1.out.tb.cell;have d1:=HO1.out.tt.cell;clear hb)
      |(go_at_call 44;refine (HSr.out _ HO1.out).mono ?_;rintro e w2 ⟨rfl,hb⟩;have HO2:=hid (HO1.out.below hb);have e0:=HO2.out.tb.cell;have d2:=HO2.out.ph.cell;have f2:=HO2.out.ph.frozen;have hs2:=HSh.out _ HO2.out.bel;obtain ⟨ad2,hA2,_,s0,s1,s2,s3⟩:=hs2;injection hA2 with hA2;subst hA2;have s2':w2.cell? ⟨(ad.add (j*4)).block,(ad.add (j*4)).off+1+1,none⟩=some (.int .i64 ps):=s2;have s3':w2.cell? ⟨(ad.add (j*4)).block,(ad.add (j*4)).off+1+2,none⟩=some (.string pa):=s3;clear hb d0 d1 s2 s3))
     refine bodyPost_ret (at_results (((HO2.out.ph.set_ 0 (.int .i64 po)).set_ 1 (.int .i64 ps)).set_ 2 (.string pa)) _ rfl rfl) rfl ?_
     exact ⟨rfl,(((HO2.out.bel.setCell (le2 _) _).setCell (le2 _) _).setCell (le2 _) _)⟩
end Att
end
end
section
section
namespace Snd
open Go.RowKit Mem Civ Mom Img Plc Rul Src
theorem tl_beq (a b:ByteArray):(a.toList == b.toList)=decide (a=b):=by
 rw [ByteArray.toList_eq,ByteArray.toList_eq,Bool.eq_iff_iff];simp only [beq_iff_eq,decide_eq_true_eq]
 constructor
 ·intro h
  obtain ⟨⟨a⟩⟩:=a;obtain ⟨⟨b⟩⟩:=b;simp only at h;rw [h]
 ·rintro rfl;rfl
def zoneAt (zs:List ZoneM) (nm:ByteArray):Option Nat:=zs.findIdx? fun z=>decide (z.name=nm)
def linkAt (ls:List Link) (nm:ByteArray):Option Nat:=ls.findIdx? fun l=>decide (l.name=nm)
def stepR (zs:List ZoneM) (ls:List Link):Nat->ByteArray->Option Nat
 |0,_=>none
 |n+1,nm=>match zoneAt zs nm with
  |some i=>some i
  |none=>match (linkAt ls nm).bind fun k=>ls[k]? with
   |none=>none
   |some l=>stepR zs ls n l.target
def resolveB (s:Src) (nm:ByteArray):Option Nat:=stepR s.zones s.links (s.links.length+1) nm
end Snd
namespace Snd
open Go.RowKit Mem Civ Mom Img Plc Rul Src
end Snd
namespace Snd
open Go.RowKit Mem Civ Mom Img Plc Rul Src
def ltB (a b:ByteArray):Bool:=Op.bytesLess a.toList b.toList
def putL (nm:ByteArray):List ByteArray->List ByteArray
 |[]=>[nm]
 |x :: t=>if ltB x nm=true then x :: putL nm t else if x.toList == nm.toList then x :: t else nm :: x :: t
def txs (l:List ByteArray):List Value:=l.map Value.string
end Snd
namespace Snd
open Go.RowKit Mem Civ Mom Img Plc Rul Src
def namesL (ns:List ByteArray):List ByteArray:=ns.foldl (fun l n=>putL n l) []
theorem namesL_snoc (ns:List ByteArray) (n:ByteArray):namesL (ns++[n])=putL n (namesL ns):=by simp [namesL,List.foldl_append]
def allNames (s:Src):List ByteArray:=s.zones.map (·.name)++s.links.map (·.name)
end Snd
namespace Snd
open Go.RowKit Mem Civ Mom Img Plc Rul Src Go.Maps Go.Sort
def SM (ks:List (List UInt8)) (D:DataW Unit):Prop:=IsMap D/\∀ x,has D (.string x)=decide (x∈ks)/\∀ zd,D.atKey (.string x) zd=if x∈ks then .lit (.bool true) else zd
theorem SM.put {ks:List (List UInt8)} {D:DataW Unit} (h:SM ks D) (x:List UInt8):SM (ks++[x]) (D.put (.string x) (.lit (.bool true))):=by
 refine ⟨h.1.put _ _,fun y=>?_⟩
 by_cases e:y=x
 ·subst e
  refine ⟨?_,fun zd=>?_⟩
  ·rw [has_put_same h.1 (show WideAt.IsKeyLit (.string y) from trivial)]
   simp
  ·rw [atKey_put_same h.1 (show WideAt.IsKeyLit (.string y) from trivial)]
   simp
 ·have hne:(Lit.string y)≠.string x:=fun e2=>e (by injection e2)
  refine ⟨?_,fun zd=>?_⟩
  ·rw [has_put_other hne,(h.2 y).1]
   simp [e]
  ·rw [atKey_put_other hne,(h.2 y).2]
   simp [e]
def keyL (l:List ByteArray):List (List UInt8):=l.map fun s=>s.data.toList
def inL (l:List ByteArray) (s:ByteArray):Bool:=l.any fun a=>decide (a=s)
end Snd
end
end
end Go.Proofs.YtmlejgdohcpmjaaGreatDoor
