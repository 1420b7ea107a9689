/-
  Contracts of the code that the law reaches, and plain laws. Conditions: as each says.
-/
import Derived.Test.YtadamccojdocbaaGreatDoorV15
import Derived.Test.YtadamccojdocbaaGreatDoorV13
set_option linter.all false
set_option maxHeartbeats 40000000
set_option maxRecDepth 100000
namespace Go.Proofs.YtadamccojdocbaaGreatDoor
open Lib (hid)
open Tryz
section
section
namespace Snd
open Go.RowKit Mem Civ Mom Img Plc Rul Src Go.Maps
def eraE (rs:List Rule) (x:Era) (a:Int) (had:Bool) (b:Int) (has:Bool):Int:=
 if x.kind=2/\(setL rs x.rules).length=0 then 8
 else if x.kind=2/\farB x.off (setL rs x.rules)=true then 11
 else if Rgt.dayB (wrap64 (x.off+x.save))=false then 11
 else if had=true/\has=true/\b<=a then 16 else 0
def EndAt (s:Src) (A A2 A3:Option Addr) (c c2 c3:Nat) (i k:Int) (a:Int) (had:Bool) (w:World):Prop:=
 ∀ z,Below w.heap.size w z->Calls prog 39 #[.agg #[.slice A s.rules.length c,.slice A2 s.zones.length c2,.slice A3 s.links.length c3],.int .i64 i,.int .i64 k] z fun e w'=>e= .returned (.tuple #[.int .i64 a,.bool had])/\Below z.heap.size z w'
theorem era_any (s:Src) (A A2 A3:Option Addr) (c c2 c3:Nat) (x:Era) (i k a b:Int) (had has:Bool) (w:World) (h:SrcOk s A A2 A3 w)
  (hP:EndAt s A A2 A3 c c2 c3 i (wrap64 (k - 1)) a had w) (hQ:EndAt s A A2 A3 c c2 c3 i k b has w):
  Calls prog 135 #[.agg #[.slice A s.rules.length c,.slice A2 s.zones.length c2,.slice A3 s.links.length c3],.int .i64 i,.int .i64 k,.agg x.cells.toArray] w fun e w'=>e= .returned (.int .i64 (eraE s.rules x a had b has))/\Below w.heap.size w w':=by
 have hE:=fun nm z (hb:Below w.heap.size w z)=>eset_any s A A2 A3 c c2 c3 nm z (h.below hb);have nr:=h.nr;have hD:=fun z=>day_any (wrap64 (x.off+x.save)) z;clear h;obtain ⟨rs,zs,ls⟩:=s;obtain ⟨x0,x1,x2,x3,x4,x5,x6,⟨y0,y1,y2,y3,y4,y5⟩⟩:=x;simp only [EndAt,Era.cells] at hP hQ hE nr hD ⊢;have hEs:=hE x3;have hll:(setL rs x3).length<=1000000:=Nat.le_trans (setL_len _ _) nr;unfold eraE;simp only;obtain ⟨l,hl⟩:∃ l,l=setL rs x3:=⟨_,rfl⟩;rw [<-hl] at hEs hll ⊢;obtain ⟨q,hq⟩:∃ q,q=farB x0 l:=⟨_,rfl⟩;have hF:=fun (b:Nat) (Av:Option Addr) (cv:Nat) z hr hc=>far_any x0 b l Av cv z hr hll hc;obtain ⟨d,hd⟩:∃ d,d=Rgt.dayB (wrap64 (x0+x2)):=⟨_,rfl⟩;rw [<-hq] at hF ⊢;rw [<-hd] at hD ⊢;have hb2:=box2 w 26 84 #[.slice A rs.length c,.slice A2 zs.length c2,.slice A3 ls.length c3] #[.int .i64 x0,.int .i64 x1,.int .i64 x2,.string x3,.string x4,.bool x5,.int .i64 x6,.int .i64 y0,.int .i64 y1,.int .i64 y2,.int .i64 y3,.int .i64 y4,.int .i64 y5];obtain ⟨W,hW⟩:∃ W,(w.alloc (.cells #[.slice A rs.length c,.slice A2 zs.length c2,.slice A3 ls.length c3] 26)).alloc (.cells #[.int .i64 x0,.int .i64 x1,.int .i64 x2,.string x3,.string x4,.bool x5,.int .i64 x6,.int .i64 y0,.int .i64 y1,.int .i64 y2,.int .i64 y3,.int .i64 y4,.int .i64 y5] 84)=W:=⟨_,rfl⟩;rw [hW] at hb2;obtain ⟨b0,b1,hbw,hsz⟩:=hb2;have HP:=hid hP;have HQ:=hid hQ;have HE:=hid hEs;have HF:=hid hF;have HD:=hid hD;have HB0:=hid b0;have HB1:=hid b1;have HBw:=hid hbw;have c0:=b0.cell;have c1:=b1.cell;clear hP hQ hE hEs hF hD b0 b1 hbw hsz hl hq hd;go_enter func135,ntmps135
 by_cases h2:x1=2
 ·subst h2
  by_cases h0:l.length=0
  ·rw [if_pos ⟨rfl,h0⟩]
   have e0:(((l.length:Nat):Int) == 0)=true:=by simp [h0]
   clear h0
   go_wp2_with (go_at_call 41;refine (HE.out _ HBw.out).mono ?_;rintro e w1 ⟨v,rfl,hown,hb⟩;obtain ⟨Av,cv,rfl⟩:=own_slice hown;have HBx:=hid (HBw.out.trans (hb.mono HBw.out.size));clear hb hown)
   go_ret;exact ⟨rfl,HBx.out⟩
  ·rw [if_neg (fun h=>h0 h.2)]
   have e0:(((l.length:Nat):Int) == 0)=false:=by simp;intro h;exact h0 (by rw [h];rfl)
   clear h0
   cases q
   ·rw [if_neg (fun h=>by cases h.2)]
    cases d
    ·rw [if_pos rfl]
     go_wp2_with (first
      |(go_at_call 41;refine (HE.out _ HBw.out).mono ?_;rintro e w1 ⟨v,rfl,hown,hb⟩;obtain ⟨Av,cv,rfl⟩:=own_slice hown;have HRl:=hid (Reads.of_own hown);have hx1:=HB1.out.below hb HB1.out.lt;have d1:=hx1.cell;have HBx:=hid (HBw.out.trans (hb.mono HBw.out.size));have HX1:=hid hx1;clear hb hown hx1)
      |(go_at_call 176;refine (HF.out _ _ _ _ HRl.out (HX1.out.cell 0)).mono ?_;rintro e w2 ⟨rfl,hb⟩;have hx1:=HX1.out.below hb HX1.out.lt;have d2:=hx1.cell;have HBy:=hid (HBx.out.trans (hb.mono HBx.out.size));clear hb hx1)
      |(go_at_call 192;refine (HD.out _).mono ?_;rintro e w3 ⟨rfl,rfl⟩))
     go_ret;exact ⟨rfl,HBy.out⟩
    ·rw [if_neg (by decide)]
     cases had<;>cases has
     rotate_right
     ·go_wp2_with (first
      |(go_at_call 41;refine (HE.out _ HBw.out).mono ?_;rintro e w1 ⟨v,rfl,hown,hb⟩;obtain ⟨Av,cv,rfl⟩:=own_slice hown;have HRl:=hid (Reads.of_own hown);have hx0:=HB0.out.below hb HB0.out.lt;have hx1:=HB1.out.below hb HB1.out.lt;have d0:=hx0.cell;have d1:=hx1.cell;have HBx:=hid (HBw.out.trans (hb.mono HBw.out.size));have HX0:=hid hx0;have HX1:=hid hx1;clear hb hown hx1 hx0)
      |(go_at_call 176;refine (HF.out _ _ _ _ HRl.out (HX1.out.cell 0)).mono ?_;rintro e w2 ⟨rfl,hb⟩;have hx0:=HX0.out.below hb HX0.out.lt;have hx1:=HX1.out.below hb HX1.out.lt;have f0:=hx0.cell;have f1:=hx1.cell;have HBy:=hid (HBx.out.trans (hb.mono HBx.out.size));have HY0:=hid hx0;clear hb hx1 hx0)
      |(go_at_call 192;refine (HD.out _).mono ?_;rintro e w3 ⟨rfl,rfl⟩)
      |(go_at_call 39;have tk:=tok;refine (HQ.out _ HBz.out).mono ?_;rintro e w5 ⟨rfl,hb⟩;have HBu:=hid (HBz.out.trans (hb.mono HBz.out.size));clear hb)
      |(go_at_call 39;refine (HP.out _ HBy.out).mono ?_;rintro e w4 ⟨rfl,hb⟩;have hx0:=HY0.out.below hb HY0.out.lt;have g0:=hx0.cell;have HBz:=hid (HBy.out.trans (hb.mono HBy.out.size));have tok:True:=trivial;clear hb hx0))
      all_goals go_ret
      all_goals exact ⟨by simp_all,HBu.out⟩
     all_goals
      go_wp2_with (first
      |(go_at_call 41;refine (HE.out _ HBw.out).mono ?_;rintro e w1 ⟨v,rfl,hown,hb⟩;obtain ⟨Av,cv,rfl⟩:=own_slice hown;have HRl:=hid (Reads.of_own hown);have hx0:=HB0.out.below hb HB0.out.lt;have hx1:=HB1.out.below hb HB1.out.lt;have d0:=hx0.cell;have d1:=hx1.cell;have HBx:=hid (HBw.out.trans (hb.mono HBw.out.size));have HX0:=hid hx0;have HX1:=hid hx1;clear hb hown hx1 hx0)
      |(go_at_call 176;refine (HF.out _ _ _ _ HRl.out (HX1.out.cell 0)).mono ?_;rintro e w2 ⟨rfl,hb⟩;have hx0:=HX0.out.below hb HX0.out.lt;have hx1:=HX1.out.below hb HX1.out.lt;have f0:=hx0.cell;have f1:=hx1.cell;have HBy:=hid (HBx.out.trans (hb.mono HBx.out.size));have HY0:=hid hx0;clear hb hx1 hx0)
      |(go_at_call 192;refine (HD.out _).mono ?_;rintro e w3 ⟨rfl,rfl⟩)
      |(go_at_call 39;have tk:=tok;refine (HQ.out _ HBz.out).mono ?_;rintro e w5 ⟨rfl,hb⟩;have HBu:=hid (HBz.out.trans (hb.mono HBz.out.size));clear hb)
      |(go_at_call 39;refine (HP.out _ HBy.out).mono ?_;rintro e w4 ⟨rfl,hb⟩;have hx0:=HY0.out.below hb HY0.out.lt;have g0:=hx0.cell;have HBz:=hid (HBy.out.trans (hb.mono HBy.out.size));have tok:True:=trivial;clear hb hx0))
      all_goals go_ret
      all_goals exact ⟨by simp_all,HBu.out⟩
   ·rw [if_pos ⟨rfl,rfl⟩]
    go_wp2_with (first
     |(go_at_call 41;refine (HE.out _ HBw.out).mono ?_;rintro e w1 ⟨v,rfl,hown,hb⟩;obtain ⟨Av,cv,rfl⟩:=own_slice hown;have HRl:=hid (Reads.of_own hown);have hx1:=HB1.out.below hb HB1.out.lt;have d1:=hx1.cell;have HBx:=hid (HBw.out.trans (hb.mono HBw.out.size));have HX1:=hid hx1;clear hb hown hx1)
     |(go_at_call 176;refine (HF.out _ _ _ _ HRl.out (HX1.out.cell 0)).mono ?_;rintro e w2 ⟨rfl,hb⟩;have HBy:=hid (HBx.out.trans (hb.mono HBx.out.size));clear hb))
    go_ret;exact ⟨rfl,HBy.out⟩
 ·have h2b:(x1 == 2)=false:=by simp [h2]
  rw [if_neg (fun h=>h2 h.1),if_neg (fun h=>h2 h.1)];clear h2
  cases d
  ·rw [if_pos rfl]
   go_wp2_with (go_at_call 192;refine (HD.out _).mono ?_;rintro e w3 ⟨rfl,rfl⟩)
   go_ret;exact ⟨rfl,HBw.out⟩
  ·rw [if_neg (by decide)]
   cases had<;>cases has
   rotate_right
   ·go_wp2_with (first
      |(go_at_call 192;refine (HD.out _).mono ?_;rintro e w3 ⟨rfl,rfl⟩)
      |(go_at_call 39;have tk:=tok;refine (HQ.out _ HBz.out).mono ?_;rintro e w5 ⟨rfl,hb⟩;have HBu:=hid (HBz.out.trans (hb.mono HBz.out.size));clear hb)
      |(go_at_call 39;refine (HP.out _ HBw.out).mono ?_;rintro e w4 ⟨rfl,hb⟩;have hx0:=HB0.out.below hb HB0.out.lt;have g0:=hx0.cell;have HBz:=hid (HBw.out.trans (hb.mono HBw.out.size));have tok:True:=trivial;clear hb hx0))
    all_goals go_ret
    all_goals exact ⟨by simp_all,HBu.out⟩
   all_goals
    go_wp2_with (first
      |(go_at_call 192;refine (HD.out _).mono ?_;rintro e w3 ⟨rfl,rfl⟩)
      |(go_at_call 39;have tk:=tok;refine (HQ.out _ HBz.out).mono ?_;rintro e w5 ⟨rfl,hb⟩;have HBu:=hid (HBz.out.trans (hb.mono HBz.out.size));clear hb)
      |(go_at_call 39;refine (HP.out _ HBw.out).mono ?_;rintro e w4 ⟨rfl,hb⟩;have hx0:=HB0.out.below hb HB0.out.lt;have g0:=hx0.cell;have HBz:=hid (HBw.out.trans (hb.mono HBw.out.size));have tok:True:=trivial;clear hb hx0))
    all_goals go_ret
    all_goals exact ⟨by simp_all,HBu.out⟩
end Snd
namespace Snd
open Go.RowKit Mem Civ Mom Img Plc Rul Src Go.Maps
def EA (s:Src) (sv:Era->Int):Prop:=
 ∀ zn∈s.zones,∀ x∈zn.eras,x.till=true->x.kind=2->∀ Ae ce z,Reads z z.heap.size 11 Ae (setOf s.rules x).length ((setOf s.rules x).flatMap Rule.cells)->AheadAt Ae (setOf s.rules x).length ce (endT x) (sv x) z
def endP (sv:Era->Int) (x:Era):Int:=if x.till=true then endI x (sv x) else 0
def prevP (sv:Era->Int) (es:List Era):Nat->Int×Bool
 |0=>(0,false)
 |k+1=>match es[k]? with
  |some y=>(endP sv y,y.till)
  |none=>(0,false)
def eraAt (rs:List Rule) (sv:Era->Int) (es:List Era) (k:Nat):Int:=match es[k]? with
 |some x=>eraE rs x (prevP sv es k).1 (prevP sv es k).2 (endP sv x) x.till
 |none=>0
theorem endO_is (sv:Era->Int) (x:Era):endO x (sv x)= .tuple #[.int .i64 (endP sv x),.bool x.till]:=by
 unfold endO endP
 cases x.till<;>rfl
theorem end_at (s:Src) (sv:Era->Int) (A A2 A3:Option Addr) (c c2 c3:Nat) (m:Int) (i j:Nat) (w:World) (h:SrcOk s A A2 A3 w) (hm:w.cell? ⟨0,0,none⟩=some (.int .i64 m)) (hs:srcB s=true) (hE:EA s sv) (hi:i<s.zones.length) (hj:j<(s.zones[i]'hi).eras.length):
  EndAt s A A2 A3 c c2 c3 i j (endP sv ((s.zones[i]'hi).eras[j]'hj)) ((s.zones[i]'hi).eras[j]'hj).till w:=fun z hb=>by
 have h1:=eend_yes s A A2 A3 c c2 c3 m (sv ((s.zones[i]'hi).eras[j]'hj)) i j z (h.below hb) (cell_later hb hm) hs hi hj _ rfl (hE _ (List.getElem_mem hi) _ (List.getElem_mem hj));rw [endO_is] at h1;exact h1
theorem era_at (s:Src) (sv:Era->Int) (A A2 A3:Option Addr) (c c2 c3:Nat) (m:Int) (i k:Nat) (w:World) (h:SrcOk s A A2 A3 w) (hm:w.cell? ⟨0,0,none⟩=some (.int .i64 m)) (hs:srcB s=true) (hE:EA s sv) (hi:i<s.zones.length) (hk:k<(s.zones[i]'hi).eras.length):
  Calls prog 135 #[.agg #[.slice A s.rules.length c,.slice A2 s.zones.length c2,.slice A3 s.links.length c3],.int .i64 i,.int .i64 k,.agg ((s.zones[i]'hi).eras[k]'hk).cells.toArray] w fun e w'=>e= .returned (.int .i64 (eraAt s.rules sv (s.zones[i]'hi).eras k))/\Below w.heap.size w w':=by
 have hn:=h.ne _ (List.getElem_mem hi);have hQ:=end_at s sv A A2 A3 c c2 c3 m i k w h hm hs hE hi hk
 have hP:EndAt s A A2 A3 c c2 c3 i (wrap64 (((k:Nat):Int) - 1)) (prevP sv (s.zones[i]'hi).eras k).1 (prevP sv (s.zones[i]'hi).eras k).2 w:=by
  cases k with
  |zero=>
   intro z hb
   rw [show wrap64 (((0:Nat):Int) - 1)= -1 from by unfold wrap64;omega]
   exact eend_no s A A2 A3 c c2 c3 m i z (h.below hb) (cell_later hb hm) hs hi
  |succ j=>
   have hj:j<(s.zones[i]'hi).eras.length:=by omega
   have hw:wrap64 (((j+1:Nat):Int) - 1)=(j:Nat):=by
    have e:(((j+1:Nat):Int) - 1)=(j:Nat):=by omega
    rw [e];unfold wrap64;omega
   rw [hw]
   simp only [prevP,List.getElem?_eq_getElem hj]
   exact end_at s sv A A2 A3 c c2 c3 m i j w h hm hs hE hi hj
 have h1:=era_any s A A2 A3 c c2 c3 ((s.zones[i]'hi).eras[k]'hk) i k _ _ _ _ w h hP hQ
 simp only [eraAt,List.getElem?_eq_getElem hk]
 exact h1
end Snd
namespace Snd
open Go.RowKit Mem Civ Mom Img Plc Rul Src Go.Maps
def zErr (rs:List Rule) (sv:Era->Int) (es:List Era):Option Nat:=(List.range es.length).find? fun k=> !decide (eraAt rs sv es k=0)
theorem zErr_hit {rs:List Rule} {sv:Era->Int} {es:List Era} {k:Nat} (hk:k<es.length) (h:∀ j,j<k->eraAt rs sv es j=0) (hne:¬ eraAt rs sv es k=0):zErr rs sv es=some k:=by
 unfold zErr
 rw [List.find?_range_eq_some]
 refine ⟨by simp [hne],List.mem_range.2 hk,fun j hj=>by simp [h j hj]⟩
theorem zErr_none {rs:List Rule} {sv:Era->Int} {es:List Era} (h:∀ j,j<es.length->eraAt rs sv es j=0):zErr rs sv es=none:=by
 unfold zErr
 rw [List.find?_eq_none]
 intro j hj;simp [h j (List.mem_range.1 hj)]
def zonesL (rs:List Rule) (sv:Era->Int):List ByteArray->List ZoneM->Nat->Flaw
 |_,[],_=>noFlaw
 |seen,z :: t,i=>if inL seen z.name=true then ⟨10,2,i,0⟩ else match zErr rs sv z.eras with
  |some k=>⟨eraAt rs sv z.eras k,2,i,k⟩
  |none=>zonesL rs sv (seen++[z.name]) t (i+1)
def zonesB (s:Src) (sv:Era->Int):Flaw:=zonesL s.rules sv [] s.zones 0
theorem zones_results {w:World} {R0:Nat} {a0 a1 a2 a3:Value} (h:Blk w R0 72 #[a0,a1,a2,a3]) (tmps:Array Value) (ht:tmps[2]?=some (.pointer (some ⟨R0,0,none⟩))):(results Tryz.f77 tmps).run prog w= .ok (.agg #[a0,a1,a2,a3]) w:=by
 have hc:=h.cell;simp [results,Tryz.results77,go_sem,hc,ht]
theorem zones_any (s:Src) (sv:Era->Int) (A A2 A3:Option Addr) (c c2 c3:Nat) (m:Int) (w:World) (h:SrcOk s A A2 A3 w) (hm:w.cell? ⟨0,0,none⟩=some (.int .i64 m)) (hs:srcB s=true) (hEA:EA s sv):
  Calls prog 77 #[.agg #[.slice A s.rules.length c,.slice A2 s.zones.length c2,.slice A3 s.links.length c3]] w fun e w'=>e= .returned (.agg (zonesB s sv).cells.toArray)/\Below w.heap.size w w':=by
 have hE:=fun i k hi hk z (hb:Below w.heap.size w z)=>era_at s sv A A2 A3 c c2 c3 m i k z (h.below hb) (cell_later hb hm) hs hEA hi hk;have hrz:=h.rz;have nz:=h.nz;have tz:=h.tz;have hre:=h.re;have ne:=h.ne;clear h hm hs hEA;obtain ⟨Q,hQ⟩:∃ Q,zonesB s sv=Q:=⟨_,rfl⟩;rw [hQ];unfold zonesB at hQ;obtain ⟨rs,zs,ls⟩:=s;simp only at hE hrz nz tz hre ne hQ ⊢;have hmm:=@run_makeMap prog;have hst:=Two.start w #[.slice A rs.length c,.slice A2 zs.length c2,.slice A3 ls.length c3];obtain ⟨W,hW⟩:∃ W,(w.alloc (.cells #[.slice A rs.length c,.slice A2 zs.length c2,.slice A3 ls.length c3] 26)).alloc (.cells #[.int .i64 0,.int .i64 0,.int .i64 0,.int .i64 0] 72)=W:=⟨_,rfl⟩;rw [hW] at hst;have hsz:w.heap.size+1<W.heap.size:=hst.res.lt;have HT:=hid hst;have HR:=hid hrz;have HQ:=hid hQ;have HE:=hid hE;have Htz:=hid tz;have HRe:=hid hre;have HNe:=hid ne;have HM0:=hid (World.ownsMap_made W prog 9 (plainElem (H:=Unit) prog 4));have ca:=fun o i=>(hst.src.alloc o).cell i;clear hst hrz hQ hE tz hre ne;go_enter func77,ntmps77
 go_wp2_with fail
 clear ca;obtain ⟨b,hb⟩:∃ b,b=W.heap.size:=⟨_,rfl⟩
 have HS0:Hid (Sd w #[.slice A rs.length c,.slice A2 zs.length c2,.slice A3 ls.length c3] b 0 [] (W.alloc (.map #[] 0))):=by
  rw [hb];exact ⟨HT.out.alloc _,⟨_,HM0.out,SM.empty⟩⟩
 rw [<-hb] at hsz ⊢;clear hb HT HM0 hW
 go_loopw [13] (fun i wr=>∃ (k:Nat) (seen:List ByteArray) (n:Nat),k<=zs.length/\n<=k/\i= .int .i64 k/\zonesL rs sv seen (zs.drop k) k=Q/\Sd w #[.slice A rs.length c,.slice A2 zs.length c2,.slice A3 ls.length c3] b n seen wr) (fun i _=>zs.length - (intOf i).toNat)
 case atStart=>exact ⟨0,[],0,Nat.zero_le _,Nat.le_refl _,rfl,by rw [List.drop_zero];exact HQ.out,HS0.out⟩
 case round=>
  clear HS0 HQ;obtain ⟨k,seen,n,hk,hnk,rfl,hq,hsd⟩:=hrel;have HS:=hid hsd;have Hq:=hid hq;clear hsd hq
  by_cases hkn:k<zs.length
  ·obtain ⟨ad,hA,hadb,a0,a1⟩:=zone_cells (HR.out.below HS.out.two.bel) hkn rfl
   subst hA;have hmem:=List.getElem_mem hkn;have hsz2:=Htz.out zs[k] hmem;have hkey:=nm_key hsz2;have hlook:=fun o=>(HS.out.map.alloc o).look hsz2;have hdr:zs.drop k=zs[k] :: zs.drop (k+1):=List.drop_eq_getElem_cons hkn;have hq:=Hq.out;rw [hdr,zonesL] at hq;have Hq2:=hid hq;have HRk:=hid (HRe.out zs[k] hmem);have hne:=HNe.out zs[k] hmem;have hEk:=fun j hj=>HE.out k j hkn hj;clear hq hdr Hq hsz2 hmem;obtain ⟨x,hx⟩:∃ x,x=zs[k]'hkn:=⟨_,rfl⟩;rw [<-hx] at hEk;simp only [<-hx] at a0 a1 hkey hlook Hq2 HRk hne;clear hx;obtain ⟨x0,es,Az,cz⟩:=x;simp only at a0 a1 hkey hlook Hq2 HRk hne hEk;have HEk:=hid hEk;clear hEk;have HSa:=hid (HS.out.alloc (.cells #[.string x0,.slice Az es.length cz] 65));obtain ⟨q,hqq⟩:∃ q,inL seen x0=q:=⟨_,rfl⟩;simp only [hqq] at hlook Hq2;clear hqq
   cases q
   rotate_left
   ·have hq:=Hq2.out
    simp only [if_true] at hq;subst hq;have ht:=HSa.out.two;have fR:=ht.res.frozen;have cR:=ht.res.cell;have HF:=hid (ht.fill (.int .i64 10) (.int .i64 2) (.int .i64 k) (.int .i64 0));clear ht
    go_wp2_with fail
    refine bodyPost_ret (zones_results HF.out.res _ rfl) rfl ?_
    exact ⟨rfl,HF.out.bel⟩
   ·have hq:=Hq2.out
    simp only [Bool.false_eq_true,if_false] at hq;have Hq3:=hid hq;obtain ⟨D,hown,hsm⟩:=HS.out.map;have Hown:=hid hown;have Hsm:=hid hsm;have Hbw:=hid hsz;have hblk:=Blk.new wr 65 #[.string x0,.slice Az es.length cz];have Hblk:=hid hblk;have hblt:=HS.out.map.lt;clear hq hown hsm Hq2 hblk
    go_upto_region 8 with ((at_mapUpdate;refine wpList_mapUpdate_own (H:=Unit) _ rfl _ _ _ 171 rfl 9 4 setLaw underlying171 (plainElem prog 4) b n D rfl (Hown.out.alloc _) (by unfold maxLen;omega) _ _ _ rfl rfl hkey (.lit (.bool true)) [] (plainElem_bool underlying4 true) ?_;intro w1 hmap1 hg1;have Hmap1:=hid hmap1;have Hg1:=hid hg1;clear hmap1 hg1))
    have HS1:Hid (Sd w #[.slice A rs.length c,.slice (some ad) zs.length c2,.slice A3 ls.length c3] b (n+1) (seen++[x0]) w1):=by
     have ht:=HSa.out.two
     refine ⟨⟨?_,?_,?_⟩,⟨_,Hmap1.out,?_⟩⟩
     ·exact ht.src.grown Hg1.out (by have:=Hbw.out;intro e;injection e with e;omega)
     ·exact ht.res.grown Hg1.out (by have:=Hbw.out;intro e;injection e with e;omega)
     ·exact ht.bel.grown Hg1.out ht.bel.size (fun j hj=>by have:=Hbw.out;injection hj with hj;omega)
     ·rw [keyL,List.map_append]
      exact Hsm.out.put _
    have hx1:=Hblk.out.grown Hg1.out (by intro e;injection e with e;omega)
    have cx:=hx1.cell;clear a0 a1 hlook hx1 Hblk HSa HS Hown Hsm hkey HE
    go_wp2_with fail
    clear cx
    go_loopw [30] (fun i wz=>∃ j:Nat,j<=es.length/\i= .int .i64 j/\(∀ t,t<j->eraAt rs sv es t=0)/\Sd w #[.slice A rs.length c,.slice (some ad) zs.length c2,.slice A3 ls.length c3] b (n+1) (seen++[x0]) wz) (fun i _=>es.length - (intOf i).toNat)
    case atStart=>exact ⟨0,Nat.zero_le _,rfl,(fun t ht=>absurd ht (Nat.not_lt_zero _)),HS1.out⟩
    case round=>
     clear HS1;obtain ⟨j,hj,rfl,hz,hsd⟩:=hrel;have HS3:=hid hsd;have HZ:=hid hz;clear hsd hz
     by_cases hjn:j<es.length
     ·obtain ⟨ad2,hA2,hadb2,d0,d1,d2,d3,d4,d5,d6,d7,d8,d9,d10,d11,d12⟩:=era_cells (HRk.out.below HS3.out.two.bel) hjn rfl
      subst hA2;have hEj:=HEk.out j hjn;have HHit:=hid (fun hne=>zErr_hit (rs:=rs) (sv:=sv) hjn HZ.out hne);obtain ⟨E,hE⟩:∃ E,E=eraAt rs sv es j:=⟨_,rfl⟩;rw [<-hE] at hEj HHit;have HEe:=hid hE;obtain ⟨y,hy⟩:∃ y,y=es[j]:=⟨_,rfl⟩;simp only [<-hy] at d0 d1 d2 d3 d4 d5 d6 d7 d8 d9 d10 d11 d12 hEj;clear hy hE;obtain ⟨y0,y1,y2,y3,y4,y5,y6,⟨u0,u1,u2,u3,u4,u5⟩⟩:=y;simp only [Era.cells] at d0 d1 d2 d3 d4 d5 d6 d7 d8 d9 d10 d11 d12 hEj;have HEj:=hid hEj;have HS4:=hid (HS3.out.alloc (.cells #[.int .i64 y0,.int .i64 y1,.int .i64 y2,.string y3,.string y4,.bool y5,.int .i64 y6,.int .i64 u0,.int .i64 u1,.int .i64 u2,.int .i64 u3,.int .i64 u4,.int .i64 u5] 84));have cS:=HS4.out.two.src.cell;clear hEj
      by_cases h0:E=0
      ·subst h0
       have HZ2:Hid (∀ t,t<j+1->eraAt rs sv es t=0):=fun t ht=>by
        by_cases e:t=j
        ·rw [e];exact HEe.out.symm
        ·exact HZ.out t (by omega)
       clear HHit HZ HEe
       go_wp2_with (go_at_call 135;refine (HEj.out _ HS4.out.two.bel).mono ?_;rintro e w4 ⟨rfl,hb⟩;have HS5:=hid (HS4.out.step hb);clear hb)
       exact ⟨⟨j+1,by omega,by go_num,HZ2.out,HS5.out⟩,by simp [intOf];omega⟩
      ·have hq:=Hq3.out
       rw [HHit.out h0] at hq;simp only [<-HEe.out] at hq;subst hq
       have h0b:(E == 0)=false:=by simp [h0]
       have h0c:(E != 0)=true:=by simp [h0]
       clear HHit HZ HEe h0
       go_wp2_with (go_at_call 135;refine (HEj.out _ HS4.out.two.bel).mono ?_;rintro e w4 ⟨rfl,hb⟩;have ht:=(HS4.out.step hb).two;have fR:=ht.res.frozen;have cR:=ht.res.cell;have HF:=hid (ht.fill (.int .i64 E) (.int .i64 2) (.int .i64 k) (.int .i64 j));clear hb ht)
       refine bodyPost_ret (zones_results HF.out.res _ rfl) rfl ?_
       exact ⟨rfl,HF.out.bel⟩
     ·obtain rfl:j=es.length:=by omega
      have hq:=Hq3.out;rw [zErr_none HZ.out] at hq;simp only at hq;have Hq4:=hid hq;clear hq Hq3 HZ
      go_wp2_with fail
      exact ⟨⟨k+1,seen++[x0],n+1,by omega,by omega,by go_num,Hq4.out,HS3.out⟩,by simp [intOf];omega⟩
  ·obtain rfl:k=zs.length:=by omega
   have hq:=Hq.out;rw [List.drop_length,zonesL] at hq;subst hq;have ht:=HS.out.two;have fR:=ht.res.frozen;have cR:=ht.res.cell;have HF:=hid (ht.fill (.int .i64 0) (.int .i64 0) (.int .i64 0) (.int .i64 0));clear Hq ht
   go_wp2_with fail
   refine bodyPost_ret (zones_results HF.out.res _ rfl) rfl ?_
   exact ⟨rfl,HF.out.bel⟩
end Snd
end
end
section
section
namespace Snd
open Go.RowKit Mem Civ Mom Img Plc Rul Src Go.Maps
def svF (s:Src) (x:Era):Int:=((Ahd.aheadO (setOf s.rules x) (endT x)).getD Ahd.noTurn).save
theorem endT_bd (x:Era): -9223372036854775808<=endT x/\endT x<=9223372036854775807:=by
 unfold endT localO
 cases h:onO x.spot x.year with
 |none=>simp
 |some n=>
  obtain ⟨⟨h1,h2⟩,h3,_⟩:=onO_bd h;obtain ⟨_,_,_,_,h5,h6,_⟩:=h3;simp only [Option.map_some,Option.getD_some];omega
theorem setOf_len (rs:List Rule) (x:Era):(setOf rs x).length<=rs.length:=by
 unfold setOf
 split
 ·exact setL_len _ _
 ·simp
theorem ea_any (s:Src) (hn:s.rules.length<=1000000):EA s (svF s):=fun zn _ x _ _ _ Ae ce z hr z2 hb=>by
 refine (Ahd.ahead_any (setOf s.rules x) Ae ce (endT x) z2 ((hr.below hb).more hb.size) (Nat.le_trans (setOf_len _ _) hn) (endT_bd x).1 (endT_bd x).2).mono ?_
 rintro e w' ⟨rfl,hb2⟩;unfold svF;generalize (Ahd.aheadO (setOf s.rules x) (endT x)).isSome=b;obtain ⟨t0,t1,t2,t3⟩:Turn:=(Ahd.aheadO (setOf s.rules x) (endT x)).getD Ahd.noTurn;exact ⟨_,_,_,_,rfl,hb2⟩
theorem eq_flaw (a b:Flaw) (w:World):(Op.equalIn 10000 72 (.agg a.cells.toArray) (.agg b.cells.toArray)).run prog w= .ok (decide (a=b)) w:=by
 cases a
 cases b
 simp [Flaw.cells,go_sem]
 repeat (split;skip)
 all_goals simp_all
def firstF:List Flaw->Flaw
 |[]=>noFlaw
 |f :: t=>if f=noFlaw then firstF t else f
def checkB (s:Src):Flaw:=if srcB s=true then firstF [ordersB s,setsB s,zonesB s (svF s),linksB s,targetsB s] else ⟨1,0,0,0⟩
theorem check_results {w:World} {R0:Nat} {a0 a1 a2 a3:Value} (h:Blk w R0 72 #[a0,a1,a2,a3]) (tmps:Array Value) (ht:tmps[2]?=some (.pointer (some ⟨R0,0,none⟩))):(results Tryz.f35 tmps).run prog w= .ok (.agg #[a0,a1,a2,a3]) w:=by
 have hc:=h.cell;simp [results,Tryz.results35,go_sem,hc,ht]
theorem check_any (s:Src) (A A2 A3:Option Addr) (c c2 c3:Nat) (m:Int) (w:World) (h:SrcOk s A A2 A3 w) (hm:w.cell? ⟨0,0,none⟩=some (.int .i64 m)):
  Calls prog 35 #[.agg #[.slice A s.rules.length c,.slice A2 s.zones.length c2,.slice A3 s.links.length c3]] w fun e w'=>e= .returned (.agg (checkB s).cells.toArray)/\Below w.heap.size w w':=by
 have hR:=fun z (hb:Below w.heap.size w z)=>Src.right_any s A A2 A3 c c2 c3 m z (h.below hb) (cell_later hb hm);have h1:=fun z (hb:Below w.heap.size w z)=>orders_any s A A2 A3 c c2 c3 z (h.below hb);have h2:=fun z (hb:Below w.heap.size w z)=>sets_any s A A2 A3 c c2 c3 z (h.below hb);have h3:=fun (hs:srcB s=true) z (hb:Below w.heap.size w z)=>zones_any s (svF s) A A2 A3 c c2 c3 m z (h.below hb) (cell_later hb hm) hs (ea_any s h.nr);have h4:=fun z (hb:Below w.heap.size w z)=>links_any s A A2 A3 c c2 c3 z (h.below hb);have h5:=fun z (hb:Below w.heap.size w z)=>targets_any s A A2 A3 c c2 c3 z (h.below hb);clear h hm;obtain ⟨Q,hQ⟩:∃ Q,checkB s=Q:=⟨_,rfl⟩;rw [hQ];unfold checkB at hQ;generalize ordersB s=f1 at*;generalize setsB s=f2 at*;generalize zonesB s (svF s)=f3 at*;generalize linksB s=f4 at*;generalize targetsB s=f5 at*;generalize srcB s=sb at*;obtain ⟨rs,zs,ls⟩:=s;simp only at hR h1 h2 h3 h4 h5 ⊢;have hst:=Two.start w #[.slice A rs.length c,.slice A2 zs.length c2,.slice A3 ls.length c3];obtain ⟨W,hW⟩:∃ W,(w.alloc (.cells #[.slice A rs.length c,.slice A2 zs.length c2,.slice A3 ls.length c3] 26)).alloc (.cells #[.int .i64 0,.int .i64 0,.int .i64 0,.int .i64 0] 72)=W:=⟨_,rfl⟩;rw [hW] at hst;have HT:=hid hst;have HR:=hid hR;have c0:=hst.src.cell
 cases sb
 ·rw [if_neg (by decide)] at hQ
  subst hQ;clear hst hR h1 h2 h3 h4 h5;go_enter func35,ntmps35
  go_wp2_with (go_at_call 74;refine (HR.out _ HT.out.bel).mono ?_;rintro e w1 ⟨rfl,hb⟩;have ht:=HT.out.step hb;have fR:=ht.res.frozen;have cR:=ht.res.cell;have HF:=hid (ht.fill (.int .i64 1) (.int .i64 0) (.int .i64 0) (.int .i64 0));clear hb ht)
  refine bodyPost_ret (check_results HF.out.res _ rfl) rfl ?_
  exact ⟨rfl,HF.out.bel⟩
 ·rw [if_pos rfl] at hQ
  have h3':=h3 rfl;have H1:=hid h1;have H2:=hid h2;have H3:=hid h3';have H4:=hid h4;have H5:=hid h5;have HQ:=hid hQ;clear hst hR h1 h2 h3 h3' h4 h5 hQ;go_enter func35,ntmps35
  go_wp2_with (go_at_call 74;refine (HR.out _ HT.out.bel).mono ?_;rintro e w1 ⟨rfl,hb⟩;have ht:=HT.out.step hb;have HT1:=hid ht;clear hb ht c0)
  have HFb:=hid (Blk.new w1 73 #[.func (.func 75) #[] #[],.func (.func 76) #[] #[],.func (.func 77) #[] #[],.func (.func 78) #[] #[],.func (.func 79) #[] #[]]);have HT2:=hid (HT1.out.alloc (.cells #[.func (.func 75) #[] #[],.func (.func 76) #[] #[],.func (.func 77) #[] #[],.func (.func 78) #[] #[],.func (.func 79) #[] #[]] 73));obtain ⟨g,hg⟩:∃ g,g=w1.heap.size:=⟨_,rfl⟩;rw [<-hg] at HFb ⊢;clear HT1 HT HR hW hg
  go_loopw [12] (fun i wr=>∃ k:Nat,k<=5/\i= .int .i64 k/\firstF ([f1,f2,f3,f4,f5].drop k)=Q/\Two w #[.slice A rs.length c,.slice A2 zs.length c2,.slice A3 ls.length c3] #[.int .i64 0,.int .i64 0,.int .i64 0,.int .i64 0] wr/\Blk wr g 73 #[.func (.func 75) #[] #[],.func (.func 76) #[] #[],.func (.func 77) #[] #[],.func (.func 78) #[] #[],.func (.func 79) #[] #[]]) (fun i _=>5 - (intOf i).toNat)
  case atStart=>exact ⟨0,by omega,rfl,HQ.out,HT2.out,HFb.out⟩
  case round=>
   clear HT2 HFb HQ;obtain ⟨k,hk,rfl,hq,ht,hb⟩:=hrel;have HT:=hid ht;have HFb:=hid hb;have cg:=hb.cell;have cs:=ht.src.cell;clear ht hb
   rcases (by omega:k=0\/k=1\/k=2\/k=3\/k=4\/k=5) with rfl|rfl|rfl|rfl|rfl|rfl
   ·obtain ⟨a0,a1,a2,a3⟩:=f1
    simp only [Flaw.cells] at H1;simp only [List.drop_zero,firstF] at hq
    by_cases e:(⟨a0,a1,a2,a3⟩:Flaw)=noFlaw
    ·rw [if_pos e] at hq
     have heq:∀ z,(Op.equalIn 10000 72 (.agg #[.int .i64 a0,.int .i64 a1,.int .i64 a2,.int .i64 a3]) (.agg #[.int .i64 0,.int .i64 0,.int .i64 0,.int .i64 0])).run prog z= .ok true z:=fun z=>by
      have h:=eq_flaw ⟨a0,a1,a2,a3⟩ noFlaw z;rw [decide_eq_true e] at h;exact h
     have Hq:=hid hq;clear e hq
     go_wp2_with (go_at_call 75;refine (H1.out _ HT.out.bel).mono ?_;rintro e w4 ⟨rfl,hb⟩;have HT3:=hid (HT.out.step hb);have HFc:=hid (HFb.out.below hb HFb.out.lt);clear hb)
     exact ⟨⟨1,by omega,rfl,Hq.out,HT3.out.alloc _,HFc.out.alloc _⟩,by simp [intOf]⟩
    ·rw [if_neg e] at hq
     subst hq
     have heq:∀ z,(Op.equalIn 10000 72 (.agg #[.int .i64 a0,.int .i64 a1,.int .i64 a2,.int .i64 a3]) (.agg #[.int .i64 0,.int .i64 0,.int .i64 0,.int .i64 0])).run prog z= .ok false z:=fun z=>by
      have h:=eq_flaw ⟨a0,a1,a2,a3⟩ noFlaw z;rw [decide_eq_false e] at h;exact h
     clear e
     go_wp2_with (go_at_call 75;refine (H1.out _ HT.out.bel).mono ?_;rintro e w4 ⟨rfl,hb⟩;have ht:=(HT.out.step hb).alloc (.cells #[.int .i64 a0,.int .i64 a1,.int .i64 a2,.int .i64 a3] 72);have fR:=ht.res.frozen;have cR:=ht.res.cell;have HF:=hid (ht.fill (.int .i64 a0) (.int .i64 a1) (.int .i64 a2) (.int .i64 a3));clear hb ht)
     refine bodyPost_ret (check_results HF.out.res _ rfl) rfl ?_
     exact ⟨rfl,HF.out.bel⟩
   ·obtain ⟨a0,a1,a2,a3⟩:=f2
    simp only [Flaw.cells] at H2;simp only [List.drop_zero,List.drop_succ_cons,firstF] at hq
    by_cases e:(⟨a0,a1,a2,a3⟩:Flaw)=noFlaw
    ·rw [if_pos e] at hq
     have heq:∀ z,(Op.equalIn 10000 72 (.agg #[.int .i64 a0,.int .i64 a1,.int .i64 a2,.int .i64 a3]) (.agg #[.int .i64 0,.int .i64 0,.int .i64 0,.int .i64 0])).run prog z= .ok true z:=fun z=>by
      have h:=eq_flaw ⟨a0,a1,a2,a3⟩ noFlaw z;rw [decide_eq_true e] at h;exact h
     have Hq:=hid hq;clear e hq
     go_wp2_with (go_at_call 76;refine (H2.out _ HT.out.bel).mono ?_;rintro e w4 ⟨rfl,hb⟩;have HT3:=hid (HT.out.step hb);have HFc:=hid (HFb.out.below hb HFb.out.lt);clear hb)
     exact ⟨⟨2,by omega,rfl,Hq.out,HT3.out.alloc _,HFc.out.alloc _⟩,by simp [intOf]⟩
    ·rw [if_neg e] at hq
     subst hq
     have heq:∀ z,(Op.equalIn 10000 72 (.agg #[.int .i64 a0,.int .i64 a1,.int .i64 a2,.int .i64 a3]) (.agg #[.int .i64 0,.int .i64 0,.int .i64 0,.int .i64 0])).run prog z= .ok false z:=fun z=>by
      have h:=eq_flaw ⟨a0,a1,a2,a3⟩ noFlaw z;rw [decide_eq_false e] at h;exact h
     clear e
     go_wp2_with (go_at_call 76;refine (H2.out _ HT.out.bel).mono ?_;rintro e w4 ⟨rfl,hb⟩;have ht:=(HT.out.step hb).alloc (.cells #[.int .i64 a0,.int .i64 a1,.int .i64 a2,.int .i64 a3] 72);have fR:=ht.res.frozen;have cR:=ht.res.cell;have HF:=hid (ht.fill (.int .i64 a0) (.int .i64 a1) (.int .i64 a2) (.int .i64 a3));clear hb ht)
     refine bodyPost_ret (check_results HF.out.res _ rfl) rfl ?_
     exact ⟨rfl,HF.out.bel⟩
   ·obtain ⟨a0,a1,a2,a3⟩:=f3
    simp only [Flaw.cells] at H3;simp only [List.drop_zero,List.drop_succ_cons,firstF] at hq
    by_cases e:(⟨a0,a1,a2,a3⟩:Flaw)=noFlaw
    ·rw [if_pos e] at hq
     have heq:∀ z,(Op.equalIn 10000 72 (.agg #[.int .i64 a0,.int .i64 a1,.int .i64 a2,.int .i64 a3]) (.agg #[.int .i64 0,.int .i64 0,.int .i64 0,.int .i64 0])).run prog z= .ok true z:=fun z=>by
      have h:=eq_flaw ⟨a0,a1,a2,a3⟩ noFlaw z;rw [decide_eq_true e] at h;exact h
     have Hq:=hid hq;clear e hq
     go_wp2_with (go_at_call 77;refine (H3.out _ HT.out.bel).mono ?_;rintro e w4 ⟨rfl,hb⟩;have HT3:=hid (HT.out.step hb);have HFc:=hid (HFb.out.below hb HFb.out.lt);clear hb)
     exact ⟨⟨3,by omega,rfl,Hq.out,HT3.out.alloc _,HFc.out.alloc _⟩,by simp [intOf]⟩
    ·rw [if_neg e] at hq
     subst hq
     have heq:∀ z,(Op.equalIn 10000 72 (.agg #[.int .i64 a0,.int .i64 a1,.int .i64 a2,.int .i64 a3]) (.agg #[.int .i64 0,.int .i64 0,.int .i64 0,.int .i64 0])).run prog z= .ok false z:=fun z=>by
      have h:=eq_flaw ⟨a0,a1,a2,a3⟩ noFlaw z;rw [decide_eq_false e] at h;exact h
     clear e
     go_wp2_with (go_at_call 77;refine (H3.out _ HT.out.bel).mono ?_;rintro e w4 ⟨rfl,hb⟩;have ht:=(HT.out.step hb).alloc (.cells #[.int .i64 a0,.int .i64 a1,.int .i64 a2,.int .i64 a3] 72);have fR:=ht.res.frozen;have cR:=ht.res.cell;have HF:=hid (ht.fill (.int .i64 a0) (.int .i64 a1) (.int .i64 a2) (.int .i64 a3));clear hb ht)
     refine bodyPost_ret (check_results HF.out.res _ rfl) rfl ?_
     exact ⟨rfl,HF.out.bel⟩
   ·obtain ⟨a0,a1,a2,a3⟩:=f4
    simp only [Flaw.cells] at H4;simp only [List.drop_zero,List.drop_succ_cons,firstF] at hq
    by_cases e:(⟨a0,a1,a2,a3⟩:Flaw)=noFlaw
    ·rw [if_pos e] at hq
     have heq:∀ z,(Op.equalIn 10000 72 (.agg #[.int .i64 a0,.int .i64 a1,.int .i64 a2,.int .i64 a3]) (.agg #[.int .i64 0,.int .i64 0,.int .i64 0,.int .i64 0])).run prog z= .ok true z:=fun z=>by
      have h:=eq_flaw ⟨a0,a1,a2,a3⟩ noFlaw z;rw [decide_eq_true e] at h;exact h
     have Hq:=hid hq;clear e hq
     go_wp2_with (go_at_call 78;refine (H4.out _ HT.out.bel).mono ?_;rintro e w4 ⟨rfl,hb⟩;have HT3:=hid (HT.out.step hb);have HFc:=hid (HFb.out.below hb HFb.out.lt);clear hb)
     exact ⟨⟨4,by omega,rfl,Hq.out,HT3.out.alloc _,HFc.out.alloc _⟩,by simp [intOf]⟩
    ·rw [if_neg e] at hq
     subst hq
     have heq:∀ z,(Op.equalIn 10000 72 (.agg #[.int .i64 a0,.int .i64 a1,.int .i64 a2,.int .i64 a3]) (.agg #[.int .i64 0,.int .i64 0,.int .i64 0,.int .i64 0])).run prog z= .ok false z:=fun z=>by
      have h:=eq_flaw ⟨a0,a1,a2,a3⟩ noFlaw z;rw [decide_eq_false e] at h;exact h
     clear e
     go_wp2_with (go_at_call 78;refine (H4.out _ HT.out.bel).mono ?_;rintro e w4 ⟨rfl,hb⟩;have ht:=(HT.out.step hb).alloc (.cells #[.int .i64 a0,.int .i64 a1,.int .i64 a2,.int .i64 a3] 72);have fR:=ht.res.frozen;have cR:=ht.res.cell;have HF:=hid (ht.fill (.int .i64 a0) (.int .i64 a1) (.int .i64 a2) (.int .i64 a3));clear hb ht)
     refine bodyPost_ret (check_results HF.out.res _ rfl) rfl ?_
     exact ⟨rfl,HF.out.bel⟩
   ·obtain ⟨a0,a1,a2,a3⟩:=f5
    simp only [Flaw.cells] at H5;simp only [List.drop_zero,List.drop_succ_cons,firstF] at hq
    by_cases e:(⟨a0,a1,a2,a3⟩:Flaw)=noFlaw
    ·rw [if_pos e] at hq
     have heq:∀ z,(Op.equalIn 10000 72 (.agg #[.int .i64 a0,.int .i64 a1,.int .i64 a2,.int .i64 a3]) (.agg #[.int .i64 0,.int .i64 0,.int .i64 0,.int .i64 0])).run prog z= .ok true z:=fun z=>by
      have h:=eq_flaw ⟨a0,a1,a2,a3⟩ noFlaw z;rw [decide_eq_true e] at h;exact h
     have Hq:=hid hq;clear e hq
     go_wp2_with (go_at_call 79;refine (H5.out _ HT.out.bel).mono ?_;rintro e w4 ⟨rfl,hb⟩;have HT3:=hid (HT.out.step hb);have HFc:=hid (HFb.out.below hb HFb.out.lt);clear hb)
     exact ⟨⟨5,by omega,rfl,Hq.out,HT3.out.alloc _,HFc.out.alloc _⟩,by simp [intOf]⟩
    ·rw [if_neg e] at hq
     subst hq
     have heq:∀ z,(Op.equalIn 10000 72 (.agg #[.int .i64 a0,.int .i64 a1,.int .i64 a2,.int .i64 a3]) (.agg #[.int .i64 0,.int .i64 0,.int .i64 0,.int .i64 0])).run prog z= .ok false z:=fun z=>by
      have h:=eq_flaw ⟨a0,a1,a2,a3⟩ noFlaw z;rw [decide_eq_false e] at h;exact h
     clear e
     go_wp2_with (go_at_call 79;refine (H5.out _ HT.out.bel).mono ?_;rintro e w4 ⟨rfl,hb⟩;have ht:=(HT.out.step hb).alloc (.cells #[.int .i64 a0,.int .i64 a1,.int .i64 a2,.int .i64 a3] 72);have fR:=ht.res.frozen;have cR:=ht.res.cell;have HF:=hid (ht.fill (.int .i64 a0) (.int .i64 a1) (.int .i64 a2) (.int .i64 a3));clear hb ht)
     refine bodyPost_ret (check_results HF.out.res _ rfl) rfl ?_
     exact ⟨rfl,HF.out.bel⟩
   ·simp only [List.drop_succ_cons,List.drop_nil,firstF] at hq
    subst hq;have fR:=HT.out.res.frozen;have cR:=HT.out.res.cell;have HF:=hid (HT.out.fill (.int .i64 0) (.int .i64 0) (.int .i64 0) (.int .i64 0))
    go_wp2_with fail
    refine bodyPost_ret (check_results HF.out.res _ rfl) rfl ?_
    exact ⟨rfl,HF.out.bel⟩
end Snd
end
end
section
section
namespace Cmq
open Go.RowKit Mem Civ Mom Img Rul Ahd Trn Src Snd Att Rgt Abr
def savE (rs:List Rule) (x:Era) (t:Int):Int×ByteArray:=
 if x.kind=2 then forceP (setOf rs x) x.off t else if x.kind=1 then (x.save,⟨#[]⟩) else (0,⟨#[]⟩)
def phaseE (rs:List Rule) (x:Era) (t:Int):Phase:=
 ⟨x.off+(savE rs x t).1,(savE rs x t).1,abbrB x.format (savE rs x t).2 (x.off+(savE rs x t).1) (savE rs x t).1⟩
def phaseU (x:Era) (t:TurnU):Phase:=⟨x.off+t.save,t.save,abbrB x.format t.letter (x.off+t.save) t.save⟩
def lastE (rs:List Rule) (y:Int) (x:Era):Int:=(setL rs x.rules).foldl lastY1 (max y x.year)
def lastZ (rs:List Rule) (es:List Era):Int:=es.foldl (lastE rs) 2037
def lastPh (first:Phase):List Shift->Phase
 |[]=>first
 |[s]=>s.ph
 |_ :: s :: ss=>lastPh first (s :: ss)
def cutAt (at_:Int) (ss:List Shift):List Shift:=match ss.getLast? with
 |some s=>if s.sec=at_ then ss.dropLast else ss
 |none=>ss
def putP (first:Phase) (till:Int) (m:List Shift×Bool) (at_:Int) (p:Phase):List Shift×Bool:=
 if till<=at_\/p=lastPh first (cutAt at_ m.1) then (cutAt at_ m.1,m.2)
 else if m.2=true\/(cutAt at_ m.1).length=30000 then (cutAt at_ m.1,true)
 else (cutAt at_ m.1++[⟨at_,p⟩],m.2)
def turnPut (first:Phase) (till:Int) (x:Era) (a b:Int) (m:List Shift×Bool) (t:TurnU):List Shift×Bool:=
 if t.at_<=a\/x.till=true/\b<=t.at_ then m else putP first till m t.at_ (phaseU x t)
def eraEnd (s:Src) (x:Era):Int:=endP (svF s) x
def turnsE (rs:List Rule) (year:Int) (x:Era):List TurnU:=turnsP (setL rs x.rules) x.off (year+3)
def eraPut (s:Src) (first:Phase) (till year:Int) (i:Bool) (m:(List Shift×Bool)×Int) (x:Era):(List Shift×Bool)×Int:=
 ((turnsE s.rules year x).foldl (turnPut first till x m.2 (eraEnd s x)) (if i=true then putP first till m.1 m.2 (phaseE s.rules x m.2) else m.1),eraEnd s x)
def everT:Int:= -9000000000000
def untilZ (year:Int):Int:=(daysO (year+3) 1 1).getD 0*86400
def erasPut (s:Src) (first:Phase) (till year:Int):List Era->Bool->(List Shift×Bool)×Int->(List Shift×Bool)×Int
 |[],_,m=>m
 |x :: es,i,m=>erasPut s first till year es true (eraPut s first till year i m x)
def tailZ (rs:List Rule) (es:List Era):List Rule:=match es.getLast? with
 |some e=>(setL rs e.rules).filter fun r=>decide (r.hi=1000000)
 |none=>[]
def offZ (rs:List Rule) (es:List Era):Int:=match es.getLast? with
 |some e=>if (tailZ rs es).length=0 then 0 else e.off
 |none=>0
def formatZ (rs:List Rule) (es:List Era):ByteArray:=match es.getLast? with
 |some e=>if (tailZ rs es).length=0 then ⟨#[]⟩ else e.format
 |none=>⟨#[]⟩
def firstZ (rs:List Rule) (es:List Era):Phase:=match es with
 |x :: _=>phaseE rs x everT
 |[]=>⟨0,0,⟨#[]⟩⟩
def noTable:Table:=⟨⟨#[]⟩,⟨0,0,⟨#[]⟩⟩,[],0,[],0,⟨#[]⟩⟩
def madeZ (s:Src) (z:ZoneM):(List Shift×Bool)×Int:=
 erasPut s (firstZ s.rules z.eras) (untilZ (lastZ s.rules z.eras)) (lastZ s.rules z.eras) z.eras false (([],false),everT)
def tableZ (s:Src) (z:ZoneM):Table:=
 ⟨z.name,firstZ s.rules z.eras,(madeZ s z).1.1,untilZ (lastZ s.rules z.eras),tailZ s.rules z.eras,offZ s.rules z.eras,formatZ s.rules z.eras⟩
def compileP (s:Src) (zone:Int):Table×Int:=
 if checkB s=noFlaw/\0<=zone then (match s.zones[zone.toNat]? with
  |some z=>if (madeZ s z).1.2=true then (noTable,12) else (tableZ s z,0)
  |none=>(noTable,1)) else (noTable,1)
end Cmq
end
end
end Go.Proofs.YtadamccojdocbaaGreatDoor
