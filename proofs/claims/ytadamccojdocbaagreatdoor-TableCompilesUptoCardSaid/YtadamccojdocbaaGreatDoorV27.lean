/-
  Contracts of the code that the law reaches, and plain laws. Conditions: as each says.
-/
import Derived.Test.YtadamccojdocbaaGreatDoorV26
import Derived.Test.YtadamccojdocbaaGreatDoorV24
set_option linter.all false
set_option maxHeartbeats 40000000
set_option maxRecDepth 100000
namespace Go.Proofs.YtadamccojdocbaaGreatDoor
open Lib (hid)
open Tryz
section
section
namespace Snd
open Go.RowKit Mem Civ Mom Img Plc Rul Src Go.Maps
theorem ruleB_of {r:Rule} (h:ruleR r=true):ruleB r=true:=by
 unfold ruleR yearB savingB at h;simp only [Bool.and_eq_true,Bool.or_eq_true,decide_eq_true_eq] at h;obtain ⟨_,h1,h2,h3,h4,_⟩:=h;unfold ruleB ruleP yearP;exact decide_eq_true ⟨h1,h2,spotB_ok h3,h4.1,h4.2⟩
theorem right_rules {s:Src} (hs:srcB s=true):rulesB s.rules=true:=by
 unfold srcB at hs;simp only [Bool.and_eq_true] at hs;have h:=hs.2.1;rw [List.all_eq_true] at h;exact List.all_eq_true.2 fun r hr=>ruleB_of (h r hr)
theorem right_nr {s:Src} (hs:srcB s=true):s.rules.length<=200/\s.zones.length<=50/\s.links.length<=100:=by
 unfold srcB at hs;simp only [Bool.and_eq_true,Bool.not_eq_true',decide_eq_false_iff_not] at hs;obtain ⟨⟨h1,h2,h3⟩,_⟩:=hs;omega
theorem eras_all {es:List Era}:∀ {n:Nat},erasOk es n=true->∀ j (hj:j<es.length),j<n->eraB es[j]=true/\es[j].till=decide (((j:Nat):Int)<(es.length:Int) - 1)
 |0,_,_,_,h=>absurd h (Nat.not_lt_zero _)
 |n+1,h,j,hj,hjn=>by
  rw [erasOk,Bool.and_eq_true] at h
  by_cases e:j=n
  ·subst e
   have h2:=h.2
   rw [List.getElem?_eq_getElem hj] at h2
   simp only [Bool.and_eq_true,beq_iff_eq] at h2;exact h2
  ·exact eras_all h.1 j hj (by omega)
theorem right_eras {s:Src} (hs:srcB s=true) {z:ZoneM} (hz:z∈s.zones) {j:Nat} (hj:j<z.eras.length):eraB z.eras[j]=true/\z.eras[j].till=decide (((j:Nat):Int)<(z.eras.length:Int) - 1):=by
 unfold srcB at hs;simp only [Bool.and_eq_true] at hs;have h:=List.all_eq_true.1 hs.2.2.1 z hz;unfold zoneB at h;simp only [Bool.and_eq_true] at h;exact eras_all h.2.2.2 j hj hj
theorem till_ref {x:Era} (h:eraB x=true) (ht:x.till=true):0<=x.spot.ref/\x.spot.ref<=2:=by
 unfold eraB tillB at h;simp only [Bool.and_eq_true] at h;have h2:=h.2.2;rw [if_pos ht,Bool.and_eq_true] at h2;obtain ⟨_,_,_,_,_,_,h7,h8,_⟩:=spotB_ok h2.2;exact ⟨h7,h8⟩
structure Tb (w:World) (cs zc ec:Array Value) (W:World):Prop where
 src:Blk W w.heap.size 26 cs
 zn:Blk W (w.heap.size+1) 65 zc
 era:Blk W (w.heap.size+1+1) 84 ec
 bel:Below w.heap.size w W
theorem Tb.step {w W W':World} {cs zc ec:Array Value} (h:Tb w cs zc ec W) (hb:Below W.heap.size W W'):Tb w cs zc ec W':=
 ⟨h.src.below hb h.src.lt,h.zn.below hb h.zn.lt,h.era.below hb h.era.lt,h.bel.trans (hb.mono h.bel.size)⟩
theorem Tb.drew {w W:World} {cs zc ec:Array Value} (h:Tb w cs zc ec W):Tb w cs zc ec W.drew:=⟨h.src.drew,h.zn.drew,h.era.drew,h.bel.drew⟩
theorem Tb.start (w:World) (cs zc ec:Array Value):Tb w cs zc ec (((w.alloc (.cells cs 26)).alloc (.cells zc 65)).alloc (.cells ec 84)):=by
 obtain ⟨h1,h2,h3,h4,_⟩:=box3 w 26 65 84 cs zc ec;exact ⟨h1,h2,h3,h4⟩
theorem all_next {p:Rule->Bool} {rs:List Rule} {k:Nat} (hk:k<rs.length) (h:(rs.take k).all p=true) (h2:p rs[k]=true):(rs.take (k+1)).all p=true:=by
 rw [all_step _ _ _ hk h];exact h2
def eraD (rs:List Rule) (x:Era) (late:Bool):Int:=
 if x.kind=2/\(setL rs x.rules).length=0 then 8
 else if x.kind=2/\farB x.off (setL rs x.rules)=true then 11
 else if Rgt.dayB (wrap64 (x.off+x.save))=false then 11
 else if late=true then 16 else 0
def lateB (sv:Era->Int) (es:List Era) (k:Nat):Bool:=match k,es[k]? with
 |j+1,some x=>match es[j]? with
  |some y=>x.till && decide (endI x (sv x)<=endI y (sv y))
  |none=>false
 |_,_=>false
theorem eraAt_is {s:Src} (hs:srcB s=true) {z:ZoneM} (hz:z∈s.zones) {k:Nat} (hk:k<z.eras.length) (sv:Era->Int):eraAt s.rules sv z.eras k=eraD s.rules z.eras[k] (lateB sv z.eras k):=by
 have e1:∀ (c d:Prop) [Decidable c] [Decidable d],(c↔d)->∀ a b:Int,(if c then a else b)=if d then a else b:=fun c d _ _ h a b=>by
  by_cases hc:c
  ·rw [if_pos hc,if_pos (h.1 hc)]
  ·rw [if_neg hc,if_neg fun hd=>hc (h.2 hd)]
 unfold eraAt
 rw [List.getElem?_eq_getElem hk]
 simp only;unfold eraE eraD
 congr 1
 congr 1
 congr 1
 refine e1 _ _ ?_ _ _
 unfold lateB
 cases k with
 |zero=>simp [prevP]
 |succ j=>
  have hj:j<z.eras.length:=by omega
  have ht:z.eras[j].till=true:=by
   rw [(right_eras hs hz hj).2]
   exact decide_eq_true (by omega)
  simp only [prevP,List.getElem?_eq_getElem hj,List.getElem?_eq_getElem hk,ht,true_and]
  unfold endP;rw [if_pos ht]
  cases hx:z.eras[j+1].till
  ·simp
  ·simp
theorem rera_any (s:Src) (A A2 A3:Option Addr) (c c2 c3:Nat) (z:ZoneM) (k:Nat) (w:World) (h:SrcOk s A A2 A3 w) (hz:z∈s.zones) (hk:k<z.eras.length) (hs:srcB s=true):
  Calls prog 100 #[.agg #[.slice A s.rules.length c,.slice A2 s.zones.length c2,.slice A3 s.links.length c3],.agg #[.string z.name,.slice z.A z.eras.length z.c],.int .i64 k] w fun e w'=>e= .returned (.int .i64 (eraAt s.rules (svF s) z.eras k))/\Below w.heap.size w w':=by
 rw [eraAt_is hs hz hk];have hru:=right_rules hs;have hre:=h.re z hz;have hne:=h.ne z hz;have nr:=h.nr;have HS:=hid (fun z2 (hb:Below w.heap.size w z2)=>rset_any s A A2 A3 c c2 c3 z.eras[k].rules z2 (h.below hb));have HX1:=hid (fun (ht:z.eras[k].till=true) z2 (hb:Below w.heap.size w z2)=>rend_any s A A2 A3 c c2 c3 z.eras[k] z2 (h.below hb) hru (till_ref (right_eras hs hz hk).1 ht))
 have hX2:∀ j (hj:j<z.eras.length),j+1=k->∀ z2,Below w.heap.size w z2->Calls prog 104 #[.agg #[.slice A s.rules.length c,.slice A2 s.zones.length c2,.slice A3 s.links.length c3],.agg (z.eras[j]'hj).cells.toArray] z2 fun e w'=>e= .returned (.int .i64 (endI (z.eras[j]'hj) (svF s (z.eras[j]'hj))))/\Below z2.heap.size z2 w':=fun j hj e z2 hb=>
  rend_any s A A2 A3 c c2 c3 z.eras[j] z2 (h.below hb) hru (till_ref (right_eras hs hz hj).1 (by rw [(right_eras hs hz hj).2];exact decide_eq_true (by omega)))
 have HX2:=hid hX2;have hlate:lateB (svF s) z.eras k=lateB (svF s) z.eras k:=rfl;clear h hz hs hru hX2;generalize svF s=sv at*;obtain ⟨z0,es,Az,cz⟩:=z;simp only at hk hre hne HS HX1 HX2 ⊢;obtain ⟨rs,zs,ls⟩:=s;simp only at nr HS HX1 HX2 ⊢;have HRe:=hid hre;clear hre hlate;obtain ⟨LB,hLB⟩:∃ LB,lateB sv es k=LB:=⟨_,rfl⟩;rw [hLB];obtain ⟨Q,hQ⟩:∃ Q,eraD rs es[k] LB=Q:=⟨_,rfl⟩;rw [hQ];unfold eraD at hQ;obtain ⟨ad0,hA0,hadb0,_⟩:=era_cells HRe.out hk rfl;subst hA0;have HEc:=hid (fun z2 (hb:Below w.heap.size w z2) j hj=>era_cells (k:=j) (HRe.out.below hb) hj rfl);have hb2:=box2 w 26 65 #[.slice A rs.length c,.slice A2 zs.length c2,.slice A3 ls.length c3] #[.string z0,.slice (some ad0) es.length cz];have htb:=Tb.start w #[.slice A rs.length c,.slice A2 zs.length c2,.slice A3 ls.length c3] #[.string z0,.slice (some ad0) es.length cz] es[k].cells.toArray
 have hl2:LB=true->k≠0/\es[k].till=true:=fun h=>by
  rw [<-hLB] at h;unfold lateB at h
  cases k with
  |zero=>cases h
  |succ j=>
   rw [List.getElem?_eq_getElem hk] at h
   simp only at h
   refine ⟨by omega,?_⟩
   split at h
   ·rw [Bool.and_eq_true] at h;exact h.1
   ·cases h
 have hl3:∀ j (hj:j<es.length),j+1=k->es[k].till=true->LB=decide (endI es[k] (sv es[k])<=endI (es[j]'hj) (sv (es[j]'hj))):=fun j hj e ht=>by
  subst e;rw [<-hLB];unfold lateB
  simp only [List.getElem?_eq_getElem hk,List.getElem?_eq_getElem hj,ht,Bool.true_and]
 have HL2:=hid hl2;have HL3:=hid hl3;clear hl2 hl3 hLB;obtain ⟨x,hx⟩:∃ x,x=es[k]:=⟨_,rfl⟩;obtain ⟨ad',hA',_,d⟩:=HEc.out _ hb2.2.2.1 k hk
 obtain rfl:ad0=ad':=by injection hA'
 rw [<-hx] at d htb hQ HS HX1 HL2 HL3;clear hx hA' HRe;obtain ⟨x0,x1,x2,x3,x4,x5,x6,⟨y0,y1,y2,y3,y4,y5⟩⟩:=x;simp only [Era.cells] at d htb hQ HS HX1 HL2 HL3;obtain ⟨d0,d1,d2,d3,d4,d5,d6,d7,d8,d9,d10,d11,d12⟩:=d;obtain ⟨W2,hW2⟩:∃ W2,(w.alloc (.cells #[.slice A rs.length c,.slice A2 zs.length c2,.slice A3 ls.length c3] 26)).alloc (.cells #[.string z0,.slice (some ad0) es.length cz] 65)=W2:=⟨_,rfl⟩;rw [hW2] at d0 d1 d2 d3 d4 d5 d6 d7 d8 d9 d10 d11 d12 htb hb2
 have hsz2:W2.heap.size=w.heap.size+1+1:=by rw [<-hW2];simp
 obtain ⟨W3,hW3⟩:∃ W3,W2.alloc (.cells #[.int .i64 x0,.int .i64 x1,.int .i64 x2,.string x3,.string x4,.bool x5,.int .i64 x6,.int .i64 y0,.int .i64 y1,.int .i64 y2,.int .i64 y3,.int .i64 y4,.int .i64 y5] 84)=W3:=⟨_,rfl⟩;rw [hW3] at htb;have czc:=hb2.2.1.cell;have HT:=hid htb;have HQ:=hid hQ;clear htb hQ hb2;go_enter func100,ntmps100
 go_upto_region 2 with fail
 clear d0 d1 d2 d3 d4 d5 d6 d7 d8 d9 d10 d11 d12 hW2 hW3 hsz2;clear czc;have ce:=HT.out.era.cell;have cs:=HT.out.src.cell
 by_cases hk2:x1=2
 ·subst hk2
  have hq:=HQ.out;simp only [true_and] at hq;have hLn:(setL rs x3).length<=1000000:=Nat.le_trans (setL_len _ _) nr;generalize setL rs x3=L at*
  by_cases hn:L.length=0
  ·rw [if_pos hn] at hq
   subst hq
   have hnb:(((L.length:Nat):Int) == 0)=true:=by rw [hn];rfl
   clear HQ HL2 HL3 HX1 HX2
   go_wp2_with (go_at_call 49;refine (HS.out _ HT.out.bel).mono ?_;rintro e w4 ⟨v,rfl,hown,hb⟩;obtain ⟨Av,cv,rfl⟩:=own_slice hown;have HT4:=hid (HT.out.step hb);clear hb hown)
   go_ret;exact ⟨rfl,HT4.out.bel⟩
  rw [if_neg hn] at hq
  have hnb:(((L.length:Nat):Int) == 0)=false:=by rw [beq_eq_false_iff_ne];omega
  have HQ2:=hid hq;clear HQ hq
  go_wp2_with (go_at_call 49;refine (HS.out _ HT.out.bel).mono ?_;rintro e w4 ⟨v,rfl,hown,hb⟩;obtain ⟨Av,cv,rfl⟩:=own_slice hown;have HRv:=hid (Reads.of_own hown);have HT4:=hid (HT.out.step hb);clear hb hown)
  clear ce cs HT HS
  go_loopw [9] (fun i wr=>∃ n:Nat,n<=L.length/\i= .int .i64 n/\(L.take n).all (fun r=>Rgt.dayB (wrap64 (x0+r.save)))=true/\Tb w #[.slice A rs.length c,.slice A2 zs.length c2,.slice A3 ls.length c3] #[.string z0,.slice (some ad0) es.length cz] #[.int .i64 x0,.int .i64 2,.int .i64 x2,.string x3,.string x4,.bool x5,.int .i64 x6,.int .i64 y0,.int .i64 y1,.int .i64 y2,.int .i64 y3,.int .i64 y4,.int .i64 y5] wr/\Below w4.heap.size w4 wr) (fun i _=>L.length - (intOf i).toNat)
  case atStart=>exact ⟨0,Nat.zero_le _,rfl,rfl,HT4.out,Below.refl _ _⟩
  case round=>
   clear HT4;obtain ⟨n,hnl,rfl,hall,ht,hb4⟩:=hrel;have HT:=hid ht;have HB4:=hid hb4;have Hall:=hid hall;clear ht hb4 hall
   by_cases hnn:n<L.length
   ·obtain ⟨av,hAv,hvb,_⟩:=rule_cells (HRv.out.below HB4.out) hnn
    subst hAv;have HRc:=hid (fun z (hb:Below w4.heap.size w4 z)=>rule_cells (HRv.out.below hb) hnn);have HBy:=hid (fun z=>beyond_any (wrap64 (x0+L[n].save)) z)
    have hfar:Rgt.dayB (wrap64 (x0+L[n].save))=false->farB x0 L=true:=fun e=>by
     unfold farB
     rw [List.all_eq_false.2 ⟨L[n],List.getElem_mem hnn,by rw [e];decide⟩]
     rfl
    have hnx:Rgt.dayB (wrap64 (x0+L[n].save))=true->(L.take (n+1)).all (fun r=>Rgt.dayB (wrap64 (x0+r.save)))=true:=fun e=>all_next (p:=fun r=>Rgt.dayB (wrap64 (x0+r.save))) hnn Hall.out e;have HFar:=hid hfar;have HNx:=hid hnx;obtain ⟨Cls,hCls⟩:∃ C:World->Prop,C=fun z=>Tb w #[.slice A rs.length c,.slice A2 zs.length c2,.slice A3 ls.length c3] #[.string z0,.slice (some ad0) es.length cz] #[.int .i64 x0,.int .i64 2,.int .i64 x2,.string x3,.string x4,.bool x5,.int .i64 x6,.int .i64 y0,.int .i64 y1,.int .i64 y2,.int .i64 y3,.int .i64 y4,.int .i64 y5] z/\Below w4.heap.size w4 z:=⟨_,rfl⟩
    have hC:∀ z,Cls z->Tb w #[.slice A rs.length c,.slice A2 zs.length c2,.slice A3 ls.length c3] #[.string z0,.slice (some ad0) es.length cz] #[.int .i64 x0,.int .i64 2,.int .i64 x2,.string x3,.string x4,.bool x5,.int .i64 x6,.int .i64 y0,.int .i64 y1,.int .i64 y2,.int .i64 y3,.int .i64 y4,.int .i64 y5] z/\Below w4.heap.size w4 z:=fun z h=>by rw [hCls] at h;exact h
    have hstart:Cls wr.drew:=by rw [hCls];exact ⟨HT.out.drew,HB4.out.drew⟩
    have inst:Nonempty (Qt.In Cls):=⟨⟨_,hstart⟩⟩;have ge:∀ (z:Qt.In Cls) (i:Nat),z.w.cell? ⟨w.heap.size+1+1,i,none⟩=#[.int .i64 x0,.int .i64 2,.int .i64 x2,.string x3,.string x4,.bool x5,.int .i64 x6,.int .i64 y0,.int .i64 y1,.int .i64 y2,.int .i64 y3,.int .i64 y4,.int .i64 y5][i]?:=fun z i=>(hC z.w z.h).1.era.cell i
    have gr:∀ (z:Qt.In Cls),z.w.cell? ⟨(av.add (n*11)).block,(av.add (n*11)).off+9,none⟩=some (.int .i64 L[n].save):=fun z=>by
     obtain ⟨av',e,_,q⟩:=HRc.out z.w (hC z.w z.h).2
     obtain rfl:av=av':=by injection e
     exact q.2.2.2.2.2.2.2.2.2.1
    generalize L[n].save=sn at*;generalize Rgt.dayB (wrap64 (x0+sn))=dn at*
    have HByc:Hid (∀ z,Cls z->Calls prog 158 #[.int .i64 (wrap64 (x0+sn))] z fun e z'=>e= .returned (.bool (!dn))/\Cls z'):=fun z h=>(HBy.out z).mono fun e z' ⟨he,hb⟩=>⟨he,by subst hb;exact h⟩
    have HCx:=hid hC;have HS:=hid hstart;clear hC hCls hstart hfar hnx HRc HBy
    cases dn
    ·have hq:=HQ2.out
     rw [if_pos (HFar.out rfl)] at hq;subst hq;clear HQ2 HFar HNx HL2 HL3 HX1 HX2;go_wp2
     refine Qt.wp_region_cls Cls (by kernel_rfl) (by kernel_rfl) HS.out ?_
     repeat (go_big_quiet_step (fail))
     go_big_quiet_step (exact Qt.quiet_cls (HByc.out _ (Qt.In.h _)))
     repeat (go_big_quiet_step (fail))
     refine wpQuiet_nil ?_
     rintro wq ⟨⟨w9,hq9⟩,e9⟩
     have HX:=hid (HCx.out wq (by rw [e9];exact hq9))
     clear hq9 e9 ge gr;go_wp2;go_ret;exact ⟨rfl,HX.out.1.bel⟩
    ·have hnx:=HNx.out rfl
     have HNy:=hid hnx;clear hnx HFar HNx;go_wp2
     refine Qt.wp_region_cls Cls (by kernel_rfl) (by kernel_rfl) HS.out ?_
     repeat (go_big_quiet_step (fail))
     go_big_quiet_step (exact Qt.quiet_cls (HByc.out _ (Qt.In.h _)))
     repeat (go_big_quiet_step (fail))
     refine wpQuiet_nil ?_
     rintro wq ⟨⟨w9,hq9⟩,e9⟩
     have HX:=hid (HCx.out wq (by rw [e9];exact hq9))
     clear hq9 e9 ge gr;go_wp2
     exact ⟨⟨n+1,by omega,by go_num,HNy.out,HX.out.1,HX.out.2⟩,by simp [intOf];omega⟩
   ·obtain rfl:n=L.length:=by omega
    have hall:=Hall.out;rw [List.take_length] at hall
    have hf:farB x0 L=false:=by unfold farB;rw [hall];rfl
    have hq2:=HQ2.out
    rw [hf,if_neg (by decide)] at hq2
    have HQn:=hid hq2.symm;clear hall hf hq2 HQ2 Hall;have HBy:=hid (fun z=>beyond_any (wrap64 (x0+x2)) z);have hq:=HQn.out;have ce:=HT.out.era.cell;generalize Rgt.dayB (wrap64 (x0+x2))=dB at*
    cases dB
    ·rw [if_pos rfl] at hq
     subst hq;clear HQn HL2 HL3
     go_wp2_with (go_at_call 158;refine (HBy.out _).mono ?_;rintro e w5 ⟨rfl,rfl⟩)
     go_ret;exact ⟨rfl,HT.out.bel⟩
    rw [if_neg (by decide)] at hq
    by_cases hk0:k=0
    ·have hLB:LB=false:=by cases hh:LB with|false=>rfl|true=>exact absurd hk0 (HL2.out hh).1
     rw [hLB,if_neg (by decide)] at hq
     subst hq
     have hkb:decide (0<k)=false:=decide_eq_false (by omega)
     clear HQn HL2 HL3 hk0
     go_wp2_with (go_at_call 158;refine (HBy.out _).mono ?_;rintro e w5 ⟨rfl,rfl⟩)
     obtain ⟨Cls,hCls⟩:∃ C:World->Prop,C=Tb w #[.slice A rs.length c,.slice A2 zs.length c2,.slice A3 ls.length c3] #[.string z0,.slice (some ad0) es.length cz] #[.int .i64 x0,.int .i64 2,.int .i64 x2,.string x3,.string x4,.bool x5,.int .i64 x6,.int .i64 y0,.int .i64 y1,.int .i64 y2,.int .i64 y3,.int .i64 y4,.int .i64 y5]:=⟨_,rfl⟩
     have hC:∀ z,Cls z->Tb w #[.slice A rs.length c,.slice A2 zs.length c2,.slice A3 ls.length c3] #[.string z0,.slice (some ad0) es.length cz] #[.int .i64 x0,.int .i64 2,.int .i64 x2,.string x3,.string x4,.bool x5,.int .i64 x6,.int .i64 y0,.int .i64 y1,.int .i64 y2,.int .i64 y3,.int .i64 y4,.int .i64 y5] z:=fun z h=>by rw [hCls] at h;exact h
     have hin:∀ z,Tb w #[.slice A rs.length c,.slice A2 zs.length c2,.slice A3 ls.length c3] #[.string z0,.slice (some ad0) es.length cz] #[.int .i64 x0,.int .i64 2,.int .i64 x2,.string x3,.string x4,.bool x5,.int .i64 x6,.int .i64 y0,.int .i64 y1,.int .i64 y2,.int .i64 y3,.int .i64 y4,.int .i64 y5] z->Cls z:=fun z h=>by rw [hCls];exact h
     have hstart:=hin _ HT.out.drew;have inst:Nonempty (Qt.In Cls):=⟨⟨_,hstart⟩⟩;have gs:∀ (z:Qt.In Cls) (i:Nat),z.w.cell? ⟨w.heap.size,i,none⟩=#[.slice A rs.length c,.slice A2 zs.length c2,.slice A3 ls.length c3][i]?:=fun z i=>(hC z.w z.h).src.cell i;have gz:∀ (z:Qt.In Cls) (i:Nat),z.w.cell? ⟨w.heap.size+1,i,none⟩=#[.string z0,.slice (some ad0) es.length cz][i]?:=fun z i=>(hC z.w z.h).zn.cell i;have ge:∀ (z:Qt.In Cls) (i:Nat),z.w.cell? ⟨w.heap.size+1+1,i,none⟩=#[.int .i64 x0,.int .i64 2,.int .i64 x2,.string x3,.string x4,.bool x5,.int .i64 x6,.int .i64 y0,.int .i64 y1,.int .i64 y2,.int .i64 y3,.int .i64 y4,.int .i64 y5][i]?:=fun z i=>(hC z.w z.h).era.cell i;have HCx:=hid hC;have HS:=hid hstart;have HCe:=hid hCls;clear hC hstart hCls hin
     refine Qt.wp_region_cls Cls (by kernel_rfl) (by kernel_rfl) HS.out ?_
     repeat (go_big_quiet_step (fail))
     refine wpQuiet_nil ?_
     rintro wq ⟨⟨w9,hq9⟩,e9⟩
     have HX:=hid (HCx.out wq (by rw [e9];exact hq9))
     clear hq9 e9 gs gz ge;go_wp2;go_ret;exact ⟨rfl,HX.out.bel⟩
    have hkp:0<k:=by omega
    cases x5
    ·have hLB:LB=false:=by cases hh:LB with|false=>rfl|true=>exact absurd (HL2.out hh).2 (by decide)
     rw [hLB,if_neg (by decide)] at hq
     subst hq;clear HQn HL2 HL3
     go_wp2_with (go_at_call 158;refine (HBy.out _).mono ?_;rintro e w5 ⟨rfl,rfl⟩)
     obtain ⟨Cls,hCls⟩:∃ C:World->Prop,C=Tb w #[.slice A rs.length c,.slice A2 zs.length c2,.slice A3 ls.length c3] #[.string z0,.slice (some ad0) es.length cz] #[.int .i64 x0,.int .i64 2,.int .i64 x2,.string x3,.string x4,.bool false,.int .i64 x6,.int .i64 y0,.int .i64 y1,.int .i64 y2,.int .i64 y3,.int .i64 y4,.int .i64 y5]:=⟨_,rfl⟩
     have hC:∀ z,Cls z->Tb w #[.slice A rs.length c,.slice A2 zs.length c2,.slice A3 ls.length c3] #[.string z0,.slice (some ad0) es.length cz] #[.int .i64 x0,.int .i64 2,.int .i64 x2,.string x3,.string x4,.bool false,.int .i64 x6,.int .i64 y0,.int .i64 y1,.int .i64 y2,.int .i64 y3,.int .i64 y4,.int .i64 y5] z:=fun z h=>by rw [hCls] at h;exact h
     have hin:∀ z,Tb w #[.slice A rs.length c,.slice A2 zs.length c2,.slice A3 ls.length c3] #[.string z0,.slice (some ad0) es.length cz] #[.int .i64 x0,.int .i64 2,.int .i64 x2,.string x3,.string x4,.bool false,.int .i64 x6,.int .i64 y0,.int .i64 y1,.int .i64 y2,.int .i64 y3,.int .i64 y4,.int .i64 y5] z->Cls z:=fun z h=>by rw [hCls];exact h
     have hstart:=hin _ HT.out.drew;have inst:Nonempty (Qt.In Cls):=⟨⟨_,hstart⟩⟩;have gs:∀ (z:Qt.In Cls) (i:Nat),z.w.cell? ⟨w.heap.size,i,none⟩=#[.slice A rs.length c,.slice A2 zs.length c2,.slice A3 ls.length c3][i]?:=fun z i=>(hC z.w z.h).src.cell i;have gz:∀ (z:Qt.In Cls) (i:Nat),z.w.cell? ⟨w.heap.size+1,i,none⟩=#[.string z0,.slice (some ad0) es.length cz][i]?:=fun z i=>(hC z.w z.h).zn.cell i;have ge:∀ (z:Qt.In Cls) (i:Nat),z.w.cell? ⟨w.heap.size+1+1,i,none⟩=#[.int .i64 x0,.int .i64 2,.int .i64 x2,.string x3,.string x4,.bool false,.int .i64 x6,.int .i64 y0,.int .i64 y1,.int .i64 y2,.int .i64 y3,.int .i64 y4,.int .i64 y5][i]?:=fun z i=>(hC z.w z.h).era.cell i;have HCx:=hid hC;have HS:=hid hstart;have HCe:=hid hCls;clear hC hstart hCls hin
     refine Qt.wp_region_cls Cls (by kernel_rfl) (by kernel_rfl) HS.out ?_
     repeat (go_big_quiet_step (fail))
     refine wpQuiet_nil ?_
     rintro wq ⟨⟨w9,hq9⟩,e9⟩
     have HX:=hid (HCx.out wq (by rw [e9];exact hq9))
     clear hq9 e9 gs gz ge;go_wp2;go_ret;exact ⟨rfl,HX.out.bel⟩
    obtain ⟨j,rfl⟩:∃ j,k=j+1:=⟨k - 1,by omega⟩
    have hj:j<es.length:=by omega
    have hw1:wrap64 (((j+1:Nat):Int) - 1)=(j:Int):=by unfold wrap64;omega
    have hl:=HL3.out j hj rfl rfl;have HE1:=hid (HX1.out rfl);have HE2:=hid (HX2.out j hj rfl);generalize endI (es[j]'hj) (sv (es[j]'hj))=e2 at*;generalize endI ⟨x0,2,x2,x3,x4,true,x6,⟨y0,y1,y2,y3,y4,y5⟩⟩ (sv ⟨x0,2,x2,x3,x4,true,x6,⟨y0,y1,y2,y3,y4,y5⟩⟩)=e1 at*;obtain ⟨Cls,hCls⟩:∃ C:World->Prop,C=Tb w #[.slice A rs.length c,.slice A2 zs.length c2,.slice A3 ls.length c3] #[.string z0,.slice (some ad0) es.length cz] #[.int .i64 x0,.int .i64 2,.int .i64 x2,.string x3,.string x4,.bool true,.int .i64 x6,.int .i64 y0,.int .i64 y1,.int .i64 y2,.int .i64 y3,.int .i64 y4,.int .i64 y5]:=⟨_,rfl⟩
    have hC:∀ z,Cls z->Tb w #[.slice A rs.length c,.slice A2 zs.length c2,.slice A3 ls.length c3] #[.string z0,.slice (some ad0) es.length cz] #[.int .i64 x0,.int .i64 2,.int .i64 x2,.string x3,.string x4,.bool true,.int .i64 x6,.int .i64 y0,.int .i64 y1,.int .i64 y2,.int .i64 y3,.int .i64 y4,.int .i64 y5] z:=fun z h=>by rw [hCls] at h;exact h
    have hin:∀ z,Tb w #[.slice A rs.length c,.slice A2 zs.length c2,.slice A3 ls.length c3] #[.string z0,.slice (some ad0) es.length cz] #[.int .i64 x0,.int .i64 2,.int .i64 x2,.string x3,.string x4,.bool true,.int .i64 x6,.int .i64 y0,.int .i64 y1,.int .i64 y2,.int .i64 y3,.int .i64 y4,.int .i64 y5] z->Cls z:=fun z h=>by rw [hCls];exact h
    have hstart:=hin _ HT.out.drew;have inst:Nonempty (Qt.In Cls):=⟨⟨_,hstart⟩⟩;have gs:∀ (z:Qt.In Cls) (i:Nat),z.w.cell? ⟨w.heap.size,i,none⟩=#[.slice A rs.length c,.slice A2 zs.length c2,.slice A3 ls.length c3][i]?:=fun z i=>(hC z.w z.h).src.cell i;have gz:∀ (z:Qt.In Cls) (i:Nat),z.w.cell? ⟨w.heap.size+1,i,none⟩=#[.string z0,.slice (some ad0) es.length cz][i]?:=fun z i=>(hC z.w z.h).zn.cell i;have ge:∀ (z:Qt.In Cls) (i:Nat),z.w.cell? ⟨w.heap.size+1+1,i,none⟩=#[.int .i64 x0,.int .i64 2,.int .i64 x2,.string x3,.string x4,.bool true,.int .i64 x6,.int .i64 y0,.int .i64 y1,.int .i64 y2,.int .i64 y3,.int .i64 y4,.int .i64 y5][i]?:=fun z i=>(hC z.w z.h).era.cell i;have HCx:=hid hC;have HS:=hid hstart;have HCe:=hid hCls;clear hC hstart hCls hin
    have HE1c:Hid (∀ z,Cls z->Calls prog 104 #[.agg #[.slice A rs.length c,.slice A2 zs.length c2,.slice A3 ls.length c3],.agg #[.int .i64 x0,.int .i64 2,.int .i64 x2,.string x3,.string x4,.bool true,.int .i64 x6,.int .i64 y0,.int .i64 y1,.int .i64 y2,.int .i64 y3,.int .i64 y4,.int .i64 y5]] z fun e z'=>e= .returned (.int .i64 e1)/\Cls z'):=fun z h=>(HE1.out z (HCx.out z h).bel).mono fun e z' ⟨he,hb⟩=>⟨he,by rw [HCe.out];exact (HCx.out z h).step hb⟩
    have fe:=fun (z:Qt.In Cls)=>HEc.out z.w (HCx.out z.w z.h).bel j hj;obtain ⟨y,hy⟩:∃ y,y=es[j]'hj:=⟨_,rfl⟩;simp only [<-hy] at fe HE2;clear hy;obtain ⟨q0,q1,q2,q3,q4,q5,q6,⟨v0,v1,v2,v3,v4,v5⟩⟩:=y;simp only [Era.cells] at fe HE2
    have f0:∀ z:Qt.In Cls,z.w.cell? (ad0.add (j*13))=some (.int .i64 q0):=fun z=>by obtain ⟨ad',e,_,q⟩:=fe z;obtain rfl:ad0=ad':=(by injection e);exact q.1
    have f1:∀ z:Qt.In Cls,z.w.cell? ⟨(ad0.add (j*13)).block,(ad0.add (j*13)).off+1,none⟩=some (.int .i64 q1):=fun z=>by obtain ⟨ad',e,_,q⟩:=fe z;obtain rfl:ad0=ad':=(by injection e);exact q.2.1
    have f2:∀ z:Qt.In Cls,z.w.cell? ⟨(ad0.add (j*13)).block,(ad0.add (j*13)).off+2,none⟩=some (.int .i64 q2):=fun z=>by obtain ⟨ad',e,_,q⟩:=fe z;obtain rfl:ad0=ad':=(by injection e);exact q.2.2.1
    have f3:∀ z:Qt.In Cls,z.w.cell? ⟨(ad0.add (j*13)).block,(ad0.add (j*13)).off+3,none⟩=some (.string q3):=fun z=>by obtain ⟨ad',e,_,q⟩:=fe z;obtain rfl:ad0=ad':=(by injection e);exact q.2.2.2.1
    have f4:∀ z:Qt.In Cls,z.w.cell? ⟨(ad0.add (j*13)).block,(ad0.add (j*13)).off+4,none⟩=some (.string q4):=fun z=>by obtain ⟨ad',e,_,q⟩:=fe z;obtain rfl:ad0=ad':=(by injection e);exact q.2.2.2.2.1
    have f5:∀ z:Qt.In Cls,z.w.cell? ⟨(ad0.add (j*13)).block,(ad0.add (j*13)).off+5,none⟩=some (.bool q5):=fun z=>by obtain ⟨ad',e,_,q⟩:=fe z;obtain rfl:ad0=ad':=(by injection e);exact q.2.2.2.2.2.1
    have f6:∀ z:Qt.In Cls,z.w.cell? ⟨(ad0.add (j*13)).block,(ad0.add (j*13)).off+6,none⟩=some (.int .i64 q6):=fun z=>by obtain ⟨ad',e,_,q⟩:=fe z;obtain rfl:ad0=ad':=(by injection e);exact q.2.2.2.2.2.2.1
    have f7:∀ z:Qt.In Cls,z.w.cell? ⟨(ad0.add (j*13)).block,(ad0.add (j*13)).off+7,none⟩=some (.int .i64 v0):=fun z=>by obtain ⟨ad',e,_,q⟩:=fe z;obtain rfl:ad0=ad':=(by injection e);exact q.2.2.2.2.2.2.2.1
    have f8:∀ z:Qt.In Cls,z.w.cell? ⟨(ad0.add (j*13)).block,(ad0.add (j*13)).off+8,none⟩=some (.int .i64 v1):=fun z=>by obtain ⟨ad',e,_,q⟩:=fe z;obtain rfl:ad0=ad':=(by injection e);exact q.2.2.2.2.2.2.2.2.1
    have f9:∀ z:Qt.In Cls,z.w.cell? ⟨(ad0.add (j*13)).block,(ad0.add (j*13)).off+9,none⟩=some (.int .i64 v2):=fun z=>by obtain ⟨ad',e,_,q⟩:=fe z;obtain rfl:ad0=ad':=(by injection e);exact q.2.2.2.2.2.2.2.2.2.1
    have f10:∀ z:Qt.In Cls,z.w.cell? ⟨(ad0.add (j*13)).block,(ad0.add (j*13)).off+10,none⟩=some (.int .i64 v3):=fun z=>by obtain ⟨ad',e,_,q⟩:=fe z;obtain rfl:ad0=ad':=(by injection e);exact q.2.2.2.2.2.2.2.2.2.2.1
    have f11:∀ z:Qt.In Cls,z.w.cell? ⟨(ad0.add (j*13)).block,(ad0.add (j*13)).off+11,none⟩=some (.int .i64 v4):=fun z=>by obtain ⟨ad',e,_,q⟩:=fe z;obtain rfl:ad0=ad':=(by injection e);exact q.2.2.2.2.2.2.2.2.2.2.2.1
    have f12:∀ z:Qt.In Cls,z.w.cell? ⟨(ad0.add (j*13)).block,(ad0.add (j*13)).off+12,none⟩=some (.int .i64 v5):=fun z=>by obtain ⟨ad',e,_,q⟩:=fe z;obtain rfl:ad0=ad':=(by injection e);exact q.2.2.2.2.2.2.2.2.2.2.2.2
    have HE2c:Hid (∀ z,Cls z->Calls prog 104 #[.agg #[.slice A rs.length c,.slice A2 zs.length c2,.slice A3 ls.length c3],.agg #[.int .i64 q0,.int .i64 q1,.int .i64 q2,.string q3,.string q4,.bool q5,.int .i64 q6,.int .i64 v0,.int .i64 v1,.int .i64 v2,.int .i64 v3,.int .i64 v4,.int .i64 v5]] z fun e z'=>e= .returned (.int .i64 e2)/\Cls z'):=fun z h=>(HE2.out z (HCx.out z h).bel).mono fun e z' ⟨he,hb⟩=>⟨he,by rw [HCe.out];exact (HCx.out z h).step hb⟩
    clear fe HE1 HE2 HX1 HX2 HL2 HL3 HQn HEc;rw [hl] at hq;clear hl
    cases hd:decide (e1<=e2)
    ·rw [hd,if_neg (by decide)] at hq
     subst hq
     go_wp2_with (go_at_call 158;refine (HBy.out _).mono ?_;rintro e w5 ⟨rfl,rfl⟩)
     refine Qt.wp_region_cls Cls (by kernel_rfl) (by kernel_rfl) HS.out ?_
     repeat (go_big_quiet_step (fail))
     go_big_quiet_step (exact Qt.quiet_cls (HE1c.out _ (Qt.In.h _)))
     repeat (go_big_quiet_step (fail))
     go_big_quiet_step (exact Qt.quiet_cls (HE2c.out _ (Qt.In.h _)))
     repeat (go_big_quiet_step (fail))
     refine wpQuiet_nil ?_
     rintro wq ⟨⟨w9,hq9⟩,e9⟩
     have HX:=hid (HCx.out wq (by rw [e9];exact hq9))
     clear hq9 e9 gs gz ge f0 f1 f2 f3 f4 f5 f6 f7 f8 f9 f10 f11 f12;go_wp2;go_ret;exact ⟨rfl,HX.out.bel⟩
    ·rw [hd,if_pos rfl] at hq
     subst hq
     go_wp2_with (go_at_call 158;refine (HBy.out _).mono ?_;rintro e w5 ⟨rfl,rfl⟩)
     refine Qt.wp_region_cls Cls (by kernel_rfl) (by kernel_rfl) HS.out ?_
     repeat (go_big_quiet_step (fail))
     go_big_quiet_step (exact Qt.quiet_cls (HE1c.out _ (Qt.In.h _)))
     repeat (go_big_quiet_step (fail))
     go_big_quiet_step (exact Qt.quiet_cls (HE2c.out _ (Qt.In.h _)))
     repeat (go_big_quiet_step (fail))
     refine wpQuiet_nil ?_
     rintro wq ⟨⟨w9,hq9⟩,e9⟩
     have HX:=hid (HCx.out wq (by rw [e9];exact hq9))
     clear hq9 e9 gs gz ge f0 f1 f2 f3 f4 f5 f6 f7 f8 f9 f10 f11 f12;go_wp2;go_ret;exact ⟨rfl,HX.out.bel⟩
 ·have hk2b:(x1 == 2)=false:=by simp [hk2]
  have hq:=HQ.out;simp only [hk2,false_and,if_false] at hq;have HQn:=hid hq.symm;clear hq HQ HS cs ce;have ce0:=HT.out.era.cell;clear hk2;have HBy:=hid (fun z=>beyond_any (wrap64 (x0+x2)) z);have hq:=HQn.out;have ce:=HT.out.era.cell;generalize Rgt.dayB (wrap64 (x0+x2))=dB at*
  cases dB
  ·rw [if_pos rfl] at hq
   subst hq;clear HQn HL2 HL3
   go_wp2_with (go_at_call 158;refine (HBy.out _).mono ?_;rintro e w5 ⟨rfl,rfl⟩)
   go_ret;exact ⟨rfl,HT.out.bel⟩
  rw [if_neg (by decide)] at hq
  by_cases hk0:k=0
  ·have hLB:LB=false:=by cases hh:LB with|false=>rfl|true=>exact absurd hk0 (HL2.out hh).1
   rw [hLB,if_neg (by decide)] at hq
   subst hq
   have hkb:decide (0<k)=false:=decide_eq_false (by omega)
   clear HQn HL2 HL3 hk0
   go_wp2_with (go_at_call 158;refine (HBy.out _).mono ?_;rintro e w5 ⟨rfl,rfl⟩)
   obtain ⟨Cls,hCls⟩:∃ C:World->Prop,C=Tb w #[.slice A rs.length c,.slice A2 zs.length c2,.slice A3 ls.length c3] #[.string z0,.slice (some ad0) es.length cz] #[.int .i64 x0,.int .i64 x1,.int .i64 x2,.string x3,.string x4,.bool x5,.int .i64 x6,.int .i64 y0,.int .i64 y1,.int .i64 y2,.int .i64 y3,.int .i64 y4,.int .i64 y5]:=⟨_,rfl⟩
   have hC:∀ z,Cls z->Tb w #[.slice A rs.length c,.slice A2 zs.length c2,.slice A3 ls.length c3] #[.string z0,.slice (some ad0) es.length cz] #[.int .i64 x0,.int .i64 x1,.int .i64 x2,.string x3,.string x4,.bool x5,.int .i64 x6,.int .i64 y0,.int .i64 y1,.int .i64 y2,.int .i64 y3,.int .i64 y4,.int .i64 y5] z:=fun z h=>by rw [hCls] at h;exact h
   have hin:∀ z,Tb w #[.slice A rs.length c,.slice A2 zs.length c2,.slice A3 ls.length c3] #[.string z0,.slice (some ad0) es.length cz] #[.int .i64 x0,.int .i64 x1,.int .i64 x2,.string x3,.string x4,.bool x5,.int .i64 x6,.int .i64 y0,.int .i64 y1,.int .i64 y2,.int .i64 y3,.int .i64 y4,.int .i64 y5] z->Cls z:=fun z h=>by rw [hCls];exact h
   have hstart:=hin _ HT.out.drew;have inst:Nonempty (Qt.In Cls):=⟨⟨_,hstart⟩⟩;have gs:∀ (z:Qt.In Cls) (i:Nat),z.w.cell? ⟨w.heap.size,i,none⟩=#[.slice A rs.length c,.slice A2 zs.length c2,.slice A3 ls.length c3][i]?:=fun z i=>(hC z.w z.h).src.cell i;have gz:∀ (z:Qt.In Cls) (i:Nat),z.w.cell? ⟨w.heap.size+1,i,none⟩=#[.string z0,.slice (some ad0) es.length cz][i]?:=fun z i=>(hC z.w z.h).zn.cell i;have ge:∀ (z:Qt.In Cls) (i:Nat),z.w.cell? ⟨w.heap.size+1+1,i,none⟩=#[.int .i64 x0,.int .i64 x1,.int .i64 x2,.string x3,.string x4,.bool x5,.int .i64 x6,.int .i64 y0,.int .i64 y1,.int .i64 y2,.int .i64 y3,.int .i64 y4,.int .i64 y5][i]?:=fun z i=>(hC z.w z.h).era.cell i;have HCx:=hid hC;have HS:=hid hstart;have HCe:=hid hCls;clear hC hstart hCls hin
   refine Qt.wp_region_cls Cls (by kernel_rfl) (by kernel_rfl) HS.out ?_
   repeat (go_big_quiet_step (fail))
   refine wpQuiet_nil ?_
   rintro wq ⟨⟨w9,hq9⟩,e9⟩
   have HX:=hid (HCx.out wq (by rw [e9];exact hq9))
   clear hq9 e9 gs gz ge;go_wp2;go_ret;exact ⟨rfl,HX.out.bel⟩
  have hkp:0<k:=by omega
  cases x5
  ·have hLB:LB=false:=by cases hh:LB with|false=>rfl|true=>exact absurd (HL2.out hh).2 (by decide)
   rw [hLB,if_neg (by decide)] at hq
   subst hq;clear HQn HL2 HL3
   go_wp2_with (go_at_call 158;refine (HBy.out _).mono ?_;rintro e w5 ⟨rfl,rfl⟩)
   obtain ⟨Cls,hCls⟩:∃ C:World->Prop,C=Tb w #[.slice A rs.length c,.slice A2 zs.length c2,.slice A3 ls.length c3] #[.string z0,.slice (some ad0) es.length cz] #[.int .i64 x0,.int .i64 x1,.int .i64 x2,.string x3,.string x4,.bool false,.int .i64 x6,.int .i64 y0,.int .i64 y1,.int .i64 y2,.int .i64 y3,.int .i64 y4,.int .i64 y5]:=⟨_,rfl⟩
   have hC:∀ z,Cls z->Tb w #[.slice A rs.length c,.slice A2 zs.length c2,.slice A3 ls.length c3] #[.string z0,.slice (some ad0) es.length cz] #[.int .i64 x0,.int .i64 x1,.int .i64 x2,.string x3,.string x4,.bool false,.int .i64 x6,.int .i64 y0,.int .i64 y1,.int .i64 y2,.int .i64 y3,.int .i64 y4,.int .i64 y5] z:=fun z h=>by rw [hCls] at h;exact h
   have hin:∀ z,Tb w #[.slice A rs.length c,.slice A2 zs.length c2,.slice A3 ls.length c3] #[.string z0,.slice (some ad0) es.length cz] #[.int .i64 x0,.int .i64 x1,.int .i64 x2,.string x3,.string x4,.bool false,.int .i64 x6,.int .i64 y0,.int .i64 y1,.int .i64 y2,.int .i64 y3,.int .i64 y4,.int .i64 y5] z->Cls z:=fun z h=>by rw [hCls];exact h
   have hstart:=hin _ HT.out.drew;have inst:Nonempty (Qt.In Cls):=⟨⟨_,hstart⟩⟩;have gs:∀ (z:Qt.In Cls) (i:Nat),z.w.cell? ⟨w.heap.size,i,none⟩=#[.slice A rs.length c,.slice A2 zs.length c2,.slice A3 ls.length c3][i]?:=fun z i=>(hC z.w z.h).src.cell i;have gz:∀ (z:Qt.In Cls) (i:Nat),z.w.cell? ⟨w.heap.size+1,i,none⟩=#[.string z0,.slice (some ad0) es.length cz][i]?:=fun z i=>(hC z.w z.h).zn.cell i;have ge:∀ (z:Qt.In Cls) (i:Nat),z.w.cell? ⟨w.heap.size+1+1,i,none⟩=#[.int .i64 x0,.int .i64 x1,.int .i64 x2,.string x3,.string x4,.bool false,.int .i64 x6,.int .i64 y0,.int .i64 y1,.int .i64 y2,.int .i64 y3,.int .i64 y4,.int .i64 y5][i]?:=fun z i=>(hC z.w z.h).era.cell i;have HCx:=hid hC;have HS:=hid hstart;have HCe:=hid hCls;clear hC hstart hCls hin
   refine Qt.wp_region_cls Cls (by kernel_rfl) (by kernel_rfl) HS.out ?_
   repeat (go_big_quiet_step (fail))
   refine wpQuiet_nil ?_
   rintro wq ⟨⟨w9,hq9⟩,e9⟩
   have HX:=hid (HCx.out wq (by rw [e9];exact hq9))
   clear hq9 e9 gs gz ge;go_wp2;go_ret;exact ⟨rfl,HX.out.bel⟩
  obtain ⟨j,rfl⟩:∃ j,k=j+1:=⟨k - 1,by omega⟩
  have hj:j<es.length:=by omega
  have hw1:wrap64 (((j+1:Nat):Int) - 1)=(j:Int):=by unfold wrap64;omega
  have hl:=HL3.out j hj rfl rfl;have HE1:=hid (HX1.out rfl);have HE2:=hid (HX2.out j hj rfl);generalize endI (es[j]'hj) (sv (es[j]'hj))=e2 at*;generalize endI ⟨x0,x1,x2,x3,x4,true,x6,⟨y0,y1,y2,y3,y4,y5⟩⟩ (sv ⟨x0,x1,x2,x3,x4,true,x6,⟨y0,y1,y2,y3,y4,y5⟩⟩)=e1 at*;obtain ⟨Cls,hCls⟩:∃ C:World->Prop,C=Tb w #[.slice A rs.length c,.slice A2 zs.length c2,.slice A3 ls.length c3] #[.string z0,.slice (some ad0) es.length cz] #[.int .i64 x0,.int .i64 x1,.int .i64 x2,.string x3,.string x4,.bool true,.int .i64 x6,.int .i64 y0,.int .i64 y1,.int .i64 y2,.int .i64 y3,.int .i64 y4,.int .i64 y5]:=⟨_,rfl⟩
  have hC:∀ z,Cls z->Tb w #[.slice A rs.length c,.slice A2 zs.length c2,.slice A3 ls.length c3] #[.string z0,.slice (some ad0) es.length cz] #[.int .i64 x0,.int .i64 x1,.int .i64 x2,.string x3,.string x4,.bool true,.int .i64 x6,.int .i64 y0,.int .i64 y1,.int .i64 y2,.int .i64 y3,.int .i64 y4,.int .i64 y5] z:=fun z h=>by rw [hCls] at h;exact h
  have hin:∀ z,Tb w #[.slice A rs.length c,.slice A2 zs.length c2,.slice A3 ls.length c3] #[.string z0,.slice (some ad0) es.length cz] #[.int .i64 x0,.int .i64 x1,.int .i64 x2,.string x3,.string x4,.bool true,.int .i64 x6,.int .i64 y0,.int .i64 y1,.int .i64 y2,.int .i64 y3,.int .i64 y4,.int .i64 y5] z->Cls z:=fun z h=>by rw [hCls];exact h
  have hstart:=hin _ HT.out.drew;have inst:Nonempty (Qt.In Cls):=⟨⟨_,hstart⟩⟩;have gs:∀ (z:Qt.In Cls) (i:Nat),z.w.cell? ⟨w.heap.size,i,none⟩=#[.slice A rs.length c,.slice A2 zs.length c2,.slice A3 ls.length c3][i]?:=fun z i=>(hC z.w z.h).src.cell i;have gz:∀ (z:Qt.In Cls) (i:Nat),z.w.cell? ⟨w.heap.size+1,i,none⟩=#[.string z0,.slice (some ad0) es.length cz][i]?:=fun z i=>(hC z.w z.h).zn.cell i;have ge:∀ (z:Qt.In Cls) (i:Nat),z.w.cell? ⟨w.heap.size+1+1,i,none⟩=#[.int .i64 x0,.int .i64 x1,.int .i64 x2,.string x3,.string x4,.bool true,.int .i64 x6,.int .i64 y0,.int .i64 y1,.int .i64 y2,.int .i64 y3,.int .i64 y4,.int .i64 y5][i]?:=fun z i=>(hC z.w z.h).era.cell i;have HCx:=hid hC;have HS:=hid hstart;have HCe:=hid hCls;clear hC hstart hCls hin
  have HE1c:Hid (∀ z,Cls z->Calls prog 104 #[.agg #[.slice A rs.length c,.slice A2 zs.length c2,.slice A3 ls.length c3],.agg #[.int .i64 x0,.int .i64 x1,.int .i64 x2,.string x3,.string x4,.bool true,.int .i64 x6,.int .i64 y0,.int .i64 y1,.int .i64 y2,.int .i64 y3,.int .i64 y4,.int .i64 y5]] z fun e z'=>e= .returned (.int .i64 e1)/\Cls z'):=fun z h=>(HE1.out z (HCx.out z h).bel).mono fun e z' ⟨he,hb⟩=>⟨he,by rw [HCe.out];exact (HCx.out z h).step hb⟩
  have fe:=fun (z:Qt.In Cls)=>HEc.out z.w (HCx.out z.w z.h).bel j hj;obtain ⟨y,hy⟩:∃ y,y=es[j]'hj:=⟨_,rfl⟩;simp only [<-hy] at fe HE2;clear hy;obtain ⟨q0,q1,q2,q3,q4,q5,q6,⟨v0,v1,v2,v3,v4,v5⟩⟩:=y;simp only [Era.cells] at fe HE2
  have f0:∀ z:Qt.In Cls,z.w.cell? (ad0.add (j*13))=some (.int .i64 q0):=fun z=>by obtain ⟨ad',e,_,q⟩:=fe z;obtain rfl:ad0=ad':=(by injection e);exact q.1
  have f1:∀ z:Qt.In Cls,z.w.cell? ⟨(ad0.add (j*13)).block,(ad0.add (j*13)).off+1,none⟩=some (.int .i64 q1):=fun z=>by obtain ⟨ad',e,_,q⟩:=fe z;obtain rfl:ad0=ad':=(by injection e);exact q.2.1
  have f2:∀ z:Qt.In Cls,z.w.cell? ⟨(ad0.add (j*13)).block,(ad0.add (j*13)).off+2,none⟩=some (.int .i64 q2):=fun z=>by obtain ⟨ad',e,_,q⟩:=fe z;obtain rfl:ad0=ad':=(by injection e);exact q.2.2.1
  have f3:∀ z:Qt.In Cls,z.w.cell? ⟨(ad0.add (j*13)).block,(ad0.add (j*13)).off+3,none⟩=some (.string q3):=fun z=>by obtain ⟨ad',e,_,q⟩:=fe z;obtain rfl:ad0=ad':=(by injection e);exact q.2.2.2.1
  have f4:∀ z:Qt.In Cls,z.w.cell? ⟨(ad0.add (j*13)).block,(ad0.add (j*13)).off+4,none⟩=some (.string q4):=fun z=>by obtain ⟨ad',e,_,q⟩:=fe z;obtain rfl:ad0=ad':=(by injection e);exact q.2.2.2.2.1
  have f5:∀ z:Qt.In Cls,z.w.cell? ⟨(ad0.add (j*13)).block,(ad0.add (j*13)).off+5,none⟩=some (.bool q5):=fun z=>by obtain ⟨ad',e,_,q⟩:=fe z;obtain rfl:ad0=ad':=(by injection e);exact q.2.2.2.2.2.1
  have f6:∀ z:Qt.In Cls,z.w.cell? ⟨(ad0.add (j*13)).block,(ad0.add (j*13)).off+6,none⟩=some (.int .i64 q6):=fun z=>by obtain ⟨ad',e,_,q⟩:=fe z;obtain rfl:ad0=ad':=(by injection e);exact q.2.2.2.2.2.2.1
  have f7:∀ z:Qt.In Cls,z.w.cell? ⟨(ad0.add (j*13)).block,(ad0.add (j*13)).off+7,none⟩=some (.int .i64 v0):=fun z=>by obtain ⟨ad',e,_,q⟩:=fe z;obtain rfl:ad0=ad':=(by injection e);exact q.2.2.2.2.2.2.2.1
  have f8:∀ z:Qt.In Cls,z.w.cell? ⟨(ad0.add (j*13)).block,(ad0.add (j*13)).off+8,none⟩=some (.int .i64 v1):=fun z=>by obtain ⟨ad',e,_,q⟩:=fe z;obtain rfl:ad0=ad':=(by injection e);exact q.2.2.2.2.2.2.2.2.1
  have f9:∀ z:Qt.In Cls,z.w.cell? ⟨(ad0.add (j*13)).block,(ad0.add (j*13)).off+9,none⟩=some (.int .i64 v2):=fun z=>by obtain ⟨ad',e,_,q⟩:=fe z;obtain rfl:ad0=ad':=(by injection e);exact q.2.2.2.2.2.2.2.2.2.1
  have f10:∀ z:Qt.In Cls,z.w.cell? ⟨(ad0.add (j*13)).block,(ad0.add (j*13)).off+10,none⟩=some (.int .i64 v3):=fun z=>by obtain ⟨ad',e,_,q⟩:=fe z;obtain rfl:ad0=ad':=(by injection e);exact q.2.2.2.2.2.2.2.2.2.2.1
  have f11:∀ z:Qt.In Cls,z.w.cell? ⟨(ad0.add (j*13)).block,(ad0.add (j*13)).off+11,none⟩=some (.int .i64 v4):=fun z=>by obtain ⟨ad',e,_,q⟩:=fe z;obtain rfl:ad0=ad':=(by injection e);exact q.2.2.2.2.2.2.2.2.2.2.2.1
  have f12:∀ z:Qt.In Cls,z.w.cell? ⟨(ad0.add (j*13)).block,(ad0.add (j*13)).off+12,none⟩=some (.int .i64 v5):=fun z=>by obtain ⟨ad',e,_,q⟩:=fe z;obtain rfl:ad0=ad':=(by injection e);exact q.2.2.2.2.2.2.2.2.2.2.2.2
  have HE2c:Hid (∀ z,Cls z->Calls prog 104 #[.agg #[.slice A rs.length c,.slice A2 zs.length c2,.slice A3 ls.length c3],.agg #[.int .i64 q0,.int .i64 q1,.int .i64 q2,.string q3,.string q4,.bool q5,.int .i64 q6,.int .i64 v0,.int .i64 v1,.int .i64 v2,.int .i64 v3,.int .i64 v4,.int .i64 v5]] z fun e z'=>e= .returned (.int .i64 e2)/\Cls z'):=fun z h=>(HE2.out z (HCx.out z h).bel).mono fun e z' ⟨he,hb⟩=>⟨he,by rw [HCe.out];exact (HCx.out z h).step hb⟩
  clear fe HE1 HE2 HX1 HX2 HL2 HL3 HQn HEc;rw [hl] at hq;clear hl
  cases hd:decide (e1<=e2)
  ·rw [hd,if_neg (by decide)] at hq
   subst hq
   go_wp2_with (go_at_call 158;refine (HBy.out _).mono ?_;rintro e w5 ⟨rfl,rfl⟩)
   refine Qt.wp_region_cls Cls (by kernel_rfl) (by kernel_rfl) HS.out ?_
   repeat (go_big_quiet_step (fail))
   go_big_quiet_step (exact Qt.quiet_cls (HE1c.out _ (Qt.In.h _)))
   repeat (go_big_quiet_step (fail))
   go_big_quiet_step (exact Qt.quiet_cls (HE2c.out _ (Qt.In.h _)))
   repeat (go_big_quiet_step (fail))
   refine wpQuiet_nil ?_
   rintro wq ⟨⟨w9,hq9⟩,e9⟩
   have HX:=hid (HCx.out wq (by rw [e9];exact hq9))
   clear hq9 e9 gs gz ge f0 f1 f2 f3 f4 f5 f6 f7 f8 f9 f10 f11 f12;go_wp2;go_ret;exact ⟨rfl,HX.out.bel⟩
  ·rw [hd,if_pos rfl] at hq
   subst hq
   go_wp2_with (go_at_call 158;refine (HBy.out _).mono ?_;rintro e w5 ⟨rfl,rfl⟩)
   refine Qt.wp_region_cls Cls (by kernel_rfl) (by kernel_rfl) HS.out ?_
   repeat (go_big_quiet_step (fail))
   go_big_quiet_step (exact Qt.quiet_cls (HE1c.out _ (Qt.In.h _)))
   repeat (go_big_quiet_step (fail))
   go_big_quiet_step (exact Qt.quiet_cls (HE2c.out _ (Qt.In.h _)))
   repeat (go_big_quiet_step (fail))
   refine wpQuiet_nil ?_
   rintro wq ⟨⟨w9,hq9⟩,e9⟩
   have HX:=hid (HCx.out wq (by rw [e9];exact hq9))
   clear hq9 e9 gs gz ge f0 f1 f2 f3 f4 f5 f6 f7 f8 f9 f10 f11 f12;go_wp2;go_ret;exact ⟨rfl,HX.out.bel⟩
end Snd
end
end
section
section
namespace Snd
open Go.RowKit Mem Civ Mom Img Plc Rul Src Go.Maps
theorem flaw_results {w:World} {R0:Nat} {a0 a1 a2 a3:Value} (h:Blk w R0 72 #[a0,a1,a2,a3]) (tmps:Array Value) (ht:tmps[8]?=some (.pointer (some ⟨R0,0,none⟩))):(results Tryz.f97 tmps).run prog w= .ok (.agg #[a0,a1,a2,a3]) w:=by
 have hc:=h.cell;simp [results,Tryz.results97,go_sem,hc,ht]
theorem flaw_any (a b c d:Int) (w:World):
  Calls prog 97 #[.int .i64 a,.int .i64 b,.int .i64 c,.int .i64 d] w fun e w'=>e= .returned (.agg #[.int .i64 a,.int .i64 b,.int .i64 c,.int .i64 d])/\Below w.heap.size w w':=by
 have hone:=One.new w 72 #[.int .i64 0,.int .i64 0,.int .i64 0,.int .i64 0];obtain ⟨W,hW⟩:∃ W,w.alloc (.cells #[.int .i64 0,.int .i64 0,.int .i64 0,.int .i64 0] 72)=W:=⟨_,rfl⟩;rw [hW] at hone;have HO:=hid hone;have cc:=hone.1.cell;have ff:=hone.1.frozen;clear hone;go_enter func97,ntmps97;go_wp2;have hf:=(((HO.out.1.set_ 0 (.int .i64 a)).set_ 1 (.int .i64 b)).set_ 2 (.int .i64 c)).set_ 3 (.int .i64 d);simp only [List.setIfInBounds_toArray,List.set_cons_succ,List.set_cons_zero] at hf
 refine bodyPost_ret (flaw_results hf _ rfl) rfl ?_
 exact ⟨rfl,(((HO.out.2.setCell (by simp) _).setCell (by simp) _).setCell (by simp) _).setCell (by simp) _⟩
theorem rlinks_results {w:World} {R0:Nat} {a0 a1 a2 a3:Value} (h:Blk w R0 72 #[a0,a1,a2,a3]) (tmps:Array Value) (ht:tmps[2]?=some (.pointer (some ⟨R0,0,none⟩))):(results Tryz.f101 tmps).run prog w= .ok (.agg #[a0,a1,a2,a3]) w:=by
 have hc:=h.cell;simp [results,Tryz.results101,go_sem,hc,ht]
def hitB (s:Src) (k:Nat):Bool:=match s.links[k]? with
 |some l=>inL (s.zones.map (·.name)++(s.links.take k).map (·.name)) l.name
 |none=>false
theorem dup_drop {s:Src} (k:Nat) (hk:k<=s.links.length) (h:∀ t,t<k->hitB s t=false):dupL (s.zones.map (·.name)) s.links 0=dupL (s.zones.map (·.name)++(s.links.take k).map (·.name)) (s.links.drop k) k:=by
 induction k with
 |zero=>simp
 |succ k ih=>
  rw [ih (by omega) fun t ht=>h t (by omega)]
  have hkn:k<s.links.length:=by omega
  have hh:=h k (by omega)
  unfold hitB at hh
  rw [List.getElem?_eq_getElem hkn] at hh
  simp only at hh
  have e:(s.links.take (k+1)).map (·.name)=(s.links.take k).map (·.name)++[s.links[k].name]:=by
   rw [List.take_succ_eq_append_getElem hkn,List.map_append];rfl
  rw [List.drop_eq_getElem_cons hkn,dupL,hh,e,List.append_assoc]
  rfl
theorem dup_hit {s:Src} {k:Nat} (hk:k<s.links.length) (h:∀ t,t<k->hitB s t=false) (hh:hitB s k=true):linksB s=⟨10,3,k,0⟩:=by
 unfold linksB
 rw [dup_drop k (by omega) h,List.drop_eq_getElem_cons hk,dupL]
 unfold hitB at hh
 rw [List.getElem?_eq_getElem hk] at hh
 simp only at hh;rw [if_pos hh]
 rfl
theorem dup_none {s:Src} (h:∀ t,t<s.links.length->hitB s t=false):linksB s=noFlaw:=by
 unfold linksB;rw [dup_drop _ (Nat.le_refl _) h,List.drop_length,dupL]
 rfl
theorem inL_append {a b:List ByteArray} {s:ByteArray}:inL (a++b) s=(inL a s || inL b s):=by
 unfold inL;rw [List.any_append]
theorem zone_in {zs:List ZoneM} {nm:ByteArray}:(zoneAt zs nm).isSome=inL (zs.map (·.name)) nm:=by
 rw [Bool.eq_iff_iff,inL_iff];unfold zoneAt
 rw [List.findIdx?_isSome,List.any_eq_true]
 simp
theorem link_in {zs:List Link} {nm:ByteArray}:(linkAt zs nm).isSome=inL (zs.map (·.name)) nm:=by
 rw [Bool.eq_iff_iff,inL_iff];unfold linkAt
 rw [List.findIdx?_isSome,List.any_eq_true]
 simp
theorem atI_some (o:Option Nat):decide (0<=atI o)=o.isSome:=by
 cases o with
 |none=>rfl
 |some i=>simp [atI]
theorem atI_none (o:Option Nat):decide (atI o<0)= !o.isSome:=by
 cases o with
 |none=>rfl
 |some i=>exact decide_eq_false (show ¬ ((i:Int)<0) by omega)
theorem link_before {ls:List Link} {k:Nat} (hk:k<ls.length):decide (atI (linkAt ls ls[k].name)<(k:Nat))=inL ((ls.take k).map (·.name)) ls[k].name:=by
 cases h:linkAt ls ls[k].name with
 |none=>
  exfalso
  have h2:(linkAt ls ls[k].name).isSome=true:=by
   rw [link_in,inL_iff];exact List.mem_map.2 ⟨ls[k],List.getElem_mem hk,rfl⟩
  rw [h] at h2
  cases h2
 |some j=>
  unfold linkAt at h
  obtain ⟨hj,h1,h2⟩:=List.findIdx?_eq_some_iff_getElem.1 h
  rw [Bool.eq_iff_iff,inL_iff];simp only [atI]
  constructor
  ·intro hlt
   have hlt:=of_decide_eq_true hlt
   have hjk:j<k:=by omega
   refine List.mem_map.2 ⟨ls[j],?_,of_decide_eq_true h1⟩
   rw [List.mem_take_iff_getElem]
   exact ⟨j,by omega,rfl⟩
  ·intro hm
   obtain ⟨l,hl,e⟩:=List.mem_map.1 hm;obtain ⟨t,ht,e2⟩:=List.mem_take_iff_getElem.1 hl
   rcases Nat.lt_or_ge t j with hlt|hge
   ·have h3:=h2 t hlt
    rw [e2,e] at h3;simp at h3
   ·exact decide_eq_true (by have:=Nat.lt_of_lt_of_le ht (Nat.min_le_left _ _);omega)
theorem hit_is {s:Src} {k:Nat} (hk:k<s.links.length):hitB s k=(decide (0<=atI (zoneAt s.zones s.links[k].name)) || decide (atI (linkAt s.links s.links[k].name)<(k:Nat))):=by
 unfold hitB
 rw [List.getElem?_eq_getElem hk]
 simp only;rw [inL_append,atI_some,zone_in,link_before hk]
theorem known_is (s:Src) (nm:ByteArray):inL (allNames s) nm= !(decide (atI (zoneAt s.zones nm)<0) && decide (atI (linkAt s.links nm)<0)):=by
 unfold allNames;rw [inL_append,atI_none,atI_none,zone_in,link_in]
 cases inL (s.zones.map (·.name)) nm<;>cases inL (s.links.map (·.name)) nm<;>rfl
theorem two_drew {w W:World} {cs ds:Array Value} (h:Two w cs ds W):Two w cs ds W.drew:=⟨h.src.drew,h.res.drew,h.bel.drew⟩
theorem rlinks_any (s:Src) (A A2 A3:Option Addr) (c c2 c3:Nat) (w:World) (h:SrcOk s A A2 A3 w):
  Calls prog 101 #[.agg #[.slice A s.rules.length c,.slice A2 s.zones.length c2,.slice A3 s.links.length c3]] w fun e w'=>e= .returned (.agg (if linksB s=noFlaw then targetsB s else linksB s).cells.toArray)/\Below w.heap.size w w':=by
 have HZ:=hid (fun n z (hb:Below w.heap.size w z)=>rzone_any s A A2 A3 c c2 c3 n z (h.below hb));have HLk:=hid (fun n z (hb:Below w.heap.size w z)=>rlink_any s A A2 A3 c c2 c3 n z (h.below hb));have HRs:=hid (fun n z (hb:Below w.heap.size w z)=>rresolve_any s A A2 A3 c c2 c3 n z (h.below hb));have HR:=hid h.rl;have nl:=h.nl;clear h
 obtain ⟨Q,hQ⟩:∃ Q,(if linksB s=noFlaw then targetsB s else linksB s)=Q:=⟨_,rfl⟩
 rw [hQ]
 have HQ1:Hid (∀ k:Nat,linksB s=⟨10,3,k,0⟩->Q=⟨10,3,k,0⟩):=fun k e=>by rw [<-hQ,e,if_neg (flaw_ne (.inl (by decide)))]
 have HQ2:Hid (linksB s=noFlaw->Q=targetsB s):=fun e=>by rw [<-hQ,if_pos e]
 have HT1:Hid (∀ k,(s.links.findIdx? fun l=> !inL (allNames s) l.target)=some k->targetsB s=⟨8,3,k,0⟩):=fun k e=>by unfold targetsB;rw [e]
 have HT2:Hid ((s.links.findIdx? fun l=> !inL (allNames s) l.target)=none->targetsB s=flawAt 16 3 (s.links.findIdx? fun l=> !(resolveB s l.name).isSome)):=fun e=>by unfold targetsB;rw [e]
 clear hQ;have hst:=Two.start w #[.slice A s.rules.length c,.slice A2 s.zones.length c2,.slice A3 s.links.length c3];obtain ⟨W,hW⟩:∃ W,(w.alloc (.cells #[.slice A s.rules.length c,.slice A2 s.zones.length c2,.slice A3 s.links.length c3] 26)).alloc (.cells #[.int .i64 0,.int .i64 0,.int .i64 0,.int .i64 0] 72)=W:=⟨_,rfl⟩;rw [hW] at hst;have HT:=hid hst;have c0:=hst.src.cell;clear hst;go_enter func101,ntmps101
 go_wp2_with fail
 clear c0
 go_loopw [3] (fun i wr=>∃ k:Nat,k<=s.links.length/\i= .int .i64 k/\(∀ t,t<k->hitB s t=false)/\Two w #[.slice A s.rules.length c,.slice A2 s.zones.length c2,.slice A3 s.links.length c3] #[.int .i64 0,.int .i64 0,.int .i64 0,.int .i64 0] wr) (fun i _=>s.links.length - (intOf i).toNat)
 case atStart=>exact ⟨0,Nat.zero_le _,rfl,(fun t ht=>absurd ht (Nat.not_lt_zero _)),HT.out⟩
 case round=>
  clear HT;obtain ⟨k,hk,rfl,hno,ht⟩:=hrel;have HT:=hid ht;have HNo:=hid hno;have c0:=ht.src.cell;clear ht hno
  by_cases hkn:k<s.links.length
  ·skip
   obtain ⟨ad,hA,hadb,_⟩:=link_cells (HR.out.below HT.out.bel) hkn rfl;subst hA;have hlc:=fun z (hb:Below w.heap.size w z)=>link_cells (HR.out.below hb) hkn rfl;obtain ⟨Cls,hCls⟩:∃ C:World->Prop,C=Two w #[.slice A s.rules.length c,.slice A2 s.zones.length c2,.slice (some ad) s.links.length c3] #[.int .i64 0,.int .i64 0,.int .i64 0,.int .i64 0]:=⟨_,rfl⟩
   have hC:∀ z,Cls z->Two w #[.slice A s.rules.length c,.slice A2 s.zones.length c2,.slice (some ad) s.links.length c3] #[.int .i64 0,.int .i64 0,.int .i64 0,.int .i64 0] z:=fun z h=>by rw [hCls] at h;exact h
   have hin:∀ z,Two w #[.slice A s.rules.length c,.slice A2 s.zones.length c2,.slice (some ad) s.links.length c3] #[.int .i64 0,.int .i64 0,.int .i64 0,.int .i64 0] z->Cls z:=fun z h=>by rw [hCls];exact h
   have hstart:=hin _ (two_drew HT.out);have inst:Nonempty (Qt.In Cls):=⟨⟨_,hstart⟩⟩;have gs:∀ (z:Qt.In Cls) (i:Nat),z.w.cell? ⟨w.heap.size,i,none⟩=#[.slice A s.rules.length c,.slice A2 s.zones.length c2,.slice (some ad) s.links.length c3][i]?:=fun z i=>(hC z.w z.h).src.cell i
   have gn:∀ z:Qt.In Cls,z.w.cell? ⟨(ad.add (k*2)).block,(ad.add (k*2)).off+1,none⟩=some (.string (s.links[k]'hkn).name):=fun z=>by obtain ⟨ad',e,_,q⟩:=hlc z.w (hC z.w z.h).bel;obtain rfl:ad=ad':=(by injection e);exact q.2
   have hfact:=hit_is hkn;obtain ⟨nm,hnm⟩:∃ n,n=(s.links[k]'hkn).name:=⟨_,rfl⟩;have hz:=HZ.out nm;have hl:=HLk.out nm;rw [<-hnm] at gn hfact;clear hnm hlc;generalize atI (zoneAt s.zones nm)=zi at*;generalize atI (linkAt s.links nm)=li at*;have HZc:Hid (∀ z,Cls z->Calls prog 159 #[.agg #[.slice A s.rules.length c,.slice A2 s.zones.length c2,.slice (some ad) s.links.length c3],.string nm] z fun e z'=>e= .returned (.int .i64 zi)/\Cls z'):=fun z h=>(hz z (hC z h).bel).mono fun e z' ⟨he,hb⟩=>⟨he,hin _ ((hC z h).step hb)⟩;have HLc:Hid (∀ z,Cls z->Calls prog 160 #[.agg #[.slice A s.rules.length c,.slice A2 s.zones.length c2,.slice (some ad) s.links.length c3],.string nm] z fun e z'=>e= .returned (.int .i64 li)/\Cls z'):=fun z h=>(hl z (hC z h).bel).mono fun e z' ⟨he,hb⟩=>⟨he,hin _ ((hC z h).step hb)⟩;have HCx:=hid hC;have HS:=hid hstart;have HFa:=hid hfact;clear hC hstart hCls hin hz hl hfact
   cases g1:decide (0<=zi)
   ·cases g2:decide (li<(k:Int))
    ·have hh:hitB s k=false:=by rw [HFa.out,g1,g2];rfl
     have HNx:Hid (∀ t,t<k+1->hitB s t=false):=fun t ht=>by
      by_cases e:t=k
      ·rw [e];exact hh
      ·exact HNo.out t (by omega)
     clear hh HFa HNo;go_wp2
     refine Qt.wp_region_cls Cls (by kernel_rfl) (by kernel_rfl) HS.out ?_
     repeat (go_big_quiet_step (fail))
     go_big_quiet_step (exact Qt.quiet_cls (HZc.out _ (Qt.In.h _)))
     repeat (go_big_quiet_step (fail))
     go_big_quiet_step (exact Qt.quiet_cls (HLc.out _ (Qt.In.h _)))
     repeat (go_big_quiet_step (fail))
     refine wpQuiet_nil ?_
     rintro wq ⟨⟨w9,hq9⟩,e9⟩
     have HX:=hid (HCx.out wq (by rw [e9];exact hq9))
     clear hq9 e9 gs gn;go_wp2
     exact ⟨⟨k+1,by omega,by go_num,HNx.out,HX.out⟩,by simp [intOf];omega⟩
    ·have hh:hitB s k=true:=by rw [HFa.out,g1,g2];rfl
     have hq:=HQ1.out k (dup_hit hkn HNo.out hh);subst hq;clear hh HFa HNo HQ1 HQ2 HT1 HT2;go_wp2
     refine Qt.wp_region_cls Cls (by kernel_rfl) (by kernel_rfl) HS.out ?_
     repeat (go_big_quiet_step (fail))
     go_big_quiet_step (exact Qt.quiet_cls (HZc.out _ (Qt.In.h _)))
     repeat (go_big_quiet_step (fail))
     go_big_quiet_step (exact Qt.quiet_cls (HLc.out _ (Qt.In.h _)))
     repeat (go_big_quiet_step (fail))
     refine wpQuiet_nil ?_
     rintro wq ⟨⟨w9,hq9⟩,e9⟩
     have HX:=hid (HCx.out wq (by rw [e9];exact hq9))
     clear hq9 e9 gs gn
     go_wp2_with (go_at_call 97;refine (flaw_any _ _ _ _ _).mono ?_;rintro e w5 ⟨rfl,hb⟩;have ht:=HX.out.step hb;have fR:=ht.res.frozen;have cR:=ht.res.cell;have HF:=hid (ht.fill (.int .i64 10) (.int .i64 3) (.int .i64 k) (.int .i64 0));clear hb ht)
     refine bodyPost_ret (rlinks_results HF.out.res _ rfl) rfl ?_
     exact ⟨rfl,HF.out.bel⟩
   ·have hh:hitB s k=true:=by rw [HFa.out,g1];rfl
    have hq:=HQ1.out k (dup_hit hkn HNo.out hh);subst hq;clear hh HFa HNo HQ1 HQ2 HT1 HT2;go_wp2
    refine Qt.wp_region_cls Cls (by kernel_rfl) (by kernel_rfl) HS.out ?_
    repeat (go_big_quiet_step (fail))
    go_big_quiet_step (exact Qt.quiet_cls (HZc.out _ (Qt.In.h _)))
    repeat (go_big_quiet_step (fail))
    refine wpQuiet_nil ?_
    rintro wq ⟨⟨w9,hq9⟩,e9⟩
    have HX:=hid (HCx.out wq (by rw [e9];exact hq9))
    clear hq9 e9 gs gn
    go_wp2_with (go_at_call 97;refine (flaw_any _ _ _ _ _).mono ?_;rintro e w5 ⟨rfl,hb⟩;have ht:=HX.out.step hb;have fR:=ht.res.frozen;have cR:=ht.res.cell;have HF:=hid (ht.fill (.int .i64 10) (.int .i64 3) (.int .i64 k) (.int .i64 0));clear hb ht)
    refine bodyPost_ret (rlinks_results HF.out.res _ rfl) rfl ?_
    exact ⟨rfl,HF.out.bel⟩
  ·obtain rfl:k=s.links.length:=by omega
   have hq:=HQ2.out (dup_none HNo.out);have HQ3:=hid hq;clear hq HQ1 HQ2 HNo;go_wp2;clear c0
   go_loopw [4] (fun i wr=>∃ k:Nat,k<=s.links.length/\i= .int .i64 k/\(s.links.take k).all (fun l=> !(!inL (allNames s) l.target))=true/\Two w #[.slice A s.rules.length c,.slice A2 s.zones.length c2,.slice A3 s.links.length c3] #[.int .i64 0,.int .i64 0,.int .i64 0,.int .i64 0] wr) (fun i _=>s.links.length - (intOf i).toNat)
   case atStart=>exact ⟨0,Nat.zero_le _,rfl,rfl,HT.out⟩
   case round=>
    clear HT;obtain ⟨k,hk,rfl,hall,ht⟩:=hrel;have HT:=hid ht;have c0:=ht.src.cell
    by_cases hkn:k<s.links.length
    ·have hhit:=fun hp=>find_hit (p:=fun l:Link=> !inL (allNames s) l.target) hkn hall hp
     have hnx:=fun hp=>no_step (p:=fun l:Link=> !inL (allNames s) l.target) hkn hall hp;have HHit:=hid hhit;have HNx:=hid hnx;clear hhit hnx hall ht;obtain ⟨ad,hA,hadb,_⟩:=link_cells (HR.out.below HT.out.bel) hkn rfl;subst hA;have hlc:=fun z (hb:Below w.heap.size w z)=>link_cells (HR.out.below hb) hkn rfl;obtain ⟨Cls,hCls⟩:∃ C:World->Prop,C=Two w #[.slice A s.rules.length c,.slice A2 s.zones.length c2,.slice (some ad) s.links.length c3] #[.int .i64 0,.int .i64 0,.int .i64 0,.int .i64 0]:=⟨_,rfl⟩
     have hC:∀ z,Cls z->Two w #[.slice A s.rules.length c,.slice A2 s.zones.length c2,.slice (some ad) s.links.length c3] #[.int .i64 0,.int .i64 0,.int .i64 0,.int .i64 0] z:=fun z h=>by rw [hCls] at h;exact h
     have hin:∀ z,Two w #[.slice A s.rules.length c,.slice A2 s.zones.length c2,.slice (some ad) s.links.length c3] #[.int .i64 0,.int .i64 0,.int .i64 0,.int .i64 0] z->Cls z:=fun z h=>by rw [hCls];exact h
     have hstart:=hin _ (two_drew HT.out);have inst:Nonempty (Qt.In Cls):=⟨⟨_,hstart⟩⟩;have gs:∀ (z:Qt.In Cls) (i:Nat),z.w.cell? ⟨w.heap.size,i,none⟩=#[.slice A s.rules.length c,.slice A2 s.zones.length c2,.slice (some ad) s.links.length c3][i]?:=fun z i=>(hC z.w z.h).src.cell i
     have gn:∀ z:Qt.In Cls,z.w.cell? (ad.add (k*2))=some (.string (s.links[k]'hkn).target):=fun z=>by obtain ⟨ad',e,_,q⟩:=hlc z.w (hC z.w z.h).bel;obtain rfl:ad=ad':=(by injection e);exact q.1
     have hfact:=known_is s (s.links[k]'hkn).target
     have hfact2:(!inL (allNames s) (s.links[k]'hkn).target)=(decide (atI (zoneAt s.zones (s.links[k]'hkn).target)<0) && decide (atI (linkAt s.links (s.links[k]'hkn).target)<0)):=by rw [hfact,Bool.not_not]
     have HF2:=hid hfact2;clear hfact hfact2;obtain ⟨nm,hnm⟩:∃ n,n=(s.links[k]'hkn).target:=⟨_,rfl⟩;have hz:=HZ.out nm;have hl:=HLk.out nm;rw [<-hnm] at gn HF2;simp only [<-hnm] at HHit HNx;clear hnm hlc;generalize atI (zoneAt s.zones nm)=zi at*;generalize atI (linkAt s.links nm)=li at*;have HZc:Hid (∀ z,Cls z->Calls prog 159 #[.agg #[.slice A s.rules.length c,.slice A2 s.zones.length c2,.slice (some ad) s.links.length c3],.string nm] z fun e z'=>e= .returned (.int .i64 zi)/\Cls z'):=fun z h=>(hz z (hC z h).bel).mono fun e z' ⟨he,hb⟩=>⟨he,hin _ ((hC z h).step hb)⟩;have HLc:Hid (∀ z,Cls z->Calls prog 160 #[.agg #[.slice A s.rules.length c,.slice A2 s.zones.length c2,.slice (some ad) s.links.length c3],.string nm] z fun e z'=>e= .returned (.int .i64 li)/\Cls z'):=fun z h=>(hl z (hC z h).bel).mono fun e z' ⟨he,hb⟩=>⟨he,hin _ ((hC z h).step hb)⟩;have HCx:=hid hC;have HS:=hid hstart;clear hC hstart hCls hin hz hl
     cases g1:decide (zi<0)
     ·have hn:=HNx.out (by rw [HF2.out,g1];rfl)
      have HN:=hid hn;clear hn HNx HHit HF2;go_wp2
      refine Qt.wp_region_cls Cls (by kernel_rfl) (by kernel_rfl) HS.out ?_
      repeat (go_big_quiet_step (fail))
      go_big_quiet_step (exact Qt.quiet_cls (HZc.out _ (Qt.In.h _)))
      repeat (go_big_quiet_step (fail))
      refine wpQuiet_nil ?_
      rintro wq ⟨⟨w9,hq9⟩,e9⟩
      have HX:=hid (HCx.out wq (by rw [e9];exact hq9))
      clear hq9 e9 gs gn;go_wp2
      exact ⟨⟨k+1,by omega,by go_num,HN.out,HX.out⟩,by simp [intOf];omega⟩
     ·cases g2:decide (li<0)
      ·have hn:=HNx.out (by rw [HF2.out,g1,g2];rfl)
       have HN:=hid hn;clear hn HNx HHit HF2;go_wp2
       refine Qt.wp_region_cls Cls (by kernel_rfl) (by kernel_rfl) HS.out ?_
       repeat (go_big_quiet_step (fail))
       go_big_quiet_step (exact Qt.quiet_cls (HZc.out _ (Qt.In.h _)))
       repeat (go_big_quiet_step (fail))
       go_big_quiet_step (exact Qt.quiet_cls (HLc.out _ (Qt.In.h _)))
       repeat (go_big_quiet_step (fail))
       refine wpQuiet_nil ?_
       rintro wq ⟨⟨w9,hq9⟩,e9⟩
       have HX:=hid (HCx.out wq (by rw [e9];exact hq9))
       clear hq9 e9 gs gn;go_wp2
       exact ⟨⟨k+1,by omega,by go_num,HN.out,HX.out⟩,by simp [intOf];omega⟩
      ·have hq:=HT1.out k (HHit.out (by rw [HF2.out,g1,g2];rfl))
       rw [<-HQ3.out] at hq;subst hq;clear HNx HHit HF2 HQ3 HT1 HT2;go_wp2
       refine Qt.wp_region_cls Cls (by kernel_rfl) (by kernel_rfl) HS.out ?_
       repeat (go_big_quiet_step (fail))
       go_big_quiet_step (exact Qt.quiet_cls (HZc.out _ (Qt.In.h _)))
       repeat (go_big_quiet_step (fail))
       go_big_quiet_step (exact Qt.quiet_cls (HLc.out _ (Qt.In.h _)))
       repeat (go_big_quiet_step (fail))
       refine wpQuiet_nil ?_
       rintro wq ⟨⟨w9,hq9⟩,e9⟩
       have HX:=hid (HCx.out wq (by rw [e9];exact hq9))
       clear hq9 e9 gs gn
       go_wp2_with (go_at_call 97;refine (flaw_any _ _ _ _ _).mono ?_;rintro e w5 ⟨rfl,hb⟩;have ht:=HX.out.step hb;have fR:=ht.res.frozen;have cR:=ht.res.cell;have HF:=hid (ht.fill (.int .i64 8) (.int .i64 3) (.int .i64 k) (.int .i64 0));clear hb ht)
       refine bodyPost_ret (rlinks_results HF.out.res _ rfl) rfl ?_
       exact ⟨rfl,HF.out.bel⟩
    ·obtain rfl:k=s.links.length:=by omega
     rw [List.take_length] at hall;have hq:=HT2.out (find_miss hall);rw [<-HQ3.out] at hq;have HQ4:=hid hq;clear hq HT1 HT2 HQ3 hall ht;go_wp2;clear c0
     go_loopw [5] (fun i wr=>∃ k:Nat,k<=s.links.length/\i= .int .i64 k/\(s.links.take k).all (fun l=> !(!(resolveB s l.name).isSome))=true/\Two w #[.slice A s.rules.length c,.slice A2 s.zones.length c2,.slice A3 s.links.length c3] #[.int .i64 0,.int .i64 0,.int .i64 0,.int .i64 0] wr) (fun i _=>s.links.length - (intOf i).toNat)
     case atStart=>exact ⟨0,Nat.zero_le _,rfl,rfl,HT.out⟩
     case round=>
      clear HT;obtain ⟨k,hk,rfl,hall,ht⟩:=hrel;have HT:=hid ht;have c0:=ht.src.cell
      by_cases hkn:k<s.links.length
      ·have hhit:=fun hp=>find_hit (p:=fun l:Link=> !(resolveB s l.name).isSome) hkn hall hp
       have hnx:=fun hp=>no_step (p:=fun l:Link=> !(resolveB s l.name).isSome) hkn hall hp;have HHit:=hid hhit;have HNx:=hid hnx;clear hhit hnx hall ht;obtain ⟨ad,hA,hadb,_⟩:=link_cells (HR.out.below HT.out.bel) hkn rfl;subst hA;have hlc:=fun z (hb:Below w.heap.size w z)=>link_cells (HR.out.below hb) hkn rfl;obtain ⟨Cls,hCls⟩:∃ C:World->Prop,C=Two w #[.slice A s.rules.length c,.slice A2 s.zones.length c2,.slice (some ad) s.links.length c3] #[.int .i64 0,.int .i64 0,.int .i64 0,.int .i64 0]:=⟨_,rfl⟩
       have hC:∀ z,Cls z->Two w #[.slice A s.rules.length c,.slice A2 s.zones.length c2,.slice (some ad) s.links.length c3] #[.int .i64 0,.int .i64 0,.int .i64 0,.int .i64 0] z:=fun z h=>by rw [hCls] at h;exact h
       have hin:∀ z,Two w #[.slice A s.rules.length c,.slice A2 s.zones.length c2,.slice (some ad) s.links.length c3] #[.int .i64 0,.int .i64 0,.int .i64 0,.int .i64 0] z->Cls z:=fun z h=>by rw [hCls];exact h
       have hstart:=hin _ (two_drew HT.out);have inst:Nonempty (Qt.In Cls):=⟨⟨_,hstart⟩⟩;have gs:∀ (z:Qt.In Cls) (i:Nat),z.w.cell? ⟨w.heap.size,i,none⟩=#[.slice A s.rules.length c,.slice A2 s.zones.length c2,.slice (some ad) s.links.length c3][i]?:=fun z i=>(hC z.w z.h).src.cell i
       have gn:∀ z:Qt.In Cls,z.w.cell? ⟨(ad.add (k*2)).block,(ad.add (k*2)).off+1,none⟩=some (.string (s.links[k]'hkn).name):=fun z=>by obtain ⟨ad',e,_,q⟩:=hlc z.w (hC z.w z.h).bel;obtain rfl:ad=ad':=(by injection e);exact q.2
       obtain ⟨nm,hnm⟩:∃ n,n=(s.links[k]'hkn).name:=⟨_,rfl⟩;have hrs:=HRs.out nm;rw [<-hnm] at gn;simp only [<-hnm] at HHit HNx;clear hnm hlc;generalize ((resolveB s nm).getD 0:Nat)=n at*;generalize (resolveB s nm).isSome=ok at*;have HRc:Hid (∀ z,Cls z->Calls prog 161 #[.agg #[.slice A s.rules.length c,.slice A2 s.zones.length c2,.slice (some ad) s.links.length c3],.string nm] z fun e z'=>e= .returned (.tuple #[.int .i64 (n:Nat),.bool ok])/\Cls z'):=fun z h=>(hrs z (hC z h).bel).mono fun e z' ⟨he,hb⟩=>⟨he,hin _ ((hC z h).step hb)⟩;have HCx:=hid hC;have HS:=hid hstart;clear hC hstart hCls hin hrs
       cases ok
       ·have hq:=HQ4.out
        rw [HHit.out rfl] at hq;simp only [flawAt] at hq;subst hq;clear HNx HHit HQ4;go_wp2
        refine Qt.wp_region_cls Cls (by kernel_rfl) (by kernel_rfl) HS.out ?_
        repeat (go_big_quiet_step (fail))
        go_big_quiet_step (exact Qt.quiet_cls (HRc.out _ (Qt.In.h _)))
        repeat (go_big_quiet_step (fail))
        refine wpQuiet_nil ?_
        rintro wq ⟨⟨w9,hq9⟩,e9⟩
        have HX:=hid (HCx.out wq (by rw [e9];exact hq9))
        clear hq9 e9 gs gn
        go_wp2_with (go_at_call 97;refine (flaw_any _ _ _ _ _).mono ?_;rintro e w5 ⟨rfl,hb⟩;have ht:=HX.out.step hb;have fR:=ht.res.frozen;have cR:=ht.res.cell;have HF:=hid (ht.fill (.int .i64 16) (.int .i64 3) (.int .i64 k) (.int .i64 0));clear hb ht)
        refine bodyPost_ret (rlinks_results HF.out.res _ rfl) rfl ?_
        exact ⟨rfl,HF.out.bel⟩
       ·have hn:=HNx.out rfl
        have HN:=hid hn;clear hn HNx HHit;go_wp2
        refine Qt.wp_region_cls Cls (by kernel_rfl) (by kernel_rfl) HS.out ?_
        repeat (go_big_quiet_step (fail))
        go_big_quiet_step (exact Qt.quiet_cls (HRc.out _ (Qt.In.h _)))
        repeat (go_big_quiet_step (fail))
        refine wpQuiet_nil ?_
        rintro wq ⟨⟨w9,hq9⟩,e9⟩
        have HX:=hid (HCx.out wq (by rw [e9];exact hq9))
        clear hq9 e9 gs gn;go_wp2
        exact ⟨⟨k+1,by omega,by go_num,HN.out,HX.out⟩,by simp [intOf];omega⟩
      ·obtain rfl:k=s.links.length:=by omega
       rw [List.take_length] at hall;have hq:=HQ4.out;rw [find_miss hall] at hq;simp only [flawAt,noFlaw] at hq;subst hq;have fR:=ht.res.frozen;have cR:=ht.res.cell;have HF:=hid (ht.fill (.int .i64 0) (.int .i64 0) (.int .i64 0) (.int .i64 0));clear hall ht HQ4;go_wp2
       refine bodyPost_ret (rlinks_results HF.out.res _ rfl) rfl ?_
       exact ⟨rfl,HF.out.bel⟩
end Snd
end
end
end Go.Proofs.YtadamccojdocbaaGreatDoor
