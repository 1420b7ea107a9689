/-
  Contracts of the code that the law reaches, and plain laws. Conditions: as each says.
-/
import Derived.Test.YtadamccojdocbaaGreatDoorV18
import Derived.Test.YtadamccojdocbaaGreatDoorV20
import Derived.OrdersIn
import Derived.AtR
set_option linter.all false
set_option maxHeartbeats 40000000
set_option maxRecDepth 100000
namespace Go.Proofs.YtadamccojdocbaaGreatDoor
open Lib (hid)
open Tryz
section
section
namespace Cmq
open Go.RowKit Mem Civ Mom Img Rul Ahd Trn Src Snd Att Rgt Abr
structure EraW (s:Src) (x:Era):Prop where
 kind:x.kind=0\/x.kind=1\/x.kind=2
 off: -86400<x.off/\x.off<86400
 save: -43200<=x.save/\x.save<=43200
 fmt:x.format.size<=2097152
 right:rulesB (setL s.rules x.rules)=true
 crowd:crowdB (setL s.rules x.rules)=false
 fin: -9000000000000<=endP (svF s) x/\endP (svF s) x<=9000000000000
def tabV (t:Table) (v tv:Value):Array Value:=#[.string t.name,.int .i64 t.first.off,.int .i64 t.first.save,.string t.first.abbr,v,.int .i64 t.till,tv,.int .i64 t.off,.string t.format]
def CompP (T:Table) (err:Int) (w:World) (e:Ending) (w':World):Prop:=
 ∃ v tv,e= .returned (.tuple #[.agg (tabV T v tv),.int .i64 err])/\w'.ownsRow w.heap.size 97 4 v T.shifts.length (T.shifts.flatMap Shift.cells)/\w'.ownsRow w.heap.size 69 11 tv T.tail.length (T.tail.flatMap Rule.cells)/\Below w.heap.size w w'
theorem comp_results {w:World} {R0:Nat} {a0 a1 a2 a3 a4 a5 a6 a7 a8:Value} {n:Int} (h:Blk w R0 33 #[a0,a1,a2,a3,a4,a5,a6,a7,a8]) (tmps:Array Value) (ht:tmps[4]?=some (.pointer (some ⟨R0,0,none⟩))) (h5:tmps[5]?=some (.int .i64 n)):
  (results Tryz.f12 tmps).run prog w= .ok (.tuple #[.agg #[a0,a1,a2,a3,a4,a5,a6,a7,a8],.int .i64 n]) w:=by
 have hc:=h.cell;simp [results,Tryz.results12,go_sem,hc,ht,h5]
theorem tab_set {w:World} {R0:Nat} {b0 b1 b2 b3 b4 b5 b6 b7 b8:Value} (h:Blk w R0 33 #[b0,b1,b2,b3,b4,b5,b6,b7,b8]) (a0 a1 a2 a3 a4 a5 a6 a7 a8:Value):
  Blk (((((((((w.setCell ⟨R0,0,none⟩ a0).setCell ⟨R0,1,none⟩ a1).setCell ⟨R0,2,none⟩ a2).setCell ⟨R0,3,none⟩ a3).setCell ⟨R0,4,none⟩ a4).setCell ⟨R0,5,none⟩ a5).setCell ⟨R0,6,none⟩ a6).setCell ⟨R0,7,none⟩ a7).setCell ⟨R0,8,none⟩ a8) R0 33 #[a0,a1,a2,a3,a4,a5,a6,a7,a8]:=by
 have:=((((((((h.set_ 0 a0).set_ 1 a1).set_ 2 a2).set_ 3 a3).set_ 4 a4).set_ 5 a5).set_ 6 a6).set_ 7 a7).set_ 8 a8
 simpa using this
theorem tab_bel {w w0:World} {B R0:Nat} (h:Below B w0 w) (hB:B<=R0) (a0 a1 a2 a3 a4 a5 a6 a7 a8:Value):
  Below B w0 (((((((((w.setCell ⟨R0,0,none⟩ a0).setCell ⟨R0,1,none⟩ a1).setCell ⟨R0,2,none⟩ a2).setCell ⟨R0,3,none⟩ a3).setCell ⟨R0,4,none⟩ a4).setCell ⟨R0,5,none⟩ a5).setCell ⟨R0,6,none⟩ a6).setCell ⟨R0,7,none⟩ a7).setCell ⟨R0,8,none⟩ a8):=
 ((((((((h.setCell hB _).setCell hB _).setCell hB _).setCell hB _).setCell hB _).setCell hB _).setCell hB _).setCell hB _).setCell hB _
theorem compile_no (s:Src) (A A2 A3:Option Addr) (c c2 c3:Nat) (m i:Int) (w:World) (h:SrcOk s A A2 A3 w) (hm:w.cell? ⟨0,0,none⟩=some (.int .i64 m)) (hno:¬ (checkB s=noFlaw/\0<=i/\i<s.zones.length)):
  Calls prog 12 #[.agg #[.slice A s.rules.length c,.slice A2 s.zones.length c2,.slice A3 s.links.length c3],.int .i64 i] w (CompP noTable 1 w):=by
 have hC:=fun z (hb:Below w.heap.size w z)=>check_any s A A2 A3 c c2 c3 m z (h.below hb) (cell_later hb hm);clear h hm;obtain ⟨F,hF⟩:∃ F,checkB s=F:=⟨_,rfl⟩;rw [hF] at hC hno;clear hF;obtain ⟨rs,zs,ls⟩:=s;simp only at hC hno ⊢;have hb2:=box2 w 26 33 #[.slice A rs.length c,.slice A2 zs.length c2,.slice A3 ls.length c3] #[.string ⟨#[]⟩,.int .i64 0,.int .i64 0,.string ⟨#[]⟩,.slice none 0 0,.int .i64 0,.slice none 0 0,.int .i64 0,.string ⟨#[]⟩];obtain ⟨W,hW⟩:∃ W,(w.alloc (.cells #[.slice A rs.length c,.slice A2 zs.length c2,.slice A3 ls.length c3] 26)).alloc (.cells #[.string ⟨#[]⟩,.int .i64 0,.int .i64 0,.string ⟨#[]⟩,.slice none 0 0,.int .i64 0,.slice none 0 0,.int .i64 0,.string ⟨#[]⟩] 33)=W:=⟨_,rfl⟩;rw [hW] at hb2;obtain ⟨b0,b1,hbw,hsz⟩:=hb2;have HB0:=hid b0;have HB1:=hid b1;have HBw:=hid hbw;have c0:=b0.cell
 have hfin:∀ z,Blk z (w.heap.size+1) 33 #[.string ⟨#[]⟩,.int .i64 0,.int .i64 0,.string ⟨#[]⟩,.slice none 0 0,.int .i64 0,.slice none 0 0,.int .i64 0,.string ⟨#[]⟩]->Below w.heap.size w z->CompP noTable 1 w (.returned (.tuple #[.agg (tabV noTable (.slice none 0 0) (.slice none 0 0)),.int .i64 1])) z:=fun z hbz hbl=>
  ⟨_,_,rfl,⟨by simp [noTable],.inl ⟨rfl,rfl⟩⟩,⟨by simp [noTable],.inl ⟨rfl,rfl⟩⟩,hbl⟩
 have HFin:=hid hfin;have heq:=fun z=>eq_flaw F noFlaw z;clear b0 b1 hbw hsz hfin
 by_cases hfl:F=noFlaw
 ·rw [decide_eq_true hfl] at heq
  by_cases hi0:i<0
  ·have hib:decide (i<0)=true:=decide_eq_true hi0
   obtain ⟨f0,f1,f2,f3⟩:=F;simp only [Flaw.cells,noFlaw] at hC heq;have HC:=hid hC;clear hC hno hfl;go_enter func12,ntmps12
   go_wp2_with (go_at_call 35;refine (HC.out _ HBw.out).mono ?_;rintro e w1 ⟨rfl,hb⟩;have hx1:=HB1.out.below hb HB1.out.lt;have d1:=hx1.cell;have g1:=hx1.frozen;have hx0:=HB0.out.below hb HB0.out.lt;have d0:=hx0.cell;have HX1:=hid hx1;have HBx:=hid (HBw.out.trans (hb.mono HBw.out.size));clear hb hx1 hx0 c0)
   refine bodyPost_ret (comp_results (tab_set HX1.out _ _ _ _ _ _ _ _ _) _ rfl rfl) rfl ?_
   exact HFin.out _ (tab_set HX1.out _ _ _ _ _ _ _ _ _) (tab_bel HBx.out (Nat.le_succ _) _ _ _ _ _ _ _ _ _)
  ·have hib:decide (i<0)=false:=decide_eq_false hi0
   have hil:decide ((zs.length:Int)<=i)=true:=decide_eq_true (by
    by_cases h:(zs.length:Int)<=i
    ·exact h
    ·exact absurd ⟨hfl,by omega,by omega⟩ hno)
   obtain ⟨f0,f1,f2,f3⟩:=F;simp only [Flaw.cells,noFlaw] at hC heq;have HC:=hid hC;clear hC hno hfl;go_enter func12,ntmps12
   go_wp2_with (go_at_call 35;refine (HC.out _ HBw.out).mono ?_;rintro e w1 ⟨rfl,hb⟩;have hx1:=HB1.out.below hb HB1.out.lt;have d1:=hx1.cell;have g1:=hx1.frozen;have hx0:=HB0.out.below hb HB0.out.lt;have d0:=hx0.cell;have HX1:=hid hx1;have HBx:=hid (HBw.out.trans (hb.mono HBw.out.size));clear hb hx1 hx0 c0)
   refine bodyPost_ret (comp_results (tab_set HX1.out _ _ _ _ _ _ _ _ _) _ rfl rfl) rfl ?_
   exact HFin.out _ (tab_set HX1.out _ _ _ _ _ _ _ _ _) (tab_bel HBx.out (Nat.le_succ _) _ _ _ _ _ _ _ _ _)
 ·rw [decide_eq_false hfl] at heq
  obtain ⟨f0,f1,f2,f3⟩:=F;simp only [Flaw.cells,noFlaw] at hC heq;have HC:=hid hC;clear hC hno hfl;go_enter func12,ntmps12
  go_wp2_with (go_at_call 35;refine (HC.out _ HBw.out).mono ?_;rintro e w1 ⟨rfl,hb⟩;have hx1:=HB1.out.below hb HB1.out.lt;have d1:=hx1.cell;have g1:=hx1.frozen;have hx0:=HB0.out.below hb HB0.out.lt;have d0:=hx0.cell;have HX1:=hid hx1;have HBx:=hid (HBw.out.trans (hb.mono HBw.out.size));clear hb hx1 hx0 c0)
  refine bodyPost_ret (comp_results (tab_set HX1.out _ _ _ _ _ _ _ _ _) _ rfl rfl) rfl ?_
  exact HFin.out _ (tab_set HX1.out _ _ _ _ _ _ _ _ _) (tab_bel HBx.out (Nat.le_succ _) _ _ _ _ _ _ _ _ _)
theorem savE_bd {s:Src} {x:Era} (hw:EraW s x) (t:Int) (hl:∀ r∈s.rules,r.letter.size<=2097152):(-43200<=(savE s.rules x t).1/\(savE s.rules x t).1<=43200)/\(savE s.rules x t).2.size<=2097152:=by
 unfold savE
 split
 ·next hk=>
  have hf:=force_ok (setOf s.rules x) x.off t (fun r hr=>by
   unfold setOf at hr;rw [if_pos hk] at hr
   exact hl r (List.mem_filter.1 hr).1)
  exact ⟨⟨hf.1,hf.2.1⟩,hf.2.2⟩
 ·split
  ·exact ⟨hw.save,(Nat.zero_le _:0<=2097152)⟩
  ·exact ⟨by omega,(Nat.zero_le _:0<=2097152)⟩
theorem endO_is (x:Era) (sv:Era->Int):endO x (sv x)= .tuple #[.int .i64 (endP sv x),.bool x.till]:=by
 unfold endO endP
 cases x.till<;>rfl
theorem eend_era (s:Src) (A A2 A3:Option Addr) (c c2 c3:Nat) (m:Int) (i j:Nat) (w:World) (h:SrcOk s A A2 A3 w) (hm:w.cell? ⟨0,0,none⟩=some (.int .i64 m)) (hs:srcB s=true) (hi:i<s.zones.length) (Z:ZoneM) (hZ:Z=s.zones[i]'hi) (hj:j<Z.eras.length):
  Calls prog 39 #[.agg #[.slice A s.rules.length c,.slice A2 s.zones.length c2,.slice A3 s.links.length c3],.int .i64 i,.int .i64 j] w fun e w'=>
   e= .returned (.tuple #[.int .i64 (eraEnd s (Z.eras[j]'hj)),.bool (Z.eras[j]'hj).till])/\Below w.heap.size w w':=by
 subst hZ
 have he:=eend_yes s A A2 A3 c c2 c3 m (svF s ((s.zones[i]'hi).eras[j]'hj)) i j w h hm hs hi hj _ rfl
  (fun h1 h2 Ae ce z hr=>ea_any s h.nr _ (List.getElem_mem hi) _ (List.getElem_mem hj) h1 h2 Ae ce z hr)
 rw [endO_is] at he;exact he
theorem ephase_era (s:Src) (A A2 A3:Option Addr) (c c2 c3:Nat) (m t:Int) (i j:Nat) (w:World) (h:SrcOk s A A2 A3 w) (hm:w.cell? ⟨0,0,none⟩=some (.int .i64 m)) (hs:srcB s=true) (hi:i<s.zones.length) (Z:ZoneM) (hZ:Z=s.zones[i]'hi) (hj:j<Z.eras.length) (hw:EraW s (Z.eras[j]'hj)) (ht: -9223372036854775808<=t/\t<=9223372036854775807):
  Calls prog 38 #[.agg #[.slice A s.rules.length c,.slice A2 s.zones.length c2,.slice A3 s.links.length c3],.int .i64 i,.int .i64 j,.int .i64 t] w fun e w'=>
   e= .returned (.tuple #[.agg #[.int .i64 (phaseE s.rules (Z.eras[j]'hj) t).off,.int .i64 (phaseE s.rules (Z.eras[j]'hj) t).save,.string (phaseE s.rules (Z.eras[j]'hj) t).abbr],.bool true])/\Below w.heap.size w w':=by
 subst hZ;have hln:∀ x:Era,(setOf s.rules x).length<=1000000:=fun x=>Nat.le_trans (setOf_len s.rules x) h.nr;obtain ⟨x,hx⟩:∃ x,x=(s.zones[i]'hi).eras[j]'hj:=⟨_,rfl⟩;rw [<-hx] at hw ⊢;have hsv:savV x (forceP (setOf s.rules x) x.off t)=savE s.rules x t:=rfl;have hpv:phaseV x (forceP (setOf s.rules x) x.off t)=phaseE s.rules x t:=rfl;have hb:=savE_bd hw t (fun r hr=>(h.tr r hr).2)
 have:=ephase_any s A A2 A3 c c2 c3 m t (forceP (setOf s.rules x) x.off t) i j w h hm hs hi hj x hx
  (fun _ Ae ce z hr z2 hb2=>force_any (setOf s.rules x) Ae ce x.off t z2 ((hr.below hb2).more hb2.size) (hln x) ht.1 ht.2) hw.kind hw.off (by rw [hsv];exact hb.1) (by rw [hsv];exact hb.2) hw.fmt
 rw [hpv] at this;exact this
theorem jan_there {y:Int} (h1:1<=y) (h2:y<=20000):daysO y 1 1=some (countI y 1 1)/\-10000000<=countI y 1 1/\countI y 1 1<=10000000:=by
 have hm:mlen y 1=31:=by simp [mlen]
 have ha:janI 1= -719162:=by decide
 have hb:janI 20001=6585688:=by decide
 have hj:janI y=countI y 1 1:=rfl
 have h3:=jan_mono (a:=1) (b:=y) (by omega)
 have h4:=jan_mono (a:=y) (b:=20001) (by omega)
 refine ⟨?_,by omega,by omega⟩
 unfold daysO
 rw [hm,if_neg (by omega),if_neg (by omega)]
structure FrC (w:World) (src tab zon:Array Value) (bz:Nat) (W:World):Prop where
 src:Blk W w.heap.size 26 src
 res:Blk W (w.heap.size+1) 33 tab
 zon:Blk W bz 65 zon
 bel:Below w.heap.size w W
 lo:w.heap.size+2<=bz
theorem FrC.step {w W W':World} {src tab zon:Array Value} {bz:Nat} (h:FrC w src tab zon bz W) (hb:Below W.heap.size W W'):FrC w src tab zon bz W':=
 ⟨h.src.below hb h.src.lt,h.res.below hb h.res.lt,h.zon.below hb h.zon.lt,h.bel.trans (hb.mono h.bel.size),h.lo⟩
theorem FrC.alloc {w W:World} {src tab zon:Array Value} {bz:Nat} (h:FrC w src tab zon bz W) (o:Obj):FrC w src tab zon bz (W.alloc o):=⟨h.src.alloc o,h.res.alloc o,h.zon.alloc o,h.bel.alloc h.bel.size o,h.lo⟩
theorem FrC.kept {w W W':World} {src tab zon:Array Value} {bz B b:Nat} (h:FrC w src tab zon bz W) (hk:KeptS B b W W') (hB:w.heap.size<=B) (hb:bz<b):FrC w src tab zon bz W':=
 have h0:=h.lo
 ⟨hk.blk h.src (by omega) (by decide),hk.blk h.res (by omega) (by decide),hk.blk h.zon (by omega) (by decide),h.bel.trans (hk.bel.mono hB),h.lo⟩
structure MkC (B:Nat) (Ds:List Nat) (W:World):Prop where
 nod:Ds.Nodup
 at_:∀ D∈Ds,B<=D/\W.heap[D]?=some (.deferred (some []))
theorem MkC.nil (B:Nat) (W:World):MkC B [] W:=⟨List.nodup_nil,fun D h=>by simp at h⟩
theorem MkC.below {B:Nat} {Ds:List Nat} {W W':World} (h:MkC B Ds W) (hb:Below W.heap.size W W'):MkC B Ds W':=⟨h.nod,fun D hD=>by
 obtain ⟨h1,h2⟩:=h.at_ D hD
 exact ⟨h1,(hb.block D (Array.getElem?_eq_some_iff.1 h2).1).trans h2⟩⟩
theorem MkC.kept {B B1 b:Nat} {Ds:List Nat} {W W':World} (h:MkC B Ds W) (hk:KeptS B1 b W W') (hb:b<B):MkC B Ds W':=⟨h.nod,fun D hD=>by
 obtain ⟨h1,h2⟩:=h.at_ D hD
 exact ⟨h1,hk.oth D _ h2 (fun e=>by injection e;omega) (fun c fz e=>by cases e)⟩⟩
theorem MkC.push {B:Nat} {Ds:List Nat} {W W':World} {D:Nat} (h:MkC B Ds W) (k:MkC B Ds W') (hB:B<=D) (hD:W.heap.size<=D) (hh:W'.heap[D]?=some (.deferred (some []))):MkC B (D :: Ds) W':=by
 refine ⟨List.nodup_cons.2 ⟨fun hm=>?_,h.nod⟩,fun D' hD'=>?_⟩
 ·have:=(Array.getElem?_eq_some_iff.1 (h.at_ D hm).2).1
  omega
 ·rcases List.mem_cons.1 hD' with rfl|hD'
  ·exact ⟨hB,hh⟩
  ·exact k.at_ D' hD'
structure FrM (w:World) (src tab zon:Array Value) (bz bm:Nat) (Ds:List Nat) (W:World):Prop where
 fr:FrC w src tab zon bz W
 mp:Blk W (bm+1) 79 #[.pointer (some ⟨bm,0,none⟩)]
 lom:bz<bm
 mks:MkC (bm+2) Ds W
theorem FrM.step {w W W':World} {src tab zon:Array Value} {bz bm:Nat} {Ds:List Nat} (h:FrM w src tab zon bz bm Ds W) (hb:Below W.heap.size W W'):FrM w src tab zon bz bm Ds W':=⟨h.fr.step hb,h.mp.below hb h.mp.lt,h.lom,h.mks.below hb⟩
theorem FrM.alloc {w W:World} {src tab zon:Array Value} {bz bm:Nat} {Ds:List Nat} (h:FrM w src tab zon bz bm Ds W) (o:Obj):FrM w src tab zon bz bm Ds (W.alloc o):=h.step ((Below.refl _ _).alloc (Nat.le_refl _) o)
theorem FrM.kept {w W W':World} {src tab zon:Array Value} {bz bm B:Nat} {Ds:List Nat} (h:FrM w src tab zon bz bm Ds W) (hk:KeptS B bm W W') (hB:w.heap.size<=B):FrM w src tab zon bz bm Ds W':=
 ⟨h.fr.kept hk hB h.lom,hk.blk h.mp (by omega) (by decide),h.lom,h.mks.kept hk (by omega)⟩
theorem FrM.drew {w W:World} {src tab zon:Array Value} {bz bm:Nat} {Ds:List Nat} (h:FrM w src tab zon bz bm Ds W):FrM w src tab zon bz bm Ds W.drew:=⟨⟨h.fr.src.drew,h.fr.res.drew,h.fr.zon.drew,h.fr.bel.drew,h.fr.lo⟩,h.mp.drew,h.lom,⟨h.mks.nod,h.mks.at_⟩⟩
theorem mo_first {w W:World} {B bm:Nat} {nm:ByteArray} {p q:Phase} {till:Int} {v tv:Value} {off:Int} {fm:ByteArray} {over:Bool} {n:Nat} {xs:List Value} (hblk:Blk W bm 81 (MoV nm p v till tv off fm over)) (hown:W.ownsRow B 97 4 v n xs) (hk:KeptS B bm w W) (hB:B<=bm):
  Blk (((W.setCell ⟨bm,1,none⟩ (.int .i64 q.off)).setCell ⟨bm,2,none⟩ (.int .i64 q.save)).setCell ⟨bm,3,none⟩ (.string q.abbr)) bm 81 (MoV nm q v till tv off fm over)/\
  (((W.setCell ⟨bm,1,none⟩ (.int .i64 q.off)).setCell ⟨bm,2,none⟩ (.int .i64 q.save)).setCell ⟨bm,3,none⟩ (.string q.abbr)).ownsRow B 97 4 v n xs/\
  KeptS B bm w (((W.setCell ⟨bm,1,none⟩ (.int .i64 q.off)).setCell ⟨bm,2,none⟩ (.int .i64 q.save)).setCell ⟨bm,3,none⟩ (.string q.abbr)):=by
 have hne:=own_blk_ne hown hblk (by decide)
 refine ⟨by simpa [MoV] using ((hblk.set_ 1 (.int .i64 q.off)).set_ 2 (.int .i64 q.save)).set_ 3 (.string q.abbr),?_,((hk.setCell hB _ _).setCell hB _ _).setCell hB _ _⟩
 exact ownsRow_setCell_other (ownsRow_setCell_other (ownsRow_setCell_other hown (a:=⟨bm,1,none⟩) hne _) (a:=⟨bm,2,none⟩) hne _) (a:=⟨bm,3,none⟩) hne _
structure FrE (w:World) (src tab zon:Array Value) (bz bm:Nat) (Ds:List Nat) (bb be:Nat) (beg:Int) (ec:Array Value) (nm:ByteArray) (first:Phase) (till:Int) (m:List Shift×Bool) (W:World):Prop where
 fm:FrM w src tab zon bz bm Ds W
 bg:Blk W bb 2 #[.int .i64 beg]
 er:Blk W be 84 ec
 mo:Mo w.heap.size bm nm first till (.slice none 0 0) 0 ⟨#[]⟩ m W
 lo:bm+1<bb/\bb<be
theorem FrE.step {w W W':World} {src tab zon:Array Value} {bz bm bb be:Nat} {Ds:List Nat} {beg:Int} {ec:Array Value} {nm:ByteArray} {first:Phase} {till:Int} {m:List Shift×Bool} (h:FrE w src tab zon bz bm Ds bb be beg ec nm first till m W) (hb:Below W.heap.size W W'):FrE w src tab zon bz bm Ds bb be beg ec nm first till m W':=
 ⟨h.fm.step hb,h.bg.below hb h.bg.lt,h.er.below hb h.er.lt,h.mo.step hb,h.lo⟩
theorem FrE.alloc {w W:World} {src tab zon:Array Value} {bz bm bb be:Nat} {Ds:List Nat} {beg:Int} {ec:Array Value} {nm:ByteArray} {first:Phase} {till:Int} {m:List Shift×Bool} (h:FrE w src tab zon bz bm Ds bb be beg ec nm first till m W) (o:Obj):FrE w src tab zon bz bm Ds bb be beg ec nm first till m (W.alloc o):=
 h.step ((Below.refl _ _).alloc (Nat.le_refl _) o)
theorem FrE.kept {w W W':World} {src tab zon:Array Value} {bz bm bb be:Nat} {Ds:List Nat} {beg:Int} {ec:Array Value} {nm:ByteArray} {first:Phase} {till:Int} {m m':List Shift×Bool} (h:FrE w src tab zon bz bm Ds bb be beg ec nm first till m W) (hk:KeptS w.heap.size bm W W') (hm:Mo w.heap.size bm nm first till (.slice none 0 0) 0 ⟨#[]⟩ m' W'):FrE w src tab zon bz bm Ds bb be beg ec nm first till m' W':=
 have hl:=h.lo
 ⟨h.fm.kept hk (Nat.le_refl _),hk.blk h.bg (by omega) (by decide),hk.blk h.er (by omega) (by decide),hm,h.lo⟩
def OddG (B:Nat) (W W':World) (row:Option Nat):Prop:=W.grownBy W' row/\∀ r,row=some r->B<=r/\∃ o:Obj,W.heap[r]?=some o/\(o.isCells=false\/isTurn o)
theorem OddG.blk {B b:Nat} {W W':World} {row:Option Nat} {t:TypeId} {cs:Array Value} (h:OddG B W W' row) (hb:Blk W b t cs) (ht:t≠133):Blk W' b t cs:=hb.grown h.1 (fun e=>by
 obtain ⟨_,o,h1,h2⟩:=h.2 b e.symm;rw [show W.heap[b]?=_ from hb] at h1
 injection h1 with h1
 subst h1
 rcases h2 with h2|⟨c,fz,h2⟩
 ·cases h2
 ·injection h2 with _ h3
  exact ht h3)
theorem OddG.own {B B1 n size:Nat} {W W':World} {row:Option Nat} {e:TypeId} {v:Value} {xs:List Value} (h:OddG B W W' row) (ho:W.ownsRow B1 e size v n xs) (ht:e≠133):W'.ownsRow B1 e size v n xs:=by
 refine ho.kept h.1 ?_
 rcases ho.2 with ⟨rfl,_⟩|⟨g,cap,cur,rfl,_,hg,_⟩
 ·exact .inl rfl
 ·refine .inr fun e2=>?_
  obtain ⟨_,o,h1,h2⟩:=h.2 g e2.symm;rw [hg] at h1
  injection h1 with h1
  subst h1
  rcases h2 with h2|⟨c,fz,h2⟩
  ·cases h2
  ·injection h2 with _ h3
   exact ht h3
theorem OddG.mo {B B1 b:Nat} {W W':World} {row:Option Nat} {nm:ByteArray} {first:Phase} {till:Int} {tv:Value} {off:Int} {fm:ByteArray} {m:List Shift×Bool} (h:OddG B W W' row) (hm:Mo B1 b nm first till tv off fm m W):Mo B1 b nm first till tv off fm m W':=by
 obtain ⟨v,h1,h2⟩:=hm
 exact ⟨v,h.blk h1 (by decide),h.own h2 (by decide)⟩
theorem OddG.fre {B:Nat} {w W W':World} {row:Option Nat} {src tab zon:Array Value} {bz bm bb be:Nat} {Ds:List Nat} {beg:Int} {ec:Array Value} {nm:ByteArray} {first:Phase} {till:Int} {m:List Shift×Bool} (h:OddG B W W' row) (hB:w.heap.size<=B) (hD:∀ D∈Ds,D<B) (hf:FrE w src tab zon bz bm Ds bb be beg ec nm first till m W):FrE w src tab zon bz bm Ds bb be beg ec nm first till m W':=
 ⟨⟨⟨h.blk hf.fm.fr.src (by decide),h.blk hf.fm.fr.res (by decide),h.blk hf.fm.fr.zon (by decide),hf.fm.fr.bel.grown h.1 hf.fm.fr.bel.size (fun k e=>Nat.le_trans hB (h.2 k e).1),hf.fm.fr.lo⟩,h.blk hf.fm.mp (by decide),hf.fm.lom,
  ⟨hf.fm.mks.nod,fun D hm=>⟨(hf.fm.mks.at_ D hm).1,(h.1.block D (Array.getElem?_eq_some_iff.1 (hf.fm.mks.at_ D hm).2).1 (fun e=>by have:=(h.2 D e.symm).1;have:=hD D hm;omega)).trans (hf.fm.mks.at_ D hm).2⟩⟩⟩,
  h.blk hf.bg (by decide),h.blk hf.er (by decide),h.mo hf.mo,hf.lo⟩
theorem kq_kept {B0 B b:Nat} {W W':World} {cs:Array Value} (h:KeptS B b W W') (hB:B0<=B) (hb:Blk W b 81 cs):Kq B0 W W':=
 ⟨h.bel.size,fun k hk=>h.bel.block k (by omega),fun k c t fz hk h1 h2=>h.oth k _ hk (fun e=>by
  injection e with e
  subst e;rw [show W.heap[k]?=_ from hb] at hk
  injection hk with hk
  injection hk with _ hk2
  exact h2 hk2.symm) (fun c' fz' e=>by
  injection e with _ e2
  exact h1 e2)⟩
theorem kq_below {B0:Nat} {W W':World} (h:Below W.heap.size W W') (hB:B0<=W.heap.size):Kq B0 W W':=
 ⟨h.size,fun k hk=>h.block k (by omega),fun k c t fz hk _ _=>(h.block k (Array.getElem?_eq_some_iff.1 hk).1).trans hk⟩
theorem kq_put {B0 l:Nat} {W:World} {r:Loop} {o:Obj} (hB:B0<=l) (hl:W.heap[l]?=some (.loop r)):Kq B0 W (W.putObj l o):=
 ⟨by simp,fun k hk=>World.putObj_heap_other (by omega),fun k c t fz hk _ _=>by
  rw [World.putObj_heap_other (fun e=>by subst e;rw [hl] at hk;cases hk)]
  exact hk⟩
theorem keeps_kept {B1 B b:Nat} {W W':World} {cs:Array Value} (h:KeptS B b W W') (hb:Blk W b 81 cs):KeepsFrom B1 W W':=
 ⟨h.bel.size,fun k o _ hk ho=>h.oth k o hk (fun e=>by
  injection e with e
  subst e;rw [show W.heap[k]?=_ from hb] at hk
  injection hk with hk
  subst hk
  cases ho) (fun c fz e=>by
  subst e
  cases ho)⟩
theorem Mo.block {B b:Nat} {nm:ByteArray} {first:Phase} {till:Int} {tv:Value} {off:Int} {fm:ByteArray} {m:List Shift×Bool} {w:World} (h:Mo B b nm first till tv off fm m w):∃ cs,Blk w b 81 cs:=⟨_,h.choose_spec.1⟩
theorem leaves_marksC {F:Fence} {n:Nat} {fn:Func} {tmps:Array Value} {R:Ending->World->Prop} {B:Nat} {P:World->Prop} (hP:∀ W D o,P W->B<=D->W.heap[D]?=some (.deferred (some []))->P (W.putObj D o)) (hE:∀ W,P W->LeavesInM F n prog fn tmps R [] .returning W):
  ∀ (Ds:List Nat) (W:World),MkC B Ds W->P W->LeavesInM F n prog fn tmps R (Ds.map markD) .returning W
 |[],W,_,h=>hE W h
 |D :: Ds,W,hm,h=>by
  obtain ⟨h1,h2⟩:=hm.at_ D (by simp)
  refine ⟨by simp,.inl ⟨D,_,rfl,run_takeDeferred h2,?_⟩⟩
  refine leaves_marksC hP hE Ds _ ⟨(List.nodup_cons.1 hm.nod).2,fun D' hD'=>?_⟩ (hP W D _ h h1 h2)
  obtain ⟨g1,g2⟩:=hm.at_ D' (by simp [hD'])
  refine ⟨g1,?_⟩
  rw [<-g2]
  exact World.putObj_heap_other (fun e=>(List.nodup_cons.1 hm.nod).1 (by rw [<-e];exact hD'))
end Cmq
end
end
section
section
namespace Qt
open Go
theorem upon_in {P:Program} {o:Oper} {a:Act} {K:Act->World->Prop} {Q:Exit->Act->World->Prop} {l n:Nat} (hQ:¬ LetsOut Q):∀ (r:Result Next),o.upon P a K Q r->o.uponIn (Fence.wide.inRound l) n P a K Q r
 | .ok (.value _) _,h=>h
 | .ok .skip _,h=>h
 | .ok (.defer _) _,h=>h
 | .ok (.enter f args) w',h=>⟨fun h=>(by cases h),CallsIn.inRound l (callsIn_wide.2 h)⟩
 | .ok (.row row args) w',h=>⟨fun h=>(by cases h),fun c cs _=>by
   obtain ⟨v,w'',r,s⟩:=h c cs
   exact ⟨v,w'',r,stepsIn_wide.2 s⟩⟩
 | .halt (.panic _) _,h=>h
theorem any_in {P:Program} {md:Region.Mode} {ops:Array Oper} {Q:Exit->Act->World->Prop} {l n:Nat} (hd:∀ (i:Nat) o,ops[i]?=some o->∀ c,o.op≠.defer c) (hQ:¬ LetsOut Q):∀ (fuel:Nat) (listed:Array Bool) (a:Act) (w:World),
  wpAny P md ops Q fuel listed a w->wpAnyIn (Fence.wide.inRound l) n P md ops Q fuel listed a w
 |0,_,_,_,h=>h
 |fuel+1,listed,a,w,h=>by
  refine ⟨h.1,fun i hi=>?_⟩
  have hi2:=h.2 i hi;unfold wpOp at hi2;unfold wpOpIn
  cases ho:ops[i]? with
  |none=>
   rw [ho] at hi2;exact any_in hd hQ fuel _ a w hi2
  |some o=>
   rw [ho] at hi2;simp only at hi2 ⊢
   split
   ·next hw=>
    rw [if_pos hw] at hi2;have h3:=hi2.resolve_right fun h=>hQ h.2;have h4:o.wp P a w (wpAnyIn (Fence.wide.inRound l) n P md ops Q fuel (listed.setIfInBounds i true)) Q:=Oper.wp_mono (fun a w=>any_in hd hQ fuel _ a w) h3
    refine ⟨fun _ _=>trivial,?_⟩
    rw [Oper.semAt_eq _ _ _ (hd i o ho)];exact upon_in hQ _ h4
   ·next hw=>
    rw [if_neg hw] at hi2;exact ⟨fun _ _=>trivial,any_in hd hQ fuel _ _ w hi2⟩
theorem any_cls_tail {P:Program} {Q:Exit->Act->World->Prop} {a:Act} {w:World} {l:List Oper} (Cls:World->Prop) (n:Nat) (hB:Region.lexTailB .any l.toArray n=true) (hC:Cls w.drew)
  (h:wpQuiet P l.toArray (fun w'=>∃ z:In Cls,w'=z.w) (fun a'=>∀ w',(∃ z:In Cls,w'=z.w)->wpList P l.toArray Q (l.drop n) a' w') (l.take n) a):wpAny P .any l.toArray Q l.toArray.size (Array.replicate l.toArray.size false) a { w with drawn:=w.drawn+1 }:=by
 simp only [Region.lexTailB,Bool.and_eq_true,decide_eq_true_eq] at hB;obtain ⟨⟨⟨⟨hsel,hn⟩,hs⟩,hc⟩,hlex⟩:=hB
 have hn':n<l.length:=by simpa using hn
 have htl:(l.take n).length=n:=by simp;omega
 have hdl:(l.drop n).length=l.toArray.size - n:=by simp
 have inv0:HeadInv .any l.toArray n (Array.replicate l.toArray.size false):=
  ⟨by simp,fun j oj _ hl=>(by rw [getD_replicate_false] at hl;cases hl),fun t _ ht=>getD_in (by simpa using ht) (getD_replicate_false _ _)⟩
 have H:=hd_lex (md:= .any) (g:=l.toArray.size - n) hsel hs hc hn (l.take n) 0 _ a (fun j hj=>by
  have hj':j<n:=by rw [htl] at hj;exact hj
  simp [hj']) (by simpa using htl) inv0 (by rw [htl];exact hlex) h
 have:=wpAny_of_hd (C:=fun w'=>∃ z:In Cls,w'=z.w) (Q':=Q) (g:=l.toArray.size - n) (fun listed a' w' hw' hL=>by
  have:=wpAny_of_seq (md:= .any) (Q':=Q) (l.drop n) n listed a' w' (fun j=>by simp [List.getElem?_drop]) (by rw [hdl];exact hL.1) (hL.2 w' hw')
  rwa [hdl] at this) _ _ _ { w with drawn:=w.drawn+1 } ⟨⟨w.drew,hC⟩,rfl⟩ H
 rw [htl,show n+(l.toArray.size - n)=l.toArray.size by omega] at this
 exact this
theorem region_round {P:Program} {id n L:Nat} {ops:Array Oper} {Q:Exit->Act->World->Prop} {a:Act} {w:World} (hm:P.follows .mixedOrders=true) (hd:ops.all (fun o=>match o.op with| .defer _=>false|_=>true)=true) (hQ:¬ LetsOut Q)
  (h:wpAny P .any ops Q ops.size (Array.replicate ops.size false) a { w with drawn:=w.drawn+1 }):(Code.region id ops true).wpIn (Fence.wide.inRound L) n P Q a w:=
 wpIn_region_any hm (any_in (fun i o ho c e=>by
  obtain ⟨hi,e2⟩:=Array.getElem?_eq_some_iff.1 ho
  rw [Array.all_eq_true] at hd;have:=hd i hi;rw [e2,e] at this
  cases this) hQ _ _ _ _ h)
end Qt
end
end
end Go.Proofs.YtadamccojdocbaaGreatDoor
