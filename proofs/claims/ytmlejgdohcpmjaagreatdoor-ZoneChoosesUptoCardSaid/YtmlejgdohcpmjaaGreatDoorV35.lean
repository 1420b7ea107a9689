/-
  Contracts of the code that the law reaches, and plain laws. Conditions: as each says.
-/
import Derived.Test.YtmlejgdohcpmjaaGreatDoorV34
import Derived.Test.YtmlejgdohcpmjaaGreatDoorV33
set_option linter.all false
set_option maxHeartbeats 40000000
set_option maxRecDepth 100000
namespace Go.Proofs.YtmlejgdohcpmjaaGreatDoor
open Lib (hid)
open Tryz
section
section
namespace R14
open Go.RowKit Mem Img Plc Src Civ Mom Rul
theorem phase_any (p:Phase) (w:World) (hs:p.abbr.size<=140737488355328):
  Calls prog 35 #[.agg #[.int .i64 p.off,.int .i64 p.save,.string p.abbr]] w fun e w'=>e= .returned (.bool (Rgt.phaseB p))/\w'=w.alloc (.cells #[.int .i64 p.off,.int .i64 p.save,.string p.abbr] 23):=by
 obtain ⟨off,save,s⟩:=p;simp only at*;go_enter func35,ntmps35;obtain ⟨W,hW⟩:∃ W,w.alloc (.cells #[.int .i64 off,.int .i64 save,.string s] 23)=W:=⟨_,rfl⟩
 have cc:∀ i,W.cell? ⟨w.heap.size,i,none⟩=#[Value.int .i64 off,.int .i64 save,.string s][i]?:=fun i=>by rw [<-hW];exact (Blk.new w _ _).cell i
 go_wp2_with fail
 go_loopw [3] (fun i wr=>∃ k:Nat,k<=s.size/\i= .int .i64 k/\(s.data.toList.take k).all Rgt.byteOk=true/\wr=W) (fun i _=>s.size - (intOf i).toNat)
 case atStart=>exact ⟨0,Nat.zero_le _,rfl,rfl,rfl⟩
 case round=>
  have HW:=hid hW;clear hW;obtain ⟨k,hk,rfl,hall,rfl⟩:=hrel;have Hall:=hid hall;clear hall
  by_cases hkn:k<s.size
  ·obtain ⟨ok,hok⟩:∃ ok,Rgt.byteOk (s[k]'hkn)=ok:=⟨_,rfl⟩
   have Hok:=hid hok;simp only [Rgt.byteOk] at hok
   have e33:decide (((s[k]'hkn).toNat:Int)<=32)=decide (((s[k]'hkn).toNat:Int)<33):=by rw [decide_eq_decide];omega
   rw [e33] at hok;clear e33
   cases h2:decide (((s[k]'hkn).toNat:Int)<33)<;>cases h3:decide ((126:Int)<(s[k]'hkn).toNat)
   all_goals rw [h2,h3] at hok
   all_goals simp at hok
   all_goals subst hok
   all_goals go_wp2
   all_goals first
    |(refine ⟨⟨k+1,by omega,by go_num,all_succ (by simpa using hkn) Hall.out Hok.out,trivial⟩,by simp [intOf];omega⟩;done)
    |(go_ret;refine ⟨?_,HW.out.symm⟩;rw [show Rgt.phaseB ⟨off,save,s⟩=false from Rgt.phase_no (k:=k) (by simpa using hkn) Hok.out];rfl)
  ·obtain rfl:k=s.size:=by omega
   rw [show s.data.toList.take s.size=s.data.toList from List.take_of_length_le (by simp)] at Hall
   cases h0:decide (-86400<off)<;>cases h1:decide (off<86400)<;>cases h2:decide (-43200<=save)<;>cases h3:decide (save<=43200)<;>cases h4:decide ((s.size:Int)<=40)
   all_goals go_wp2_with fail
   all_goals go_ret
   all_goals refine ⟨?_,HW.out.symm⟩
   all_goals simp only [Rgt.phaseB,Rgt.dayB,Hall.out,h0,h1,h2,h3,h4,Bool.true_and]
   all_goals rfl
theorem hd_cases (x:Table):(placeB x.name=false/\rightT x=false)\/(placeB x.name=true/\Rgt.phaseB x.first=false/\rightT x=false)\/(placeB x.name=true/\Rgt.phaseB x.first=true/\decide ((30000:Int)<x.shifts.length)=true/\rightT x=false)\/
  (placeB x.name=true/\Rgt.phaseB x.first=true/\decide ((30000:Int)<x.shifts.length)=false/\decide ((2:Int)<x.tail.length)=true/\rightT x=false)\/
  (placeB x.name=true/\Rgt.phaseB x.first=true/\decide ((30000:Int)<x.shifts.length)=false/\decide ((2:Int)<x.tail.length)=false/\rightT x=(Rgt.shiftsB x && tailT x)):=by
 unfold rightT hdB;generalize placeB x.name=a1
 generalize Rgt.phaseB x.first=a2
 generalize decide ((30000:Int)<x.shifts.length)=a3;generalize decide ((2:Int)<x.tail.length)=a4;generalize Rgt.shiftsB x=a5;generalize tailT x=a6
 revert a1 a2 a3 a4 a5 a6
 decide
theorem shifts_no {x:Table} {k:Nat} (hk:k<x.shifts.length) (h:Rgt.okAt x.first x.till x.shifts k=false):Rgt.shiftsB x=false:=by
 unfold Rgt.shiftsB;rw [List.all_eq_false]
 exact ⟨k,by simpa using hk,by rw [h];decide⟩
theorem sec_prev (ss:List Shift) (j:Nat) (h:j+1<ss.length):Rgt.secOk ss (j+1)= !(decide (ss[j+1].sec<=(ss[j]'(by omega)).sec)):=by
 simp only [Rgt.secOk,List.getElem?_eq_getElem h,List.getElem?_eq_getElem (show j<ss.length by omega)]
theorem ok_of (first:Phase) (till:Int) (ss:List Shift) (k:Nat) (hk:k<ss.length):Rgt.okAt first till ss k=(Rgt.phaseB ss[k].ph && (!(decide (ss[k].ph=Rgt.hadAt first ss k)) && (!(decide (till<=ss[k].sec)) && Rgt.secOk ss k))):=by
 simp only [Rgt.okAt,List.getElem?_eq_getElem hk]
theorem had_of (first:Phase) (ss:List Shift) (k:Nat) (hk:k<ss.length):Rgt.hadAt first ss (k+1)=ss[k].ph:=by
 simp only [Rgt.hadAt,List.getElem?_eq_getElem hk]
 rfl
theorem okAll (first:Phase) (till:Int) (ss:List Shift) (k:Nat) (h:(List.range k).all (Rgt.okAt first till ss)=true) (h2:Rgt.okAt first till ss k=true):(List.range (k+1)).all (Rgt.okAt first till ss)=true:=by
 rw [List.range_succ,List.all_append,h];simp [h2]
theorem tl_cases (x:Table):(((x.tail.length:Nat):Int) == 0)=true/\(x.off == 0)=false/\tailT x=false\/
  (((x.tail.length:Nat):Int) == 0)=true/\(x.off == 0)=true/\tailT x=x.format.toList.isEmpty\/
  (((x.tail.length:Nat):Int) == 0)=false/\x.off<=-86400/\tailT x=false\/
  (((x.tail.length:Nat):Int) == 0)=false/\-86400<x.off/\86400<=x.off/\tailT x=false\/
  (((x.tail.length:Nat):Int) == 0)=false/\-86400<x.off/\x.off<86400/\formatB x.format.data.toList=false/\tailT x=false\/
  (((x.tail.length:Nat):Int) == 0)=false/\-86400<x.off/\x.off<86400/\formatB x.format.data.toList=true/\rulesB x.tail=false/\tailT x=false\/
  (((x.tail.length:Nat):Int) == 0)=false/\-86400<x.off/\x.off<86400/\formatB x.format.data.toList=true/\rulesB x.tail=true/\tailT x=(x.tail.all (ruleT x.off) && !R11.nearR x.tail):=by
 unfold tailT
 by_cases h0:x.tail.length=0
 ·have:(((x.tail.length:Nat):Int) == 0)=true:=by rw [beq_iff_eq];omega
  rw [if_pos h0,this]
  cases h1:x.off == 0
  ·exact .inl ⟨rfl,rfl,rfl⟩
  ·exact .inr (.inl ⟨rfl,rfl,rfl⟩)
 ·have:(((x.tail.length:Nat):Int) == 0)=false:=by rw [beq_eq_false_iff_ne];omega
  rw [if_neg h0,this]
  refine .inr (.inr ?_)
  unfold Rgt.dayB
  by_cases h1:x.off<=-86400
  ·exact .inl ⟨rfl,h1,by rw [decide_eq_false (show ¬ -86400<x.off by omega)];rfl⟩
  ·by_cases h2:86400<=x.off
   ·exact .inr (.inl ⟨rfl,by omega,h2,by rw [decide_eq_false (show ¬ x.off<86400 by omega),Bool.and_false];rfl⟩)
   ·rw [decide_eq_true (show -86400<x.off by omega),decide_eq_true (show x.off<86400 by omega)]
    refine .inr (.inr ?_)
    cases formatB x.format.data.toList
    ·exact .inl ⟨rfl,by omega,by omega,rfl,rfl⟩
    ·cases rulesB x.tail
     ·exact .inr (.inl ⟨rfl,by omega,by omega,rfl,rfl,rfl⟩)
     ·exact .inr (.inr ⟨rfl,by omega,by omega,rfl,rfl,rfl⟩)
theorem rt_cases (off:Int) (r:Rule):(r.hi == 1000000)=false/\ruleT off r=false\/
  (r.hi == 1000000)=true/\setB r.name=false/\ruleT off r=false\/
  (r.hi == 1000000)=true/\setB r.name=true/\(r.letter.toList == [45])=true/\ruleT off r=false\/
  (r.hi == 1000000)=true/\setB r.name=true/\(r.letter.toList == [45])=false/\r.letter.toList.isEmpty=true/\ruleT off r=Rgt.dayB (wrap64 (off+r.save))\/
  (r.hi == 1000000)=true/\setB r.name=true/\(r.letter.toList == [45])=false/\r.letter.toList.isEmpty=false/\madeB r.letter.data.toList 8 [43,45]=false/\ruleT off r=false\/
  (r.hi == 1000000)=true/\setB r.name=true/\(r.letter.toList == [45])=false/\r.letter.toList.isEmpty=false/\madeB r.letter.data.toList 8 [43,45]=true/\ruleT off r=Rgt.dayB (wrap64 (off+r.save)):=by
 unfold ruleT lettT;generalize (r.hi == 1000000)=a1;generalize setB r.name=a2;generalize (r.letter.toList == [45])=a3;generalize r.letter.toList.isEmpty=a4;generalize madeB r.letter.data.toList 8 [43,45]=a5;generalize Rgt.dayB (wrap64 (off+r.save))=a6
 revert a1 a2 a3 a4 a5 a6
 decide
theorem dy_cases (n:Int):(n<=-86400/\Rgt.dayB n=false)\/(-86400<n/\86400<=n/\Rgt.dayB n=false)\/(-86400<n/\n<86400/\Rgt.dayB n=true):=by
 unfold Rgt.dayB
 by_cases h1:n<=-86400
 ·exact .inl ⟨h1,by rw [decide_eq_false (show ¬ -86400<n by omega)];rfl⟩
 ·by_cases h2:86400<=n
  ·exact .inr (.inl ⟨by omega,h2,by rw [decide_eq_false (show ¬ n<86400 by omega),Bool.and_false]⟩)
  ·exact .inr (.inr ⟨by omega,by omega,by rw [decide_eq_true (show -86400<n by omega),decide_eq_true (show n<86400 by omega)];rfl⟩)
theorem blk_set3 {w5:World} {h0:Nat} {t:TypeId} {x y z:Value} (h:Blk w5 h0 t #[x,y,z]) (nq:Nat) (a b c:Value):
  Blk ((((w5.drewN nq).setCell ⟨h0,0,none⟩ a).setCell ⟨h0,1,none⟩ b).setCell ⟨h0,2,none⟩ c) h0 t #[a,b,c]:=by
 simpa using (((h.drewN nq).set_ 0 a).set_ 1 b).set_ 2 c
theorem one_set3 {w w5:World} {h0 nq:Nat} {CS:Array Value} (h:One w w.heap.size 27 CS w5) (hz:w.heap.size<h0) (a b c:Value):
  One w w.heap.size 27 CS ((((w5.drewN nq).setCell ⟨h0,0,none⟩ a).setCell ⟨h0,1,none⟩ b).setCell ⟨h0,2,none⟩ c):=
 ⟨(((h.1.drewN nq).far (p:=⟨h0,0,none⟩) (by show _≠h0;omega) a).far (p:=⟨h0,1,none⟩) (by show _≠h0;omega) b).far (p:=⟨h0,2,none⟩) (by show _≠h0;omega) c,
  (((Civ.below_dr h.2).setCell (by show _<=h0;omega) a).setCell (by show _<=h0;omega) b).setCell (by show _<=h0;omega) c⟩
theorem right_any (x:Table) (A A2:Option Addr) (c c2:Nat) (w:World) (h:TabOk x A A2 w):
  Calls prog 21 #[.agg (tabCells x A c A2 c2)] w fun e w'=>e= .returned (.bool (rightT x))/\Below w.heap.size w w':=by
 have hone:=One.new w 27 (tabCells x A c A2 c2);have H:=hid h;have hname:=h.name;have hform:=h.format
 have hfa:=h.first.2.2
 have ns:=h.ns;have nt:=h.nt;clear h;obtain ⟨R,hR⟩:∃ R,rightT x=R:=⟨_,rfl⟩;rw [hR];have HR:=hid hR;clear hR;simp only [tabCells] at hone ⊢
 obtain ⟨CS,hCS⟩:∃ CS:Array Value,#[.string x.name,.int .i64 x.first.off,.int .i64 x.first.save,.string x.first.abbr,.slice A x.shifts.length c,.int .i64 x.till,.slice A2 x.tail.length c2,.int .i64 x.off,.string x.format]=CS:=⟨_,rfl⟩
 have HCS:=hid hCS
 obtain ⟨W,hW⟩:∃ W,w.alloc (.cells #[.string x.name,.int .i64 x.first.off,.int .i64 x.first.save,.string x.first.abbr,.slice A x.shifts.length c,.int .i64 x.till,.slice A2 x.tail.length c2,.int .i64 x.off,.string x.format] 27)=W:=⟨_,rfl⟩
 rw [hW] at hone;have c0:=hone.1.cell;rw [hCS] at hone;have HO:=hid hone;clear hone hCS;go_enter func21,ntmps21;have hcs:=hd_cases x;rw [HR.out] at hcs
 rcases hcs with ⟨h1,rfl⟩|⟨h1,h2,rfl⟩|⟨h1,h2,h3,rfl⟩|⟨h1,h2,h3,h4,rfl⟩|⟨h1,h2,h3,h4,h5⟩
 ·go_wp2_with (go_at_call 34;refine (R10.place_any x.name _ (Nat.le_trans hname (by omega))).mono ?_;rintro e w1 ⟨rfl,rfl⟩;rw [h1])
  go_ret;exact ⟨rfl,HO.out.2⟩
 ·go_wp2_with (first
   |(go_at_call 34;refine (R10.place_any x.name _ (Nat.le_trans hname (by omega))).mono ?_;rintro e w1 ⟨rfl,rfl⟩;rw [h1])
   |(go_at_call 35;refine (phase_any x.first _ (Nat.le_trans hfa (by omega))).mono ?_;rintro e w2 ⟨rfl,hb2⟩;have HO:=hid (HO.out.step (Rgt.below_of_alloc hb2));clear hb2;rw [h2]))
  go_ret;exact ⟨rfl,HO.out.2⟩
 ·go_wp2_with (first
   |(go_at_call 34;refine (R10.place_any x.name _ (Nat.le_trans hname (by omega))).mono ?_;rintro e w1 ⟨rfl,rfl⟩;rw [h1])
   |(go_at_call 35;refine (phase_any x.first _ (Nat.le_trans hfa (by omega))).mono ?_;rintro e w2 ⟨rfl,hb2⟩;have HO:=hid (HO.out.step (Rgt.below_of_alloc hb2));clear hb2;have c1:=HO.out.1.cell;rw [<-HCS.out] at c1;rw [h2]))
  go_ret;exact ⟨rfl,HO.out.2⟩
 ·go_wp2_with (first
   |(go_at_call 34;refine (R10.place_any x.name _ (Nat.le_trans hname (by omega))).mono ?_;rintro e w1 ⟨rfl,rfl⟩;rw [h1])
   |(go_at_call 35;refine (phase_any x.first _ (Nat.le_trans hfa (by omega))).mono ?_;rintro e w2 ⟨rfl,hb2⟩;have HO:=hid (HO.out.step (Rgt.below_of_alloc hb2));clear hb2;have c1:=HO.out.1.cell;rw [<-HCS.out] at c1;rw [h2]))
  go_ret;exact ⟨rfl,HO.out.2⟩
 ·have H5:=hid h5
  have hnt:x.tail.length<=1000:=by simp at h4;omega
  clear h5
  go_wp2_with (first
   |(go_at_call 34;refine (R10.place_any x.name _ (Nat.le_trans hname (by omega))).mono ?_;rintro e w1 ⟨rfl,rfl⟩;rw [h1])
   |(go_at_call 35;refine (phase_any x.first _ (Nat.le_trans hfa (by omega))).mono ?_;rintro e w2 ⟨rfl,hb2⟩;have HO:=hid (HO.out.step (Rgt.below_of_alloc hb2));clear hb2 c0;have c1:=HO.out.1.cell;rw [<-HCS.out] at c1;rw [h2]))
  clear c1 h1 h2 h3 h4 hW;have hzw:w.heap.size<w2.heap.size:=HO.out.1.lt;obtain ⟨h0,hh0⟩:∃ h0,h0=w2.heap.size:=⟨_,rfl⟩
  have hb0:=Blk.new w2 23 #[.int .i64 x.first.off,.int .i64 x.first.save,.string x.first.abbr]
  have HO3:=hid (HO.out.step ((Below.refl _ _).alloc (Nat.le_refl _) (.cells #[.int .i64 x.first.off,.int .i64 x.first.save,.string x.first.abbr] 23)))
  rw [<-hh0] at hb0;have HB0:=hid hb0
  have hzh:w.heap.size<h0:=by omega
  rw [<-hh0];clear hb0 hh0 hzw HO
  go_loopw [4] (fun i wr=>∃ k:Nat,k<=x.shifts.length/\i= .int .i64 k/\(List.range k).all (Rgt.okAt x.first x.till x.shifts)=true/\Blk wr h0 23 (Rgt.hadAt x.first x.shifts k).cells.toArray/\One w w.heap.size 27 CS wr) (fun i _=>x.shifts.length - (intOf i).toNat)
  case atStart=>exact ⟨0,Nat.zero_le _,rfl,rfl,HB0.out,HO3.out⟩
  case round=>
   clear HB0 HO3;obtain ⟨k,hk,rfl,hall,hbk,hone⟩:=hrel;have HAll:=hid hall;have HBk:=hid hbk;have HO:=hid hone;have c1:=hone.1.cell;rw [<-HCS.out] at c1;clear hall hbk hone
   by_cases hkn:k<x.shifts.length
   ·have hok:=ok_of x.first x.till x.shifts k hkn
    have hnx:=had_of x.first x.shifts k hkn
    have HNo:=hid (fun h:Rgt.okAt x.first x.till x.shifts k=false=>show R=false by rw [H5.out,shifts_no hkn h,Bool.false_and])
    have HYes:=hid (fun h:Rgt.okAt x.first x.till x.shifts k=true=>okAll x.first x.till x.shifts k HAll.out h)
    obtain ⟨ad,rfl,hadb,a0,a1,a2,a3⟩:=shift_at (H.out.rs.below HO.out.2) hkn;have hphs:=(H.out.shifts _ (List.getElem_mem hkn)).2.2;have hlw:w.heap.size<wr.heap.size:=HO.out.1.lt;have hlh:h0<wr.heap.size:=HBk.out.lt
    have hprev:∀ j,(hj:k=j+1)->(∀ w',Below w.heap.size w w'->w'.cell? (ad.add (j*4))=some (.int .i64 (x.shifts[j]'(by omega)).sec))/\Rgt.secOk x.shifts k= !(decide ((x.shifts[k]'hkn).sec<=(x.shifts[j]'(by omega)).sec)):=fun j hj=>by
     subst hj
     refine ⟨fun w' hb=>?_,sec_prev x.shifts j hkn⟩
     obtain ⟨ad',e,_,p0,_⟩:=shift_at (H.out.rs.below hb) (show j<x.shifts.length by omega)
     cases e
     exact p0
    have HPrev:=hid hprev;clear hprev;obtain ⟨s,hs⟩:∃ s,s=x.shifts[k]:=⟨_,rfl⟩;have HSk:=hid hs;rw [<-hs] at hok hnx a0 a1 a2 a3 hphs;clear hs;obtain ⟨sec,⟨po,ps,pa⟩⟩:=s
    generalize Rgt.hadAt x.first x.shifts k=hd at*
    obtain ⟨ho,hs,ha⟩:=hd;have heq:=Sam.eq_phase ⟨po,ps,pa⟩ ⟨ho,hs,ha⟩;have hHB:=HBk.out;simp only [Phase.cells] at a0 a1 a2 a3 hphs hok hnx heq hHB;have HBk:=hid hHB;have HOk:=hid hok;have HNx:=hid hnx;clear hok hnx hHB
    cases p1:Rgt.phaseB ⟨po,ps,pa⟩
    ·obtain rfl:=HNo.out (by rw [HOk.out,p1];rfl)
     clear heq
     go_wp2_with (go_at_call 35;refine (phase_any ⟨po,ps,pa⟩ _ (Nat.le_trans hphs (by omega))).mono ?_;rintro e w5 ⟨rfl,hb2⟩;have hb:=Rgt.below_of_alloc hb2;have HS5:=hid ((Blk.new wr 53 #[.int .i64 sec,.int .i64 po,.int .i64 ps,.string pa]).below hb (by simp));have HH5:=hid ((HBk.out.alloc (.cells #[.int .i64 sec,.int .i64 po,.int .i64 ps,.string pa] 53)).below hb (by simp;omega));have HO5:=hid ((HO.out.step ((Below.refl _ _).alloc (Nat.le_refl _) (.cells #[.int .i64 sec,.int .i64 po,.int .i64 ps,.string pa] 53))).step hb);clear hb hb2;have cS:=HS5.out.cell;have cH:=HH5.out.cell;have fH:=HH5.out.frozen;have cT:=HO5.out.1.cell;rw [<-HCS.out] at cT;rw [p1])
     go_ret;exact ⟨rfl,HO5.out.2⟩
    ·cases e1:decide ((⟨po,ps,pa⟩:Phase)=⟨ho,hs,ha⟩)
     ·rw [e1] at heq
      by_cases t1:x.till<=sec
      ·obtain rfl:=HNo.out (by rw [HOk.out,p1,e1,decide_eq_true t1];rfl)
       clear e1
       go_wp2_with (go_at_call 35;refine (phase_any ⟨po,ps,pa⟩ _ (Nat.le_trans hphs (by omega))).mono ?_;rintro e w5 ⟨rfl,hb2⟩;have hb:=Rgt.below_of_alloc hb2;have HS5:=hid ((Blk.new wr 53 #[.int .i64 sec,.int .i64 po,.int .i64 ps,.string pa]).below hb (by simp));have HH5:=hid ((HBk.out.alloc (.cells #[.int .i64 sec,.int .i64 po,.int .i64 ps,.string pa] 53)).below hb (by simp;omega));have HO5:=hid ((HO.out.step ((Below.refl _ _).alloc (Nat.le_refl _) (.cells #[.int .i64 sec,.int .i64 po,.int .i64 ps,.string pa] 53))).step hb);clear hb hb2;have cS:=HS5.out.cell;have cH:=HH5.out.cell;have fH:=HH5.out.frozen;have cT:=HO5.out.1.cell;rw [<-HCS.out] at cT;rw [p1])
       go_ret;exact ⟨rfl,HO5.out.2⟩
      ·have HOk2:=hid (show Rgt.okAt x.first x.till x.shifts k=Rgt.secOk x.shifts k by rw [HOk.out,p1,e1,decide_eq_false t1];rfl)
       clear e1
       rcases Nat.eq_zero_or_pos k with hk0|hk0
       ·have HY:=hid (HYes.out (by rw [HOk2.out,hk0];rfl))
        have hk1:¬ 0<k:=by omega
        clear hk0
        go_wp2_with (go_at_call 35;refine (phase_any ⟨po,ps,pa⟩ _ (Nat.le_trans hphs (by omega))).mono ?_;rintro e w5 ⟨rfl,hb2⟩;have hb:=Rgt.below_of_alloc hb2;have HS5:=hid ((Blk.new wr 53 #[.int .i64 sec,.int .i64 po,.int .i64 ps,.string pa]).below hb (by simp));have HH5:=hid ((HBk.out.alloc (.cells #[.int .i64 sec,.int .i64 po,.int .i64 ps,.string pa] 53)).below hb (by simp;omega));have HO5:=hid ((HO.out.step ((Below.refl _ _).alloc (Nat.le_refl _) (.cells #[.int .i64 sec,.int .i64 po,.int .i64 ps,.string pa] 53))).step hb);clear hb hb2;have cS:=HS5.out.cell;have cH:=HH5.out.cell;have fH:=HH5.out.frozen;have cT:=HO5.out.1.cell;rw [<-HCS.out] at cT;rw [p1])
        go_quiet (fail)
        go_wp2_with fail
        exact ⟨⟨k+1,by omega,by go_num,HY.out,by rw [HNx.out];exact blk_set3 HH5.out nq _ _ _,one_set3 HO5.out hzh _ _ _⟩,by simp [intOf];omega⟩
       ·obtain ⟨j,rfl⟩:∃ j,k=j+1:=⟨k - 1,by omega⟩
        obtain ⟨p0,hso⟩:=HPrev.out j rfl;rw [<-HSk.out] at hso
        generalize (x.shifts[j]'(by omega)).sec=pj at*
        simp only at hso;have P0:=hid p0;clear p0
        have hj0:(0:Int)<=j:=by omega
        have hj1:(j:Int)<x.shifts.length:=by omega
        by_cases s1:sec<=pj
        ·obtain rfl:=HNo.out (by rw [HOk2.out,hso,decide_eq_true s1];rfl)
         clear hso
         go_wp2_with (go_at_call 35;refine (phase_any ⟨po,ps,pa⟩ _ (Nat.le_trans hphs (by omega))).mono ?_;rintro e w5 ⟨rfl,hb2⟩;have hb:=Rgt.below_of_alloc hb2;have HS5:=hid ((Blk.new wr 53 #[.int .i64 sec,.int .i64 po,.int .i64 ps,.string pa]).below hb (by simp));have HH5:=hid ((HBk.out.alloc (.cells #[.int .i64 sec,.int .i64 po,.int .i64 ps,.string pa] 53)).below hb (by simp;omega));have HO5:=hid ((HO.out.step ((Below.refl _ _).alloc (Nat.le_refl _) (.cells #[.int .i64 sec,.int .i64 po,.int .i64 ps,.string pa] 53))).step hb);clear hb hb2;have cS:=HS5.out.cell;have cH:=HH5.out.cell;have fH:=HH5.out.frozen;have cT:=HO5.out.1.cell;rw [<-HCS.out] at cT;rw [p1])
         have q0:=P0.out _ HO5.out.2
         go_quiet (fail)
         go_wp2_with fail
         go_ret;exact ⟨rfl,Civ.below_dr HO5.out.2⟩
        ·have HY:=hid (HYes.out (by rw [HOk2.out,hso,decide_eq_false s1];rfl))
         clear hso
         go_wp2_with (go_at_call 35;refine (phase_any ⟨po,ps,pa⟩ _ (Nat.le_trans hphs (by omega))).mono ?_;rintro e w5 ⟨rfl,hb2⟩;have hb:=Rgt.below_of_alloc hb2;have HS5:=hid ((Blk.new wr 53 #[.int .i64 sec,.int .i64 po,.int .i64 ps,.string pa]).below hb (by simp));have HH5:=hid ((HBk.out.alloc (.cells #[.int .i64 sec,.int .i64 po,.int .i64 ps,.string pa] 53)).below hb (by simp;omega));have HO5:=hid ((HO.out.step ((Below.refl _ _).alloc (Nat.le_refl _) (.cells #[.int .i64 sec,.int .i64 po,.int .i64 ps,.string pa] 53))).step hb);clear hb hb2;have cS:=HS5.out.cell;have cH:=HH5.out.cell;have fH:=HH5.out.frozen;have cT:=HO5.out.1.cell;rw [<-HCS.out] at cT;rw [p1])
         have q0:=P0.out _ HO5.out.2
         go_quiet (fail)
         go_wp2_with fail
         exact ⟨⟨j+1+1,by omega,by go_num,HY.out,by rw [HNx.out];exact blk_set3 HH5.out nq _ _ _,one_set3 HO5.out hzh _ _ _⟩,by simp [intOf];omega⟩
     ·obtain rfl:=HNo.out (by rw [HOk.out,p1,e1];rfl)
      rw [e1] at heq;clear e1
      go_wp2_with (go_at_call 35;refine (phase_any ⟨po,ps,pa⟩ _ (Nat.le_trans hphs (by omega))).mono ?_;rintro e w5 ⟨rfl,hb2⟩;have hb:=Rgt.below_of_alloc hb2;have HS5:=hid ((Blk.new wr 53 #[.int .i64 sec,.int .i64 po,.int .i64 ps,.string pa]).below hb (by simp));have HH5:=hid ((HBk.out.alloc (.cells #[.int .i64 sec,.int .i64 po,.int .i64 ps,.string pa] 53)).below hb (by simp;omega));have HO5:=hid ((HO.out.step ((Below.refl _ _).alloc (Nat.le_refl _) (.cells #[.int .i64 sec,.int .i64 po,.int .i64 ps,.string pa] 53))).step hb);clear hb hb2;have cS:=HS5.out.cell;have cH:=HH5.out.cell;have fH:=HH5.out.frozen;have cT:=HO5.out.1.cell;rw [<-HCS.out] at cT;rw [p1])
      go_ret;exact ⟨rfl,HO5.out.2⟩
   ·obtain rfl:k=x.shifts.length:=by omega
    have hR:=H5.out;rw [show Rgt.shiftsB x=true from HAll.out,Bool.true_and] at hR;have htl:=tl_cases x;rw [<-hR] at htl;clear HAll H5 hR hkn
    rcases htl with ⟨h1,h2,rfl⟩|⟨h1,h2,h3⟩|⟨h1,h2,rfl⟩|⟨h1,h2,h3,rfl⟩|⟨h1,h2,h3,h4,rfl⟩|⟨h1,h2,h3,h4,h5,rfl⟩|⟨h1,h2,h3,h4,h5,h6⟩
    ·go_wp2_with fail
     go_ret;exact ⟨rfl,HO.out.2⟩
    ·have H3:=hid h3
     clear h3
     go_wp2_with fail
     go_ret
     refine ⟨?_,HO.out.2⟩
     rw [H3.out]
     rfl
    ·go_wp2_with fail
     go_ret;exact ⟨rfl,HO.out.2⟩
    ·go_wp2_with fail
     go_ret;exact ⟨rfl,HO.out.2⟩
    ·go_wp2_with (go_at_call 36;refine (R10.format_any x.format _ (Nat.le_trans hform (by omega))).mono ?_;rintro e w3 ⟨rfl,rfl⟩;rw [h4])
     go_ret;exact ⟨rfl,HO.out.2⟩
    ·have HRd:=hid (H.out.rt.below HO.out.2)
     have HRg:=hid (R11.right_any x.tail A2 c2 wr (HRd.out.more HO.out.2.size) nt)
     go_wp2_with (first
      |(go_at_call 36;refine (R10.format_any x.format _ (Nat.le_trans hform (by omega))).mono ?_;rintro e w3 ⟨rfl,rfl⟩;rw [h4])
      |(go_at_call 37;refine HRg.out.mono ?_;rintro e w4 ⟨rfl,hb⟩;rw [h5];have HO:=hid (HO.out.step hb);clear hb))
     go_ret;exact ⟨rfl,HO.out.2⟩
    ·have HRd:=hid (H.out.rt.below HO.out.2)
     have HRg:=hid (R11.right_any x.tail A2 c2 wr (HRd.out.more HO.out.2.size) nt);have H6:=hid h6;have H5:=hid h5;clear h6 h5
     go_wp2_with (first
      |(go_at_call 36;refine (R10.format_any x.format _ (Nat.le_trans hform (by omega))).mono ?_;rintro e w3 ⟨rfl,rfl⟩;rw [h4])
      |(go_at_call 37;refine HRg.out.mono ?_;rintro e w4 ⟨rfl,hb⟩;rw [H5.out];have HO:=hid (HO.out.step hb);clear hb c1;have c1:=HO.out.1.cell;rw [<-HCS.out] at c1))
     clear h1 h2 h3 h4 hk HBk HRd HRg
     go_loopw [6] (fun i wr=>∃ k:Nat,k<=x.tail.length/\i= .int .i64 k/\(x.tail.take k).all (ruleT x.off)=true/\One w w.heap.size 27 CS wr) (fun i _=>x.tail.length - (intOf i).toNat)
     case atStart=>exact ⟨0,Nat.zero_le _,rfl,rfl,HO.out⟩
     case round=>
      clear HO c1;obtain ⟨k,hk,rfl,hall,hone⟩:=hrel;have HAll:=hid hall;have HO:=hid hone;have c1:=hone.1.cell;rw [<-HCS.out] at c1;have hlw:w.heap.size<wr.heap.size:=hone.1.lt;clear hall hone
      by_cases hkn:k<x.tail.length
      ·obtain ⟨hrn,hrl⟩:=H.out.rules _ (List.getElem_mem hkn)
       obtain ⟨ad,rfl,hadb,a0,aj⟩:=rule_at (H.out.rt.below HO.out.2) hkn
       have HNo:=hid (fun h:ruleT x.off x.tail[k]=false=>show R=false by
        rw [H6.out,show x.tail.all (ruleT x.off)=false by rw [List.all_eq_false];exact ⟨_,List.getElem_mem hkn,by rw [h];decide⟩,Bool.false_and])
       have HYes:=hid (fun h:ruleT x.off x.tail[k]=true=>show (x.tail.take (k+1)).all (ruleT x.off)=true by
        rw [List.take_succ_eq_append_getElem hkn,List.all_append,HAll.out];simp [h])
       generalize x.tail[k]=r at*;have hrt:=rt_cases x.off r;have hdy:=dy_cases (wrap64 (x.off+r.save));obtain ⟨r0,r1,r2,r3,r4,r5,r6,r7,r8,r9,r10⟩:=r;simp only at hrn hrl a0 hrt hdy
       have a1:=aj 1 (by omega) (by omega)
       have a2:=aj 2 (by omega) (by omega)
       have a3:=aj 3 (by omega) (by omega)
       have a4:=aj 4 (by omega) (by omega)
       have a5:=aj 5 (by omega) (by omega)
       have a6:=aj 6 (by omega) (by omega)
       have a7:=aj 7 (by omega) (by omega)
       have a8:=aj 8 (by omega) (by omega)
       have a9:=aj 9 (by omega) (by omega)
       have a10:=aj 10 (by omega) (by omega)
       simp only [Rule.cells,List.getElem?_cons_zero,List.getElem?_cons_succ] at a1 a2 a3 a4 a5 a6 a7 a8 a9 a10
       clear aj;have HB:=hid ((Below.refl wr.heap.size wr).alloc (Nat.le_refl _) (.cells #[.string r0,.int .i64 r1,.int .i64 r2,.int .i64 r3,.int .i64 r4,.int .i64 r5,.int .i64 r6,.int .i64 r7,.int .i64 r8,.int .i64 r9,.string r10] 69))
       rcases hrt with ⟨g1,gz⟩|⟨g1,g2,gz⟩|⟨g1,g2,g3,gz⟩|⟨g1,g2,g3,g4,gz⟩|⟨g1,g2,g3,g4,g5,gz⟩|⟨g1,g2,g3,g4,g5,gz⟩
       ·have g1:¬ r2=1000000:=by simpa using g1
        obtain rfl:=HNo.out gz;clear gz hdy
        go_wp2_with fail
        go_ret;exact ⟨rfl,(HO.out.step HB.out).2⟩
       ·obtain rfl:r2=1000000:=by simpa using g1
        clear g1;obtain rfl:=HNo.out gz;clear gz hdy
        go_wp2_with (first
        |(go_at_call 38;refine (R10.set_any r0 _ (Nat.le_trans hrn (by omega))).mono ?_;rintro e w5 ⟨rfl,rfl⟩;rw [g2])
        |(go_at_call 39;refine (R10.letters_any r10 _ (Nat.le_trans hrl (by omega))).mono ?_;rintro e w5 ⟨rfl,rfl⟩;rw [g5]))
        go_ret;exact ⟨rfl,(HO.out.step HB.out).2⟩
       ·obtain rfl:r2=1000000:=by simpa using g1
        clear g1;obtain rfl:=HNo.out gz;clear gz hdy
        go_wp2_with (first
        |(go_at_call 38;refine (R10.set_any r0 _ (Nat.le_trans hrn (by omega))).mono ?_;rintro e w5 ⟨rfl,rfl⟩;rw [g2])
        |(go_at_call 39;refine (R10.letters_any r10 _ (Nat.le_trans hrl (by omega))).mono ?_;rintro e w5 ⟨rfl,rfl⟩;rw [g5]))
        go_ret;exact ⟨rfl,(HO.out.step HB.out).2⟩
       ·obtain rfl:r2=1000000:=by simpa using g1
        clear g1
        rcases hdy with ⟨d1,hd⟩|⟨d1,d2,hd⟩|⟨d1,d2,hd⟩
        ·obtain rfl:=HNo.out (gz.trans hd)
         clear gz hd
         go_wp2_with (first
        |(go_at_call 38;refine (R10.set_any r0 _ (Nat.le_trans hrn (by omega))).mono ?_;rintro e w5 ⟨rfl,rfl⟩;rw [g2])
        |(go_at_call 39;refine (R10.letters_any r10 _ (Nat.le_trans hrl (by omega))).mono ?_;rintro e w5 ⟨rfl,rfl⟩;rw [g5]))
         go_ret;exact ⟨rfl,(HO.out.step HB.out).2⟩
        ·obtain rfl:=HNo.out (gz.trans hd)
         clear gz hd
         go_wp2_with (first
        |(go_at_call 38;refine (R10.set_any r0 _ (Nat.le_trans hrn (by omega))).mono ?_;rintro e w5 ⟨rfl,rfl⟩;rw [g2])
        |(go_at_call 39;refine (R10.letters_any r10 _ (Nat.le_trans hrl (by omega))).mono ?_;rintro e w5 ⟨rfl,rfl⟩;rw [g5]))
         go_ret;exact ⟨rfl,(HO.out.step HB.out).2⟩
        ·have HY:=hid (HYes.out (gz.trans hd))
         clear gz hd
         go_wp2_with (first
        |(go_at_call 38;refine (R10.set_any r0 _ (Nat.le_trans hrn (by omega))).mono ?_;rintro e w5 ⟨rfl,rfl⟩;rw [g2])
        |(go_at_call 39;refine (R10.letters_any r10 _ (Nat.le_trans hrl (by omega))).mono ?_;rintro e w5 ⟨rfl,rfl⟩;rw [g5]))
         exact ⟨⟨k+1,by omega,by go_num,HY.out,HO.out.step HB.out⟩,by simp [intOf];omega⟩
       ·obtain rfl:r2=1000000:=by simpa using g1
        clear g1;obtain rfl:=HNo.out gz;clear gz hdy
        go_wp2_with (first
        |(go_at_call 38;refine (R10.set_any r0 _ (Nat.le_trans hrn (by omega))).mono ?_;rintro e w5 ⟨rfl,rfl⟩;rw [g2])
        |(go_at_call 39;refine (R10.letters_any r10 _ (Nat.le_trans hrl (by omega))).mono ?_;rintro e w5 ⟨rfl,rfl⟩;rw [g5]))
        go_ret;exact ⟨rfl,(HO.out.step HB.out).2⟩
       ·obtain rfl:r2=1000000:=by simpa using g1
        clear g1
        rcases hdy with ⟨d1,hd⟩|⟨d1,d2,hd⟩|⟨d1,d2,hd⟩
        ·obtain rfl:=HNo.out (gz.trans hd)
         clear gz hd
         go_wp2_with (first
        |(go_at_call 38;refine (R10.set_any r0 _ (Nat.le_trans hrn (by omega))).mono ?_;rintro e w5 ⟨rfl,rfl⟩;rw [g2])
        |(go_at_call 39;refine (R10.letters_any r10 _ (Nat.le_trans hrl (by omega))).mono ?_;rintro e w5 ⟨rfl,rfl⟩;rw [g5]))
         go_ret;exact ⟨rfl,(HO.out.step HB.out).2⟩
        ·obtain rfl:=HNo.out (gz.trans hd)
         clear gz hd
         go_wp2_with (first
        |(go_at_call 38;refine (R10.set_any r0 _ (Nat.le_trans hrn (by omega))).mono ?_;rintro e w5 ⟨rfl,rfl⟩;rw [g2])
        |(go_at_call 39;refine (R10.letters_any r10 _ (Nat.le_trans hrl (by omega))).mono ?_;rintro e w5 ⟨rfl,rfl⟩;rw [g5]))
         go_ret;exact ⟨rfl,(HO.out.step HB.out).2⟩
        ·have HY:=hid (HYes.out (gz.trans hd))
         clear gz hd
         go_wp2_with (first
        |(go_at_call 38;refine (R10.set_any r0 _ (Nat.le_trans hrn (by omega))).mono ?_;rintro e w5 ⟨rfl,rfl⟩;rw [g2])
        |(go_at_call 39;refine (R10.letters_any r10 _ (Nat.le_trans hrl (by omega))).mono ?_;rintro e w5 ⟨rfl,rfl⟩;rw [g5]))
         exact ⟨⟨k+1,by omega,by go_num,HY.out,HO.out.step HB.out⟩,by simp [intOf];omega⟩
      ·obtain rfl:k=x.tail.length:=by omega
       have hR:=H6.out;have hal:=HAll.out;rw [List.take_length] at hal;rw [hal,Bool.true_and] at hR;have HR2:=hid hR;have HNe:=hid (R11.near_any x.tail A2 c2 wr ((H.out.rt.below HO.out.2).more HO.out.2.size) hnt H5.out);clear hal hR HAll H6
       go_wp2_with (go_at_call 40;refine HNe.out.mono ?_;rintro e w5 ⟨rfl,hb⟩;have HO:=hid (HO.out.step hb);clear hb)
       go_ret
       refine ⟨?_,HO.out.2⟩
       rw [HR2.out]
       rfl
end R14
end
end
section
section
namespace Zon
open Go.RowKit Mem Civ Mom Img Plc Rul Ahd Trn Src Snd Att Rgt Abr Sch Cmq
def shiftG (ss:List Shift) (t:Int) (i:Nat):Bool:=decide (t<=((ss[i]?).map (·.sec)).getD 0)
theorem prev1_any (ss:List Shift) (A:Option Addr) (c:Nat) (v0 v1 v2 v3 v5 v6 v7 v8:Value) (t:Int) (b0 b1 i:Nat) (w:World) (h:Reads w w.heap.size 4 A ss.length (ss.flatMap Shift.cells)) (hi:i<ss.length)
  (h0:Blk w b0 61 #[v0,v1,v2,v3,.slice A ss.length c,v5,v6,v7,v8]) (h1:w.cell? ⟨b1,0,none⟩=some (.int .i64 t)):
  Calls prog 61 #[.int .i64 i,.pointer (some ⟨b0,0,none⟩),.pointer (some ⟨b1,0,none⟩)] w fun e w'=>e= .returned (.bool (shiftG ss t i))/\Below w.heap.size w w':=by
 obtain ⟨ad,rfl,hadb,c0,c1,c2,c3⟩:=shift_at h hi
 have hq:shiftG ss t i=decide (t<=ss[i].sec):=by unfold shiftG;rw [List.getElem?_eq_getElem hi];rfl
 rw [hq];have d0:=fun j=>h0.cell j;clear h hq h0;generalize ss[i]=s at*;obtain ⟨sec,ph⟩:=s;simp only at c0 ⊢;clear c1 c2 c3;go_enter func61,ntmps61;go_wp2
 go_region
 go_wp2;go_ret;exact ⟨rfl,(Below.refl _ _).drew⟩
theorem next_cut (x:Table) (A A2:Option Addr) (c c2:Nat) (m t:Int) (w:World) (h:Rt x A A2 m w) (hj:cutN x t<x.shifts.length):
  Calls prog 32 #[.agg (tabCells x A c A2 c2),.int .i64 t] w fun e w'=>e= .returned (.tuple #[.int .i64 (x.shifts[cutN x t]'hj).sec,.bool true])/\Below w.heap.size w w':=by
 have hst:=Nx.start w (tabCells x A c A2 c2) t;have hcut:searchF (shiftF x.shifts t) x.shifts.length 0 x.shifts.length=cutN x t:=rfl
 have hSr:=fun z (hz:Nx w (tabCells x A c A2 c2) t z)=>search_any x.shifts.length 55 #[.pointer (some ⟨w.heap.size,0,none⟩),.pointer (some ⟨w.heap.size+1,0,none⟩)] (shiftF x.shifts t) z h.tab.ns (enters_of func55 (by kernel_rfl) rfl)
  (fun i z2 hi hb2=>next1_any x.shifts A c _ _ _ _ _ _ _ _ t w.heap.size (w.heap.size+1) i z2 (h.below (hz.step hb2).bel).tab.rs hi (hz.step hb2).tb ((hz.step hb2).tt.cell 0))
 rw [hcut] at hSr;have hns:=h.tab.ns;have hs:=fun z (hb:Below w.heap.size w z)=>shift_at (h.below hb).tab.rs hj;simp only [tabCells] at*
 obtain ⟨W,hW⟩:∃ W,(w.alloc (.cells #[.string x.name,.int .i64 x.first.off,.int .i64 x.first.save,.string x.first.abbr,.slice A x.shifts.length c,.int .i64 x.till,.slice A2 x.tail.length c2,.int .i64 x.off,.string x.format] 61)).alloc (.cells #[.int .i64 t] 2)=W:=⟨_,rfl⟩
 rw [hW] at hst;have c0:=hst.tb.cell;have HO:=hid hst;have HSr:=hid hSr;clear h hst hcut hSr;obtain ⟨ad,hA,hadb,_⟩:=hs w (Below.refl _ _);subst hA;have HS:=hid hs;generalize (x.shifts[cutN x t]'hj)=s at*;obtain ⟨sec,⟨po,ps,pa⟩⟩:=s;simp only at hs ⊢;obtain ⟨K,hK⟩:∃ K:Nat,cutN x t=K:=⟨_,rfl⟩;rw [hK] at HSr HS hj
 have hKb:decide ((K:Int)<(x.shifts.length:Nat))=true:=decide_eq_true (by omega)
 clear hs hK hadb;go_enter func32,ntmps32
 go_wp2_with (go_at_call 44;refine (HSr.out _ HO.out).mono ?_;rintro e w2 ⟨rfl,hb⟩;have HO2:=hid (HO.out.step hb);have e0:=HO2.out.tb.cell;have hs2:=HS.out _ HO2.out.bel;obtain ⟨ad2,hA2,_,s0,s1,s2,s3⟩:=hs2;injection hA2 with hA2;subst hA2;clear hb c0 s1 s2 s3)
 go_ret2
 exact ⟨rfl,HO2.out.bel⟩
theorem prev_none (x:Table) (A A2:Option Addr) (c c2:Nat) (m t:Int) (w:World) (h:Rt x A A2 m w) (h0:x.tail.length=0) (hj:searchF (shiftG x.shifts t) x.shifts.length 0 x.shifts.length=0):
  Calls prog 33 #[.agg (tabCells x A c A2 c2),.int .i64 t] w fun e w'=>e= .returned (.tuple #[.int .i64 0,.bool false])/\Below w.heap.size w w':=by
 have hst:=Nx.start w (tabCells x A c A2 c2) t
 have hSr:=fun z (hz:Nx w (tabCells x A c A2 c2) t z)=>search_any x.shifts.length 61 #[.pointer (some ⟨w.heap.size,0,none⟩),.pointer (some ⟨w.heap.size+1,0,none⟩)] (shiftG x.shifts t) z h.tab.ns (enters_of func61 (by kernel_rfl) rfl)
  (fun i z2 hi hb2=>prev1_any x.shifts A c _ _ _ _ _ _ _ _ t w.heap.size (w.heap.size+1) i z2 (h.below (hz.step hb2).bel).tab.rs hi (hz.step hb2).tb ((hz.step hb2).tt.cell 0))
 rw [hj] at hSr;simp only [tabCells,h0] at*
 obtain ⟨W,hW⟩:∃ W,(w.alloc (.cells #[.string x.name,.int .i64 x.first.off,.int .i64 x.first.save,.string x.first.abbr,.slice A x.shifts.length c,.int .i64 x.till,.slice A2 0 c2,.int .i64 x.off,.string x.format] 61)).alloc (.cells #[.int .i64 t] 2)=W:=⟨_,rfl⟩
 rw [hW] at hst;have c0:=hst.tb.cell;have HO:=hid hst;have HSr:=hid hSr;clear h hst hSr hj h0;go_enter func33,ntmps33
 go_wp2_with (go_at_call 44;refine (HSr.out _ HO.out).mono ?_;rintro e w2 ⟨rfl,hb⟩;have HO2:=hid (HO.out.step hb);clear hb c0)
 go_ret2
 exact ⟨rfl,HO2.out.bel⟩
theorem znext_any (x:Table) (A A2:Option Addr) (c c2:Nat) (m t:Int) (w:World) (h:Rt x A A2 m w) (hj:cutN x t<x.shifts.length) (hb:(x.shifts[cutN x t]'hj).sec<=8640000000000):
  Calls prog 19 #[.agg (tabCells x A c A2 c2),.int .i64 t] w fun e w'=>e= .returned (.tuple #[.int .i64 (x.shifts[cutN x t]'hj).sec,.bool true])/\Below w.heap.size w w':=by
 have hN:=fun z (hb:Below w.heap.size w z)=>next_cut x A A2 c c2 m t z (h.below hb) hj;have hR:=fun z (hb:Below w.heap.size w z)=>right_t x A A2 c c2 m z (h.below hb).tab (h.below hb).max;rw [h.right] at hR;obtain ⟨b0,hbw,hsz⟩:=box1 w 27 (tabCells x A c A2 c2);generalize (x.shifts[cutN x t]'hj).sec=s at*;simp only [tabCells] at*
 obtain ⟨W,hW⟩:∃ W,w.alloc (.cells #[.string x.name,.int .i64 x.first.off,.int .i64 x.first.save,.string x.first.abbr,.slice A x.shifts.length c,.int .i64 x.till,.slice A2 x.tail.length c2,.int .i64 x.off,.string x.format] 27)=W:=⟨_,rfl⟩
 rw [hW] at b0 hbw hsz;have k0:=b0.cell;have HN:=hid hN;have HR:=hid (hR W hbw);have HB:=hid hbw;have H0:=hid b0
 have hsb:decide (s > 8640000000000)=false:=decide_eq_false (by omega)
 clear h hN hR hbw b0 hj hb;go_enter func19,ntmps19
 go_wp2_with (first
  |(go_at_call 31;refine HR.out.mono ?_;rintro e w2 ⟨rfl,hb⟩;have HB2:=hid (HB.out.trans (hb.mono HB.out.size));have k2:=fun i=>(H0.out.below hb H0.out.lt).cell i;clear hb k0)
  |(go_at_call 32;refine (HN.out _ HB2.out).mono ?_;rintro e w3 ⟨rfl,hb⟩;have HB3:=hid (HB2.out.trans (hb.mono HB2.out.size));clear hb k2))
 go_ret2
 exact ⟨rfl,HB3.out⟩
theorem zprev_any (x:Table) (A A2:Option Addr) (c c2:Nat) (m t:Int) (w:World) (h:Rt x A A2 m w) (h0:x.tail.length=0) (hj:searchF (shiftG x.shifts t) x.shifts.length 0 x.shifts.length=0):
  Calls prog 20 #[.agg (tabCells x A c A2 c2),.int .i64 t] w fun e w'=>e= .returned (.tuple #[.int .i64 0,.bool false])/\Below w.heap.size w w':=by
 have hN:=fun z (hb:Below w.heap.size w z)=>prev_none x A A2 c c2 m t z (h.below hb) h0 hj;have hR:=fun z (hb:Below w.heap.size w z)=>right_t x A A2 c c2 m z (h.below hb).tab (h.below hb).max;rw [h.right] at hR;obtain ⟨b0,hbw,hsz⟩:=box1 w 27 (tabCells x A c A2 c2);simp only [tabCells] at*
 obtain ⟨W,hW⟩:∃ W,w.alloc (.cells #[.string x.name,.int .i64 x.first.off,.int .i64 x.first.save,.string x.first.abbr,.slice A x.shifts.length c,.int .i64 x.till,.slice A2 x.tail.length c2,.int .i64 x.off,.string x.format] 27)=W:=⟨_,rfl⟩
 rw [hW] at b0 hbw hsz;have k0:=b0.cell;have HN:=hid hN;have HR:=hid (hR W hbw);have HB:=hid hbw;have H0:=hid b0;clear h hN hR hbw b0 hj h0;go_enter func20,ntmps20
 go_wp2_with (first
  |(go_at_call 31;refine HR.out.mono ?_;rintro e w2 ⟨rfl,hb⟩;have HB2:=hid (HB.out.trans (hb.mono HB.out.size));have k2:=fun i=>(H0.out.below hb H0.out.lt).cell i;clear hb k0)
  |(go_at_call 33;refine (HN.out _ HB2.out).mono ?_;rintro e w3 ⟨rfl,hb⟩;have HB3:=hid (HB2.out.trans (hb.mono HB2.out.size));clear hb k2))
 go_ret2
 exact ⟨rfl,HB3.out⟩
theorem great_any (x:Table) (A A2:Option Addr) (c c2:Nat) (w:World) (h:TabOk x A A2 w):
  Calls prog 9 #[.agg (tabCells x A c A2 c2)] w fun e w'=>∃ b,e= .returned (.bool b)/\(b=false->x.shifts.length<=250)/\Below w.heap.size w w':=by
 have hY:=fun z (hb:Below w.heap.size w z)=>Yrs.years_any x A A2 c c2 z (h.below hb);obtain ⟨b0,hbw,hsz⟩:=box1 w 27 (tabCells x A c A2 c2);simp only [tabCells] at*
 obtain ⟨W,hW⟩:∃ W,w.alloc (.cells #[.string x.name,.int .i64 x.first.off,.int .i64 x.first.save,.string x.first.abbr,.slice A x.shifts.length c,.int .i64 x.till,.slice A2 x.tail.length c2,.int .i64 x.off,.string x.format] 27)=W:=⟨_,rfl⟩
 rw [hW] at b0 hbw hsz;have k0:=b0.cell;have HY:=hid (hY W hbw);have HB:=hid hbw;have H0:=hid b0;clear h hY hbw b0
 by_cases hl:250<x.shifts.length
 ·have hlb:decide (250<x.shifts.length)=true:=decide_eq_true hl
  go_enter func9,ntmps9
  go_wp2_with (go_at_call 25;refine HY.out.mono ?_;rintro e w2 ⟨b,rfl,_,hb⟩;have HB2:=hid (HB.out.trans (hb.mono HB.out.size));have k2:=fun i=>(H0.out.below hb H0.out.lt).cell i;clear hb k0;cases b)
  all_goals go_ret
  all_goals exact ⟨_,rfl,fun h=>(by first|cases h|(simp at h;omega)),HB2.out⟩
 ·have hlb:decide (250<x.shifts.length)=false:=decide_eq_false hl
  have Hl:=hid hl;go_enter func9,ntmps9
  go_wp2_with (go_at_call 25;refine HY.out.mono ?_;rintro e w2 ⟨b,rfl,_,hb⟩;have HB2:=hid (HB.out.trans (hb.mono HB.out.size));have k2:=fun i=>(H0.out.below hb H0.out.lt).cell i;clear hb k0;cases b)
  all_goals go_ret
  all_goals exact ⟨_,rfl,fun _=>(by have:=Hl.out;omega),HB2.out⟩
theorem ok_any (x:Table) (A A2:Option Addr) (c c2:Nat) (loc:Int) (w:World) (h:TabOk x A A2 w):
  Calls prog 12 #[.agg (tabCells x A c A2 c2),.int .i64 loc] w fun e w'=>e= .returned (.bool (okT x loc))/\Below w.heap.size w w':=by
 have hR:=fun z (hb:Below w.heap.size w z)=>R14.right_any x A A2 c c2 z (h.below hb);rw [R14.right_is] at hR;have hok:okT x loc=(rightB x (tailB x) && (decide (-9000000000000<=loc) && decide (loc<=9000000000000))):=rfl;obtain ⟨b0,hbw,hsz⟩:=box1 w 27 (tabCells x A c A2 c2);simp only [tabCells] at*
 obtain ⟨W,hW⟩:∃ W,w.alloc (.cells #[.string x.name,.int .i64 x.first.off,.int .i64 x.first.save,.string x.first.abbr,.slice A x.shifts.length c,.int .i64 x.till,.slice A2 x.tail.length c2,.int .i64 x.off,.string x.format] 27)=W:=⟨_,rfl⟩
 rw [hW] at b0 hbw hsz;have k0:=b0.cell;rw [hok];have HR:=hid (hR W hbw);have HB:=hid hbw;have H0:=hid b0;clear h hR hbw b0 hok
 cases hr:rightB x (tailB x) with
 |false=>
  rw [hr] at HR;clear hr;go_enter func12,ntmps12
  go_wp2_with (go_at_call 21;refine HR.out.mono ?_;rintro e w2 ⟨rfl,hb⟩;have HB2:=hid (HB.out.trans (hb.mono HB.out.size));clear hb k0)
  go_ret;exact ⟨rfl,HB2.out⟩
 |true=>
  rw [hr] at HR;clear hr
  by_cases h1: -9000000000000<=loc
  ·have h1b:decide (loc ≥ -9000000000000)=true:=decide_eq_true h1
   by_cases h2:loc<=9000000000000
   ·have h2b:decide (loc<=9000000000000)=true:=decide_eq_true h2
    go_enter func12,ntmps12
    go_wp2_with (go_at_call 21;refine HR.out.mono ?_;rintro e w2 ⟨rfl,hb⟩;have HB2:=hid (HB.out.trans (hb.mono HB.out.size));clear hb k0)
    go_ret
    exact ⟨by rw [decide_eq_true (by omega: -9000000000000<=loc),decide_eq_true (by omega:loc<=9000000000000)];rfl,HB2.out⟩
   ·have h2b:decide (loc<=9000000000000)=false:=decide_eq_false h2
    go_enter func12,ntmps12
    go_wp2_with (go_at_call 21;refine HR.out.mono ?_;rintro e w2 ⟨rfl,hb⟩;have HB2:=hid (HB.out.trans (hb.mono HB.out.size));clear hb k0)
    go_ret
    exact ⟨by rw [decide_eq_false (by omega:¬ loc<=9000000000000)];simp,HB2.out⟩
  ·have h1b:decide (loc ≥ -9000000000000)=false:=decide_eq_false h1
   go_enter func12,ntmps12
   go_wp2_with (go_at_call 21;refine HR.out.mono ?_;rintro e w2 ⟨rfl,hb⟩;have HB2:=hid (HB.out.trans (hb.mono HB.out.size));clear hb k0)
   go_ret
   exact ⟨by rw [decide_eq_false (by omega:¬ -9000000000000<=loc)];simp,HB2.out⟩
theorem reads_b {w:World} {g:Nat} {t:TypeId} {cs:Array Value} {n size:Nat} (h:Blk w g t cs) (hs:cs.size=n*size) (hn:n<=maxLen):Reads w w.heap.size size (some ⟨g,0,none⟩) n cs.toList:=
 Reads.of_own (own_of_blk h (Nat.le_refl g) hs hn)
theorem ints_b {w:World} {B n:Nat} {A:Option Addr} {l:List Int} (h:Reads w B 1 A n (ints l)) {k:Nat} (hk:k<n) (hl:l.length=n:=by rfl):∃ ad,A=some ad/\ad.block<B/\w.cell? (ad.add k)=some (.int .i64 (l[k]'(hl ▸ hk))):=by
 obtain ⟨ad,u,e,hb,hu,hc⟩:=h.at_ hk
 refine ⟨ad,e,hb,?_⟩
 rw [hc];unfold ints at hu
 rw [List.getElem?_map,List.getElem?_eq_getElem (hl ▸ hk)] at hu
 exact hu.symm
def alT:Table:=⟨⟨#[65]⟩,⟨0,0,⟨#[88]⟩⟩,[⟨100000,⟨3600,0,⟨#[89]⟩⟩⟩,⟨900000,⟨0,0,⟨#[88]⟩⟩⟩],1000000,[],0,⟨#[]⟩⟩
def alC:Array Value:=#[.int .i64 100000,.int .i64 3600,.int .i64 0,.string ⟨#[89]⟩,.int .i64 900000,.int .i64 0,.int .i64 0,.string ⟨#[88]⟩]
theorem al_right:rightB alT (tailB alT)=true:=by decide +kernel
theorem al_poss:toldL alT 901800=[898200,901800]:=by decide +kernel
theorem al_shape:toldS alT 101800=⟨1,100000,0,3600⟩:=by decide +kernel
theorem al_ok:okT alT 101800=true:=by decide +kernel
theorem al_choose:chooseP alT 101800 2=(98200,0):=by decide +kernel
theorem al_cut:cutN alT 100000=1:=by decide +kernel
theorem al_prev:searchF (shiftG alT.shifts 100000) alT.shifts.length 0 alT.shifts.length=0:=by decide +kernel
theorem eq_shape (a0 a1 a2 a3 b0 b1 b2 b3:Int) (w:World):(Op.equalIn 10000 35 (.agg #[.int .i64 a0,.int .i64 a1,.int .i64 a2,.int .i64 a3]) (.agg #[.int .i64 b0,.int .i64 b1,.int .i64 b2,.int .i64 b3])).run prog w= .ok (decide ((⟨a0,a1,a2,a3⟩:Shp)=⟨b0,b1,b2,b3⟩)) w:=by
 simp [go_sem]
 repeat (split;skip)
 all_goals simp_all
theorem al_ok_tab {w:World} {g:Nat} (h:Blk w g 53 alC):TabOk alT (some ⟨g,0,none⟩) none w where
 rs:=reads_b h rfl (show 2<=maxLen by decide)
 rt:=Reads.none_
 ns:=by decide
 nt:=by decide
 name:=by decide
 format:=by decide
 first:=⟨by unfold In64;decide,by unfold In64;decide,by decide⟩
 shifts:=by
  intro s hs;simp only [alT,List.mem_cons,List.not_mem_nil,or_false] at hs
  rcases hs with rfl|rfl
  ·exact ⟨by unfold In64;decide,by unfold In64;decide,by decide⟩
  ·exact ⟨by unfold In64;decide,by unfold In64;decide,by decide⟩
 rules:=by intro r hr;cases hr
theorem al_rt {w:World} {g:Nat} {m:Int} (h:Blk w g 53 alC) (hm:w.cell? ⟨0,0,none⟩=some (.int .i64 m)):Rt alT (some ⟨g,0,none⟩) none m w:=
 ⟨al_ok_tab h,hm,by decide,by
  intro s hs;simp only [alT,List.mem_cons,List.not_mem_nil,or_false] at hs
  rcases hs with rfl|rfl<;>decide,al_right⟩
theorem alive_any (m:Int) (w:World) (hm:w.cell? ⟨0,0,none⟩=some (.int .i64 m)):
  Calls prog 10 #[] w fun e w'=>e= .returned (.bool true)/\Below w.heap.size w w':=by
 have hms:=World.block_lt_of_cell? w _ hm;obtain ⟨W,hW⟩:∃ W,w.alloc (.cells alC 53)=W:=⟨_,rfl⟩
 have hbs:Blk W w.heap.size 53 alC:=by rw [<-hW];exact Blk.new _ _ _
 have hbw:Below w.heap.size w W:=by rw [<-hW];exact (Below.refl _ _).alloc (Nat.le_refl _) _
 have hsz:W.heap.size=w.heap.size+1:=by rw [<-hW];simp
 have hmW:W.cell? ⟨0,0,none⟩=some (.int .i64 m):=(hbw.cell hms).trans hm;have hrt:=fun z (hb:Below W.heap.size W z)=>al_rt (m:=m) (hbs.below hb hbs.lt) (cell_later hb hmW);have hPo:=fun z (hb:Below W.heap.size W z)=>possible_any alT _ _ 2 0 m 901800 z (hrt z hb).tab (hrt z hb).max (hrt z hb).till (hrt z hb).sec;have hAr:=fun z (hb:Below W.heap.size W z)=>zaround_any alT _ _ 2 0 m 101800 z (hrt z hb).tab (hrt z hb).max (hrt z hb).till (hrt z hb).sec;have hCh:=fun z (hb:Below W.heap.size W z)=>choose_any alT _ _ 2 0 m 101800 2 z (hrt z hb).tab (hrt z hb).max (hrt z hb).till (hrt z hb).sec
 have hNx:=fun z (hb:Below W.heap.size W z)=>znext_any alT _ _ 2 0 m 100000 z (hrt z hb) (by rw [al_cut];decide) (by simp only [al_cut];decide)
 have hPr:=fun z (hb:Below W.heap.size W z)=>zprev_any alT _ _ 2 0 m 100000 z (hrt z hb) rfl al_prev;simp only [al_poss] at hPo;simp only [al_shape,al_ok] at hAr;simp only [al_choose] at hCh;simp only [al_cut] at hNx;simp only [tabCells,alT,List.length_cons,List.length_nil,Nat.reduceAdd,List.getElem_cons_succ,List.getElem_cons_zero] at hPo hAr hCh hNx hPr;have heq:=fun z=>eq_shape 1 100000 0 3600 1 100000 0 3600 z;rw [decide_eq_true rfl] at heq;have HPo:=hid hPo;have HAr:=hid hAr;have HCh:=hid hCh;have HNx:=hid hNx;have HPr:=hid hPr;have HB:=hid hbw;unfold alC at hW;clear hPo hAr hCh hNx hPr hbs hbw hmW hrt hm hms;go_enter func10,ntmps10
 go_wp2_with (first
  |(go_at_call 11;have hb1:Below W.heap.size W (W.alloc (.cells #[.string ⟨#[65]⟩,.int .i64 0,.int .i64 0,.string ⟨#[88]⟩,.slice (some ⟨w.heap.size,0,none⟩) 2 2,.int .i64 1000000,.slice none 0 0,.int .i64 0,.string ⟨#[]⟩] 27)):=(Below.refl _ _).alloc (Nat.le_refl _) _;have hx1:=blk_at hsz 27 #[.string ⟨#[65]⟩,.int .i64 0,.int .i64 0,.string ⟨#[88]⟩,.slice (some ⟨w.heap.size,0,none⟩) 2 2,.int .i64 1000000,.slice none 0 0,.int .i64 0,.string ⟨#[]⟩];refine (HPo.out _ hb1).mono ?_;rintro e w2 ⟨A',c',rfl,ho,hb⟩;have HX2:=hid (hx1.below hb hx1.lt);have k2:=HX2.out.cell;have HB2:=hid (hb1.trans (hb.mono hb1.size));obtain ⟨b,cap,e1,_,_⟩:=ho.form (by omega);injection e1 with e1 _ _;subst e1;have HR2:=hid (Reads.of_own ho);clear hb ho hx1 hb1)
  |(go_at_call 15;refine (HAr.out _ HB2.out).mono ?_;rintro e w3 ⟨rfl,hb⟩;have hb3:=((HB2.out.trans (hb.mono HB2.out.size)).alloc (by have:=(HB2.out.trans (hb.mono HB2.out.size)).size;omega) (.cells #[.int .i64 1,.int .i64 100000,.int .i64 0,.int .i64 3600] 35));have HX3:=hid ((HX2.out.below hb HX2.out.lt).alloc (.cells #[.int .i64 1,.int .i64 100000,.int .i64 0,.int .i64 3600] 35));have k3:=HX3.out.cell;have HC3:=hid (hb.alloc hb.size (.cells #[.int .i64 1,.int .i64 100000,.int .i64 0,.int .i64 3600] 35));have HS3:=hid (Blk.new w3 35 #[.int .i64 1,.int .i64 100000,.int .i64 0,.int .i64 3600]);have HB3:=hid hb3;clear hb hb3 k2)
  |(go_at_call 17;refine (HCh.out _ HB3.out).mono ?_;rintro e w4 ⟨rfl,hb⟩;have HB4:=hid (HB3.out.trans (hb.mono HB3.out.size));have HX4:=hid (HX3.out.below hb HX3.out.lt);have k4:=HX4.out.cell;have HS4:=hid (HS3.out.below hb HS3.out.lt);have HC4:=hid (HC3.out.trans (hb.mono HC3.out.size));clear hb k3)
  |(go_at_call 19;refine (HNx.out _ HB4.out).mono ?_;rintro e w5 ⟨rfl,hb⟩;have HB5:=hid (HB4.out.trans (hb.mono HB4.out.size));have HX5:=hid (HX4.out.below hb HX4.out.lt);have k5:=HX5.out.cell;have HS5:=hid (HS4.out.below hb HS4.out.lt);have HC5:=hid (HC4.out.trans (hb.mono HC4.out.size));clear hb k4)
  |(go_at_call 20;refine (HPr.out _ HB5.out).mono ?_;rintro e w6 ⟨rfl,hb⟩;have HB6:=hid (HB5.out.trans (hb.mono HB5.out.size));have HS6:=hid (HS5.out.below hb HS5.out.lt);have k6:=HS6.out.cell;have hr6:=HR2.out.below (HC5.out.trans (hb.mono HC5.out.size));obtain ⟨ad,hA,_,r0⟩:=ints_b hr6 (show 0<2 by omega);obtain ⟨ad2,hA2,_,r1⟩:=ints_b hr6 (show 1<2 by omega);injection hA with hA;injection hA2 with hA2;subst hA hA2;simp only [List.getElem_cons_zero,List.getElem_cons_succ] at r0 r1;rw [show (⟨b,0,none⟩:Addr).add 0=⟨b,0,none⟩ from rfl] at r0;rw [show (⟨b,0,none⟩:Addr).add 1=⟨b,1,none⟩ from rfl] at r1;clear hb k5 hr6))
 go_ret;exact ⟨rfl,HB.out.trans (HB6.out.mono HB.out.size)⟩
end Zon
end
end
end Go.Proofs.YtmlejgdohcpmjaaGreatDoor
