/-
  Contracts of the code that the law reaches, and plain laws. Conditions: as each says.
-/
import Derived.Test.YtmlejgdohcpmjaaGreatDoorV06
import Derived.Laws.StructEq
import Derived.Test.YtmlejgdohcpmjaaGreatDoorV14
import Derived.ArgAppend
import Derived.Laws.IdiomStrings
import Derived.Lib.SlBytesConst
set_option linter.all false
set_option maxHeartbeats 40000000
set_option maxRecDepth 100000
namespace Go.Proofs.YtmlejgdohcpmjaaGreatDoor
open Lib (hid)
open Tryz
section
section
namespace Rgt
open Go.RowKit Mem Img Plc
theorem day_any (n:Int) (w:World):Calls prog 84 #[.int .i64 n] w fun e w'=>e= .returned (.bool (dayB n))/\w'=w:=by
 go_enter func84,ntmps84;unfold dayB
 cases h1:decide (-86400<n)<;>cases h2:decide (n<86400)
 all_goals go_wp2
 all_goals go_ret
 all_goals simp
def byteOk (c:UInt8):Bool:= !(decide ((c.toNat:Int)<=32)) && !(decide ((126:Int)<c.toNat))
def phaseB (p:Phase):Bool:=p.abbr.data.toList.all byteOk && (((dayB p.off && decide (-43200<=p.save)) && decide (p.save<=43200)) && decide ((p.abbr.size:Int)<=40))
theorem phase_no {off save:Int} {s:ByteArray} {k:Nat} (hk:k<s.data.toList.length) (hf:byteOk s.data.toList[k]=false):phaseB ⟨off,save,s⟩=false:=by
 have:s.data.toList.all byteOk=false:=by
  rw [List.all_eq_false]
  exact ⟨s.data.toList[k],List.getElem_mem hk,by rw [hf];decide⟩
 simp [phaseB,this]
theorem phase_any (p:Phase) (w:World) (hs:p.abbr.size<=140737488355328):
  Calls prog 53 #[.agg #[.int .i64 p.off,.int .i64 p.save,.string p.abbr]] w fun e w'=>e= .returned (.bool (phaseB p))/\w'=w.alloc (.cells #[.int .i64 p.off,.int .i64 p.save,.string p.abbr] 23):=by
 obtain ⟨off,save,s⟩:=p;simp only at*;go_enter func53,ntmps53;obtain ⟨W,hW⟩:∃ W,w.alloc (.cells #[.int .i64 off,.int .i64 save,.string s] 23)=W:=⟨_,rfl⟩
 have cc:∀ i,W.cell? ⟨w.heap.size,i,none⟩=#[Value.int .i64 off,.int .i64 save,.string s][i]?:=fun i=>by rw [<-hW];exact (Blk.new w _ _).cell i
 go_wp2_with fail
 go_loopw [7] (fun i wr=>∃ k:Nat,k<=s.size/\i= .int .i64 k/\(s.data.toList.take k).all byteOk=true/\wr=W) (fun i _=>s.size - (intOf i).toNat)
 case atStart=>exact ⟨0,Nat.zero_le _,rfl,rfl,rfl⟩
 case round=>
  have HW:=hid hW;clear hW;obtain ⟨k,hk,rfl,hall,rfl⟩:=hrel;have Hall:=hid hall;clear hall
  by_cases hkn:k<s.size
  ·obtain ⟨ok,hok⟩:∃ ok,byteOk (s[k]'hkn)=ok:=⟨_,rfl⟩
   have Hok:=hid hok;simp only [byteOk] at hok
   cases h2:decide (((s[k]'hkn).toNat:Int)<=32)<;>cases h3:decide ((126:Int)<(s[k]'hkn).toNat)
   all_goals rw [h2,h3] at hok
   all_goals simp at hok
   all_goals subst hok
   all_goals go_wp2
   all_goals first
    |(refine ⟨⟨k+1,by omega,by go_num,all_succ (by simpa using hkn) Hall.out Hok.out,trivial⟩,by simp [intOf];omega⟩;done)
    |(go_ret;refine ⟨?_,HW.out.symm⟩;rw [show phaseB ⟨off,save,s⟩=false from phase_no (k:=k) (by simpa using hkn) Hok.out];rfl)
  ·obtain rfl:k=s.size:=by omega
   rw [show s.data.toList.take s.size=s.data.toList from List.take_of_length_le (by simp)] at Hall
   cases h1:dayB off<;>cases h2:decide (-43200<=save)<;>cases h3:decide (save<=43200)<;>cases h4:decide ((s.size:Int)<=40)
   all_goals go_wp2_with (go_at_call 84;refine (day_any _ _).mono ?_;rintro e w1 ⟨rfl,rfl⟩;rw [h1])
   all_goals go_ret
   all_goals refine ⟨?_,HW.out.symm⟩
   all_goals simp only [phaseB,Hall.out,h1,h2,h3,h4,Bool.true_and]
   all_goals rfl
def hadAt (first:Phase) (ss:List Shift):Nat->Phase
 |0=>first
 |j+1=>((ss[j]?).map (·.ph)).getD first
def secOk (ss:List Shift):Nat->Bool
 |0=>true
 |j+1=>match ss[j]?,ss[j+1]? with
  |some a,some b=> !(decide (b.sec<=a.sec))
  |_,_=>true
def okAt (first:Phase) (till:Int) (ss:List Shift) (k:Nat):Bool:=
 match ss[k]? with
 |some s=>phaseB s.ph && (!(decide (s.ph=hadAt first ss k)) && (!(decide (till<=s.sec)) && secOk ss k))
 |none=>true
def shiftsB (x:Table):Bool:=(List.range x.shifts.length).all (okAt x.first x.till x.shifts)
def rightB (x:Table) (tb:Bool):Bool:=(placeB x.name && (phaseB x.first && (!(decide ((30000:Int)<x.shifts.length)) && tb))) && shiftsB x
theorem phase_eq (po ps:Int) (pa:ByteArray) (ho hs:Int) (ha:ByteArray):decide ((⟨po,ps,pa⟩:Phase)=⟨ho,hs,ha⟩)=((po == ho) && ((ps == hs) && (pa.toList == ha.toList))):=by
 rw [<-beq_toListBytes];simp only [Phase.mk.injEq,Bool.decide_and]
 congr 1
 congr 1
 by_cases h:pa=ha
 ·subst h
  rw [beq_toListBytes];simp
 ·rw [beq_toListBytes,ByteArray.toList_eq,ByteArray.toList_eq]
  have:¬ pa.data=ha.data:=fun e=>h (by obtain ⟨x⟩:=pa;obtain ⟨y⟩:=ha;simp at e;rw [e])
  simp [h,this]
theorem bools3 (a b c:Bool):(a=true/\b=true/\c=true)\/a=false\/(a=true/\b=false)\/(a=true/\b=true/\c=false):=by cases a<;>cases b<;>cases c<;>simp
def One (w:World) (b:Nat) (t:TypeId) (cs:Array Value) (w1:World):Prop:=Blk w1 b t cs/\Below w.heap.size w w1
theorem One.step {w w1 w2:World} {b:Nat} {t:TypeId} {cs:Array Value} (h:One w b t cs w1) (hb:Below w1.heap.size w1 w2):One w b t cs w2:=⟨h.1.below hb h.1.lt,h.2.trans (hb.mono h.2.size)⟩
theorem below_of_alloc {w w':World} {o:Obj} (h:w'=w.alloc o):Below w.heap.size w w':=by rw [h];exact (Below.refl _ _).alloc (Nat.le_refl _) _
theorem right_any (x:Table) (A A2:Option Addr) (c c2:Nat) (tb:Bool) (m:Int) (w:World) (hA:Reads w w.heap.size 4 A x.shifts.length (x.shifts.flatMap Shift.cells)) (hn:x.shifts.length<=1000000)
  (hname:x.name.size<=2097152) (hf:x.first.abbr.size<=8388608) (hp:∀ s∈x.shifts,s.ph.abbr.size<=8388608) (hm:w.cell? ⟨0,0,none⟩=some (.int .i64 m))
  (hT:∀ w1,Below w.heap.size w w1->Calls prog 54 #[.agg (tabCells x A c A2 c2)] w1 fun e w'=>e= .returned (.bool tb)/\Below w1.heap.size w1 w'):
  Calls prog 31 #[.agg (tabCells x A c A2 c2)] w fun e w'=>e= .returned (.bool (rightB x tb))/\Below w.heap.size w w':=by
 obtain ⟨name,⟨fo,fs,fa⟩,ss,till,tail,off,format⟩:=x;simp only [tabCells] at*;have HA:=hid hA;have HT:=hid hT;have Hm:=hid hm;clear hA hT hm;have hbx:=box1 w 27 #[Value.string name,Value.int IntKind.i64 fo,Value.int IntKind.i64 fs,Value.string fa,Value.slice A ss.length c,Value.int IntKind.i64 till,Value.slice A2 tail.length c2,Value.int IntKind.i64 off,Value.string format];go_enter func31,ntmps31;obtain ⟨hb0,hbel,hsz⟩:=hbx;have HB:Hid (One w w.heap.size 27 _ _):=⟨hb0,hbel⟩;clear hb0 hbel
 cases h1:placeB name<;>cases h2:phaseB ⟨fo,fs,fa⟩<;>cases h3:decide ((30000:Int)<ss.length)<;>cases tb
 all_goals go_wp2_with (first
  |(go_at_call 52;refine (place_any name m _ hname (cell_later HB.out.2 Hm.out)).mono ?_;rintro e w1 ⟨rfl,hb1⟩;have HB:=hid (HB.out.step hb1);have cc:=HB.out.1.cell;rw [h1])
  |(go_at_call 53;refine (phase_any ⟨fo,fs,fa⟩ _ (Nat.le_trans hf (by omega))).mono ?_;rintro e w2 ⟨rfl,hb2⟩;have HB:=hid (HB.out.step (below_of_alloc hb2));clear hb2;have cc:=HB.out.1.cell;rw [h2])
  |(go_at_call 54;refine (HT.out _ HB.out.2).mono ?_;rintro e w3 ⟨rfl,hb3⟩;have HB:=hid (HB.out.step hb3);have cc:=HB.out.1.cell;have cd:=fun o i=>(HB.out.1.alloc o).cell i))
 all_goals try (go_ret;refine ⟨?_,HB.out.2⟩;simp only [rightB,h1,h2,h3,Bool.false_and,Bool.true_and,Bool.not_true,Bool.not_false,Bool.and_false];rfl;done)
 have hsz3:w.heap.size<w3.heap.size:=HB.out.1.lt
 go_loopw [32] (fun i wr=>∃ k:Nat,k<=ss.length/\i= .int .i64 k/\One w w.heap.size 27 #[Value.string name,Value.int IntKind.i64 fo,Value.int IntKind.i64 fs,Value.string fa,Value.slice A ss.length c,Value.int IntKind.i64 till,Value.slice A2 tail.length c2,Value.int IntKind.i64 off,Value.string format] wr/\
   Blk wr w3.heap.size 23 #[.int .i64 (hadAt ⟨fo,fs,fa⟩ ss k).off,.int .i64 (hadAt ⟨fo,fs,fa⟩ ss k).save,.string (hadAt ⟨fo,fs,fa⟩ ss k).abbr]/\(List.range k).all (okAt ⟨fo,fs,fa⟩ till ss)=true) (fun i _=>ss.length - (intOf i).toNat)
 case atStart=>exact ⟨0,Nat.zero_le _,rfl,HB.out.step ((Below.refl _ _).alloc (Nat.le_refl _) _),Blk.new w3 _ _,rfl⟩
 case round=>
  clear cc cd HB;obtain ⟨k,hk,rfl,hone,hhad,hall⟩:=hrel;have HB:=hid hone;have Hhad:=hid hhad;have Hall:=hid hall;clear hone hhad hall;have cc:=HB.out.1.cell;have ch:=Hhad.out.cell
  by_cases hkn:k<ss.length
  ·have hpw:=hp ss[k] (List.getElem_mem hkn)
   obtain ⟨ok,hok⟩:∃ ok,okAt ⟨fo,fs,fa⟩ till ss k=ok:=⟨_,rfl⟩;have Hok:=hid hok;clear hok;obtain ⟨ad,rfl,hadb,c0,c1,c2,c3⟩:=shift_at (HA.out.below HB.out.2) hkn
   have hget:ss[k]?=some ss[k]:=List.getElem?_eq_getElem hkn
   simp only [okAt,hget] at Hok;generalize hse:ss[k]=s at*;obtain ⟨sec,⟨po,ps,pa⟩⟩:=s;have Hse:=hid hse;clear hse hget;generalize hh:hadAt ⟨fo,fs,fa⟩ ss k=had at*;obtain ⟨ho,hs,ha⟩:=had;have Hh:=hid hh;clear hh;simp only at Hok hpw c0 c1 c2 c3 ch;obtain ⟨W1,hW1⟩:∃ W1,wr.alloc (.cells #[.int .i64 sec,.int .i64 po,.int .i64 ps,.string pa] 53)=W1:=⟨_,rfl⟩
   have hbW:Below wr.heap.size wr W1:=by rw [<-hW1];exact (Below.refl _ _).alloc (Nat.le_refl _) _
   have HS:Hid (Blk W1 wr.heap.size 53 #[.int .i64 sec,.int .i64 po,.int .i64 ps,.string pa]):=by rw [<-hW1];exact Blk.new wr _ _
   have HB:=hid (HB.out.step hbW);have Hhad:=hid (Hhad.out.below hbW Hhad.out.lt);have hzr:wr.heap.size<W1.heap.size:=HS.out.lt;have Hbw:=hid hbW;clear hbW;have cs:=HS.out.cell;have cc2:=HB.out.1.cell;have ch2:=Hhad.out.cell
   go_wp2_with fail
   clear hW1 cc ch c0 c1 c2 c3;have HB:Hid (One w w.heap.size 27 _ W1.drew):=⟨HB.out.1.drew,HB.out.2.drew⟩;have HS:Hid (Blk W1.drew wr.heap.size 53 #[.int .i64 sec,.int .i64 po,.int .i64 ps,.string pa]):=HS.out.drew;have Hhad:Hid (Blk W1.drew w3.heap.size 23 #[.int .i64 ho,.int .i64 hs,.string ha]):=Hhad.out.drew
   have HP:Hid (∀ w',Below w.heap.size w w'->w'.cell? (ad.add ((k - 1)*4))=some (.int .i64 (ss[k - 1]'(by omega)).sec)):=fun w' hb'=>by
    obtain ⟨ad',e,_,c0,_⟩:=shift_at (HA.out.below hb') (k:=k - 1) (by omega)
    injection e with e
    rw [e];exact c0
   go_cut [69] (fun s69 wx=>s69= .bool (!ok)/\One w w.heap.size 27 #[Value.string name,Value.int IntKind.i64 fo,Value.int IntKind.i64 fs,Value.string fa,Value.slice (some ad) ss.length c,Value.int IntKind.i64 till,Value.slice A2 tail.length c2,Value.int IntKind.i64 off,Value.string format] wx/\
    Blk wx wr.heap.size 53 #[.int .i64 sec,.int .i64 po,.int .i64 ps,.string pa]/\Blk wx w3.heap.size 23 #[.int .i64 ho,.int .i64 hs,.string ha])
   case first=>
    obtain ⟨Cls,hCls⟩:∃ C:World->Prop,C=fun w'=>One w w.heap.size 27 #[Value.string name,Value.int IntKind.i64 fo,Value.int IntKind.i64 fs,Value.string fa,Value.slice (some ad) ss.length c,Value.int IntKind.i64 till,Value.slice A2 tail.length c2,Value.int IntKind.i64 off,Value.string format] w'/\
      Blk w' wr.heap.size 53 #[.int .i64 sec,.int .i64 po,.int .i64 ps,.string pa]/\Blk w' w3.heap.size 23 #[.int .i64 ho,.int .i64 hs,.string ha]:=⟨_,rfl⟩
    have hC:∀ w',Cls w'->One w w.heap.size 27 #[Value.string name,Value.int IntKind.i64 fo,Value.int IntKind.i64 fs,Value.string fa,Value.slice (some ad) ss.length c,Value.int IntKind.i64 till,Value.slice A2 tail.length c2,Value.int IntKind.i64 off,Value.string format] w'/\
      Blk w' wr.heap.size 53 #[.int .i64 sec,.int .i64 po,.int .i64 ps,.string pa]/\Blk w' w3.heap.size 23 #[.int .i64 ho,.int .i64 hs,.string ha]:=fun w' h=>by rw [hCls] at h;exact h
    have hstart:Hid (Cls W1.drew):=by show Cls _;rw [hCls];exact ⟨HB.out,HS.out,Hhad.out⟩
    have hnext:Hid (∀ w' w'',Cls w'->Below w'.heap.size w' w''->Cls w''):=fun w' w'' h hb=>by
     obtain ⟨a1,a2,a3⟩:=hC w' h;rw [hCls];exact ⟨a1.step hb,a2.below hb a2.lt,a3.below hb a3.lt⟩
    clear hCls;have z0:∀ z:Qt.In Cls,z.w.cell? ⟨wr.heap.size,0,none⟩=some (.int .i64 sec):=fun z=>(hC z.w z.h).2.1.cell 0;have z1:∀ z:Qt.In Cls,z.w.cell? ⟨wr.heap.size,1,none⟩=some (.int .i64 po):=fun z=>(hC z.w z.h).2.1.cell 1;have z2:∀ z:Qt.In Cls,z.w.cell? ⟨wr.heap.size,2,none⟩=some (.int .i64 ps):=fun z=>(hC z.w z.h).2.1.cell 2;have z3:∀ z:Qt.In Cls,z.w.cell? ⟨wr.heap.size,3,none⟩=some (.string pa):=fun z=>(hC z.w z.h).2.1.cell 3;have y0:∀ z:Qt.In Cls,z.w.cell? ⟨w3.heap.size,0,none⟩=some (.int .i64 ho):=fun z=>(hC z.w z.h).2.2.cell 0;have y1:∀ z:Qt.In Cls,z.w.cell? ⟨w3.heap.size,1,none⟩=some (.int .i64 hs):=fun z=>(hC z.w z.h).2.2.cell 1;have y2:∀ z:Qt.In Cls,z.w.cell? ⟨w3.heap.size,2,none⟩=some (.string ha):=fun z=>(hC z.w z.h).2.2.cell 2;have x4:∀ z:Qt.In Cls,z.w.cell? ⟨w.heap.size,4,none⟩=some (Value.slice (some ad) ss.length c):=fun z=>(hC z.w z.h).1.1.cell 4;have x5:∀ z:Qt.In Cls,z.w.cell? ⟨w.heap.size,5,none⟩=some (Value.int .i64 till):=fun z=>(hC z.w z.h).1.1.cell 5
    have xp:∀ z:Qt.In Cls,z.w.cell? (ad.add ((k - 1)*4))=some (.int .i64 (ss[k - 1]'(by omega)).sec):=fun z=>HP.out _ (hC z.w z.h).1.2
    have hph:Hid (∀ (b:Bool),phaseB ⟨po,ps,pa⟩=b->∀ w',Cls w'->Calls prog 53 #[.agg #[.int .i64 po,.int .i64 ps,.string pa]] w' fun e w''=>e= .returned (.bool b)/\Cls w''):=fun b hb w' h=>
     (phase_any ⟨po,ps,pa⟩ w' (Nat.le_trans hpw (by omega))).mono fun e w'' ⟨he,hw⟩=>⟨by rw [he,hb],hnext.out w' w'' h (below_of_alloc hw)⟩
    have hC2:=hid hC;clear hC HB HS Hhad cs cc2 ch2 HP
    have Hsec:Hid (0<k->secOk ss k= !(decide (sec<=(ss[k - 1]'(by omega)).sec))):=fun h0=>by
     obtain ⟨j,rfl⟩:∃ j,k=j+1:=⟨k - 1,by omega⟩
     simp only [Nat.add_sub_cancel]
     simp only [secOk,List.getElem?_eq_getElem hkn,List.getElem?_eq_getElem (show j<ss.length by omega),Hse.out]
    generalize (ss[k - 1]'(by omega)).sec=psec at*
    have inst:Nonempty (Qt.In Cls):=⟨⟨_,hstart.out⟩⟩;have heq:decide ((⟨po,ps,pa⟩:Phase)=⟨ho,hs,ha⟩)=((po == ho) && ((ps == hs) && (pa.toList == ha.toList))):=phase_eq _ _ _ _ _ _;have Heq:=hid heq;clear heq
    cases h1:phaseB ⟨po,ps,pa⟩
    ·refine Qt.wp_region_cls Cls (by kernel_rfl) (by kernel_rfl) hstart.out ?_
     repeat (go_big_quiet_step (exact Qt.quiet_cls (hph.out _ h1 _ (Qt.In.h _))))
     refine wpQuiet_nil ?_
     rintro _ ⟨⟨wq,hq⟩,rfl⟩
     go_wp2_with fail
     go_meet
     refine ⟨?_,hC2.out _ hq⟩
     rw [<-Hok.out,h1]
     rfl
    ·rcases bools3 (po == ho) (ps == hs) (pa.toList == ha.toList) with ⟨e,e2,e3⟩|e|⟨e,e2⟩|⟨e,e2,e3⟩
     ·refine Qt.wp_region_cls Cls (by kernel_rfl) (by kernel_rfl) hstart.out ?_
      repeat (go_big_quiet_step (exact Qt.quiet_cls (hph.out _ h1 _ (Qt.In.h _))))
      refine wpQuiet_nil ?_
      rintro _ ⟨⟨wq,hq⟩,rfl⟩
      go_wp2_with fail
      go_meet
      refine ⟨?_,hC2.out _ hq⟩
      rw [<-Hok.out,h1,Heq.out,e,e2,e3]
      rfl
     all_goals
      have hne:Hid (((po == ho) && ((ps == hs) && (pa.toList == ha.toList)))=false):=by
       show _=_
       first|(rw [e,e2,e3];rfl)|(rw [e,e2];rfl)|(rw [e];rfl)
      cases h3:decide (till<=sec)
      ·rcases k with _|k
       ·refine Qt.wp_region_cls Cls (by kernel_rfl) (by kernel_rfl) hstart.out ?_
        repeat (go_big_quiet_step (exact Qt.quiet_cls (hph.out _ h1 _ (Qt.In.h _))))
        refine wpQuiet_nil ?_
        rintro _ ⟨⟨wq,hq⟩,rfl⟩
        go_wp2_with fail
        go_meet
        refine ⟨?_,hC2.out _ hq⟩
        rw [<-Hok.out,h1,Heq.out,hne.out,h3]
        rfl
       ·simp only [Nat.add_sub_cancel] at xp
        have hs2:=Hsec.out (Nat.succ_pos k);have Hs2:=hid hs2;clear hs2
        cases h5:decide (sec<=psec)
        all_goals
         refine Qt.wp_region_cls Cls (by kernel_rfl) (by kernel_rfl) hstart.out ?_
         repeat (go_big_quiet_step (exact Qt.quiet_cls (hph.out _ h1 _ (Qt.In.h _))))
         refine wpQuiet_nil ?_
         rintro _ ⟨⟨wq,hq⟩,rfl⟩
         go_wp2_with fail
         go_meet
         refine ⟨?_,hC2.out _ hq⟩
         rw [<-Hok.out,h1,Heq.out,hne.out,h3,Hs2.out,h5]
         rfl
      ·refine Qt.wp_region_cls Cls (by kernel_rfl) (by kernel_rfl) hstart.out ?_
       repeat (go_big_quiet_step (exact Qt.quiet_cls (hph.out _ h1 _ (Qt.In.h _))))
       refine wpQuiet_nil ?_
       rintro _ ⟨⟨wq,hq⟩,rfl⟩
       go_wp2_with fail
       go_meet
       refine ⟨?_,hC2.out _ hq⟩
       rw [<-Hok.out,h1,Heq.out,hne.out,h3]
       rfl
   case rest=>
    clear HB HS Hhad cs cc2 ch2 HP;obtain ⟨rfl,hone,hsh,hhd⟩:=hcut;have HB:=hid hone;have HS:=hid hsh;have Hhad:=hid hhd;clear hone hsh hhd;have cs:=HS.out.cell;have cc:=HB.out.1.cell;have ch:=Hhad.out.cell;have fh:=Hhad.out.frozen
    cases hk2:ok
    ·rw [hk2] at Hok
     go_wp2_with fail
     go_ret
     refine ⟨?_,HB.out.2⟩
     have:shiftsB ⟨name,⟨fo,fs,fa⟩,ss,till,tail,off,format⟩=false:=by
      unfold shiftsB;rw [List.all_eq_false]
      refine ⟨k,by simpa using hkn,?_⟩
      have:=Hok.out
      simp only [okAt,List.getElem?_eq_getElem hkn,Hse.out,Hh.out]
      rw [this]
      decide
     simp only [rightB,this,Bool.and_false]
     rfl
    ·rw [hk2] at Hok
     have hb9:Blk (((wc.setCell ⟨w3.heap.size,0,none⟩ (.int .i64 po)).setCell ⟨w3.heap.size,1,none⟩ (.int .i64 ps)).setCell ⟨w3.heap.size,2,none⟩ (.string pa)) w3.heap.size 23 #[.int .i64 po,.int .i64 ps,.string pa]:=
      ((Hhad.out.set_ 0 (.int .i64 po)).set_ 1 (.int .i64 ps)).set_ 2 (.string pa)
     have Hb9:=hid hb9;clear hb9
     go_wp2_with fail
     have hh1:hadAt ⟨fo,fs,fa⟩ ss (k+1)=⟨po,ps,pa⟩:=by
      simp only [hadAt,List.getElem?_eq_getElem hkn,Hse.out]
      rfl
     refine ⟨⟨k+1,by omega,by go_num,⟨((HB.out.1.far (p:=⟨w3.heap.size,0,none⟩) (Nat.ne_of_lt hsz3) _).far (p:=⟨w3.heap.size,1,none⟩) (Nat.ne_of_lt hsz3) _).far (p:=⟨w3.heap.size,2,none⟩) (Nat.ne_of_lt hsz3) _,
      ((HB.out.2.setCell (Nat.le_of_lt hsz3) _).setCell (Nat.le_of_lt hsz3) _).setCell (Nat.le_of_lt hsz3) _⟩,by rw [hh1];exact Hb9.out,?_⟩,by simp [intOf];omega⟩
     rw [List.range_succ,List.all_append,Hall.out];have:=Hok.out
     simp only [List.all_cons,List.all_nil,Bool.and_true,Bool.true_and,okAt,List.getElem?_eq_getElem hkn,Hse.out,Hh.out]
     exact this
  ·obtain rfl:k=ss.length:=by omega
   go_wp2_with fail
   go_ret
   refine ⟨?_,HB.out.2⟩
   have:shiftsB ⟨name,⟨fo,fs,fa⟩,ss,till,tail,off,format⟩=true:=Hall.out;simp only [rightB,this,h1,h2,h3]
   rfl
end Rgt
end
end
section
section
namespace Img
open Go.RowKit Mem Go.Maps
section
variable {P:Program} (w:World)
end
structure TabOk (x:Table) (A A2:Option Addr) (w:World):Prop where
 rs:Reads w w.heap.size 4 A x.shifts.length (x.shifts.flatMap Shift.cells)
 rt:Reads w w.heap.size 11 A2 x.tail.length (x.tail.flatMap Rule.cells)
 ns:x.shifts.length<=1000000
 nt:x.tail.length<=1000000
 name:x.name.size<=2097152
 format:x.format.size<=2097152
 first:PW x.first
 shifts:∀ s∈x.shifts,PW s.ph
 rules:∀ r∈x.tail,r.name.size<=2097152/\r.letter.size<=2097152
theorem TabOk.below {x:Table} {A A2:Option Addr} {w w':World} (h:TabOk x A A2 w) (hb:Below w.heap.size w w'):TabOk x A A2 w':=
 ⟨(h.rs.below hb).more hb.size,(h.rt.below hb).more hb.size,h.ns,h.nt,h.name,h.format,h.first,h.shifts,h.rules⟩
end Img
namespace Img
open Go.RowKit Mem Go.Maps Rgt
section
variable {x:Table} {A A2:Option Addr} {w:World}
end
end Img
end
end
end Go.Proofs.YtmlejgdohcpmjaaGreatDoor
