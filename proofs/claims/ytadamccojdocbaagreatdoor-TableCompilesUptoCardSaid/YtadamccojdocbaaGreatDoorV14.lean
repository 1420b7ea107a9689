/-
  Contracts of the code that the law reaches, and plain laws. Conditions: as each says.
-/
import Derived.Test.YtadamccojdocbaaGreatDoorV07
import Derived.Sort.Walk0
import Derived.Maps.RangeWalk
import Derived.StringKeys
import Derived.Sort.KeysCollected
import Derived.Sort.OwnSorted
set_option linter.all false
set_option maxHeartbeats 40000000
set_option maxRecDepth 100000
namespace Go.Proofs.YtadamccojdocbaaGreatDoor
open Lib (hid)
open Tryz
section
section
namespace Snd
open Go.RowKit Mem Civ Mom Img Plc Rul Src
theorem tl_beq (a b:ByteArray):(a.toList == b.toList)=decide (a=b):=by
 rw [ByteArray.toList_eq,ByteArray.toList_eq,Bool.eq_iff_iff];simp only [beq_iff_eq,decide_eq_true_eq]
 constructor
 ·intro h
  obtain ⟨⟨a⟩⟩:=a;obtain ⟨⟨b⟩⟩:=b;simp only at h;rw [h]
 ·rintro rfl;rfl
theorem find_hit {α:Type} {p:α->Bool} {l:List α} {k:Nat} (hk:k<l.length) (h:(l.take k).all (fun x=> !p x)=true) (hp:p l[k]=true):l.findIdx? p=some k:=by
 rw [List.findIdx?_eq_some_iff_getElem]
 refine ⟨hk,hp,fun j hj=>?_⟩
 have hm:l[j]∈l.take k:=by
  rw [List.mem_take_iff_getElem]
  exact ⟨j,by omega,rfl⟩
 have:=List.all_eq_true.1 h _ hm
 simpa using this
theorem find_miss {α:Type} {p:α->Bool} {l:List α} (h:l.all (fun x=> !p x)=true):l.findIdx? p=none:=by
 rw [List.findIdx?_eq_none_iff]
 intro x hx;have:=List.all_eq_true.1 h x hx
 simpa using this
theorem no_step {α:Type} {p:α->Bool} {l:List α} {k:Nat} (hk:k<l.length) (h:(l.take k).all (fun x=> !p x)=true) (hp:p l[k]=false):(l.take (k+1)).all (fun x=> !p x)=true:=by
 rw [List.take_succ_eq_append_getElem hk,List.all_append,h];simp [hp]
def zoneAt (zs:List ZoneM) (nm:ByteArray):Option Nat:=zs.findIdx? fun z=>decide (z.name=nm)
def linkAt (ls:List Link) (nm:ByteArray):Option Nat:=ls.findIdx? fun l=>decide (l.name=nm)
def atI:Option Nat->Int
 |some i=>i
 |none=> -1
def stepR (zs:List ZoneM) (ls:List Link):Nat->ByteArray->Option Nat
 |0,_=>none
 |n+1,nm=>match zoneAt zs nm with
  |some i=>some i
  |none=>match (linkAt ls nm).bind fun k=>ls[k]? with
   |none=>none
   |some l=>stepR zs ls n l.target
def resolveB (s:Src) (nm:ByteArray):Option Nat:=stepR s.zones s.links (s.links.length+1) nm
theorem linkAt_lt {ls:List Link} {nm:ByteArray} {i:Nat} (h:linkAt ls nm=some i):i<ls.length:=(List.findIdx?_eq_some_iff_getElem.1 h).1
theorem name_any (z:ZoneM) (nm:ByteArray) (b:Nat) (w:World) (hc:w.cell? ⟨b,0,none⟩=some (.string nm)):
  Calls prog 194 #[.agg #[.string z.name,.slice z.A z.eras.length z.c],.pointer (some ⟨b,0,none⟩)] w fun e w'=>e= .returned (.bool (decide (z.name=nm)))/\Below w.heap.size w w':=by
 have h1:=tl_beq z.name nm;have hone:=One.new w 65 #[.string z.name,.slice z.A z.eras.length z.c];have c2:(w.alloc (.cells #[.string z.name,.slice z.A z.eras.length z.c] 65)).cell? ⟨b,0,none⟩=some (.string nm):=cell_later hone.2 hc;generalize decide (z.name=nm)=q at*;go_enter func194,ntmps194
 go_wp2_with fail
 go_ret;exact ⟨rfl,hone.2⟩
theorem lname_any (z:Link) (nm:ByteArray) (b:Nat) (w:World) (hc:w.cell? ⟨b,0,none⟩=some (.string nm)):
  Calls prog 196 #[.agg #[.string z.target,.string z.name],.pointer (some ⟨b,0,none⟩)] w fun e w'=>e= .returned (.bool (decide (z.name=nm)))/\Below w.heap.size w w':=by
 have h1:=tl_beq z.name nm;have hone:=One.new w 170 #[.string z.target,.string z.name];have c2:(w.alloc (.cells #[.string z.target,.string z.name] 170)).cell? ⟨b,0,none⟩=some (.string nm):=cell_later hone.2 hc;generalize decide (z.name=nm)=q at*;go_enter func196,ntmps196
 go_wp2_with fail
 go_ret;exact ⟨rfl,hone.2⟩
theorem index_zone (zs:List ZoneM) (nm:ByteArray) (b:Nat) (A:Option Addr) (c:Nat) (w:World) (h:Reads w w.heap.size 2 A zs.length (zs.flatMap ZoneM.cells)) (hc:w.cell? ⟨b,0,none⟩=some (.string nm)) (hn:zs.length<=1000000):
  Calls prog 193 #[.slice A zs.length c,.func (Fn.func 194) #[] #[.pointer (some ⟨b,0,none⟩)]] w fun e w'=>e= .returned (.int .i64 (atI (zoneAt zs nm)))/\Below w.heap.size w w':=by
 have H:=hid h;have HC:=hid hc;clear h hc;obtain ⟨Q,hQ⟩:∃ Q,zoneAt zs nm=Q:=⟨_,rfl⟩;rw [hQ];have HQ:=hid hQ;clear hQ;go_enter func193,ntmps193;go_wp2
 go_loopw [8] (fun i wr=>∃ k:Nat,k<=zs.length/\i= .int .i64 k/\(zs.take k).all (fun z=> !decide (z.name=nm))=true/\Below w.heap.size w wr) (fun i _=>zs.length - (intOf i).toNat)
 case atStart=>exact ⟨0,Nat.zero_le _,rfl,rfl,Below.refl _ _⟩
 case round=>
  obtain ⟨k,hk,rfl,hall,hb⟩:=hrel;have Hall:=hid hall;have HB:=hid hb;clear hall hb
  by_cases hkn:k<zs.length
  ·obtain ⟨ad,rfl,hadb,a0,a1⟩:=zone_cells (H.out.below HB.out) hkn rfl
   have Hc:=hid (fun z (hb:Below w.heap.size w z)=>name_any zs[k] nm b z (cell_later hb HC.out));have hstep:decide (zs[k].name=nm)=false->(zs.take (k+1)).all (fun z=> !decide (z.name=nm))=true:=no_step hkn Hall.out;have hhit:decide (zs[k].name=nm)=true->zoneAt zs nm=some k:=find_hit hkn Hall.out;have HS:=hid hstep;have HH:=hid hhit;clear hstep hhit Hall;generalize hd:decide (zs[k].name=nm)=d at*;clear hd;generalize zs[k]=z at*
   cases d
   ·go_wp2_with (go_at_call 194;refine (Hc.out _ HB.out).mono ?_;rintro e w1 ⟨rfl,hb1⟩;have HB1:=hid (HB.out.trans (hb1.mono HB.out.size));clear hb1)
    exact ⟨⟨k+1,by omega,by go_num,HS.out (by trivial),HB1.out⟩,by simp [intOf];omega⟩
   ·go_wp2_with (go_at_call 194;refine (Hc.out _ HB.out).mono ?_;rintro e w1 ⟨rfl,hb1⟩;have HB1:=hid (HB.out.trans (hb1.mono HB.out.size));clear hb1)
    go_ret
    exact ⟨by rw [<-HQ.out,HH.out (by trivial)];rfl,HB1.out⟩
  ·obtain rfl:k=zs.length:=by omega
   have hall:=Hall.out;rw [List.take_length] at hall;have hm:zoneAt zs nm=none:=find_miss hall;have HM:=hid hm;clear hall Hall hm;go_wp2;go_ret
   exact ⟨by rw [<-HQ.out,HM.out];rfl,HB.out⟩
theorem index_link (zs:List Link) (nm:ByteArray) (b:Nat) (A:Option Addr) (c:Nat) (w:World) (h:Reads w w.heap.size 2 A zs.length (zs.flatMap Link.cells)) (hc:w.cell? ⟨b,0,none⟩=some (.string nm)) (hn:zs.length<=1000000):
  Calls prog 195 #[.slice A zs.length c,.func (Fn.func 196) #[] #[.pointer (some ⟨b,0,none⟩)]] w fun e w'=>e= .returned (.int .i64 (atI (linkAt zs nm)))/\Below w.heap.size w w':=by
 have H:=hid h;have HC:=hid hc;clear h hc;obtain ⟨Q,hQ⟩:∃ Q,linkAt zs nm=Q:=⟨_,rfl⟩;rw [hQ];have HQ:=hid hQ;clear hQ;go_enter func195,ntmps195;go_wp2
 go_loopw [8] (fun i wr=>∃ k:Nat,k<=zs.length/\i= .int .i64 k/\(zs.take k).all (fun z=> !decide (z.name=nm))=true/\Below w.heap.size w wr) (fun i _=>zs.length - (intOf i).toNat)
 case atStart=>exact ⟨0,Nat.zero_le _,rfl,rfl,Below.refl _ _⟩
 case round=>
  obtain ⟨k,hk,rfl,hall,hb⟩:=hrel;have Hall:=hid hall;have HB:=hid hb;clear hall hb
  by_cases hkn:k<zs.length
  ·obtain ⟨ad,rfl,hadb,a0,a1⟩:=link_cells (H.out.below HB.out) hkn rfl
   have Hc:=hid (fun z (hb:Below w.heap.size w z)=>lname_any zs[k] nm b z (cell_later hb HC.out));have hstep:decide (zs[k].name=nm)=false->(zs.take (k+1)).all (fun z=> !decide (z.name=nm))=true:=no_step hkn Hall.out;have hhit:decide (zs[k].name=nm)=true->linkAt zs nm=some k:=find_hit hkn Hall.out;have HS:=hid hstep;have HH:=hid hhit;clear hstep hhit Hall;generalize hd:decide (zs[k].name=nm)=d at*;clear hd;generalize zs[k]=z at*
   cases d
   ·go_wp2_with (go_at_call 196;refine (Hc.out _ HB.out).mono ?_;rintro e w1 ⟨rfl,hb1⟩;have HB1:=hid (HB.out.trans (hb1.mono HB.out.size));clear hb1)
    exact ⟨⟨k+1,by omega,by go_num,HS.out (by trivial),HB1.out⟩,by simp [intOf];omega⟩
   ·go_wp2_with (go_at_call 196;refine (Hc.out _ HB.out).mono ?_;rintro e w1 ⟨rfl,hb1⟩;have HB1:=hid (HB.out.trans (hb1.mono HB.out.size));clear hb1)
    go_ret
    exact ⟨by rw [<-HQ.out,HH.out (by trivial)];rfl,HB1.out⟩
  ·obtain rfl:k=zs.length:=by omega
   have hall:=Hall.out;rw [List.take_length] at hall;have hm:linkAt zs nm=none:=find_miss hall;have HM:=hid hm;clear hall Hall hm;go_wp2;go_ret
   exact ⟨by rw [<-HQ.out,HM.out];rfl,HB.out⟩
theorem resolve_any (s:Src) (A A2 A3:Option Addr) (c c2 c3:Nat) (nm:ByteArray) (w:World) (h:SrcOk s A A2 A3 w):
  Calls prog 137 #[.agg #[.slice A s.rules.length c,.slice A2 s.zones.length c2,.slice A3 s.links.length c3],.string nm] w fun e w'=>e= .returned (.tuple #[.int .i64 ((resolveB s nm).getD 0:Nat),.bool (resolveB s nm).isSome])/\Below w.heap.size w w':=by
 have nz:=h.nz;have nl:=h.nl;have hrz:=h.rz;have hrl:=h.rl;clear h;obtain ⟨Q,hQ⟩:∃ Q,resolveB s nm=Q:=⟨_,rfl⟩;rw [hQ];unfold resolveB at hQ;obtain ⟨rs,zs,ls⟩:=s;simp only at nz nl hrz hrl hQ ⊢;have hb2:=box2 w 26 9 #[.slice A rs.length c,.slice A2 zs.length c2,.slice A3 ls.length c3] #[.string nm];obtain ⟨W,hW⟩:∃ W,(w.alloc (.cells #[.slice A rs.length c,.slice A2 zs.length c2,.slice A3 ls.length c3] 26)).alloc (.cells #[.string nm] 9)=W:=⟨_,rfl⟩;rw [hW] at hb2;obtain ⟨b0,b1,hbw,hsz⟩:=hb2;have HZ:=hid hrz;have HL:=hid hrl;have HQ:=hid hQ;have HB0:=hid b0;have HB1:=hid b1;have HBw:=hid hbw;have c0:=b0.cell;clear hrz hrl hQ b0 b1 hbw;go_enter func137,ntmps137
 go_wp2_with fail
 clear c0
 go_loopw [12] (fun i wr=>∃ (k:Nat) (n:ByteArray),k<=ls.length+1/\i= .int .i64 k/\stepR zs ls (ls.length+1 - k) n=Q/\Blk wr w.heap.size 26 #[.slice A rs.length c,.slice A2 zs.length c2,.slice A3 ls.length c3]/\Blk wr (w.heap.size+1) 9 #[.string n]/\Below w.heap.size w wr) (fun i _=>ls.length+1 - (intOf i).toNat)
 case atStart=>exact ⟨0,nm,Nat.zero_le _,rfl,HQ.out,HB0.out,HB1.out,HBw.out⟩
 case round=>
  clear HB0 HB1 HBw HQ;obtain ⟨k,n,hk,rfl,hst,hb0,hb1,hbel⟩:=hrel;have HB0:=hid hb0;have HB1:=hid hb1;have HB:=hid hbel;have c0:=hb0.cell;have c1:wr.cell? ⟨w.heap.size+1,0,none⟩=some (.string n):=hb1.cell 0;clear hb0 hb1 hbel
  by_cases hkn:k<ls.length+1
  ·obtain ⟨m,hm⟩:∃ m,ls.length+1 - k=m+1:=⟨ls.length - k,by omega⟩
   have hm2:ls.length+1 - (k+1)=m:=by omega
   rw [hm,stepR] at hst;have HI:=hid (index_zone zs n (w.heap.size+1) A2 c2 wr ((HZ.out.below HB.out).more HB.out.size) c1 nz);have HM2:=hid hm2;clear hm hm2
   cases hz:zoneAt zs n with
   |some i=>
    simp only [hz] at hst HI;simp only [atI] at HI;obtain rfl:=hst
    have hd:decide ((0:Int)<=(i:Nat))=true:=decide_eq_true (by omega)
    clear hz
    go_wp2_with (go_at_call 193;refine HI.out.mono ?_;rintro e w1 ⟨rfl,hb1⟩;have HB2:=hid (HB.out.trans (hb1.mono HB.out.size));clear hb1)
    go_ret2
    exact ⟨rfl,HB2.out⟩
   |none=>
    simp only [hz] at hst HI;simp only [atI] at HI;clear hz;have HJ:=hid (fun w1 (hb:Below w.heap.size w w1) hc=>index_link ls n (w.heap.size+1) A3 c3 w1 ((HL.out.below hb).more hb.size) hc nl)
    cases hl:linkAt ls n with
    |none=>
     simp only [hl,Option.bind_none] at hst HJ;simp only [atI] at HJ;obtain rfl:=hst;clear hl
     go_wp2_with (first
      |(go_at_call 193;refine HI.out.mono ?_;rintro e w1 ⟨rfl,hb1⟩;have HB2:=hid (HB.out.trans (hb1.mono HB.out.size));have hx0:=HB0.out.below hb1 HB0.out.lt;have hx1:=HB1.out.below hb1 HB1.out.lt;have c2:=hx0.cell;have HX1:=hid hx1;clear hb1 hx0 hx1)
      |(go_at_call 195;refine (HJ.out _ HB2.out (HX1.out.cell 0)).mono ?_;rintro e w2 ⟨rfl,hb1⟩;have HB3:=hid (HB2.out.trans (hb1.mono HB2.out.size));clear hb1))
     go_ret2
     exact ⟨rfl,HB3.out⟩
    |some j=>
     have hj:=linkAt_lt hl
     simp only [hl,Option.bind_some,List.getElem?_eq_getElem hj] at hst HJ
     simp only [atI] at HJ;have HSt:=hid hst
     have hd:decide (((j:Nat):Int)<0)=false:=decide_eq_false (by omega)
     clear hl hst
     go_wp2_with (first
      |(go_at_call 193;refine HI.out.mono ?_;rintro e w1 ⟨rfl,hb1⟩;have HB2:=hid (HB.out.trans (hb1.mono HB.out.size));have hx0:=HB0.out.below hb1 HB0.out.lt;have hx1:=HB1.out.below hb1 HB1.out.lt;have c2:=hx0.cell;have HX0:=hid hx0;have HX1:=hid hx1;clear hb1 hx0 hx1 c0 c1)
      |(go_at_call 195;refine (HJ.out _ HB2.out (HX1.out.cell 0)).mono ?_;rintro e w2 ⟨rfl,hb1⟩;have HB3:=hid (HB2.out.trans (hb1.mono HB2.out.size));have hx0:=HX0.out.below hb1 HX0.out.lt;have hx1:=HX1.out.below hb1 HX1.out.lt;have c3:=hx0.cell;have f3:=hx1.frozen;have c4:=hx1.cell;have HY0:=hid hx0;have HY1:=hid hx1;obtain ⟨ad,hA,hadb,a0,a1⟩:=link_cells (HL.out.below HB3.out) hj rfl;subst hA;clear hb1 hx0 hx1 c2))
     refine ⟨⟨k+1,ls[j].target,by omega,by go_num,?_,?_,?_,?_⟩,by simp [intOf];omega⟩
     ·rw [HM2.out];exact HSt.out
     ·exact HY0.out.far (by simp) _
     ·exact HY1.out.set_ 0 _
     ·exact HB3.out.setCell (by simp) _
  ·obtain rfl:k=ls.length+1:=by omega
   rw [Nat.sub_self,stepR] at hst;obtain rfl:=hst
   go_wp2_with fail
   go_ret2
   exact ⟨rfl,HB.out⟩
end Snd
namespace Snd
open Go.RowKit Mem Civ Mom Img Plc Rul Src
theorem rzone_any (s:Src) (A A2 A3:Option Addr) (c c2 c3:Nat) (nm:ByteArray) (w:World) (h:SrcOk s A A2 A3 w):
  Calls prog 159 #[.agg #[.slice A s.rules.length c,.slice A2 s.zones.length c2,.slice A3 s.links.length c3],.string nm] w fun e w'=>e= .returned (.int .i64 (atI (zoneAt s.zones nm)))/\Below w.heap.size w w':=by
 have nz:=h.nz;have hrz:=h.rz;clear h;obtain ⟨Q,hQ⟩:∃ Q,zoneAt s.zones nm=Q:=⟨_,rfl⟩;rw [hQ];have HQ:=hid hQ;clear hQ;obtain ⟨rs,zs,ls⟩:=s;simp only at nz hrz HQ ⊢;have hone:=One.new w 26 #[.slice A rs.length c,.slice A2 zs.length c2,.slice A3 ls.length c3];obtain ⟨W,hW⟩:∃ W,w.alloc (.cells #[.slice A rs.length c,.slice A2 zs.length c2,.slice A3 ls.length c3] 26)=W:=⟨_,rfl⟩;rw [hW] at hone;have HO:=hid hone;have HZ:=hid (hrz.below hone.2);have c0:=hone.1.cell;clear hone hrz;go_enter func159,ntmps159
 go_wp2_with fail
 go_loopw [5] (fun i wr=>∃ k:Nat,k<=zs.length/\i= .int .i64 k/\(zs.take k).all (fun z=> !decide (z.name=nm))=true/\wr=W) (fun i _=>zs.length - (intOf i).toNat)
 case atStart=>exact ⟨0,Nat.zero_le _,rfl,rfl,rfl⟩
 case round=>
  obtain ⟨k,hk,rfl,hall,rfl⟩:=hrel;have Hall:=hid hall;clear hall
  by_cases hkn:k<zs.length
  ·obtain ⟨ad,rfl,hadb,a0,a1⟩:=zone_cells HZ.out hkn rfl
   have hstep:decide (zs[k].name=nm)=false->(zs.take (k+1)).all (fun z=> !decide (z.name=nm))=true:=no_step hkn Hall.out;have hhit:decide (zs[k].name=nm)=true->zoneAt zs nm=some k:=find_hit hkn Hall.out;have h1:=tl_beq zs[k].name nm;have HS:=hid hstep;have HH:=hid hhit;clear hstep hhit Hall;generalize hd:decide (zs[k].name=nm)=d at*;clear hd;generalize zs[k]=z at*
   cases d
   ·go_wp2_with fail
    exact ⟨⟨k+1,by omega,by go_num,HS.out (by trivial),by trivial⟩,by simp [intOf];omega⟩
   ·go_wp2_with fail
    go_ret
    exact ⟨by rw [<-HQ.out,HH.out (by trivial)];rfl,HO.out.2⟩
  ·obtain rfl:k=zs.length:=by omega
   have hall:=Hall.out;rw [List.take_length] at hall;have hm:zoneAt zs nm=none:=find_miss hall;have HM:=hid hm;clear hall Hall hm
   go_wp2_with fail
   go_ret
   exact ⟨by rw [<-HQ.out,HM.out];rfl,HO.out.2⟩
theorem rlink_any (s:Src) (A A2 A3:Option Addr) (c c2 c3:Nat) (nm:ByteArray) (w:World) (h:SrcOk s A A2 A3 w):
  Calls prog 160 #[.agg #[.slice A s.rules.length c,.slice A2 s.zones.length c2,.slice A3 s.links.length c3],.string nm] w fun e w'=>e= .returned (.int .i64 (atI (linkAt s.links nm)))/\Below w.heap.size w w':=by
 have nz:=h.nl;have hrz:=h.rl;clear h;obtain ⟨Q,hQ⟩:∃ Q,linkAt s.links nm=Q:=⟨_,rfl⟩;rw [hQ];have HQ:=hid hQ;clear hQ;obtain ⟨rs,qs,zs⟩:=s;simp only at nz hrz HQ ⊢;have hone:=One.new w 26 #[.slice A rs.length c,.slice A2 qs.length c2,.slice A3 zs.length c3];obtain ⟨W,hW⟩:∃ W,w.alloc (.cells #[.slice A rs.length c,.slice A2 qs.length c2,.slice A3 zs.length c3] 26)=W:=⟨_,rfl⟩;rw [hW] at hone;have HO:=hid hone;have HZ:=hid (hrz.below hone.2);have c0:=hone.1.cell;clear hone hrz;go_enter func160,ntmps160
 go_wp2_with fail
 go_loopw [5] (fun i wr=>∃ k:Nat,k<=zs.length/\i= .int .i64 k/\(zs.take k).all (fun z=> !decide (z.name=nm))=true/\wr=W) (fun i _=>zs.length - (intOf i).toNat)
 case atStart=>exact ⟨0,Nat.zero_le _,rfl,rfl,rfl⟩
 case round=>
  obtain ⟨k,hk,rfl,hall,rfl⟩:=hrel;have Hall:=hid hall;clear hall
  by_cases hkn:k<zs.length
  ·obtain ⟨ad,rfl,hadb,a0,a1⟩:=link_cells HZ.out hkn rfl
   have hstep:decide (zs[k].name=nm)=false->(zs.take (k+1)).all (fun z=> !decide (z.name=nm))=true:=no_step hkn Hall.out;have hhit:decide (zs[k].name=nm)=true->linkAt zs nm=some k:=find_hit hkn Hall.out;have h1:=tl_beq zs[k].name nm;have HS:=hid hstep;have HH:=hid hhit;clear hstep hhit Hall;generalize hd:decide (zs[k].name=nm)=d at*;clear hd;generalize zs[k]=z at*
   cases d
   ·go_wp2_with fail
    exact ⟨⟨k+1,by omega,by go_num,HS.out (by trivial),by trivial⟩,by simp [intOf];omega⟩
   ·go_wp2_with fail
    go_ret
    exact ⟨by rw [<-HQ.out,HH.out (by trivial)];rfl,HO.out.2⟩
  ·obtain rfl:k=zs.length:=by omega
   have hall:=Hall.out;rw [List.take_length] at hall;have hm:linkAt zs nm=none:=find_miss hall;have HM:=hid hm;clear hall Hall hm
   go_wp2_with fail
   go_ret
   exact ⟨by rw [<-HQ.out,HM.out];rfl,HO.out.2⟩
theorem rresolve_any (s:Src) (A A2 A3:Option Addr) (c c2 c3:Nat) (nm:ByteArray) (w:World) (h:SrcOk s A A2 A3 w):
  Calls prog 161 #[.agg #[.slice A s.rules.length c,.slice A2 s.zones.length c2,.slice A3 s.links.length c3],.string nm] w fun e w'=>e= .returned (.tuple #[.int .i64 ((resolveB s nm).getD 0:Nat),.bool (resolveB s nm).isSome])/\Below w.heap.size w w':=by
 have hZ:=fun n z (hb:Below w.heap.size w z)=>rzone_any s A A2 A3 c c2 c3 n z (h.below hb);have hL:=fun n z (hb:Below w.heap.size w z)=>rlink_any s A A2 A3 c c2 c3 n z (h.below hb);have nl:=h.nl;have hrl:=h.rl;clear h;obtain ⟨Q,hQ⟩:∃ Q,resolveB s nm=Q:=⟨_,rfl⟩;rw [hQ];unfold resolveB at hQ;obtain ⟨rs,zs,ls⟩:=s;simp only at nl hrl hQ hZ hL ⊢;have HZ:=hid hZ;have HL:=hid hL;have hone:=One.new w 26 #[.slice A rs.length c,.slice A2 zs.length c2,.slice A3 ls.length c3];obtain ⟨W,hW⟩:∃ W,w.alloc (.cells #[.slice A rs.length c,.slice A2 zs.length c2,.slice A3 ls.length c3] 26)=W:=⟨_,rfl⟩;rw [hW] at hone;have HO:=hid hone;have HR:=hid hrl;have HQ:=hid hQ;clear hone hrl hZ hL hQ;go_enter func161,ntmps161
 go_wp2_with fail
 go_loopw [1,6] (fun v i wr=>∃ (k:Nat) (n:ByteArray),k<=ls.length+1/\i= .int .i64 k/\v= .string n/\stepR zs ls (ls.length+1 - k) n=Q/\One w w.heap.size 26 #[.slice A rs.length c,.slice A2 zs.length c2,.slice A3 ls.length c3] wr) (fun _ i _=>ls.length+1 - (intOf i).toNat)
 case atStart=>exact ⟨0,nm,Nat.zero_le _,rfl,rfl,HQ.out,HO.out⟩
 case round=>
  clear HO HQ;obtain ⟨k,n,hk,rfl,rfl,hst,ho⟩:=hrel;have HO:=hid ho;have c0:=ho.1.cell;clear ho
  by_cases hkn:k<ls.length+1
  ·obtain ⟨m,hm⟩:∃ m,ls.length+1 - k=m+1:=⟨ls.length - k,by omega⟩
   have hm2:ls.length+1 - (k+1)=m:=by omega
   rw [hm,stepR] at hst;have HM2:=hid hm2
   have hle:decide (((k:Nat):Int)<=(ls.length:Nat))=true:=decide_eq_true (by omega)
   clear hm hm2
   cases hz:zoneAt zs n with
   |some i=>
    have HI:=hid (HZ.out n wr HO.out.2);simp only [hz] at hst HI;simp only [atI] at HI;obtain rfl:=hst
    have hd:decide ((0:Int)<=(i:Nat))=true:=decide_eq_true (by omega)
    clear hz
    go_wp2_with (go_at_call 159;refine HI.out.mono ?_;rintro e w1 ⟨rfl,hb1⟩;have HB2:=hid (HO.out.step hb1);clear hb1)
    go_ret2
    exact ⟨rfl,HB2.out.2⟩
   |none=>
    have HI:=hid (HZ.out n wr HO.out.2);have HJ:=hid (fun w1 hb=>HL.out n w1 hb);simp only [hz] at hst HI;simp only [atI] at HI;clear hz
    cases hl:linkAt ls n with
    |none=>
     simp only [hl,Option.bind_none] at hst HJ;simp only [atI] at HJ;obtain rfl:=hst;clear hl
     go_wp2_with (first
      |(go_at_call 159;refine HI.out.mono ?_;rintro e w1 ⟨rfl,hb1⟩;have ho2:=HO.out.step hb1;have HB2:=hid ho2;have c2:=ho2.1.cell;clear hb1 ho2)
      |(go_at_call 160;refine (HJ.out _ HB2.out.2).mono ?_;rintro e w2 ⟨rfl,hb1⟩;have HB3:=hid (HB2.out.step hb1);clear hb1))
     go_ret2
     exact ⟨rfl,HB3.out.2⟩
    |some j=>
     have hj:=linkAt_lt hl
     simp only [hl,Option.bind_some,List.getElem?_eq_getElem hj] at hst HJ
     simp only [atI] at HJ;have HSt:=hid hst
     have hd:decide (((j:Nat):Int)<0)=false:=decide_eq_false (by omega)
     clear hl hst
     go_wp2_with (first
      |(go_at_call 159;refine HI.out.mono ?_;rintro e w1 ⟨rfl,hb1⟩;have ho2:=HO.out.step hb1;have HB2:=hid ho2;have c2:=ho2.1.cell;clear hb1 ho2 c0)
      |(go_at_call 160;refine (HJ.out _ HB2.out.2).mono ?_;rintro e w2 ⟨rfl,hb1⟩;have ho3:=HB2.out.step hb1;have HB3:=hid ho3;have c3:=ho3.1.cell;obtain ⟨ad,hA,hadb,a0,a1⟩:=link_cells (HR.out.below ho3.2) hj rfl;subst hA;clear hb1 ho3 c2))
     refine ⟨⟨k+1,ls[j].target,by omega,by go_num,rfl,?_,HB3.out⟩,by simp [intOf];omega⟩
     rw [HM2.out];exact HSt.out
  ·obtain rfl:k=ls.length+1:=by omega
   have hle:decide (((ls.length+1:Nat):Int)<=(ls.length:Nat))=false:=decide_eq_false (by omega)
   rw [Nat.sub_self,stepR] at hst;obtain rfl:=hst
   go_wp2_with fail
   go_ret2
   exact ⟨rfl,HO.out.2⟩
end Snd
namespace Snd
open Go.RowKit Mem Civ Mom Img Plc Rul Src
end Snd
namespace Snd
open Go.RowKit Mem Civ Mom Img Plc Rul Src
def allNames (s:Src):List ByteArray:=s.zones.map (·.name)++s.links.map (·.name)
end Snd
namespace Snd
open Go.RowKit Mem Civ Mom Img Plc Rul Src Go.Maps Go.Sort
def SM (ks:List (List UInt8)) (D:DataW Unit):Prop:=IsMap D/\∀ x,has D (.string x)=decide (x∈ks)/\∀ zd,D.atKey (.string x) zd=if x∈ks then .lit (.bool true) else zd
theorem SM.empty:SM [] (.map []):=⟨isMap_empty,fun x=>⟨by simp [has],fun zd=>by simp [DataW.atKey]⟩⟩
theorem SM.put {ks:List (List UInt8)} {D:DataW Unit} (h:SM ks D) (x:List UInt8):SM (ks++[x]) (D.put (.string x) (.lit (.bool true))):=by
 refine ⟨h.1.put _ _,fun y=>?_⟩
 by_cases e:y=x
 ·subst e
  refine ⟨?_,fun zd=>?_⟩
  ·rw [has_put_same h.1 (show WideAt.IsKeyLit (.string y) from trivial)]
   simp
  ·rw [atKey_put_same h.1 (show WideAt.IsKeyLit (.string y) from trivial)]
   simp
 ·have hne:(Lit.string y)≠.string x:=fun e2=>e (by injection e2)
  refine ⟨?_,fun zd=>?_⟩
  ·rw [has_put_other hne,(h.2 y).1]
   simp [e]
  ·rw [atKey_put_other hne,(h.2 y).2]
   simp [e]
theorem setLaw:Keyed prog 9:=string_keyed underlying9
theorem nm_key {s:ByteArray} (h:s.size<=2097152):keyOf prog 9 (.string s)=some (.string s.data.toList):=WideMaps.keyOf_string_mk underlying9 (by unfold maxLen;omega)
def keyL (l:List ByteArray):List (List UInt8):=l.map fun s=>s.data.toList
def MapOf (w:World) (b n:Nat) (l:List ByteArray):Prop:=∃ D:DataW Unit,w.ownsMap prog 9 (plainElem prog 4) b n D/\SM (keyL l) D
theorem MapOf.lt {w:World} {b n:Nat} {l:List ByteArray} (h:MapOf w b n l):b<w.heap.size:=by
 obtain ⟨D,h1,_⟩:=h;exact h1.lt
theorem MapOf.kept {w w':World} {b n:Nat} {l:List ByteArray} {r:Option Nat} (h:MapOf w b n l) (hg:w.grownBy w' r) (hr:some b≠r):MapOf w' b n l:=by
 obtain ⟨D,h1,h2⟩:=h;exact ⟨D,h1.kept hg hr,h2⟩
theorem MapOf.alloc {w:World} {b n:Nat} {l:List ByteArray} (h:MapOf w b n l) (o:Obj):MapOf (w.alloc o) b n l:=h.kept (World.grownBy_alloc w o none) (by simp)
theorem keyL_mem {l:List ByteArray} {s:ByteArray}:s.data.toList∈keyL l↔s∈l:=by
 unfold keyL;rw [List.mem_map]
 constructor
 ·rintro ⟨a,ha,e⟩
  obtain ⟨⟨x⟩⟩:=a;obtain ⟨⟨y⟩⟩:=s;simp only at e;subst e;exact ha
 ·intro h;exact ⟨s,h,rfl⟩
theorem zero_bool (w:World):(zeroValue 4).run prog w= .ok (.bool false) w:=by kernel_rfl
def inL (l:List ByteArray) (s:ByteArray):Bool:=l.any fun a=>decide (a=s)
theorem inL_iff {l:List ByteArray} {s:ByteArray}:inL l s=true↔s∈l:=by
 unfold inL;rw [List.any_eq_true]
 constructor
 ·rintro ⟨a,ha,e⟩
  have:a=s:=by simpa using e
  subst this;exact ha
 ·intro h;exact ⟨s,h,by simp⟩
theorem bool_inv {P:Program} {e:TypeId} (he:P.underlying e=some .bool) {v:Value} {y:DataW Unit×List MemPlace} (h:plainElem (H:=Unit) P e v=some y):∃ q,v= .bool q/\y=(.lit (.bool q),[]):=by
 unfold plainElem at h;rw [he] at h
 cases v with
 |bool q=>
  injection h with h
  exact ⟨q,rfl,h.symm⟩
 |_=>cases h
theorem MapOf.look {w:World} {b n:Nat} {l:List ByteArray} (h:MapOf w b n l) {s:ByteArray} (hs:s.size<=2097152):
  (Instr.lookup 171 (.map (some b)) (.string s) false).run prog w= .ok (.bool (inL l s)) w:=by
 obtain ⟨D,h1,h2⟩:=h;obtain ⟨v,ps,hrun,hv⟩:=h1.lookup setLaw underlying171 (zero_bool w) (plainElem_bool underlying4 false) (nm_key hs);rw [(h2.2 _).2] at hv;obtain ⟨q,rfl,hq⟩:=bool_inv underlying4 hv;rw [hrun]
 have e:q=inL l s:=by
  injection hq with hq _
  cases hm:inL l s
  ·rw [if_neg (fun h=>by rw [inL_iff.2 (keyL_mem.1 h)] at hm;cases hm)] at hq
   injection hq with hq
   injection hq with hq
   exact hq.symm
  ·rw [if_pos (keyL_mem.2 (inL_iff.1 hm))] at hq
   injection hq with hq
   injection hq with hq
   exact hq.symm
 rw [e]
theorem named_any (s:Src) (A A2 A3:Option Addr) (c c2 c3:Nat) (w:World) (h:SrcOk s A A2 A3 w):
  Calls prog 136 #[.agg #[.slice A s.rules.length c,.slice A2 s.zones.length c2,.slice A3 s.links.length c3]] w fun e w'=>∃ b,e= .returned (.map (some b))/\w.heap.size<=b/\MapOf w' b s.zones.length (s.zones.map (·.name))/\Below w.heap.size w w':=by
 have hrz:=h.rz;have nz:=h.nz;have tz:=h.tz;clear h;obtain ⟨rs,zs,ls⟩:=s;simp only at hrz nz tz ⊢;have hmm:=@run_makeMap prog;have hone:=One.new w 26 #[.slice A rs.length c,.slice A2 zs.length c2,.slice A3 ls.length c3];obtain ⟨W,hW⟩:∃ W,w.alloc (.cells #[.slice A rs.length c,.slice A2 zs.length c2,.slice A3 ls.length c3] 26)=W:=⟨_,rfl⟩
 have hsz:w.heap.size<W.heap.size:=by rw [<-hW];simp
 rw [hW] at hone;have HO:=hid hone;have HZ:=hid hrz;have HT:=hid tz;have Hsz:=hid hsz;have HM0:=hid (World.ownsMap_made W prog 9 (plainElem (H:=Unit) prog 4));have ca:=fun o i=>(hone.1.alloc o).cell i;clear hone hrz tz hsz;go_enter func136,ntmps136
 go_wp2_with fail
 clear ca
 go_loopw [10] (fun i wr=>∃ k:Nat,k<=zs.length/\i= .int .i64 k/\MapOf wr W.heap.size k ((zs.take k).map (·.name))/\One w w.heap.size 26 #[.slice A rs.length c,.slice A2 zs.length c2,.slice A3 ls.length c3] wr) (fun i _=>zs.length - (intOf i).toNat)
 case atStart=>exact ⟨0,Nat.zero_le _,rfl,⟨_,HM0.out,SM.empty⟩,HO.out.1.alloc _,HO.out.2.alloc HO.out.2.size _⟩
 case round=>
  clear HM0;obtain ⟨k,hk,rfl,hm,ho⟩:=hrel;have HO1:=hid ho;clear ho HO
  by_cases hkn:k<zs.length
  ·obtain ⟨ad,rfl,hadb,a0,a1⟩:=zone_cells (HZ.out.below HO1.out.2) hkn rfl
   have hkey:=nm_key (HT.out zs[k] (List.getElem_mem hkn))
   have hst:(zs.take (k+1)).map (·.name)=(zs.take k).map (·.name)++[zs[k].name]:=by rw [List.take_succ_eq_append_getElem hkn,List.map_append];rfl
   have HSt:=hid hst;obtain ⟨D,hown,hsm⟩:=hm;have Hown:=hid hown;have Hsm:=hid hsm;clear hown hsm hst;generalize zs[k]=z at*
   go_wp2_with (at_mapUpdate;refine wpList_mapUpdate_own (H:=Unit) _ rfl _ _ _ 171 rfl 9 4 setLaw underlying171 (plainElem prog 4) W.heap.size k D rfl (Hown.out.alloc _) (by unfold maxLen;omega) _ _ _ rfl rfl hkey (.lit (.bool true)) [] (plainElem_bool underlying4 true) ?_;intro w1 hmap1 hg1;have Hmap1:=hid hmap1;have Hg1:=hid hg1;clear hmap1 hg1)
   refine ⟨⟨k+1,by omega,by go_num,⟨_,Hmap1.out,?_⟩,?_,?_⟩,by simp [intOf];omega⟩
   ·rw [HSt.out,keyL,List.map_append]
    exact Hsm.out.put _
   ·exact (HO1.out.1.alloc _).grown Hg1.out (by have:=Hsz.out;intro e;injection e with e;omega)
   ·exact (HO1.out.2.alloc HO1.out.2.size _).grown Hg1.out (by have:=HO1.out.2.size;simp;omega) (fun j hj=>by have:=Hsz.out;injection hj with hj;omega)
  ·obtain rfl:k=zs.length:=by omega
   rw [List.take_length] at hm;have HM:=hid hm;clear hm
   go_wp2_with fail
   go_ret
   exact ⟨_,rfl,by have:=Hsz.out;omega,HM.out,HO1.out.2⟩
end Snd
end
end
section
section
namespace Snd
open Go.RowKit Mem Civ Mom Img Plc Rul Src Go.Maps Go.Sort
end Snd
namespace Snd
open Go.RowKit Mem Civ Mom Img Plc Rul Src Go.Maps Go.Sort
end Snd
namespace Snd
open Go.RowKit Mem Civ Mom Img Plc Rul Src
def LightP (s:Src):Prop:=s.rules.length<=60/\s.zones.length<=60/\s.links.length<=200
theorem light_any (s:Src) (A A2 A3:Option Addr) (c c2 c3:Nat) (w:World) (h:SrcOk s A A2 A3 w):
  Calls prog 31 #[.agg #[.slice A s.rules.length c,.slice A2 s.zones.length c2,.slice A3 s.links.length c3]] w fun e w'=>∃ b,e= .returned (.bool b)/\(b=true->LightP s)/\Below w.heap.size w w':=by
 have hrr:=h.rr;have hrz:=h.rz;have nr:=h.nr;have nz:=h.nz;have nl:=h.nl;have ne:=h.ne;clear h;unfold LightP;obtain ⟨rs,zs,ls⟩:=s;simp only at hrr hrz nr nz nl ne ⊢;have hone:=One.new w 26 #[.slice A rs.length c,.slice A2 zs.length c2,.slice A3 ls.length c3];obtain ⟨W,hW⟩:∃ W,w.alloc (.cells #[.slice A rs.length c,.slice A2 zs.length c2,.slice A3 ls.length c3] 26)=W:=⟨_,rfl⟩;rw [hW] at hone;have HO:=hid hone;have HR:=hid (hrr.below hone.2);have HZ:=hid (hrz.below hone.2);have HE:=hid ne;have c0:=hone.1.cell;clear hone hrr hrz ne;go_enter func31,ntmps31
 by_cases h1:rs.length<=60
 rotate_left
 ·have h1b:decide ((60:Int)<(rs.length:Nat))=true:=decide_eq_true (by omega)
  go_wp2_with fail
  go_ret
  exact ⟨false,rfl,by simp,HO.out.2⟩
 have h1b:decide ((60:Int)<(rs.length:Nat))=false:=decide_eq_false (by omega)
 by_cases h2:zs.length<=60
 rotate_left
 ·have h2b:decide ((60:Int)<(zs.length:Nat))=true:=decide_eq_true (by omega)
  go_wp2_with fail
  go_ret
  exact ⟨false,rfl,by simp,HO.out.2⟩
 have h2b:decide ((60:Int)<(zs.length:Nat))=false:=decide_eq_false (by omega)
 by_cases h3:ls.length<=200
 rotate_left
 ·have h3b:decide ((200:Int)<(ls.length:Nat))=true:=decide_eq_true (by omega)
  go_wp2_with fail
  go_ret
  exact ⟨false,rfl,by simp,HO.out.2⟩
 have h3b:decide ((200:Int)<(ls.length:Nat))=false:=decide_eq_false (by omega)
 go_wp2_with fail
 go_loopw [3,4,5] (fun l g i wr=>∃ (k:Nat) (lo hi:Int),k<=rs.length/\l= .int .i64 lo/\g= .int .i64 hi/\i= .int .i64 k/\wr=W) (fun _ _ i _=>rs.length - (intOf i).toNat)
 case atStart=>exact ⟨0,10000,0,Nat.zero_le _,rfl,rfl,rfl,rfl⟩
 case round=>
  obtain ⟨k,lo,hi,hk,rfl,rfl,rfl,rfl⟩:=hrel
  by_cases hkn:k<rs.length
  ·obtain ⟨ad,hA,hadb,a0,a1,a2,a3,a4,a5,a6,a7,a8,a9,a10⟩:=rule_cells HR.out hkn
   subst hA
   cases hd:decide ((rs[k]'hkn).hi<10000)
   all_goals go_wp2_with fail
   all_goals exact ⟨⟨k+1,_,_,by omega,rfl,rfl,by go_num,trivial⟩,by simp [intOf];omega⟩
  ·obtain rfl:k=rs.length:=by omega
   go_wp2_with fail
   go_loopw [6,7] (fun n i wz=>∃ (k m:Nat),k<=zs.length/\m<=k*60/\n= .int .i64 m/\i= .int .i64 k/\wz=wr) (fun _ i _=>zs.length - (intOf i).toNat)
   case atStart=>exact ⟨0,0,Nat.zero_le _,Nat.zero_le _,rfl,rfl,rfl⟩
   case round=>
    obtain ⟨j,m,hj,hm,rfl,rfl,rfl⟩:=hrel
    by_cases hjn:j<zs.length
    ·obtain ⟨ad,hA,hadb,a0,a1⟩:=zone_cells HZ.out hjn rfl
     subst hA;obtain ⟨z,hz⟩:∃ z,z=zs[j]:=⟨_,rfl⟩;rw [<-hz] at a0 a1;clear hz
     by_cases h4:z.eras.length<=60
     ·have h4b:decide ((60:Int)<(z.eras.length:Nat))=false:=decide_eq_false (by omega)
      go_wp2_with fail
      exact ⟨⟨j+1,m+z.eras.length,by omega,by omega,by go_num,by go_num,trivial⟩,by simp [intOf];omega⟩
     ·have h4b:decide ((60:Int)<(z.eras.length:Nat))=true:=decide_eq_true (by omega)
      go_wp2_with fail
      go_ret
      exact ⟨false,rfl,by simp,HO.out.2⟩
    ·obtain rfl:j=zs.length:=by omega
     cases h5:decide (((m:Nat):Int)<=300)<;>cases h6:decide (hi<lo)<;>cases h7:decide (1<=lo)
     all_goals go_wp2_with fail
     all_goals go_ret
     all_goals exact ⟨_,rfl,fun _=>⟨h1,h2,h3⟩,HO.out.2⟩
end Snd
namespace Snd
open Go.RowKit Mem Civ Mom Img Plc Rul Src Go.Maps
structure Flaw where
 err:Int
 kind:Int
 at_:Int
 era:Int
 deriving DecidableEq
def Flaw.cells (f:Flaw):List Value:=[.int .i64 f.err,.int .i64 f.kind,.int .i64 f.at_,.int .i64 f.era]
def noFlaw:Flaw:=⟨0,0,0,0⟩
def flawAt (e k:Int) (o:Option Nat):Flaw:=match o with
 |some i=>⟨e,k,i,0⟩
 |none=>noFlaw
def ordersB (s:Src):Flaw:=flawAt 16 1 (s.rules.findIdx? fun r=>decide (r.hi<r.lo))
theorem orders_results {w:World} {R0:Nat} {a0 a1 a2 a3:Value} (h:Blk w R0 72 #[a0,a1,a2,a3]) (tmps:Array Value) (ht:tmps[2]?=some (.pointer (some ⟨R0,0,none⟩))):(results Tryz.f75 tmps).run prog w= .ok (.agg #[a0,a1,a2,a3]) w:=by
 have hc:=h.cell;simp [results,Tryz.results75,go_sem,hc,ht]
theorem links_results {w:World} {R0:Nat} {a0 a1 a2 a3:Value} (h:Blk w R0 72 #[a0,a1,a2,a3]) (tmps:Array Value) (ht:tmps[2]?=some (.pointer (some ⟨R0,0,none⟩))):(results Tryz.f78 tmps).run prog w= .ok (.agg #[a0,a1,a2,a3]) w:=by
 have hc:=h.cell;simp [results,Tryz.results78,go_sem,hc,ht]
structure Two (w:World) (cs ds:Array Value) (wr:World):Prop where
 src:Blk wr w.heap.size 26 cs
 res:Blk wr (w.heap.size+1) 72 ds
 bel:Below w.heap.size w wr
theorem Two.step {w wr w':World} {cs ds:Array Value} (h:Two w cs ds wr) (hb:Below wr.heap.size wr w'):Two w cs ds w':=⟨h.src.below hb h.src.lt,h.res.below hb h.res.lt,h.bel.trans (hb.mono h.bel.size)⟩
theorem Two.alloc {w wr:World} {cs ds:Array Value} (h:Two w cs ds wr) (o:Obj):Two w cs ds (wr.alloc o):=⟨h.src.alloc o,h.res.alloc o,h.bel.alloc h.bel.size o⟩
theorem Two.set {w wr:World} {cs ds:Array Value} (h:Two w cs ds wr) (i:Nat) (u:Value):Two w cs (ds.setIfInBounds i u) (wr.setCell ⟨w.heap.size+1,i,none⟩ u):=
 ⟨h.src.far (by simp) u,h.res.set_ i u,h.bel.setCell (by simp) u⟩
theorem Two.fill {w wr:World} {cs:Array Value} {b0 b1 b2 b3:Value} (h:Two w cs #[b0,b1,b2,b3] wr) (a0 a1 a2 a3:Value):
  Two w cs #[a0,a1,a2,a3] ((((wr.setCell ⟨w.heap.size+1,0,none⟩ a0).setCell ⟨w.heap.size+1,1,none⟩ a1).setCell ⟨w.heap.size+1,2,none⟩ a2).setCell ⟨w.heap.size+1,3,none⟩ a3):=by
 have h:=(((h.set 0 a0).set 1 a1).set 2 a2).set 3 a3
 simpa using h
theorem Two.start (w:World) (cs:Array Value):Two w cs #[.int .i64 0,.int .i64 0,.int .i64 0,.int .i64 0] ((w.alloc (.cells cs 26)).alloc (.cells #[.int .i64 0,.int .i64 0,.int .i64 0,.int .i64 0] 72)):=by
 obtain ⟨h1,h2,h3,_⟩:=box2 w 26 72 cs #[.int .i64 0,.int .i64 0,.int .i64 0,.int .i64 0];exact ⟨h1,h2,h3⟩
theorem orders_any (s:Src) (A A2 A3:Option Addr) (c c2 c3:Nat) (w:World) (h:SrcOk s A A2 A3 w):
  Calls prog 75 #[.agg #[.slice A s.rules.length c,.slice A2 s.zones.length c2,.slice A3 s.links.length c3]] w fun e w'=>e= .returned (.agg (ordersB s).cells.toArray)/\Below w.heap.size w w':=by
 have hrr:=h.rr;have nr:=h.nr;clear h;obtain ⟨Q,hQ⟩:∃ Q,ordersB s=Q:=⟨_,rfl⟩;rw [hQ];unfold ordersB at hQ;obtain ⟨rs,zs,ls⟩:=s;simp only at hrr nr hQ ⊢;have hst:=Two.start w #[.slice A rs.length c,.slice A2 zs.length c2,.slice A3 ls.length c3];obtain ⟨W,hW⟩:∃ W,(w.alloc (.cells #[.slice A rs.length c,.slice A2 zs.length c2,.slice A3 ls.length c3] 26)).alloc (.cells #[.int .i64 0,.int .i64 0,.int .i64 0,.int .i64 0] 72)=W:=⟨_,rfl⟩;rw [hW] at hst;have HT:=hid hst;have HR:=hid hrr;have HQ:=hid hQ;have c0:=hst.src.cell;clear hst hrr hQ;go_enter func75,ntmps75
 go_wp2_with fail
 clear c0
 go_loopw [8] (fun i wr=>∃ k:Nat,k<=rs.length/\i= .int .i64 k/\(rs.take k).all (fun r=> !decide (r.hi<r.lo))=true/\Two w #[.slice A rs.length c,.slice A2 zs.length c2,.slice A3 ls.length c3] #[.int .i64 0,.int .i64 0,.int .i64 0,.int .i64 0] wr) (fun i _=>rs.length - (intOf i).toNat)
 case atStart=>exact ⟨0,Nat.zero_le _,rfl,rfl,HT.out⟩
 case round=>
  clear HT;obtain ⟨k,hk,rfl,hall,ht⟩:=hrel;have HT:=hid ht;have Hall:=hid hall;clear ht hall
  by_cases hkn:k<rs.length
  ·obtain ⟨ad,hA,hadb,a0,a1,a2,a3,a4,a5,a6,a7,a8,a9,a10⟩:=rule_cells (HR.out.below HT.out.bel) hkn
   subst hA;have hstep:decide (rs[k].hi<rs[k].lo)=false->(rs.take (k+1)).all (fun r=> !decide (r.hi<r.lo))=true:=no_step hkn Hall.out;have hhit:decide (rs[k].hi<rs[k].lo)=true->(rs.findIdx? fun r=>decide (r.hi<r.lo))=some k:=find_hit hkn Hall.out;have HS:=hid hstep;have HH:=hid hhit;clear hstep hhit Hall;generalize rs[k]=x at*;obtain ⟨x0,x1,x2,x3,x4,x5,x6,x7,x8,x9,x10⟩:=x;simp only at a0 a1 a2 a3 a4 a5 a6 a7 a8 a9 a10 HS HH
   cases hd:decide (x2<x1)
   ·rw [hd] at HS
    clear HH
    go_wp2_with fail
    exact ⟨⟨k+1,by omega,by go_num,HS.out (by trivial),HT.out.alloc _⟩,by simp [intOf];omega⟩
   ·rw [hd] at HH
    have hq:Q=⟨16,1,k,0⟩:=by rw [<-HQ.out,HH.out (by trivial)];rfl
    subst hq;have ht:=HT.out.alloc (.cells #[.string x0,.int .i64 x1,.int .i64 x2,.int .i64 x3,.int .i64 x4,.int .i64 x5,.int .i64 x6,.int .i64 x7,.int .i64 x8,.int .i64 x9,.string x10] 69);have fR:=ht.res.frozen;have cR:=ht.res.cell;have HF:=hid (ht.fill (.int .i64 16) (.int .i64 1) (.int .i64 k) (.int .i64 0));clear HS HH ht
    go_wp2_with fail
    refine bodyPost_ret (orders_results HF.out.res _ rfl) rfl ?_
    exact ⟨rfl,HF.out.bel⟩
  ·obtain rfl:k=rs.length:=by omega
   have hall:=Hall.out;rw [List.take_length] at hall
   have hq:Q=noFlaw:=by rw [<-HQ.out,find_miss hall];rfl
   subst hq;have fR:=HT.out.res.frozen;have cR:=HT.out.res.cell;have HF:=hid (HT.out.fill (.int .i64 0) (.int .i64 0) (.int .i64 0) (.int .i64 0));clear hall Hall
   go_wp2_with fail
   refine bodyPost_ret (orders_results HF.out.res _ rfl) rfl ?_
   exact ⟨rfl,HF.out.bel⟩
end Snd
namespace Snd
open Go.RowKit Mem Civ Mom Img Plc Rul Src Go.Maps
def dupL (seen:List ByteArray):List Link->Nat->Option Nat
 |[],_=>none
 |x :: t,i=>if inL seen x.name=true then some i else dupL (seen++[x.name]) t (i+1)
def linksB (s:Src):Flaw:=flawAt 10 3 (dupL (s.zones.map (·.name)) s.links 0)
theorem links_any (s:Src) (A A2 A3:Option Addr) (c c2 c3:Nat) (w:World) (h:SrcOk s A A2 A3 w):
  Calls prog 78 #[.agg #[.slice A s.rules.length c,.slice A2 s.zones.length c2,.slice A3 s.links.length c3]] w fun e w'=>e= .returned (.agg (linksB s).cells.toArray)/\Below w.heap.size w w':=by
 have hN:=fun z (hb:Below w.heap.size w z)=>named_any s A A2 A3 c c2 c3 z (h.below hb);have hrl:=h.rl;have nz:=h.nz;have nl:=h.nl;have tl:=h.tl;clear h;obtain ⟨Q,hQ⟩:∃ Q,linksB s=Q:=⟨_,rfl⟩;rw [hQ];unfold linksB at hQ;obtain ⟨rs,zs,ls⟩:=s;simp only at hN hrl nz nl tl hQ ⊢;have hst:=Two.start w #[.slice A rs.length c,.slice A2 zs.length c2,.slice A3 ls.length c3];obtain ⟨W,hW⟩:∃ W,(w.alloc (.cells #[.slice A rs.length c,.slice A2 zs.length c2,.slice A3 ls.length c3] 26)).alloc (.cells #[.int .i64 0,.int .i64 0,.int .i64 0,.int .i64 0] 72)=W:=⟨_,rfl⟩;rw [hW] at hst;have hsz:w.heap.size+1<W.heap.size:=hst.res.lt;have HT:=hid hst;have HL:=hid hrl;have HQ:=hid hQ;have HN:=hid hN;have Htl:=hid tl;have c0:=hst.src.cell;clear hst hrl hQ hN tl;go_enter func78,ntmps78
 go_wp2_with fail
 go_at_call 136
 refine (HN.out W HT.out.bel).mono ?_
 rintro e w1 ⟨b,rfl,hbz,hm,hb1⟩;have HM:=hid hm;have HT1:=hid (HT.out.step hb1)
 have hbw:w.heap.size+1<b:=by omega
 have c1:=HT1.out.src.cell;clear c0 hm hb1 HT hbz hW hsz
 go_wp2_with fail
 clear c1
 go_loopw [11] (fun i wr=>∃ k:Nat,k<=ls.length/\i= .int .i64 k/\MapOf wr b (zs.length+k) (zs.map (·.name)++(ls.take k).map (·.name))/\flawAt 10 3 (dupL (zs.map (·.name)++(ls.take k).map (·.name)) (ls.drop k) k)=Q/\Two w #[.slice A rs.length c,.slice A2 zs.length c2,.slice A3 ls.length c3] #[.int .i64 0,.int .i64 0,.int .i64 0,.int .i64 0] wr) (fun i _=>ls.length - (intOf i).toNat)
 case atStart=>
  refine ⟨0,Nat.zero_le _,rfl,?_,?_,HT1.out⟩
  ·rw [List.take_zero,List.map_nil,List.append_nil];exact HM.out
  ·rw [List.take_zero,List.map_nil,List.append_nil,List.drop_zero];exact HQ.out
 case round=>
  clear HM HT1 HQ;obtain ⟨k,hk,rfl,hm,hq,ht⟩:=hrel;have HT:=hid ht;have Hq:=hid hq;clear ht hq
  by_cases hkn:k<ls.length
  ·obtain ⟨ad,hA,hadb,a0,a1⟩:=link_cells (HL.out.below HT.out.bel) hkn rfl
   subst hA;have hsz:=(Htl.out ls[k] (List.getElem_mem hkn)).2;have hkey:=nm_key hsz
   have hst:zs.map (·.name)++(ls.take (k+1)).map (·.name)=(zs.map (·.name)++(ls.take k).map (·.name))++[ls[k].name]:=by rw [List.take_succ_eq_append_getElem hkn,List.map_append,List.append_assoc];rfl
   have hdr:ls.drop k=ls[k] :: ls.drop (k+1):=List.drop_eq_getElem_cons hkn;have hq:=Hq.out;rw [hdr,dupL,<-hst] at hq;have hlook:=fun o=>(hm.alloc o).look hsz;obtain ⟨D,hown,hsm⟩:=hm;have Hown:=hid hown;have Hsm:=hid hsm;have HSt:=hid hst;have Hq2:=hid hq;have Hbw:=hid hbw;clear hown hsm hst hdr hq Hq hsz;obtain ⟨x,hx⟩:∃ x,x=ls[k]:=⟨_,rfl⟩;rw [<-hx] at a0 a1 hkey hlook HSt Hq2;clear hx;obtain ⟨q,hqq⟩:∃ q,inL (zs.map (·.name)++(ls.take k).map (·.name)) x.name=q:=⟨_,rfl⟩;simp only [hqq] at hlook Hq2;clear hqq
   cases q
   ·go_wp2_with (at_mapUpdate;refine wpList_mapUpdate_own (H:=Unit) _ rfl _ _ _ 171 rfl 9 4 setLaw underlying171 (plainElem prog 4) b (zs.length+k) D rfl (Hown.out.alloc _) (by unfold maxLen;omega) _ _ _ rfl rfl hkey (.lit (.bool true)) [] (plainElem_bool underlying4 true) ?_;intro w1 hmap1 hg1;have Hmap1:=hid hmap1;have Hg1:=hid hg1;clear hmap1 hg1)
    have ht:=HT.out.alloc (.cells #[.string x.target,.string x.name] 170)
    refine ⟨⟨k+1,by omega,by go_num,⟨_,Hmap1.out,?_⟩,?_,?_,?_,?_⟩,by simp [intOf];omega⟩
    ·rw [HSt.out,keyL,List.map_append]
     exact Hsm.out.put _
    ·have hq:=Hq2.out
     simp only [Bool.false_eq_true,if_false] at hq;exact hq
    ·exact ht.src.grown Hg1.out (by have:=Hbw.out;intro e;injection e with e;omega)
    ·exact ht.res.grown Hg1.out (by have:=Hbw.out;intro e;injection e with e;omega)
    ·exact ht.bel.grown Hg1.out ht.bel.size (fun j hj=>by have:=Hbw.out;injection hj with hj;omega)
   ·have hq:=Hq2.out
    simp only [if_true] at hq;subst hq;have ht:=HT.out.alloc (.cells #[.string x.target,.string x.name] 170);have fR:=ht.res.frozen;have cR:=ht.res.cell;have HF:=hid (ht.fill (.int .i64 10) (.int .i64 3) (.int .i64 k) (.int .i64 0));clear ht Hq2 HSt Hown Hsm
    go_wp2_with fail
    refine bodyPost_ret (links_results HF.out.res _ rfl) rfl ?_
    exact ⟨rfl,HF.out.bel⟩
  ·obtain rfl:k=ls.length:=by omega
   have hq:=Hq.out;rw [List.drop_length,dupL] at hq;subst hq;have fR:=HT.out.res.frozen;have cR:=HT.out.res.cell;have HF:=hid (HT.out.fill (.int .i64 0) (.int .i64 0) (.int .i64 0) (.int .i64 0));clear Hq hm
   go_wp2_with fail
   refine bodyPost_ret (links_results HF.out.res _ rfl) rfl ?_
   exact ⟨rfl,HF.out.bel⟩
end Snd
namespace Snd
open Go.RowKit Mem Civ Mom Img Plc Rul Src Go.Maps
def targetsB (s:Src):Flaw:=match s.links.findIdx? fun l=> !inL (allNames s) l.target with
 |some i=>⟨8,3,i,0⟩
 |none=>flawAt 16 3 (s.links.findIdx? fun l=> !(resolveB s l.name).isSome)
theorem targets_results {w:World} {R0:Nat} {a0 a1 a2 a3:Value} (h:Blk w R0 72 #[a0,a1,a2,a3]) (tmps:Array Value) (ht:tmps[2]?=some (.pointer (some ⟨R0,0,none⟩))):(results Tryz.f79 tmps).run prog w= .ok (.agg #[a0,a1,a2,a3]) w:=by
 have hc:=h.cell;simp [results,Tryz.results79,go_sem,hc,ht]
theorem targets_any (s:Src) (A A2 A3:Option Addr) (c c2 c3:Nat) (w:World) (h:SrcOk s A A2 A3 w):
  Calls prog 79 #[.agg #[.slice A s.rules.length c,.slice A2 s.zones.length c2,.slice A3 s.links.length c3]] w fun e w'=>e= .returned (.agg (targetsB s).cells.toArray)/\Below w.heap.size w w':=by
 have hN:=fun z (hb:Below w.heap.size w z)=>named_any s A A2 A3 c c2 c3 z (h.below hb);have hR:=fun nm z (hb:Below w.heap.size w z)=>resolve_any s A A2 A3 c c2 c3 nm z (h.below hb);have hrl:=h.rl;have nz:=h.nz;have nl:=h.nl;have tl:=h.tl;clear h;obtain ⟨Q,hQ⟩:∃ Q,targetsB s=Q:=⟨_,rfl⟩;rw [hQ];unfold targetsB allNames at hQ;generalize hrv:resolveB s=rv at*;clear hrv;obtain ⟨rs,zs,ls⟩:=s;simp only at hN hR hrl nz nl tl hQ ⊢;have hst:=Two.start w #[.slice A rs.length c,.slice A2 zs.length c2,.slice A3 ls.length c3];obtain ⟨W,hW⟩:∃ W,(w.alloc (.cells #[.slice A rs.length c,.slice A2 zs.length c2,.slice A3 ls.length c3] 26)).alloc (.cells #[.int .i64 0,.int .i64 0,.int .i64 0,.int .i64 0] 72)=W:=⟨_,rfl⟩;rw [hW] at hst;have hsz:w.heap.size+1<W.heap.size:=hst.res.lt;have HT:=hid hst;have HL:=hid hrl;have HQ:=hid hQ;have HN:=hid hN;have HRv:=hid hR;have Htl:=hid tl;have c0:=hst.src.cell;clear hst hrl hQ hN hR tl;go_enter func79,ntmps79
 go_wp2_with fail
 go_at_call 136
 refine (HN.out W HT.out.bel).mono ?_
 rintro e w1 ⟨b,rfl,hbz,hm,hb1⟩;have HM:=hid hm;have HT1:=hid (HT.out.step hb1)
 have hbw:w.heap.size+1<b:=by omega
 have c1:=HT1.out.src.cell;clear c0 hm hb1 HT hbz hW hsz
 go_wp2_with fail
 clear c1
 go_loopw [17] (fun i wr=>∃ k:Nat,k<=ls.length/\i= .int .i64 k/\MapOf wr b (zs.length+k) (zs.map (·.name)++(ls.take k).map (·.name))/\Two w #[.slice A rs.length c,.slice A2 zs.length c2,.slice A3 ls.length c3] #[.int .i64 0,.int .i64 0,.int .i64 0,.int .i64 0] wr) (fun i _=>ls.length - (intOf i).toNat)
 case atStart=>
  refine ⟨0,Nat.zero_le _,rfl,?_,HT1.out⟩
  rw [List.take_zero,List.map_nil,List.append_nil];exact HM.out
 case round=>
  clear HM HT1;obtain ⟨k,hk,rfl,hm,ht⟩:=hrel;have HT:=hid ht;clear ht
  by_cases hkn:k<ls.length
  ·obtain ⟨ad,hA,hadb,a0,a1⟩:=link_cells (HL.out.below HT.out.bel) hkn rfl
   subst hA;have hkey:=nm_key (Htl.out ls[k] (List.getElem_mem hkn)).2
   have hst:zs.map (·.name)++(ls.take (k+1)).map (·.name)=(zs.map (·.name)++(ls.take k).map (·.name))++[ls[k].name]:=by rw [List.take_succ_eq_append_getElem hkn,List.map_append,List.append_assoc];rfl
   obtain ⟨D,hown,hsm⟩:=hm;have Hown:=hid hown;have Hsm:=hid hsm;have HSt:=hid hst;have Hbw:=hid hbw;clear hown hsm hst;generalize ls[k]=x at*
   go_wp2_with (at_mapUpdate;refine wpList_mapUpdate_own (H:=Unit) _ rfl _ _ _ 171 rfl 9 4 setLaw underlying171 (plainElem prog 4) b (zs.length+k) D rfl (Hown.out.alloc _) (by unfold maxLen;omega) _ _ _ rfl rfl hkey (.lit (.bool true)) [] (plainElem_bool underlying4 true) ?_;intro w1 hmap1 hg1;have Hmap1:=hid hmap1;have Hg1:=hid hg1;clear hmap1 hg1)
   have ht:=HT.out.alloc (.cells #[.string x.target,.string x.name] 170)
   refine ⟨⟨k+1,by omega,by go_num,⟨_,Hmap1.out,?_⟩,?_,?_,?_⟩,by simp [intOf];omega⟩
   ·rw [HSt.out,keyL,List.map_append]
    exact Hsm.out.put _
   ·exact ht.src.grown Hg1.out (by have:=Hbw.out;intro e;injection e with e;omega)
   ·exact ht.res.grown Hg1.out (by have:=Hbw.out;intro e;injection e with e;omega)
   ·exact ht.bel.grown Hg1.out ht.bel.size (fun j hj=>by have:=Hbw.out;injection hj with hj;omega)
  ·obtain rfl:k=ls.length:=by omega
   rw [List.take_length] at hm;obtain ⟨ns,hns⟩:∃ ns,zs.map (·.name)++ls.map (·.name)=ns:=⟨_,rfl⟩;have hq:=HQ.out;rw [hns] at hm hq;have HM:=hid hm;have HQ2:=hid hq;clear hm hq hns HQ HN;have cS:=HT.out.src.cell
   go_wp2_with fail
   clear cS
   go_loopw [28] (fun i wz=>∃ k:Nat,k<=ls.length/\i= .int .i64 k/\(ls.take k).all (fun l=> !!inL ns l.target)=true/\MapOf wz b (zs.length+ls.length) ns/\Two w #[.slice A rs.length c,.slice A2 zs.length c2,.slice A3 ls.length c3] #[.int .i64 0,.int .i64 0,.int .i64 0,.int .i64 0] wz) (fun i _=>ls.length - (intOf i).toNat)
   case atStart=>exact ⟨0,Nat.zero_le _,rfl,rfl,HM.out,HT.out⟩
   case round=>
    clear HM HT;obtain ⟨k,hk,rfl,hall,hm,ht⟩:=hrel;have HT:=hid ht;have Hall:=hid hall;have HM:=hid hm;clear ht hall hm
    by_cases hkn:k<ls.length
    ·obtain ⟨ad,hA,hadb,a0,a1⟩:=link_cells (HL.out.below HT.out.bel) hkn rfl
     subst hA;have hlook:=fun o=>(HM.out.alloc o).look (Htl.out ls[k] (List.getElem_mem hkn)).1;have hstep:(!inL ns ls[k].target)=false->(ls.take (k+1)).all (fun l=> !!inL ns l.target)=true:=no_step (p:=fun l:Link=> !inL ns l.target) hkn Hall.out;have hhit:(!inL ns ls[k].target)=true->(ls.findIdx? fun l=> !inL ns l.target)=some k:=find_hit (p:=fun l:Link=> !inL ns l.target) hkn Hall.out;have HS:=hid hstep;have HH:=hid hhit;clear hstep hhit Hall;obtain ⟨x,hx⟩:∃ x,x=ls[k]:=⟨_,rfl⟩;rw [<-hx] at a0 a1 hlook HS HH;clear hx;obtain ⟨q,hqq⟩:∃ q,inL ns x.target=q:=⟨_,rfl⟩;simp only [hqq] at hlook HS HH;clear hqq;have ht:=HT.out.alloc (.cells #[.string x.target,.string x.name] 170)
     cases q
     ·have hq:=HQ2.out
      rw [HH.out (by rfl)] at hq
      subst hq;have fR:=ht.res.frozen;have cR:=ht.res.cell;have HF:=hid (ht.fill (.int .i64 8) (.int .i64 3) (.int .i64 k) (.int .i64 0));clear ht HS HH HQ2
      go_wp2_with fail
      refine bodyPost_ret (targets_results HF.out.res _ rfl) rfl ?_
      exact ⟨rfl,HF.out.bel⟩
     ·have HT2:=hid ht
      clear ht HH
      go_wp2_with fail
      exact ⟨⟨k+1,by omega,by go_num,HS.out (by rfl),HM.out.alloc _,HT2.out⟩,by simp [intOf];omega⟩
    ·obtain rfl:k=ls.length:=by omega
     have hall:=Hall.out;rw [List.take_length] at hall;have hq:=HQ2.out;rw [find_miss (p:=fun l:Link=> !inL ns l.target) hall] at hq;have HQ3:=hid hq;clear hq hall Hall HQ2 HM;have cS:=HT.out.src.cell
     go_wp2_with fail
     clear cS
     go_loopw [44] (fun i wz=>∃ k:Nat,k<=ls.length/\i= .int .i64 k/\(ls.take k).all (fun l=> !!(rv l.name).isSome)=true/\Two w #[.slice A rs.length c,.slice A2 zs.length c2,.slice A3 ls.length c3] #[.int .i64 0,.int .i64 0,.int .i64 0,.int .i64 0] wz) (fun i _=>ls.length - (intOf i).toNat)
     case atStart=>exact ⟨0,Nat.zero_le _,rfl,rfl,HT.out⟩
     case round=>
      clear HT;obtain ⟨k,hk,rfl,hall,ht⟩:=hrel;have HT:=hid ht;have Hall:=hid hall;clear ht hall
      by_cases hkn:k<ls.length
      ·obtain ⟨ad,hA,hadb,a0,a1⟩:=link_cells (HL.out.below HT.out.bel) hkn rfl
       subst hA;have hstep:(!(rv ls[k].name).isSome)=false->(ls.take (k+1)).all (fun l=> !!(rv l.name).isSome)=true:=no_step (p:=fun l:Link=> !(rv l.name).isSome) hkn Hall.out;have hhit:(!(rv ls[k].name).isSome)=true->(ls.findIdx? fun l=> !(rv l.name).isSome)=some k:=find_hit (p:=fun l:Link=> !(rv l.name).isSome) hkn Hall.out;have HS:=hid hstep;have HH:=hid hhit;clear hstep hhit Hall;obtain ⟨x,hx⟩:∃ x,x=ls[k]:=⟨_,rfl⟩;rw [<-hx] at a0 a1 HS HH;clear hx;have ht:=HT.out.alloc (.cells #[.string x.target,.string x.name] 170);have HRz:=hid (HRv.out x.name _ ht.bel);have HT2:=hid ht;have cS:=ht.src.cell;clear ht;generalize rv x.name=r at*
       cases r with
       |none=>
        have hq:=HQ3.out
        rw [HH.out (by rfl)] at hq
        subst hq
        go_wp2_with (go_at_call 137;refine HRz.out.mono ?_;rintro e w2 ⟨rfl,hb⟩;have ht3:=HT2.out.step hb;have fR:=ht3.res.frozen;have cR:=ht3.res.cell;have HF:=hid (ht3.fill (.int .i64 16) (.int .i64 3) (.int .i64 k) (.int .i64 0));clear hb ht3)
        refine bodyPost_ret (targets_results HF.out.res _ rfl) rfl ?_
        exact ⟨rfl,HF.out.bel⟩
       |some i=>
        go_wp2_with (go_at_call 137;refine HRz.out.mono ?_;rintro e w2 ⟨rfl,hb⟩;have HT3:=hid (HT2.out.step hb);clear hb)
        exact ⟨⟨k+1,by omega,by go_num,HS.out (by rfl),HT3.out⟩,by simp [intOf];omega⟩
      ·obtain rfl:k=ls.length:=by omega
       have hall:=Hall.out;rw [List.take_length] at hall;have hq:=HQ3.out;rw [find_miss (p:=fun l:Link=> !(rv l.name).isSome) hall] at hq;subst hq;have fR:=HT.out.res.frozen;have cR:=HT.out.res.cell;have HF:=hid (HT.out.fill (.int .i64 0) (.int .i64 0) (.int .i64 0) (.int .i64 0));clear Hall hall HQ3
       go_wp2_with fail
       refine bodyPost_ret (targets_results HF.out.res _ rfl) rfl ?_
       exact ⟨rfl,HF.out.bel⟩
end Snd
end
end
end Go.Proofs.YtadamccojdocbaaGreatDoor
