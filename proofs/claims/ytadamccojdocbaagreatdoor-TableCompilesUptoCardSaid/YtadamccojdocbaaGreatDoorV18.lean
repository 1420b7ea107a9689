/-
  Contracts of the code that the law reaches, and plain laws. Conditions: as each says.
-/
import Derived.Test.YtadamccojdocbaaGreatDoorV17
set_option linter.all false
set_option maxHeartbeats 40000000
set_option maxRecDepth 100000
namespace Go.Proofs.YtadamccojdocbaaGreatDoor
open Lib (hid)
open Tryz
section
section
namespace Sam
open Go.RowKit Mem Img
theorem tl_inj (a b:ByteArray):a.toList=b.toList↔a=b:=by
 constructor
 ·intro e
  by_cases h:a=b
  ·exact h
  ·rw [ByteArray.toList_eq,ByteArray.toList_eq] at e
   exact absurd (by obtain ⟨x⟩:=a;obtain ⟨y⟩:=b;simp at e;rw [e]) h
 ·rintro rfl;rfl
theorem eq_shift (a b:Shift) (w:World):(Op.equalIn 10000 97 (.agg a.cells.toArray) (.agg b.cells.toArray)).run prog w= .ok (decide (a=b)) w:=by
 obtain ⟨a1,a2,a3,a4⟩:=a;obtain ⟨b1,b2,b3,b4⟩:=b;simp [Shift.cells,go_sem,tl_inj]
 repeat (split;skip)
 all_goals simp_all
theorem eq_rule (a b:Rule) (w:World):(Op.equalIn 10000 69 (.agg a.cells.toArray) (.agg b.cells.toArray)).run prog w= .ok (decide (a=b)) w:=by
 cases a
 cases b
 simp [Rule.cells,go_sem,tl_inj]
 repeat (split;skip)
 all_goals simp_all
theorem take_eq {α:Type} {l m:List α} {k:Nat} (hl:k<l.length) (hm:k<m.length) (h:l.take k=m.take k) (e:l[k]=m[k]):l.take (k+1)=m.take (k+1):=by
 rw [List.take_succ_eq_append_getElem hl,List.take_succ_eq_append_getElem hm,h,e]
theorem ne_of_get {α:Type} {l m:List α} {k:Nat} (hl:k<l.length) (hm:k<m.length) (e:l[k]≠m[k]):l≠m:=by
 rintro rfl;exact e rfl
theorem equal_shifts (ss ts:List Shift) (A A':Option Addr) (B B' c c':Nat) (w:World) (h:Reads w B 4 A ss.length (ss.flatMap Shift.cells)) (h':Reads w B' 4 A' ts.length (ts.flatMap Shift.cells)) (hn:ss.length<=1000000):
  Calls prog 72 #[.slice A ss.length c,.slice A' ts.length c'] w fun e w'=>e= .returned (.bool (decide (ss=ts)))/\∃ n,w'=w.drewN n:=by
 have H:=hid h;have H':=hid h';clear h h';obtain ⟨q,hq⟩:∃ q,decide (ss=ts)=q:=⟨_,rfl⟩;rw [hq];have Hq:=hid hq;clear hq;go_enter func72,ntmps72
 by_cases hlen:ss.length=ts.length
 ·have Hl:=hid hlen
  rw [<-hlen];clear hlen;go_wp2
  go_loopw [13] (fun i wr=>∃ k n:Nat,k<=ss.length/\i= .int .i64 k/\ss.take k=ts.take k/\wr=w.drewN n) (fun i _=>ss.length - (intOf i).toNat)
  case atStart=>exact ⟨0,0,Nat.zero_le _,rfl,rfl,rfl⟩
  case round=>
   obtain ⟨k,n,hk,rfl,htk,rfl⟩:=hrel;have Htk:=hid htk;clear htk
   by_cases hkn:k<ss.length
   ·have hkt:k<ts.length:=by rw [<-Hl.out];exact hkn
    obtain ⟨ad,rfl,_,a0,a1,a2,a3⟩:=shift_at H.out hkn;obtain ⟨ad',rfl,_,b0,b1,b2,b3⟩:=shift_at H'.out hkt
    cases hd:decide (ss[k]=ts[k])
    ·have hne:=ne_of_get hkn hkt (by simpa using hd)
     have hnd:decide (ss=ts)=false:=by simpa using hne
     have Hnd:=hid hnd;clear hne hnd;have heq:=eq_shift ss[k] ts[k];rw [hd] at heq;clear hd;simp only [Shift.cells] at heq;generalize ss[k]=s at*;generalize ts[k]=t at*
     go_wp2_with fail
     go_quiet (fail)
     go_wp2_with fail
     go_ret
     exact ⟨by rw [<-Hq.out,Hnd.out];rfl,n+nq,by rw [World.drewN_drewN]⟩
    ·have Hst:=hid (take_eq hkn hkt Htk.out (by simpa using hd))
     have heq:=eq_shift ss[k] ts[k];rw [hd] at heq;clear hd;simp only [Shift.cells] at heq;generalize ss[k]=s at*;generalize ts[k]=t at*
     go_wp2_with fail
     go_quiet (fail)
     go_wp2_with fail
     exact ⟨⟨k+1,n+nq,by omega,by go_num,Hst.out,rfl⟩,by simp [intOf];omega⟩
   ·obtain rfl:k=ss.length:=by omega
    have e:=Htk.out
    rw [List.take_length,List.take_of_length_le (by rw [Hl.out];exact Nat.le_refl _)] at e
    have hnd:decide (ss=ts)=true:=by simpa using e
    have Hnd:=hid hnd;clear hnd e Htk;go_wp2;go_ret
    exact ⟨by rw [<-Hq.out,Hnd.out];rfl,n,rfl⟩
 ·have hnd:decide (ss=ts)=false:=by simpa using fun e:ss=ts=>hlen (congrArg List.length e)
  have Hnd:=hid hnd
  have hne:(((ss.length:Nat):Int) == ts.length)=false:=by simpa using fun e:((ss.length:Nat):Int)=ts.length=>hlen (by omega)
  clear hnd;go_wp2;go_ret
  exact ⟨by rw [<-Hq.out,Hnd.out];rfl,0,rfl⟩
theorem equal_rules (ss ts:List Rule) (A A':Option Addr) (B B' c c':Nat) (w:World) (h:Reads w B 11 A ss.length (ss.flatMap Rule.cells)) (h':Reads w B' 11 A' ts.length (ts.flatMap Rule.cells)) (hn:ss.length<=1000000):
  Calls prog 73 #[.slice A ss.length c,.slice A' ts.length c'] w fun e w'=>e= .returned (.bool (decide (ss=ts)))/\∃ n,w'=w.drewN n:=by
 have H:=hid h;have H':=hid h';clear h h';obtain ⟨q,hq⟩:∃ q,decide (ss=ts)=q:=⟨_,rfl⟩;rw [hq];have Hq:=hid hq;clear hq;go_enter func73,ntmps73
 by_cases hlen:ss.length=ts.length
 ·have Hl:=hid hlen
  rw [<-hlen];clear hlen;go_wp2
  go_loopw [13] (fun i wr=>∃ k n:Nat,k<=ss.length/\i= .int .i64 k/\ss.take k=ts.take k/\wr=w.drewN n) (fun i _=>ss.length - (intOf i).toNat)
  case atStart=>exact ⟨0,0,Nat.zero_le _,rfl,rfl,rfl⟩
  case round=>
   obtain ⟨k,n,hk,rfl,htk,rfl⟩:=hrel;have Htk:=hid htk;clear htk
   by_cases hkn:k<ss.length
   ·have hkt:k<ts.length:=by rw [<-Hl.out];exact hkn
    obtain ⟨ad,rfl,_,a0,ac⟩:=rule_at H.out hkn;obtain ⟨ad',rfl,_,b0,bc⟩:=rule_at H'.out hkt
    cases hd:decide (ss[k]=ts[k])
    ·have hne:=ne_of_get hkn hkt (by simpa using hd)
     have hnd:decide (ss=ts)=false:=by simpa using hne
     have Hnd:=hid hnd;clear hne hnd;have heq:=eq_rule ss[k] ts[k];rw [hd] at heq;clear hd;simp only [Rule.cells] at heq;generalize ss[k]=s at*;generalize ts[k]=t at*;obtain ⟨s0,s1,s2,s3,s4,s5,s6,s7,s8,s9,s10⟩:=s;obtain ⟨t0,t1,t2,t3,t4,t5,t6,t7,t8,t9,t10⟩:=t
     have a1:w.cell? ⟨(ad.add (k*11)).block,(ad.add (k*11)).off+1,none⟩=some (.int .i64 s1):=ac 1 (by omega) (by omega)
     have a2:w.cell? ⟨(ad.add (k*11)).block,(ad.add (k*11)).off+2,none⟩=some (.int .i64 s2):=ac 2 (by omega) (by omega)
     have a3:w.cell? ⟨(ad.add (k*11)).block,(ad.add (k*11)).off+3,none⟩=some (.int .i64 s3):=ac 3 (by omega) (by omega)
     have a4:w.cell? ⟨(ad.add (k*11)).block,(ad.add (k*11)).off+4,none⟩=some (.int .i64 s4):=ac 4 (by omega) (by omega)
     have a5:w.cell? ⟨(ad.add (k*11)).block,(ad.add (k*11)).off+5,none⟩=some (.int .i64 s5):=ac 5 (by omega) (by omega)
     have a6:w.cell? ⟨(ad.add (k*11)).block,(ad.add (k*11)).off+6,none⟩=some (.int .i64 s6):=ac 6 (by omega) (by omega)
     have a7:w.cell? ⟨(ad.add (k*11)).block,(ad.add (k*11)).off+7,none⟩=some (.int .i64 s7):=ac 7 (by omega) (by omega)
     have a8:w.cell? ⟨(ad.add (k*11)).block,(ad.add (k*11)).off+8,none⟩=some (.int .i64 s8):=ac 8 (by omega) (by omega)
     have a9:w.cell? ⟨(ad.add (k*11)).block,(ad.add (k*11)).off+9,none⟩=some (.int .i64 s9):=ac 9 (by omega) (by omega)
     have a10:w.cell? ⟨(ad.add (k*11)).block,(ad.add (k*11)).off+10,none⟩=some (.string s10):=ac 10 (by omega) (by omega)
     have b1:w.cell? ⟨(ad'.add (k*11)).block,(ad'.add (k*11)).off+1,none⟩=some (.int .i64 t1):=bc 1 (by omega) (by omega)
     have b2:w.cell? ⟨(ad'.add (k*11)).block,(ad'.add (k*11)).off+2,none⟩=some (.int .i64 t2):=bc 2 (by omega) (by omega)
     have b3:w.cell? ⟨(ad'.add (k*11)).block,(ad'.add (k*11)).off+3,none⟩=some (.int .i64 t3):=bc 3 (by omega) (by omega)
     have b4:w.cell? ⟨(ad'.add (k*11)).block,(ad'.add (k*11)).off+4,none⟩=some (.int .i64 t4):=bc 4 (by omega) (by omega)
     have b5:w.cell? ⟨(ad'.add (k*11)).block,(ad'.add (k*11)).off+5,none⟩=some (.int .i64 t5):=bc 5 (by omega) (by omega)
     have b6:w.cell? ⟨(ad'.add (k*11)).block,(ad'.add (k*11)).off+6,none⟩=some (.int .i64 t6):=bc 6 (by omega) (by omega)
     have b7:w.cell? ⟨(ad'.add (k*11)).block,(ad'.add (k*11)).off+7,none⟩=some (.int .i64 t7):=bc 7 (by omega) (by omega)
     have b8:w.cell? ⟨(ad'.add (k*11)).block,(ad'.add (k*11)).off+8,none⟩=some (.int .i64 t8):=bc 8 (by omega) (by omega)
     have b9:w.cell? ⟨(ad'.add (k*11)).block,(ad'.add (k*11)).off+9,none⟩=some (.int .i64 t9):=bc 9 (by omega) (by omega)
     have b10:w.cell? ⟨(ad'.add (k*11)).block,(ad'.add (k*11)).off+10,none⟩=some (.string t10):=bc 10 (by omega) (by omega)
     clear ac bc
     go_wp2_with fail
     go_quiet (fail)
     go_wp2_with fail
     go_ret
     exact ⟨by rw [<-Hq.out,Hnd.out];rfl,n+nq,by rw [World.drewN_drewN]⟩
    ·have Hst:=hid (take_eq hkn hkt Htk.out (by simpa using hd))
     have heq:=eq_rule ss[k] ts[k];rw [hd] at heq;clear hd;simp only [Rule.cells] at heq;generalize ss[k]=s at*;generalize ts[k]=t at*;obtain ⟨s0,s1,s2,s3,s4,s5,s6,s7,s8,s9,s10⟩:=s;obtain ⟨t0,t1,t2,t3,t4,t5,t6,t7,t8,t9,t10⟩:=t
     have a1:w.cell? ⟨(ad.add (k*11)).block,(ad.add (k*11)).off+1,none⟩=some (.int .i64 s1):=ac 1 (by omega) (by omega)
     have a2:w.cell? ⟨(ad.add (k*11)).block,(ad.add (k*11)).off+2,none⟩=some (.int .i64 s2):=ac 2 (by omega) (by omega)
     have a3:w.cell? ⟨(ad.add (k*11)).block,(ad.add (k*11)).off+3,none⟩=some (.int .i64 s3):=ac 3 (by omega) (by omega)
     have a4:w.cell? ⟨(ad.add (k*11)).block,(ad.add (k*11)).off+4,none⟩=some (.int .i64 s4):=ac 4 (by omega) (by omega)
     have a5:w.cell? ⟨(ad.add (k*11)).block,(ad.add (k*11)).off+5,none⟩=some (.int .i64 s5):=ac 5 (by omega) (by omega)
     have a6:w.cell? ⟨(ad.add (k*11)).block,(ad.add (k*11)).off+6,none⟩=some (.int .i64 s6):=ac 6 (by omega) (by omega)
     have a7:w.cell? ⟨(ad.add (k*11)).block,(ad.add (k*11)).off+7,none⟩=some (.int .i64 s7):=ac 7 (by omega) (by omega)
     have a8:w.cell? ⟨(ad.add (k*11)).block,(ad.add (k*11)).off+8,none⟩=some (.int .i64 s8):=ac 8 (by omega) (by omega)
     have a9:w.cell? ⟨(ad.add (k*11)).block,(ad.add (k*11)).off+9,none⟩=some (.int .i64 s9):=ac 9 (by omega) (by omega)
     have a10:w.cell? ⟨(ad.add (k*11)).block,(ad.add (k*11)).off+10,none⟩=some (.string s10):=ac 10 (by omega) (by omega)
     have b1:w.cell? ⟨(ad'.add (k*11)).block,(ad'.add (k*11)).off+1,none⟩=some (.int .i64 t1):=bc 1 (by omega) (by omega)
     have b2:w.cell? ⟨(ad'.add (k*11)).block,(ad'.add (k*11)).off+2,none⟩=some (.int .i64 t2):=bc 2 (by omega) (by omega)
     have b3:w.cell? ⟨(ad'.add (k*11)).block,(ad'.add (k*11)).off+3,none⟩=some (.int .i64 t3):=bc 3 (by omega) (by omega)
     have b4:w.cell? ⟨(ad'.add (k*11)).block,(ad'.add (k*11)).off+4,none⟩=some (.int .i64 t4):=bc 4 (by omega) (by omega)
     have b5:w.cell? ⟨(ad'.add (k*11)).block,(ad'.add (k*11)).off+5,none⟩=some (.int .i64 t5):=bc 5 (by omega) (by omega)
     have b6:w.cell? ⟨(ad'.add (k*11)).block,(ad'.add (k*11)).off+6,none⟩=some (.int .i64 t6):=bc 6 (by omega) (by omega)
     have b7:w.cell? ⟨(ad'.add (k*11)).block,(ad'.add (k*11)).off+7,none⟩=some (.int .i64 t7):=bc 7 (by omega) (by omega)
     have b8:w.cell? ⟨(ad'.add (k*11)).block,(ad'.add (k*11)).off+8,none⟩=some (.int .i64 t8):=bc 8 (by omega) (by omega)
     have b9:w.cell? ⟨(ad'.add (k*11)).block,(ad'.add (k*11)).off+9,none⟩=some (.int .i64 t9):=bc 9 (by omega) (by omega)
     have b10:w.cell? ⟨(ad'.add (k*11)).block,(ad'.add (k*11)).off+10,none⟩=some (.string t10):=bc 10 (by omega) (by omega)
     clear ac bc
     go_wp2_with fail
     go_quiet (fail)
     go_wp2_with fail
     exact ⟨⟨k+1,n+nq,by omega,by go_num,Hst.out,rfl⟩,by simp [intOf];omega⟩
   ·obtain rfl:k=ss.length:=by omega
    have e:=Htk.out
    rw [List.take_length,List.take_of_length_le (by rw [Hl.out];exact Nat.le_refl _)] at e
    have hnd:decide (ss=ts)=true:=by simpa using e
    have Hnd:=hid hnd;clear hnd e Htk;go_wp2;go_ret
    exact ⟨by rw [<-Hq.out,Hnd.out];rfl,n,rfl⟩
 ·have hnd:decide (ss=ts)=false:=by simpa using fun e:ss=ts=>hlen (congrArg List.length e)
  have Hnd:=hid hnd
  have hne:(((ss.length:Nat):Int) == ts.length)=false:=by simpa using fun e:((ss.length:Nat):Int)=ts.length=>hlen (by omega)
  clear hnd;go_wp2;go_ret
  exact ⟨by rw [<-Hq.out,Hnd.out];rfl,0,rfl⟩
theorem below_dr {B:Nat} {a w:World} {n:Nat} (h:Below B a w):Below B a (w.drewN n):=⟨h.os,h.tape,h.output,h.size,h.block⟩
theorem bools7 (a b c d e f g:Bool):a=false\/(a=true/\b=false)\/(a=true/\b=true/\c=false)\/(a=true/\b=true/\c=true/\d=false)\/(a=true/\b=true/\c=true/\d=true/\e=false)\/(a=true/\b=true/\c=true/\d=true/\e=true/\f=false)\/
  (a=true/\b=true/\c=true/\d=true/\e=true/\f=true/\g=false)\/(a=true/\b=true/\c=true/\d=true/\e=true/\f=true/\g=true):=by
 cases a<;>cases b<;>cases c<;>cases d<;>cases e<;>cases f<;>cases g<;>simp
theorem eq_phase (a b:Phase) (w:World):(Op.equalIn 10000 30 (.agg a.cells.toArray) (.agg b.cells.toArray)).run prog w= .ok (decide (a=b)) w:=by
 obtain ⟨a1,a2,a3⟩:=a;obtain ⟨b1,b2,b3⟩:=b;simp [Phase.cells,go_sem,tl_inj]
 repeat (split;skip)
 all_goals simp_all
theorem tab_eq (x y:Table):decide (x=y)=(decide (x.name=y.name) && decide (x.first=y.first) && decide (x.till=y.till) && decide (x.off=y.off) && decide (x.format=y.format) && decide (x.shifts=y.shifts) && decide (x.tail=y.tail)):=by
 obtain ⟨a1,a2,a3,a4,a5,a6,a7⟩:=x;obtain ⟨b1,b2,b3,b4,b5,b6,b7⟩:=y;rw [<-Bool.decide_and,<-Bool.decide_and,<-Bool.decide_and,<-Bool.decide_and,<-Bool.decide_and,<-Bool.decide_and]
 congr 1
 simp only [Table.mk.injEq,eq_iff_iff]
 constructor
 ·rintro ⟨h1,h2,h3,h4,h5,h6,h7⟩;exact ⟨⟨⟨⟨⟨⟨h1,h2⟩,h4⟩,h6⟩,h7⟩,h3⟩,h5⟩
 ·rintro ⟨⟨⟨⟨⟨⟨h1,h2⟩,h4⟩,h6⟩,h7⟩,h3⟩,h5⟩;exact ⟨h1,h2,h3,h4,h5,h6,h7⟩
theorem tl_beq (a b:ByteArray):(a.toList == b.toList)=decide (a=b):=by
 rw [Bool.eq_iff_iff];simp [tl_inj]
theorem int_beq (a b:Int):(a == b)=decide (a=b):=by
 rw [Bool.eq_iff_iff];simp
theorem same_any (x y:Table) (A A2 A' A2':Option Addr) (c c2 c' c2':Nat) (w:World) (hx:TabOk x A A2 w) (hy:TabOk y A' A2' w):
  Calls prog 34 #[.agg (tabCells x A c A2 c2),.agg (tabCells y A' c' A2' c2')] w fun e w'=>e= .returned (.bool (decide (x=y)))/\Below w.heap.size w w':=by
 rw [tab_eq];simp only [tabCells]
 have hb2:=box2 w 33 33 #[.string x.name,.int .i64 x.first.off,.int .i64 x.first.save,.string x.first.abbr,.slice A x.shifts.length c,.int .i64 x.till,.slice A2 x.tail.length c2,.int .i64 x.off,.string x.format] #[.string y.name,.int .i64 y.first.off,.int .i64 y.first.save,.string y.first.abbr,.slice A' y.shifts.length c',.int .i64 y.till,.slice A2' y.tail.length c2',.int .i64 y.off,.string y.format]
 have HX:=hid hx;have HY:=hid hy;clear hx hy;have h1:=tl_beq x.name y.name
 have h2:=eq_phase x.first y.first
 simp only [Phase.cells] at h2;have h3:=int_beq x.till y.till;have h4:=int_beq x.off y.off;have h5:=tl_beq x.format y.format
 obtain ⟨W,hW⟩:∃ W,(w.alloc (.cells #[.string x.name,.int .i64 x.first.off,.int .i64 x.first.save,.string x.first.abbr,.slice A x.shifts.length c,.int .i64 x.till,.slice A2 x.tail.length c2,.int .i64 x.off,.string x.format] 33)).alloc (.cells #[.string y.name,.int .i64 y.first.off,.int .i64 y.first.save,.string y.first.abbr,.slice A' y.shifts.length c',.int .i64 y.till,.slice A2' y.tail.length c2',.int .i64 y.off,.string y.format] 33)=W:=⟨_,rfl⟩
 rw [hW] at hb2;obtain ⟨bx,by_,hbw,hz⟩:=hb2;have cx:=bx.cell;have cy:=by_.cell;have rsx:=hid (HX.out.below hbw).rs;have rtx:=hid (HX.out.below hbw).rt;have rsy:=hid (HY.out.below hbw).rs;have rty:=hid (HY.out.below hbw).rt;have HB:=hid hbw;clear bx by_ hbw;have n1:=HX.out.ns;have n2:=HX.out.nt;have E6:Hid (∃ d,d=decide (x.shifts=y.shifts)):=⟨_,rfl⟩;have E7:Hid (∃ d,d=decide (x.tail=y.tail)):=⟨_,rfl⟩;obtain ⟨d6,e6⟩:=E6.out;obtain ⟨d7,e7⟩:=E7.out;rw [<-e6,<-e7];have F6:=hid e6;have F7:=hid e7;clear e6 e7 E6 E7;go_enter func34,ntmps34;generalize decide (x.name=y.name)=d1 at*
 generalize decide (x.first=y.first)=d2 at*
 generalize decide (x.till=y.till)=d3 at*;generalize decide (x.off=y.off)=d4 at*;generalize decide (x.format=y.format)=d5 at*
 rcases bools7 d1 d2 d3 d4 d5 d6 d7 with rfl|⟨rfl,rfl⟩|⟨rfl,rfl,rfl⟩|⟨rfl,rfl,rfl,rfl⟩|⟨rfl,rfl,rfl,rfl,rfl⟩|⟨rfl,rfl,rfl,rfl,rfl,rfl⟩|⟨rfl,rfl,rfl,rfl,rfl,rfl,rfl⟩|⟨rfl,rfl,rfl,rfl,rfl,rfl,rfl⟩
 all_goals
  go_wp2_with (first
   |(go_at_call 72;refine (equal_shifts x.shifts y.shifts A A' _ _ c c' _ rsx.out rsy.out n1).mono ?_;rintro e w1 ⟨he,n,rfl⟩;rw [<-F6.out] at he;obtain rfl:=he)
   |(go_at_call 73;refine (equal_rules x.tail y.tail A2 A2' _ _ c2 c2' _ (rtx.out.drewN _) (rty.out.drewN _) n2).mono ?_;rintro e w1 ⟨he,n',rfl⟩;rw [<-F7.out] at he;obtain rfl:=he))
  go_ret
  first
   |exact ⟨rfl,HB.out⟩
   |exact ⟨rfl,below_dr HB.out⟩
   |exact ⟨rfl,below_dr (below_dr HB.out)⟩
end Sam
end
end
section
section
namespace Cmq
open Go.RowKit Mem Civ Mom Img Rul Ahd Trn Src Snd Att Rgt Abr
structure KeptS (B b:Nat) (w w':World):Prop where
 bel:Below B w w'
 oth:Lib.OthersKept 97 (some b) w w'
theorem KeptS.refl (B b:Nat) (w:World):KeptS B b w w:=⟨Below.refl _ _,Lib.OthersKept.refl _ _ _⟩
theorem KeptS.blk {B b g:Nat} {w w':World} {t:TypeId} {cs:Array Value} (h:KeptS B b w w') (hb:Blk w g t cs) (hg:g≠b) (ht:t≠97):Blk w' g t cs:=by
 refine h.oth g _ hb (by simpa using hg) ?_
 intro c fz e
 injection e with _ e2
 exact ht e2
theorem KeptS.alloc {B b:Nat} {w w':World} (h:KeptS B b w w') (hB:B<=w.heap.size) (o:Obj):KeptS B b w (w'.alloc o):=⟨h.bel.alloc (Nat.le_trans hB h.bel.size) o,h.oth.alloc o⟩
theorem KeptS.drew {B b:Nat} {w w':World} (h:KeptS B b w w'):KeptS B b w w'.drew:=⟨h.bel.drew,h.oth.drew⟩
theorem KeptS.step {B b:Nat} {w w' w'':World} (h:KeptS B b w w') (hB:B<=w.heap.size) (hb:Below w'.heap.size w' w''):KeptS B b w w'':=
 ⟨h.bel.trans (hb.mono (Nat.le_trans hB h.bel.size)),fun k o hk h1 h2=>by
  have h3:=h.oth k o hk h1 h2
  exact (hb.block k (Array.getElem?_eq_some_iff.1 h3).1).trans h3⟩
theorem KeptS.setCell {B b:Nat} {w w':World} (h:KeptS B b w w') (hb:B<=b) (i:Nat) (u:Value):KeptS B b w (w'.setCell ⟨b,i,none⟩ u):=⟨h.bel.setCell hb _,h.oth.setCell _ rfl _⟩
def MoV (nm:ByteArray) (first:Phase) (v:Value) (till:Int) (tv:Value) (off:Int) (fm:ByteArray) (over:Bool):Array Value:=
 #[.string nm,.int .i64 first.off,.int .i64 first.save,.string first.abbr,v,.int .i64 till,tv,.int .i64 off,.string fm,.bool over]
def Mo (B b:Nat) (nm:ByteArray) (first:Phase) (till:Int) (tv:Value) (off:Int) (fm:ByteArray) (m:List Shift×Bool) (w:World):Prop:=
 ∃ v,Blk w b 81 (MoV nm first v till tv off fm m.2)/\w.ownsRow B 97 4 v m.1.length (m.1.flatMap Shift.cells)
theorem own_take {w:World} {base:Nat} {e:TypeId} {size g n cap k:Nat} {xs:List Value} (h:w.ownsRow base e size (.slice (some ⟨g,0,none⟩) n cap) n xs) (hk:k<=n):w.ownsRow base e size (.slice (some ⟨g,0,none⟩) k cap) k (xs.take (k*size)):=by
 rcases h.2 with ⟨h',_⟩|⟨g',cap',cur,h',hb,hg,hnc,hcm,hcs,htake⟩
 ·simp at h'
 ·simp only [Value.slice.injEq,Option.some.injEq,Addr.mk.injEq,and_true,true_and] at h'
  obtain ⟨rfl,rfl⟩:=h';have hle:k*size<=n*size:=Nat.mul_le_mul_right _ hk
  refine ⟨by rw [List.length_take,h.1];omega,.inr ⟨g,cap,cur,rfl,hb,hg,by omega,hcm,hcs,?_⟩⟩
  rw [<-htake,List.take_take,Nat.min_eq_left hle]
theorem own_sl {w:World} {base:Nat} {e:TypeId} {size n:Nat} {v:Value} {xs:List Value} (h:w.ownsRow base e size v n xs):∃ A c,v= .slice A n c:=by
 rcases h.2 with ⟨rfl,rfl,_⟩|⟨g,cap,cur,rfl,_⟩
 ·exact ⟨_,_,rfl⟩
 ·exact ⟨_,_,rfl⟩
theorem own_none {w:World} {base:Nat} {e:TypeId} {size n:Nat} {v:Value} {xs:List Value} (h:w.ownsRow base e size v n xs):v.ownBlock=none\/v.ownBlock≠none:=by
 cases v.ownBlock<;>simp
theorem own_cap {w:World} {base:Nat} {e:TypeId} {size n g cap:Nat} {xs:List Value} (h:w.ownsRow base e size (.slice (some ⟨g,0,none⟩) n cap) n xs):n<=cap:=by
 rcases h.2 with ⟨hv,_⟩|⟨g',cap',cur,hv,_,_,hnc,_⟩
 ·cases hv
 ·injection hv with _ _ h3
  omega
theorem shift_len4 (l:List Shift):(l.flatMap Shift.cells).length=l.length*4:=by
 induction l with
 |nil=>rfl
 |cons a t ih=>rw [List.flatMap_cons,List.length_append,ih,List.length_cons,Nat.succ_mul,Shift.cells_length];omega
theorem lastPh_snoc (first:Phase):∀ (l:List Shift) (s:Shift),lastPh first (l++[s])=s.ph
 |[],s=>rfl
 |[a],s=>rfl
 |a :: b :: l,s=>by
  have:=lastPh_snoc first (b :: l) s
  simpa [lastPh] using this
theorem cutAt_snoc (at_:Int) (l:List Shift) (s:Shift):cutAt at_ (l++[s])=if s.sec=at_ then l else l++[s]:=by
 unfold cutAt;simp
theorem last_results {w:World} {R0:Nat} {a0 a1 a2:Value} (h:Blk w R0 30 #[a0,a1,a2]) (tmps:Array Value) (ht:tmps[2]?=some (.pointer (some ⟨R0,0,none⟩))):(results Tryz.f85 tmps).run prog w= .ok (.agg #[a0,a1,a2]) w:=by
 have hc:=h.cell;simp [results,Tryz.results85,go_sem,hc,ht]
theorem last_any (B b:Nat) (nm:ByteArray) (first:Phase) (till:Int) (tv:Value) (off:Int) (fm:ByteArray) (m:List Shift×Bool) (w:World) (h:Mo B b nm first till tv off fm m w) (hn:m.1.length<=1000000):
  Calls prog 85 #[.pointer (some ⟨b,0,none⟩)] w fun e w'=>e= .returned (.agg #[.int .i64 (lastPh first m.1).off,.int .i64 (lastPh first m.1).save,.string (lastPh first m.1).abbr])/\Below w.heap.size w w':=by
 obtain ⟨v,hb,ho⟩:=h;obtain ⟨ss,over⟩:=m;have hb1:=box1 w 30 #[.int .i64 0,.int .i64 0,.string ⟨#[]⟩];have hblt:=hb.lt;have hbw:=hb.alloc (.cells #[.int .i64 0,.int .i64 0,.string ⟨#[]⟩] 30);simp only [MoV] at hb hbw ho hn ⊢;have c0:=hbw.cell
 rcases List.eq_nil_or_concat ss with rfl|⟨l,s,rfl⟩
 ·have hv:∃ A cp,v= .slice A 0 cp:=by
   rcases ho.2 with ⟨rfl,_⟩|⟨g,cap,cur,rfl,_⟩
   ·exact ⟨_,_,rfl⟩
   ·exact ⟨_,_,rfl⟩
  obtain ⟨A,cp,rfl⟩:=hv
  obtain ⟨p0,p1,p2⟩:=first
  simp only [lastPh] at c0 ⊢;have HB1:=hid hb1;have f1:=hb1.1.frozen;clear hb ho hbw hb1;go_enter func85,ntmps85
  go_wp2_with fail
  refine bodyPost_ret (last_results (Blk.new w 30 #[.int .i64 p0,.int .i64 p1,.string p2]) _ rfl) rfl ?_
  exact ⟨rfl,(Below.refl _ _).alloc (Nat.le_refl _) _⟩
 ·simp only [List.concat_eq_append] at ho hn ⊢
  rw [lastPh_snoc]
  have hlen:(l++[s]).length=l.length+1:=by simp
  rw [hlen] at ho hn;obtain ⟨g,cap,rfl,hBg,hg⟩:=ho.form (Nat.succ_pos _)
  have hcell:∀ i,i<4->(w.alloc (.cells #[.int .i64 0,.int .i64 0,.string ⟨#[]⟩] 30)).cell? ⟨g,l.length*4+i,none⟩=s.cells[i]?:=fun i hi=>by
   rw [(ho.alloc _).cellAt _ (by rw [Nat.succ_mul];omega),flat_get Shift.cells 4 Shift.cells_length _ l.length i hi,List.getElem?_append_right (Nat.le_refl _),Nat.sub_self]
   rfl
  obtain ⟨s0,⟨s1,s2,s3⟩⟩:=s
  have d1:=hcell 1 (by omega)
  have d2:=hcell 2 (by omega)
  have d3:=hcell 3 (by omega)
  simp only [Shift.cells,List.getElem?_cons_succ,List.getElem?_cons_zero] at d1 d2 d3
  have hwl:wrap64 ((l.length:Int)+1 - 1)=(l.length:Nat):=by unfold wrap64;omega
  have HB1:=hid hb1;have f1:=hb1.1.frozen;clear hb ho hbw hb1 hcell hlen;go_enter func85,ntmps85
  go_wp2_with fail
  refine bodyPost_ret (last_results (Blk.new w 30 #[.int .i64 s1,.int .i64 s2,.string s3]) _ rfl) rfl ?_
  exact ⟨rfl,(Below.refl _ _).alloc (Nat.le_refl _) _⟩
theorem info_shift:(prog.info? 97).map (fun i=>(i.zero,i.size,i.bytes))=some (some (.agg #[.int .i64 0,.int .i64 0,.int .i64 0,.string ⟨#[]⟩]),4,40):=by kernel_rfl
theorem one_shift {a b c:Int} {d:ByteArray}:∀ u∈(#[Value.int .i64 a,.int .i64 b,.int .i64 c,.string d]:Array Value).toList,u.oneCell'=true:=by
 intro u hu;simp only [List.mem_cons,List.not_mem_nil,or_false] at hu
 rcases hu with rfl|rfl|rfl|rfl<;>rfl
theorem Mo.step {B b:Nat} {nm:ByteArray} {first:Phase} {till:Int} {tv:Value} {off:Int} {fm:ByteArray} {m:List Shift×Bool} {w w':World} (h:Mo B b nm first till tv off fm m w) (hb:Below w.heap.size w w'):Mo B b nm first till tv off fm m w':=by
 obtain ⟨v,h1,h2⟩:=h
 exact ⟨v,h1.below hb h1.lt,h2.kept (gr_of_below hb) (by
  rcases h2.2 with ⟨hv,_⟩|⟨g,cap,cur,hv,_⟩
  ·rw [hv];exact .inl rfl
  ·rw [hv];exact .inr (by simp [Value.ownBlock]))⟩
theorem mo_push {w W wB:World} {B b n:Nat} {nm:ByteArray} {first:Phase} {till:Int} {tv:Value} {off:Int} {fm:ByteArray} {over:Bool} {v v':Value} {xs cs:List Value} (hB:B<=b) (hblk:Blk W b 81 (MoV nm first v till tv off fm over)) (hown:W.ownsRow B 97 4 v n xs)
  (hown1:wB.ownsRow B 97 4 v' (n+1) (xs++cs)) (hg:W.grownBy wB v.ownBlock) (hk:KeptS B b w W) (hs:B<=W.heap.size):
  Blk (wB.setCell ⟨b,4,none⟩ v') b 81 (MoV nm first v' till tv off fm over)/\(wB.setCell ⟨b,4,none⟩ v').ownsRow B 97 4 v' (n+1) (xs++cs)/\KeptS B b w (wB.setCell ⟨b,4,none⟩ v'):=by
 have hne:v.ownBlock≠some b:=own_blk_ne hown hblk (by decide)
 have hblk1:Blk wB b 81 (MoV nm first v till tv off fm over):=hblk.grown hg (fun e=>hne e.symm)
 have hne1:v'.ownBlock≠some b:=own_blk_ne hown1 hblk1 (by decide)
 have hb:Below B w wB:=hk.bel.grown hg hs fun j hj=>(hown.lt j hj).1
 refine ⟨by simpa [MoV] using hblk1.set_ 4 v',ownsRow_setCell_other hown1 (a:=⟨b,4,none⟩) hne1 v',hb.setCell hB _,?_⟩
 refine Lib.OthersKept.setCell (hk.oth.grown hg fun j hj=>?_) _ rfl _
 rcases hown.2 with ⟨rfl,_⟩|⟨g',cap,cur,rfl,_,hgg,_⟩
 ·simp [Value.ownBlock] at hj
 ·simp [Value.ownBlock] at hj
  subst hj;exact ⟨cur,_,hgg⟩
theorem mo_flag {w W:World} {B b n:Nat} {nm:ByteArray} {first:Phase} {till:Int} {tv:Value} {off:Int} {fm:ByteArray} {over:Bool} {v:Value} {xs:List Value} (hB:B<=b) (u:Bool) (hblk:Blk W b 81 (MoV nm first v till tv off fm over)) (hown:W.ownsRow B 97 4 v n xs) (hk:KeptS B b w W):
  Blk (W.setCell ⟨b,9,none⟩ (.bool u)) b 81 (MoV nm first v till tv off fm u)/\(W.setCell ⟨b,9,none⟩ (.bool u)).ownsRow B 97 4 v n xs/\KeptS B b w (W.setCell ⟨b,9,none⟩ (.bool u)):=
 ⟨by simpa [MoV] using hblk.set_ 9 (.bool u),ownsRow_setCell_other hown (a:=⟨b,9,none⟩) (own_blk_ne hown hblk (by decide)) _,hk.setCell hB _ _⟩
theorem cut_cases (at_:Int) (ss:List Shift):(ss=[]/\cutAt at_ ss=[])\/(∃ l s,ss=l++[s]/\¬ s.sec=at_/\cutAt at_ ss=l++[s])\/(∃ l s,ss=l++[s]/\s.sec=at_/\cutAt at_ ss=l):=by
 rcases List.eq_nil_or_concat ss with rfl|⟨l,s,rfl⟩
 ·exact .inl ⟨rfl,rfl⟩
 ·simp only [List.concat_eq_append]
  by_cases h:s.sec=at_
  ·exact .inr (.inr ⟨l,s,rfl,h,by rw [cutAt_snoc,if_pos h]⟩)
  ·exact .inr (.inl ⟨l,s,rfl,h,by rw [cutAt_snoc,if_neg h]⟩)
theorem put_any (B b:Nat) (nm:ByteArray) (first:Phase) (till:Int) (tv:Value) (off:Int) (fm:ByteArray) (m:List Shift×Bool) (at_:Int) (p:Phase) (w:World) (h:Mo B b nm first till tv off fm m w) (hBb:B<=b) (hB:B<=w.heap.size) (hn:m.1.length<=30000):
  Calls prog 40 #[.pointer (some ⟨b,0,none⟩),.int .i64 at_,.agg #[.int .i64 p.off,.int .i64 p.save,.string p.abbr]] w fun e w'=>e= .returned (.tuple #[])/\Mo B b nm first till tv off fm (putP first till m at_ p) w'/\KeptS B b w w':=by
 have hblt:b<w.heap.size:=by obtain ⟨v,h1,_⟩:=h;exact h1.lt
 have hone:=One.new w 30 #[.int .i64 p.off,.int .i64 p.save,.string p.abbr];have hM:=h.step ((Below.refl w.heap.size w).alloc (Nat.le_refl _) (.cells #[.int .i64 p.off,.int .i64 p.save,.string p.abbr] 30));have hK:KeptS B b w (w.alloc (.cells #[.int .i64 p.off,.int .i64 p.save,.string p.abbr] 30)):=(KeptS.refl B b w).alloc hB _;obtain ⟨W,hW⟩:∃ W,w.alloc (.cells #[.int .i64 p.off,.int .i64 p.save,.string p.abbr] 30)=W:=⟨_,rfl⟩;rw [hW] at hone hM hK;obtain ⟨ss,over⟩:=m;obtain ⟨p0,p1,p2⟩:=p;simp only [putP] at hn hone hM hK ⊢;have hbx:=hone.1;have hcs:=cut_cases at_ ss;obtain ⟨v,hb,ho⟩:=hM;obtain ⟨A,cp,rfl⟩:=own_sl ho;obtain ⟨C,hC⟩:∃ C,cutAt at_ ss=C:=⟨_,rfl⟩;rw [hC] at hcs ⊢;clear hC
 obtain ⟨Q,hQ⟩:∃ Q,(if till<=at_\/(⟨p0,p1,p2⟩:Phase)=lastPh first C then (C,over) else if over=true\/C.length=30000 then (C,true) else (C++[⟨at_,⟨p0,p1,p2⟩⟩],over))=Q:=⟨_,rfl⟩
 rw [hQ];have HQ:=hid hQ;clear hQ h
 have hCn:C.length<=30000:=by rcases hcs with ⟨rfl,hcx⟩|⟨l,s,rfl,_,hcx⟩|⟨l,s,rfl,_,hcx⟩<;>rw [hcx]<;>simp at hn ⊢<;>omega
 rcases hcs with ⟨rfl,hcs⟩|⟨l,s,rfl,hne,hcs⟩|⟨l,s,rfl,heq,hcs⟩
 ·simp only [List.length_nil] at hb ho
  have c0:=hb.cell;have d0:=hbx.cell;simp only [MoV] at c0;have HO:=hid ho;have HBx:=hid hbx;have HK:=hid hK;have HB:=hid hb;have HCn:=hid hCn;have HCe:=hid hcs;clear hcs ho hbx hK hb hone hCn hn;go_enter func40,ntmps40
  go_upto_if 28 with fail
  go_cut [6] (fun s6 wx=>s6= .int .i64 (C.length:Nat)/\Mo B b nm first till tv off fm (C,over) wx/\Blk wx w.heap.size 30 #[.int .i64 p0,.int .i64 p1,.string p2]/\KeptS B b w wx)
  case first=>
   go_wp2_with fail
   go_meet
   exact ⟨by rw [HCe.out];rfl,⟨_,HB.out,by rw [HCe.out];exact HO.out⟩,HBx.out,HK.out⟩
  case rest=>
   obtain ⟨rfl,⟨v2,hb2,ho2⟩,hbx2,hk2⟩:=hcut;obtain ⟨A2,cp2,rfl⟩:=own_sl ho2;have inst:Nonempty (Qt.In (Below wc.heap.size wc)):=⟨⟨_,Below.refl _ _⟩⟩
   have zc:∀ (z:Qt.In (Below wc.heap.size wc)) (i:Nat),z.w.cell? ⟨b,i,none⟩=#[Value.string nm,.int .i64 first.off,.int .i64 first.save,.string first.abbr,.slice A2 C.length cp2,.int .i64 till,tv,.int .i64 off,.string fm,.bool over][i]?:=fun z i=>(z.h.cell (p:=⟨b,i,none⟩) hb2.lt).trans (hb2.cell i)
   have zd:∀ (z:Qt.In (Below wc.heap.size wc)) (i:Nat),z.w.cell? ⟨w.heap.size,i,none⟩=#[Value.int .i64 p0,.int .i64 p1,.string p2][i]?:=fun z i=>(z.h.cell (p:=⟨w.heap.size,i,none⟩) hbx2.lt).trans (hbx2.cell i)
   have hla:∀ z,Below wc.heap.size wc z->Calls prog 85 #[.pointer (some ⟨b,0,none⟩)] z fun e z'=>e= .returned (.agg #[.int .i64 (lastPh first C).off,.int .i64 (lastPh first C).save,.string (lastPh first C).abbr])/\Below wc.heap.size wc z':=fun z hz=>(last_any B b nm first till tv off fm (C,over) z (Mo.step ⟨_,hb2,ho2⟩ hz) (Nat.le_trans HCn.out (by omega))).mono fun e z' ⟨he,hb⟩=>⟨he,hz.trans (hb.mono hz.size)⟩
   have HLa:=hid hla;have HO2:=hid ho2;have HB2:=hid hb2;have HK2:=hid hk2;have HX2:=hid hbx2;clear hla c0 d0 ho2 hb2 hk2 hbx2
   by_cases hta:till<=at_
   ·have htb:decide (till<=at_)=true:=decide_eq_true hta
    have hq:=HQ.out;rw [if_pos (.inl hta)] at hq;have HQ2:=hid hq;clear hta hq HQ
    go_wp2_with fail
    refine Qt.wp_region_cls (Below wc.heap.size wc) (by kernel_rfl) (by kernel_rfl) (below_dr (n:=1) (Below.refl _ _)) ?_
    repeat (go_big_quiet_step ((go_at_call 85;exact Qt.quiet_cls (HLa.out _ (Qt.In.h _)))))
    refine wpQuiet_nil ?_
    rintro wq ⟨⟨w9,hq⟩,e9⟩
    have HQq:Hid (Below wc.heap.size wc wq):=(show Below wc.heap.size wc wq by rw [e9];exact hq)
    clear hq e9 zc zd inst;go_wp2
    refine bodyPost_ret (results_none rfl _ _ _) rfl ?_
    exact ⟨rfl,by rw [<-HQ2.out];exact Mo.step ⟨_,HB2.out,HO2.out⟩ HQq.out,HK2.out.step hB HQq.out⟩
   ·have htb:decide (till<=at_)=false:=decide_eq_false hta
    have hq:=HQ.out
    generalize lastPh first C=q at*
    obtain ⟨q0,q1,q2⟩:=q;have he:=fun z=>Sam.eq_phase ⟨p0,p1,p2⟩ ⟨q0,q1,q2⟩ z;simp only [Phase.cells] at he
    by_cases hpq:(⟨p0,p1,p2⟩:Phase)=⟨q0,q1,q2⟩
    ·rw [if_pos (.inr hpq)] at hq
     rw [decide_eq_true hpq] at he;have HQ2:=hid hq;clear hta hq HQ hpq
     go_wp2_with fail
     refine Qt.wp_region_cls (Below wc.heap.size wc) (by kernel_rfl) (by kernel_rfl) (below_dr (n:=1) (Below.refl _ _)) ?_
     repeat (go_big_quiet_step ((go_at_call 85;exact Qt.quiet_cls (HLa.out _ (Qt.In.h _)))))
     refine wpQuiet_nil ?_
     rintro wq ⟨⟨w9,hq⟩,e9⟩
     have HQq:Hid (Below wc.heap.size wc wq):=(show Below wc.heap.size wc wq by rw [e9];exact hq)
     clear hq e9 zc zd inst;go_wp2
     refine bodyPost_ret (results_none rfl _ _ _) rfl ?_
     exact ⟨rfl,by rw [<-HQ2.out];exact Mo.step ⟨_,HB2.out,HO2.out⟩ HQq.out,HK2.out.step hB HQq.out⟩
    ·rw [if_neg (by rintro (h1|h1);exact hta h1;exact hpq h1)] at hq
     rw [decide_eq_false hpq] at he;have HQ2:=hid hq;clear hta hq HQ hpq
     go_wp2_with fail
     refine Qt.wp_region_cls (Below wc.heap.size wc) (by kernel_rfl) (by kernel_rfl) (below_dr (n:=1) (Below.refl _ _)) ?_
     repeat (go_big_quiet_step ((go_at_call 85;exact Qt.quiet_cls (HLa.out _ (Qt.In.h _)))))
     refine wpQuiet_nil ?_
     rintro wq ⟨⟨w9,hq⟩,e9⟩
     have HQq:Hid (Below wc.heap.size wc wq):=(show Below wc.heap.size wc wq by rw [e9];exact hq)
     clear hq e9 zc zd inst;have hq:=HQ2.out
     have hMq:=Mo.step (nm:=nm) (first:=first) (m:=(C,over)) ⟨_,HB2.out,HO2.out⟩ HQq.out
     have hKq:=HK2.out.step hB HQq.out;have hbq:=HB2.out.below HQq.out HB2.out.lt;have hoq:=HO2.out.kept (gr_of_below HQq.out) (own_none HO2.out);have hxq:=HX2.out.below HQq.out HX2.out.lt;have c3:=hbq.cell;have f3:=hbq.frozen;have d3:=hxq.cell;simp only [MoV] at c3;have HBq:=hid hbq;have HOq:=hid hoq;have HKq:=hid hKq;have HXq:=hid hxq;clear hMq hKq hbq hoq hxq he HQ2
     by_cases hov:over=true
     ·subst hov
      rw [if_pos (.inl rfl)] at hq;have HQ3:=hid hq;clear hq
      go_wp2_with fail
      go_end0
      exact ⟨rfl,by rw [<-HQ3.out];exact ⟨_,(mo_flag hBb true HBq.out HOq.out HKq.out).1,(mo_flag hBb true HBq.out HOq.out HKq.out).2.1⟩,(mo_flag hBb true HBq.out HOq.out HKq.out).2.2⟩
     ·have hov2:over=false:=by simpa using hov
      subst hov2
      by_cases hn3:C.length=30000
      ·rw [if_pos (.inr hn3)] at hq
       have HQ3:=hid hq
       have hn3b:((C.length:Int) == 30000)=true:=by rw [hn3];rfl
       clear hq hn3
       go_wp2_with fail
       go_end0
       exact ⟨rfl,by rw [<-HQ3.out];exact ⟨_,(mo_flag hBb true HBq.out HOq.out HKq.out).1,(mo_flag hBb true HBq.out HOq.out HKq.out).2.1⟩,(mo_flag hBb true HBq.out HOq.out HKq.out).2.2⟩
      ·rw [if_neg (by rintro (h1|h1);cases h1;exact hn3 h1)] at hq
       have HQ3:=hid hq
       have hn3b:((C.length:Int) == 30000)=false:=by rw [beq_eq_false_iff_ne];omega
       clear hq hn3;have hf:=mo_flag hBb false HBq.out HOq.out HKq.out
       have hx4:=HXq.out.far (p:=⟨b,9,none⟩) (by show w.heap.size≠b;omega) (.bool false)
       have hsz:=HQq.out.size;have hbl:=HK2.out.bel.size
       have m3:B<=(wq.setCell ⟨b,9,none⟩ (.bool false)).drew.heap.size:=by simp;omega
       have m1:C.length+1<=maxLen:=by have:=HCn.out;unfold maxLen;omega
       have m2:(C.length+1)*40<=140737488355328:=by have:=HCn.out;omega
       have M1:=hid m1;have M2:=hid m2;have M3:=hid m3;obtain ⟨i0,hi0,hz0,hz1,hz2⟩:=info_parts info_shift;clear m1 m2 m3 hsz hbl
       go_wp2_with fail
       obtain ⟨V,hV⟩:∃ V,wq.setCell ⟨b,9,none⟩ (.bool false)=V:=⟨_,rfl⟩;rw [hV] at hf hx4 M3 ⊢;obtain ⟨hb4,ho4,hk4⟩:=hf;have c4:=hb4.cell;have d4:=hx4.cell;have c4a:=fun o i=>(hb4.alloc o).cell i;simp only [MoV] at c4 c4a;have HB4:=hid hb4;have HO4:=hid ho4;have HK4:=hid hk4;clear hV c3 f3 d3 hb4 ho4 hk4 hx4
       go_region_law (refine step_append1 V.drew rfl (.tmp 77) (.tmp 81) 31 rfl B 97 i0 _ 4 40 underlying31 hi0 hz0 hz1 hz2 rfl (by decide) _ C.length (C.flatMap Shift.cells) (by simp [Act.eval]) HO4.out.drew (by simp [Act.eval]) rfl one_shift M1.out M2.out M3.out ?_;intro v' wB ho5 hg5;have hp:=mo_push hBb (HB4.out.drew.alloc _) (HO4.out.drew.alloc _) ho5 hg5 (HK4.out.drew.alloc hB _) (by have h:=M3.out;simp at h ⊢;omega);obtain ⟨gt,capt,rfl,_,_⟩:=ho5.form (Nat.succ_pos _);have hb5:=Blk.grown (HB4.out.drew.alloc _) hg5 (fun e=>own_blk_ne HO4.out HB4.out (by decide) e.symm);have c5:=hb5.cell;have f5:=hb5.frozen;simp only [MoV] at c5;have HP:=hid hp;clear hp ho5 hg5 hb5 c4 d4 c4a)
       all_goals
        go_wp2
        go_end0
        exact ⟨rfl,by rw [<-HQ3.out];exact ⟨_,HP.out.1,by simpa [Shift.cells] using HP.out.2.1⟩,HP.out.2.2⟩
 ·have hlen:(l++[s]).length=l.length+1:=by simp
  simp only at hb ho;rw [hlen] at hb ho;obtain ⟨g,cap,hA,hBg,hg⟩:=ho.form (Nat.succ_pos _);simp only [Value.slice.injEq,true_and] at hA;obtain ⟨rfl,rfl⟩:=hA
  have hcell:W.cell? ⟨g,l.length*4+0,none⟩=s.cells[0]?:=by
   rw [ho.cellAt _ (by rw [Nat.succ_mul];omega),flat_get Shift.cells 4 Shift.cells_length _ l.length 0 (by omega),List.getElem?_append_right (Nat.le_refl _),Nat.sub_self]
   rfl
  obtain ⟨s0,⟨s1,s2,s3⟩⟩:=s
  simp only [Shift.cells,List.getElem?_cons_zero,Nat.add_zero] at hcell hne
  have hneb:(s0 == at_)=false:=by simpa using hne
  have hln:l.length<=30000:=by rw [hlen] at hn;omega
  have c0:=hb.cell;have d0:=hbx.cell;simp only [MoV] at c0;have HO:=hid ho;have HBx:=hid hbx;have HK:=hid hK;have HB:=hid hb;have HCn:=hid hCn;have HCe:=hid hcs;clear hcs ho hbx hK hb hone hCn hn hne;go_enter func40,ntmps40
  go_upto_if 28 with fail
  go_cut [6] (fun s6 wx=>s6= .int .i64 (C.length:Nat)/\Mo B b nm first till tv off fm (C,over) wx/\Blk wx w.heap.size 30 #[.int .i64 p0,.int .i64 p1,.string p2]/\KeptS B b w wx)
  case first=>
   go_wp2_with fail
   go_meet
   exact ⟨by rw [HCe.out,List.length_append];rfl,⟨_,HB.out,by rw [HCe.out,List.length_append];exact HO.out⟩,HBx.out,HK.out⟩
  case rest=>
   obtain ⟨rfl,⟨v2,hb2,ho2⟩,hbx2,hk2⟩:=hcut;obtain ⟨A2,cp2,rfl⟩:=own_sl ho2;have inst:Nonempty (Qt.In (Below wc.heap.size wc)):=⟨⟨_,Below.refl _ _⟩⟩
   have zc:∀ (z:Qt.In (Below wc.heap.size wc)) (i:Nat),z.w.cell? ⟨b,i,none⟩=#[Value.string nm,.int .i64 first.off,.int .i64 first.save,.string first.abbr,.slice A2 C.length cp2,.int .i64 till,tv,.int .i64 off,.string fm,.bool over][i]?:=fun z i=>(z.h.cell (p:=⟨b,i,none⟩) hb2.lt).trans (hb2.cell i)
   have zd:∀ (z:Qt.In (Below wc.heap.size wc)) (i:Nat),z.w.cell? ⟨w.heap.size,i,none⟩=#[Value.int .i64 p0,.int .i64 p1,.string p2][i]?:=fun z i=>(z.h.cell (p:=⟨w.heap.size,i,none⟩) hbx2.lt).trans (hbx2.cell i)
   have hla:∀ z,Below wc.heap.size wc z->Calls prog 85 #[.pointer (some ⟨b,0,none⟩)] z fun e z'=>e= .returned (.agg #[.int .i64 (lastPh first C).off,.int .i64 (lastPh first C).save,.string (lastPh first C).abbr])/\Below wc.heap.size wc z':=fun z hz=>(last_any B b nm first till tv off fm (C,over) z (Mo.step ⟨_,hb2,ho2⟩ hz) (Nat.le_trans HCn.out (by omega))).mono fun e z' ⟨he,hb⟩=>⟨he,hz.trans (hb.mono hz.size)⟩
   have HLa:=hid hla;have HO2:=hid ho2;have HB2:=hid hb2;have HK2:=hid hk2;have HX2:=hid hbx2;clear hla c0 d0 ho2 hb2 hk2 hbx2
   by_cases hta:till<=at_
   ·have htb:decide (till<=at_)=true:=decide_eq_true hta
    have hq:=HQ.out;rw [if_pos (.inl hta)] at hq;have HQ2:=hid hq;clear hta hq HQ
    go_wp2_with fail
    refine Qt.wp_region_cls (Below wc.heap.size wc) (by kernel_rfl) (by kernel_rfl) (below_dr (n:=1) (Below.refl _ _)) ?_
    repeat (go_big_quiet_step ((go_at_call 85;exact Qt.quiet_cls (HLa.out _ (Qt.In.h _)))))
    refine wpQuiet_nil ?_
    rintro wq ⟨⟨w9,hq⟩,e9⟩
    have HQq:Hid (Below wc.heap.size wc wq):=(show Below wc.heap.size wc wq by rw [e9];exact hq)
    clear hq e9 zc zd inst;go_wp2
    refine bodyPost_ret (results_none rfl _ _ _) rfl ?_
    exact ⟨rfl,by rw [<-HQ2.out];exact Mo.step ⟨_,HB2.out,HO2.out⟩ HQq.out,HK2.out.step hB HQq.out⟩
   ·have htb:decide (till<=at_)=false:=decide_eq_false hta
    have hq:=HQ.out
    generalize lastPh first C=q at*
    obtain ⟨q0,q1,q2⟩:=q;have he:=fun z=>Sam.eq_phase ⟨p0,p1,p2⟩ ⟨q0,q1,q2⟩ z;simp only [Phase.cells] at he
    by_cases hpq:(⟨p0,p1,p2⟩:Phase)=⟨q0,q1,q2⟩
    ·rw [if_pos (.inr hpq)] at hq
     rw [decide_eq_true hpq] at he;have HQ2:=hid hq;clear hta hq HQ hpq
     go_wp2_with fail
     refine Qt.wp_region_cls (Below wc.heap.size wc) (by kernel_rfl) (by kernel_rfl) (below_dr (n:=1) (Below.refl _ _)) ?_
     repeat (go_big_quiet_step ((go_at_call 85;exact Qt.quiet_cls (HLa.out _ (Qt.In.h _)))))
     refine wpQuiet_nil ?_
     rintro wq ⟨⟨w9,hq⟩,e9⟩
     have HQq:Hid (Below wc.heap.size wc wq):=(show Below wc.heap.size wc wq by rw [e9];exact hq)
     clear hq e9 zc zd inst;go_wp2
     refine bodyPost_ret (results_none rfl _ _ _) rfl ?_
     exact ⟨rfl,by rw [<-HQ2.out];exact Mo.step ⟨_,HB2.out,HO2.out⟩ HQq.out,HK2.out.step hB HQq.out⟩
    ·rw [if_neg (by rintro (h1|h1);exact hta h1;exact hpq h1)] at hq
     rw [decide_eq_false hpq] at he;have HQ2:=hid hq;clear hta hq HQ hpq
     go_wp2_with fail
     refine Qt.wp_region_cls (Below wc.heap.size wc) (by kernel_rfl) (by kernel_rfl) (below_dr (n:=1) (Below.refl _ _)) ?_
     repeat (go_big_quiet_step ((go_at_call 85;exact Qt.quiet_cls (HLa.out _ (Qt.In.h _)))))
     refine wpQuiet_nil ?_
     rintro wq ⟨⟨w9,hq⟩,e9⟩
     have HQq:Hid (Below wc.heap.size wc wq):=(show Below wc.heap.size wc wq by rw [e9];exact hq)
     clear hq e9 zc zd inst;have hq:=HQ2.out
     have hMq:=Mo.step (nm:=nm) (first:=first) (m:=(C,over)) ⟨_,HB2.out,HO2.out⟩ HQq.out
     have hKq:=HK2.out.step hB HQq.out;have hbq:=HB2.out.below HQq.out HB2.out.lt;have hoq:=HO2.out.kept (gr_of_below HQq.out) (own_none HO2.out);have hxq:=HX2.out.below HQq.out HX2.out.lt;have c3:=hbq.cell;have f3:=hbq.frozen;have d3:=hxq.cell;simp only [MoV] at c3;have HBq:=hid hbq;have HOq:=hid hoq;have HKq:=hid hKq;have HXq:=hid hxq;clear hMq hKq hbq hoq hxq he HQ2
     by_cases hov:over=true
     ·subst hov
      rw [if_pos (.inl rfl)] at hq;have HQ3:=hid hq;clear hq
      go_wp2_with fail
      go_end0
      exact ⟨rfl,by rw [<-HQ3.out];exact ⟨_,(mo_flag hBb true HBq.out HOq.out HKq.out).1,(mo_flag hBb true HBq.out HOq.out HKq.out).2.1⟩,(mo_flag hBb true HBq.out HOq.out HKq.out).2.2⟩
     ·have hov2:over=false:=by simpa using hov
      subst hov2
      by_cases hn3:C.length=30000
      ·rw [if_pos (.inr hn3)] at hq
       have HQ3:=hid hq
       have hn3b:((C.length:Int) == 30000)=true:=by rw [hn3];rfl
       clear hq hn3
       go_wp2_with fail
       go_end0
       exact ⟨rfl,by rw [<-HQ3.out];exact ⟨_,(mo_flag hBb true HBq.out HOq.out HKq.out).1,(mo_flag hBb true HBq.out HOq.out HKq.out).2.1⟩,(mo_flag hBb true HBq.out HOq.out HKq.out).2.2⟩
      ·rw [if_neg (by rintro (h1|h1);cases h1;exact hn3 h1)] at hq
       have HQ3:=hid hq
       have hn3b:((C.length:Int) == 30000)=false:=by rw [beq_eq_false_iff_ne];omega
       clear hq hn3;have hf:=mo_flag hBb false HBq.out HOq.out HKq.out
       have hx4:=HXq.out.far (p:=⟨b,9,none⟩) (by show w.heap.size≠b;omega) (.bool false)
       have hsz:=HQq.out.size;have hbl:=HK2.out.bel.size
       have m3:B<=(wq.setCell ⟨b,9,none⟩ (.bool false)).drew.heap.size:=by simp;omega
       have m1:C.length+1<=maxLen:=by have:=HCn.out;unfold maxLen;omega
       have m2:(C.length+1)*40<=140737488355328:=by have:=HCn.out;omega
       have M1:=hid m1;have M2:=hid m2;have M3:=hid m3;obtain ⟨i0,hi0,hz0,hz1,hz2⟩:=info_parts info_shift;clear m1 m2 m3 hsz hbl
       go_wp2_with fail
       obtain ⟨V,hV⟩:∃ V,wq.setCell ⟨b,9,none⟩ (.bool false)=V:=⟨_,rfl⟩;rw [hV] at hf hx4 M3 ⊢;obtain ⟨hb4,ho4,hk4⟩:=hf;have c4:=hb4.cell;have d4:=hx4.cell;have c4a:=fun o i=>(hb4.alloc o).cell i;simp only [MoV] at c4 c4a;have HB4:=hid hb4;have HO4:=hid ho4;have HK4:=hid hk4;clear hV c3 f3 d3 hb4 ho4 hk4 hx4
       go_region_law (refine step_append1 V.drew rfl (.tmp 77) (.tmp 81) 31 rfl B 97 i0 _ 4 40 underlying31 hi0 hz0 hz1 hz2 rfl (by decide) _ C.length (C.flatMap Shift.cells) (by simp [Act.eval]) HO4.out.drew (by simp [Act.eval]) rfl one_shift M1.out M2.out M3.out ?_;intro v' wB ho5 hg5;have hp:=mo_push hBb (HB4.out.drew.alloc _) (HO4.out.drew.alloc _) ho5 hg5 (HK4.out.drew.alloc hB _) (by have h:=M3.out;simp at h ⊢;omega);obtain ⟨gt,capt,rfl,_,_⟩:=ho5.form (Nat.succ_pos _);have hb5:=Blk.grown (HB4.out.drew.alloc _) hg5 (fun e=>own_blk_ne HO4.out HB4.out (by decide) e.symm);have c5:=hb5.cell;have f5:=hb5.frozen;simp only [MoV] at c5;have HP:=hid hp;clear hp ho5 hg5 hb5 c4 d4 c4a)
       all_goals
        go_wp2
        go_end0
        exact ⟨rfl,by rw [<-HQ3.out];exact ⟨_,HP.out.1,by simpa [Shift.cells] using HP.out.2.1⟩,HP.out.2.2⟩
 ·have hlen:(l++[s]).length=l.length+1:=by simp
  simp only at hb ho;rw [hlen] at hb ho;obtain ⟨g,cap,hA,hBg,hg⟩:=ho.form (Nat.succ_pos _);simp only [Value.slice.injEq,true_and] at hA;obtain ⟨rfl,rfl⟩:=hA
  have hcell:W.cell? ⟨g,l.length*4+0,none⟩=s.cells[0]?:=by
   rw [ho.cellAt _ (by rw [Nat.succ_mul];omega),flat_get Shift.cells 4 Shift.cells_length _ l.length 0 (by omega),List.getElem?_append_right (Nat.le_refl _),Nat.sub_self]
   rfl
  have hcap:=own_cap ho
  have hne:=own_blk_ne ho hb (by decide)
  have ho2:=ownsRow_setCell_other (own_take ho (Nat.le_succ l.length)) (a:=⟨b,4,none⟩) hne (.slice (some ⟨g,0,none⟩) l.length cp);rw [List.flatMap_append,<-shift_len4 l,List.take_left' rfl] at ho2;have hb2:=hb.set_ 4 (.slice (some ⟨g,0,none⟩) l.length cp);simp only [MoV,List.setIfInBounds_toArray,List.set_cons_succ,List.set_cons_zero] at hb2
  have hbx2:=hbx.far (p:=⟨b,4,none⟩) (by show w.heap.size≠b;omega) (.slice (some ⟨g,0,none⟩) l.length cp)
  have hK2:=hK.setCell hBb 4 (.slice (some ⟨g,0,none⟩) l.length cp);obtain ⟨s0,⟨s1,s2,s3⟩⟩:=s
  simp only [Shift.cells,List.getElem?_cons_zero,Nat.add_zero] at hcell heq
  have heqb:(s0 == at_)=true:=by simpa using heq
  have hln:l.length<=30000:=by rw [hlen] at hn;omega
  have c0:=hb.cell;have f0:=hb.frozen;have d0:=hbx.cell;simp only [MoV] at c0;have HO:=hid ho2;have HBx:=hid hbx2;have HK:=hid hK2;have HB:=hid hb2;have HCn:=hid hCn;have HCe:=hid hcs;clear hcs ho hbx hK hb hone hCn hn heq ho2 hbx2 hK2 hb2 hne;go_enter func40,ntmps40
  go_upto_if 28 with fail
  go_cut [6] (fun s6 wx=>s6= .int .i64 (C.length:Nat)/\Mo B b nm first till tv off fm (C,over) wx/\Blk wx w.heap.size 30 #[.int .i64 p0,.int .i64 p1,.string p2]/\KeptS B b w wx)
  case first=>
   go_wp2_with fail
   go_meet
   exact ⟨by rw [HCe.out],⟨_,by rw [HCe.out];exact HB.out,by rw [HCe.out];exact HO.out⟩,HBx.out,HK.out⟩
  case rest=>
   obtain ⟨rfl,⟨v2,hb2,ho2⟩,hbx2,hk2⟩:=hcut;obtain ⟨A2,cp2,rfl⟩:=own_sl ho2;have inst:Nonempty (Qt.In (Below wc.heap.size wc)):=⟨⟨_,Below.refl _ _⟩⟩
   have zc:∀ (z:Qt.In (Below wc.heap.size wc)) (i:Nat),z.w.cell? ⟨b,i,none⟩=#[Value.string nm,.int .i64 first.off,.int .i64 first.save,.string first.abbr,.slice A2 C.length cp2,.int .i64 till,tv,.int .i64 off,.string fm,.bool over][i]?:=fun z i=>(z.h.cell (p:=⟨b,i,none⟩) hb2.lt).trans (hb2.cell i)
   have zd:∀ (z:Qt.In (Below wc.heap.size wc)) (i:Nat),z.w.cell? ⟨w.heap.size,i,none⟩=#[Value.int .i64 p0,.int .i64 p1,.string p2][i]?:=fun z i=>(z.h.cell (p:=⟨w.heap.size,i,none⟩) hbx2.lt).trans (hbx2.cell i)
   have hla:∀ z,Below wc.heap.size wc z->Calls prog 85 #[.pointer (some ⟨b,0,none⟩)] z fun e z'=>e= .returned (.agg #[.int .i64 (lastPh first C).off,.int .i64 (lastPh first C).save,.string (lastPh first C).abbr])/\Below wc.heap.size wc z':=fun z hz=>(last_any B b nm first till tv off fm (C,over) z (Mo.step ⟨_,hb2,ho2⟩ hz) (Nat.le_trans HCn.out (by omega))).mono fun e z' ⟨he,hb⟩=>⟨he,hz.trans (hb.mono hz.size)⟩
   have HLa:=hid hla;have HO2:=hid ho2;have HB2:=hid hb2;have HK2:=hid hk2;have HX2:=hid hbx2;clear hla c0 d0 ho2 hb2 hk2 hbx2
   by_cases hta:till<=at_
   ·have htb:decide (till<=at_)=true:=decide_eq_true hta
    have hq:=HQ.out;rw [if_pos (.inl hta)] at hq;have HQ2:=hid hq;clear hta hq HQ
    go_wp2_with fail
    refine Qt.wp_region_cls (Below wc.heap.size wc) (by kernel_rfl) (by kernel_rfl) (below_dr (n:=1) (Below.refl _ _)) ?_
    repeat (go_big_quiet_step ((go_at_call 85;exact Qt.quiet_cls (HLa.out _ (Qt.In.h _)))))
    refine wpQuiet_nil ?_
    rintro wq ⟨⟨w9,hq⟩,e9⟩
    have HQq:Hid (Below wc.heap.size wc wq):=(show Below wc.heap.size wc wq by rw [e9];exact hq)
    clear hq e9 zc zd inst;go_wp2
    refine bodyPost_ret (results_none rfl _ _ _) rfl ?_
    exact ⟨rfl,by rw [<-HQ2.out];exact Mo.step ⟨_,HB2.out,HO2.out⟩ HQq.out,HK2.out.step hB HQq.out⟩
   ·have htb:decide (till<=at_)=false:=decide_eq_false hta
    have hq:=HQ.out
    generalize lastPh first C=q at*
    obtain ⟨q0,q1,q2⟩:=q;have he:=fun z=>Sam.eq_phase ⟨p0,p1,p2⟩ ⟨q0,q1,q2⟩ z;simp only [Phase.cells] at he
    by_cases hpq:(⟨p0,p1,p2⟩:Phase)=⟨q0,q1,q2⟩
    ·rw [if_pos (.inr hpq)] at hq
     rw [decide_eq_true hpq] at he;have HQ2:=hid hq;clear hta hq HQ hpq
     go_wp2_with fail
     refine Qt.wp_region_cls (Below wc.heap.size wc) (by kernel_rfl) (by kernel_rfl) (below_dr (n:=1) (Below.refl _ _)) ?_
     repeat (go_big_quiet_step ((go_at_call 85;exact Qt.quiet_cls (HLa.out _ (Qt.In.h _)))))
     refine wpQuiet_nil ?_
     rintro wq ⟨⟨w9,hq⟩,e9⟩
     have HQq:Hid (Below wc.heap.size wc wq):=(show Below wc.heap.size wc wq by rw [e9];exact hq)
     clear hq e9 zc zd inst;go_wp2
     refine bodyPost_ret (results_none rfl _ _ _) rfl ?_
     exact ⟨rfl,by rw [<-HQ2.out];exact Mo.step ⟨_,HB2.out,HO2.out⟩ HQq.out,HK2.out.step hB HQq.out⟩
    ·rw [if_neg (by rintro (h1|h1);exact hta h1;exact hpq h1)] at hq
     rw [decide_eq_false hpq] at he;have HQ2:=hid hq;clear hta hq HQ hpq
     go_wp2_with fail
     refine Qt.wp_region_cls (Below wc.heap.size wc) (by kernel_rfl) (by kernel_rfl) (below_dr (n:=1) (Below.refl _ _)) ?_
     repeat (go_big_quiet_step ((go_at_call 85;exact Qt.quiet_cls (HLa.out _ (Qt.In.h _)))))
     refine wpQuiet_nil ?_
     rintro wq ⟨⟨w9,hq⟩,e9⟩
     have HQq:Hid (Below wc.heap.size wc wq):=(show Below wc.heap.size wc wq by rw [e9];exact hq)
     clear hq e9 zc zd inst;have hq:=HQ2.out
     have hMq:=Mo.step (nm:=nm) (first:=first) (m:=(C,over)) ⟨_,HB2.out,HO2.out⟩ HQq.out
     have hKq:=HK2.out.step hB HQq.out;have hbq:=HB2.out.below HQq.out HB2.out.lt;have hoq:=HO2.out.kept (gr_of_below HQq.out) (own_none HO2.out);have hxq:=HX2.out.below HQq.out HX2.out.lt;have c3:=hbq.cell;have f3:=hbq.frozen;have d3:=hxq.cell;simp only [MoV] at c3;have HBq:=hid hbq;have HOq:=hid hoq;have HKq:=hid hKq;have HXq:=hid hxq;clear hMq hKq hbq hoq hxq he HQ2
     by_cases hov:over=true
     ·subst hov
      rw [if_pos (.inl rfl)] at hq;have HQ3:=hid hq;clear hq
      go_wp2_with fail
      go_end0
      exact ⟨rfl,by rw [<-HQ3.out];exact ⟨_,(mo_flag hBb true HBq.out HOq.out HKq.out).1,(mo_flag hBb true HBq.out HOq.out HKq.out).2.1⟩,(mo_flag hBb true HBq.out HOq.out HKq.out).2.2⟩
     ·have hov2:over=false:=by simpa using hov
      subst hov2
      by_cases hn3:C.length=30000
      ·rw [if_pos (.inr hn3)] at hq
       have HQ3:=hid hq
       have hn3b:((C.length:Int) == 30000)=true:=by rw [hn3];rfl
       clear hq hn3
       go_wp2_with fail
       go_end0
       exact ⟨rfl,by rw [<-HQ3.out];exact ⟨_,(mo_flag hBb true HBq.out HOq.out HKq.out).1,(mo_flag hBb true HBq.out HOq.out HKq.out).2.1⟩,(mo_flag hBb true HBq.out HOq.out HKq.out).2.2⟩
      ·rw [if_neg (by rintro (h1|h1);cases h1;exact hn3 h1)] at hq
       have HQ3:=hid hq
       have hn3b:((C.length:Int) == 30000)=false:=by rw [beq_eq_false_iff_ne];omega
       clear hq hn3;have hf:=mo_flag hBb false HBq.out HOq.out HKq.out
       have hx4:=HXq.out.far (p:=⟨b,9,none⟩) (by show w.heap.size≠b;omega) (.bool false)
       have hsz:=HQq.out.size;have hbl:=HK2.out.bel.size
       have m3:B<=(wq.setCell ⟨b,9,none⟩ (.bool false)).drew.heap.size:=by simp;omega
       have m1:C.length+1<=maxLen:=by have:=HCn.out;unfold maxLen;omega
       have m2:(C.length+1)*40<=140737488355328:=by have:=HCn.out;omega
       have M1:=hid m1;have M2:=hid m2;have M3:=hid m3;obtain ⟨i0,hi0,hz0,hz1,hz2⟩:=info_parts info_shift;clear m1 m2 m3 hsz hbl
       go_wp2_with fail
       obtain ⟨V,hV⟩:∃ V,wq.setCell ⟨b,9,none⟩ (.bool false)=V:=⟨_,rfl⟩;rw [hV] at hf hx4 M3 ⊢;obtain ⟨hb4,ho4,hk4⟩:=hf;have c4:=hb4.cell;have d4:=hx4.cell;have c4a:=fun o i=>(hb4.alloc o).cell i;simp only [MoV] at c4 c4a;have HB4:=hid hb4;have HO4:=hid ho4;have HK4:=hid hk4;clear hV c3 f3 d3 hb4 ho4 hk4 hx4
       go_region_law (refine step_append1 V.drew rfl (.tmp 77) (.tmp 81) 31 rfl B 97 i0 _ 4 40 underlying31 hi0 hz0 hz1 hz2 rfl (by decide) _ C.length (C.flatMap Shift.cells) (by simp [Act.eval]) HO4.out.drew (by simp [Act.eval]) rfl one_shift M1.out M2.out M3.out ?_;intro v' wB ho5 hg5;have hp:=mo_push hBb (HB4.out.drew.alloc _) (HO4.out.drew.alloc _) ho5 hg5 (HK4.out.drew.alloc hB _) (by have h:=M3.out;simp at h ⊢;omega);obtain ⟨gt,capt,rfl,_,_⟩:=ho5.form (Nat.succ_pos _);have hb5:=Blk.grown (HB4.out.drew.alloc _) hg5 (fun e=>own_blk_ne HO4.out HB4.out (by decide) e.symm);have c5:=hb5.cell;have f5:=hb5.frozen;simp only [MoV] at c5;have HP:=hid hp;clear hp ho5 hg5 hb5 c4 d4 c4a)
       all_goals
        go_wp2
        go_end0
        exact ⟨rfl,by rw [<-HQ3.out];exact ⟨_,HP.out.1,by simpa [Shift.cells] using HP.out.2.1⟩,HP.out.2.2⟩
end Cmq
end
end
section
section
namespace Cmq
open Go.RowKit Mem Civ Mom Img Rul Ahd Trn Src Snd Att Rgt Abr
theorem lastE_fold (rs:List Rule) (es:List Era) (k:Nat) (hk:k<es.length) (y:Int):(es.take (k+1)).foldl (lastE rs) y=lastE rs ((es.take k).foldl (lastE rs) y) es[k]:=by
 rw [List.take_succ_eq_append_getElem hk,List.foldl_append]
 rfl
theorem lastY_fold (l:List Rule) (k:Nat) (hk:k<l.length) (y:Int):(l.take (k+1)).foldl lastY1 y=lastY1 ((l.take k).foldl lastY1 y) l[k]:=by
 rw [List.take_succ_eq_append_getElem hk,List.foldl_append]
 rfl
theorem tlast_any (s:Src) (A A2 A3:Option Addr) (c c2 c3:Nat) (z:ZoneM) (w:World) (h:SrcOk s A A2 A3 w) (hz:z∈s.zones):
  Calls prog 36 #[.agg #[.slice A s.rules.length c,.slice A2 s.zones.length c2,.slice A3 s.links.length c3],.agg #[.string z.name,.slice z.A z.eras.length z.c]] w fun e w'=>
   e= .returned (.int .i64 (lastZ s.rules z.eras))/\Below w.heap.size w w':=by
 have hE:=fun nm zz (hb:Below w.heap.size w zz)=>eset_any s A A2 A3 c c2 c3 nm zz (h.below hb);have hre:=h.re z hz;have hne:=h.ne z hz;have hnr:=h.nr;clear h hz;obtain ⟨Q,hQ⟩:∃ Q,lastZ s.rules z.eras=Q:=⟨_,rfl⟩;rw [hQ];unfold lastZ at hQ;obtain ⟨rs,zs,ls⟩:=s;obtain ⟨nm,es,B,cz⟩:=z;simp only at hE hre hne hQ hnr ⊢;have hb2:=box2 w 26 65 #[.slice A rs.length c,.slice A2 zs.length c2,.slice A3 ls.length c3] #[.string nm,.slice B es.length cz];obtain ⟨W,hW⟩:∃ W,(w.alloc (.cells #[.slice A rs.length c,.slice A2 zs.length c2,.slice A3 ls.length c3] 26)).alloc (.cells #[.string nm,.slice B es.length cz] 65)=W:=⟨_,rfl⟩;rw [hW] at hb2;obtain ⟨b0,b1,hbw,hsz⟩:=hb2;have HB0:=hid b0;have HBw:=hid hbw;have HE:=hid hE;have HRe:=hid hre;have HQ:=hid hQ;have c1:=b1.cell;have hslt:=b0.lt;clear b0 b1 hbw hE hre hQ;go_enter func36,ntmps36
 go_wp2_with fail
 go_loopw [5,13] (fun y i wr=>∃ k:Nat,k<=es.length/\i= .int .i64 k/\y= .int .i64 ((es.take k).foldl (lastE rs) 2037)/\Below w.heap.size w wr/\Blk wr w.heap.size 26 #[.slice A rs.length c,.slice A2 zs.length c2,.slice A3 ls.length c3]) (fun _ i _=>es.length - (intOf i).toNat)
 case atStart=>exact ⟨0,Nat.zero_le _,rfl,rfl,HBw.out,HB0.out⟩
 case round=>
  clear HBw HB0 c1;obtain ⟨k,hk,rfl,rfl,hb,hs⟩:=hrel;have HB:=hid hb;have HS:=hid hs;have c0:=fun o i=>(hs.alloc o).cell i;clear hb hs
  by_cases hkn:k<es.length
  ·obtain ⟨ad,hA,hadb,a0,a1,a2,a3,a4,a5,a6,a7,a8,a9,a10,a11,a12⟩:=era_cells (HRe.out.below HB.out) hkn rfl
   subst hA;have hf:=lastE_fold rs es k hkn 2037;have HF:=hid hf;have HBs:=hid HB.out.size;clear hf;generalize (es.take k).foldl (lastE rs) 2037=y0 at*;generalize es[k]=x at*;obtain ⟨x0,x1,x2,x3,x4,x5,x6,⟨z0,z1,z2,z3,z4,z5⟩⟩:=x;simp only at a0 a1 a2 a3 a4 a5 a6 a7 a8 a9 a10 a11 a12
   go_wp2_with (go_at_call 41;refine (HE.out _ _ (HB.out.alloc HBs.out _)).mono ?_;rintro e w2 ⟨v,rfl,hown,hb⟩;have hs2:=(HS.out.alloc _).below hb (by have:=HS.out.lt;simp;omega);have HS2:=hid hs2;have HB2:=hid ((HB.out.alloc HBs.out _).trans (hb.mono (by have:=HBs.out;simp;omega)));obtain ⟨Av,cv,rfl⟩:=own_slice hown;have HRl:=hid (Reads.of_own hown);clear hown hb hs2 c0)
   obtain ⟨l,hl⟩:∃ l,setL rs x3=l:=⟨_,rfl⟩;obtain ⟨Y1,hY1⟩:∃ Y1,(es.take (k+1)).foldl (lastE rs) 2037=Y1:=⟨_,rfl⟩
   have hll:l.length<=1000000:=by rw [<-hl];exact Nat.le_trans (setL_len rs x3) hnr
   have hf:Y1=l.foldl lastY1 (max y0 x6):=by rw [<-hY1,HF.out,lastE,<-hl]
   rw [hl] at HRl;simp only [hl];have HF2:=hid hf;have HY1:=hid hY1;clear hf hl HF hY1;generalize max y0 x6=y1 at*
   go_loopw [5,26] (fun y i wz=>∃ j:Nat,j<=l.length/\i= .int .i64 j/\y= .int .i64 ((l.take j).foldl lastY1 y1)/\Below w2.heap.size w2 wz) (fun _ i _=>l.length - (intOf i).toNat)
   case atStart=>exact ⟨0,Nat.zero_le _,rfl,rfl,Below.refl _ _⟩
   case round=>
    obtain ⟨j,hj,rfl,rfl,hb⟩:=hrel;have HB3:=hid hb;clear hb
    by_cases hjn:j<l.length
    ·obtain ⟨ad2,hA2,hadb2,d0,d1,d2,d3,d4,d5,d6,d7,d8,d9,d10⟩:=rule_cells (HRl.out.below HB3.out) hjn
     subst hA2;have hg:=lastY_fold l j hjn y1;have HG:=hid hg;have HBz:=hid HB3.out.size;clear hg;generalize (l.take j).foldl lastY1 y1=y2 at*;generalize l[j]=r at*;obtain ⟨r0,r1,r2,r3,r4,r5,r6,r7,r8,r9,r10⟩:=r;simp only at d0 d1 d2 d3 d4 d5 d6 d7 d8 d9 d10
     by_cases h6:r2=1000000
     ·subst h6
      go_wp2_with fail
      exact ⟨⟨j+1,by omega,by go_num,by rw [HG.out];simp only [lastY1,if_pos],HB3.out.alloc HBz.out _⟩,by simp [intOf];omega⟩
     ·have h6b:(r2 == 1000000)=false:=by simp [h6]
      go_wp2_with fail
      exact ⟨⟨j+1,by omega,by go_num,by rw [HG.out];simp only [lastY1,if_neg h6];congr 1;omega,HB3.out.alloc HBz.out _⟩,by simp [intOf];omega⟩
    ·obtain rfl:j=l.length:=by omega
     rw [List.take_length,<-HF2.out];go_wp2
     exact ⟨⟨k+1,by omega,by go_num,by rw [HY1.out],HB2.out.trans (HB3.out.mono HB2.out.size),HS2.out.below HB3.out HS2.out.lt⟩,by simp [intOf];omega⟩
  ·obtain rfl:k=es.length:=by omega
   rw [List.take_length,HQ.out];go_wp2
   refine bodyPost_ret (v:= .int .i64 Q) (by simp [results,Tryz.results36,go_sem]) rfl ?_
   exact ⟨rfl,HB.out⟩
end Cmq
end
end
section
section
namespace Cmq
open Go.RowKit Mem Civ Mom Img Rul Ahd Trn Src Snd Att Rgt Abr
theorem erasPut_snoc (s:Src) (first:Phase) (till year:Int) (x:Era):∀ (l:List Era) (i:Bool) (m:(List Shift×Bool)×Int),
  erasPut s first till year (l++[x]) i m=eraPut s first till year (i || !l.isEmpty) (erasPut s first till year l i m) x
 |[],i,m=>by simp [erasPut]
 |y :: l,i,m=>by
  rw [List.cons_append];simp only [erasPut]
  rw [erasPut_snoc s first till year x l true]
  simp
theorem cutAt_len (a:Int) (l:List Shift):(cutAt a l).length<=l.length:=by
 unfold cutAt
 split
 ·split
  ·simp
  ·exact Nat.le_refl _
 ·exact Nat.le_refl _
theorem putP_len {first:Phase} {till:Int} {m:List Shift×Bool} (a:Int) (p:Phase) (h:m.1.length<=30000):(putP first till m a p).1.length<=30000:=by
 have hc:=cutAt_len a m.1;unfold putP
 split
 ·exact Nat.le_trans hc h
 ·split
  ·exact Nat.le_trans hc h
  ·next hn=>
   simp only [List.length_append,List.length_cons,List.length_nil];have:¬ (cutAt a m.1).length=30000:=fun e=>hn (.inr e);omega
theorem turnPut_len {first:Phase} {till:Int} {x:Era} {a b:Int} {m:List Shift×Bool} (t:TurnU) (h:m.1.length<=30000):(turnPut first till x a b m t).1.length<=30000:=by
 unfold turnPut
 split
 ·exact h
 ·exact putP_len _ _ h
theorem turns_len {first:Phase} {till:Int} {x:Era} {a b:Int}:∀ (l:List TurnU) (m:List Shift×Bool),m.1.length<=30000->(l.foldl (turnPut first till x a b) m).1.length<=30000
 |[],_,h=>h
 |t :: l,m,h=>turns_len l _ (turnPut_len t h)
theorem eraPut_len {s:Src} {first:Phase} {till year:Int} {i:Bool} {m:(List Shift×Bool)×Int} {x:Era} (h:m.1.1.length<=30000):(eraPut s first till year i m x).1.1.length<=30000:=by
 unfold eraPut
 refine turns_len _ _ ?_
 cases i
 ·exact h
 ·exact putP_len _ _ h
theorem erasPut_len {s:Src} {first:Phase} {till year:Int}:∀ (l:List Era) (i:Bool) (m:(List Shift×Bool)×Int),m.1.1.length<=30000->(erasPut s first till year l i m).1.1.length<=30000
 |[],_,_,h=>h
 |x :: l,i,m,h=>erasPut_len l true _ (eraPut_len h)
def erasK (s:Src) (first:Phase) (till year:Int) (es:List Era) (k:Nat):(List Shift×Bool)×Int:=erasPut s first till year (es.take k) false (([],false),everT)
theorem erasK_succ (s:Src) (first:Phase) (till year:Int) (es:List Era) (k:Nat) (hk:k<es.length):erasK s first till year es (k+1)=eraPut s first till year (decide (0<k)) (erasK s first till year es k) es[k]:=by
 unfold erasK;rw [List.take_succ_eq_append_getElem hk,erasPut_snoc]
 congr 1
 cases k with
 |zero=>simp
 |succ n=>
  cases es with
  |nil=>simp at hk
  |cons a t=>simp
theorem erasK_len (s:Src) (first:Phase) (till year:Int) (es:List Era) (k:Nat):(erasK s first till year es k).1.1.length<=30000:=erasPut_len _ _ _ (by simp)
end Cmq
end
end
end Go.Proofs.YtadamccojdocbaaGreatDoor
