/-
  Contracts of the code that the law reaches, and plain laws. Conditions: as each says.
-/
import Derived.Test.YtiiekaehbahenaaGreatDoorV09
set_option linter.all false
set_option maxHeartbeats 40000000
set_option maxRecDepth 100000
namespace Go.Proofs.YtiiekaehbahenaaGreatDoor
open Lib (hid)
open Tryz
section
namespace Gr
open Go.RowKit Mem Atl
theorem small_any (c:UInt8) (w:World):Calls prog 115 #[.int .u8 c.toNat] w fun e w'=>e= .returned (.bool (smallB c))/\w=w':=by
 unfold smallB
 cases h1:decide (97<=c.toNat)<;>cases h2:decide (c.toNat<=122)
 all_goals
  have i1:decide ((97:Int)<=(c.toNat:Int))=decide (97<=c.toNat):=by rw [Bool.eq_iff_iff];simp only [decide_eq_true_eq];omega
  have i2:decide ((c.toNat:Int)<=122)=decide (c.toNat<=122):=by rw [Bool.eq_iff_iff];simp only [decide_eq_true_eq];omega
  rw [h1] at i1;rw [h2] at i2;clear h1 h2;go_enter func115,ntmps115;go_wp2;go_ret;exact ⟨rfl,rfl⟩
theorem number_any (c:UInt8) (w:World):Calls prog 116 #[.int .u8 c.toNat] w fun e w'=>e= .returned (.bool (numB c))/\w=w':=by
 unfold numB
 cases h1:decide (48<=c.toNat)<;>cases h2:decide (c.toNat<=57)
 all_goals
  have i1:decide ((48:Int)<=(c.toNat:Int))=decide (48<=c.toNat):=by rw [Bool.eq_iff_iff];simp only [decide_eq_true_eq];omega
  have i2:decide ((c.toNat:Int)<=57)=decide (c.toNat<=57):=by rw [Bool.eq_iff_iff];simp only [decide_eq_true_eq];omega
  rw [h1] at i1;rw [h2] at i2;clear h1 h2;go_enter func116,ntmps116;go_wp2;go_ret;exact ⟨rfl,rfl⟩
theorem neq_byte (c d:UInt8):((c.toNat:Int) != (d.toNat:Int))= !(c == d):=by
 cases h:(c == d)
 ·rw [beq_eq_false_iff_ne] at h
  rw [Bool.not_false,bne_iff_ne];intro e
  exact h (UInt8.toNat_inj.1 (by omega))
 ·rw [beq_iff_eq] at h
  subst h;simp
def keyTo (l:Txt) (k:Nat):Bool:=match l.take k with|[]=>true|c :: r=>keyC true c && r.all (keyC false)
theorem keyTo_succ {l:Txt} {k:Nat} (hk:k<l.length) (h:keyTo l k=true) (hc:keyC (k == 0) l[k]=true):keyTo l (k+1)=true:=by
 cases l with
 |nil=>simp at hk
 |cons a r=>
  cases k with
  |zero=>simpa [keyTo] using hc
  |succ k=>
   simp only [keyTo,List.take_succ_cons,Bool.and_eq_true] at h ⊢
   refine ⟨h.1,?_⟩
   have hk2:k<r.length:=by simpa using hk
   rw [List.take_succ_eq_append_getElem hk2,List.all_append,h.2]
   simpa using hc
theorem keyB_no {l:Txt} {k:Nat} (hk:k<l.length) (hc:keyC (k == 0) l[k]=false):keyB l=false:=by
 cases l with
 |nil=>simp at hk
 |cons a r=>
  cases k with
  |zero=>
   have:keyC true a=false:=by simpa using hc
   simp [keyB,this]
  |succ k=>
   have hk2:k<r.length:=by simpa using hk
   have:r.all (keyC false)=false:=by
    rw [List.all_eq_false]
    exact ⟨r[k],List.getElem_mem hk2,by simpa using hc⟩
   simp [keyB,this]
theorem keyTo_all {l:Txt} (h:keyTo l l.length=true):keyB l= !l.isEmpty:=by
 rw [keyTo,List.take_length] at h
 cases l with
 |nil=>rfl
 |cons a r=>exact h
theorem isKey_any (s:ByteArray) (w:World) (hs:s.size<=2097152):
  Calls prog 85 #[.string s] w fun e w'=>e= .returned (.bool (keyB (tx s)))/\w'=w:=by
 go_enter func85,ntmps85
 go_wp2_with fail
 go_loopw [7] (fun i wr=>∃ k:Nat,k<=s.size/\i= .int .i64 k/\keyTo (tx s) k=true/\wr=w) (fun i _=>s.size - (intOf i).toNat)
 case atStart=>exact ⟨0,Nat.zero_le _,rfl,rfl,rfl⟩
 case round=>
  obtain ⟨k,hk,rfl,hall,rfl⟩:=hrel;have Hall:=hid hall;clear hall
  by_cases hkn:k<s.size
  ·have hlt:k<(tx s).length:=by simpa using hkn
   have hcx:(tx s)[k]=s[k]'hkn:=rfl;have Hsucc:=hid (fun h=>keyTo_succ hlt Hall.out h);have Hno:=hid (fun h=>keyB_no hlt h);rw [hcx] at Hsucc Hno;obtain ⟨c,hc⟩:∃ c,s[k]'hkn=c:=⟨_,rfl⟩;rw [hc] at Hsucc Hno
   have hi:(0:Int)<=(k:Int):=by omega
   have hj:(k:Int)<(s.size:Int):=by omega
   clear hcx;obtain ⟨ok,hok⟩:∃ ok,keyC (k == 0) c=ok:=⟨_,rfl⟩;have Hok:=hid hok;unfold keyC at hok;have hd1:=neq_byte c 95;have hd2:=neq_byte c 45;rw [show (((95:UInt8).toNat:Nat):Int)=95 from rfl] at hd1;rw [show (((45:UInt8).toNat:Nat):Int)=45 from rfl] at hd2
   have hd3:((k:Int) == 0)=(k == 0):=by rw [Bool.eq_iff_iff];simp only [beq_iff_eq];omega
   have H1:=hid (small_any c wr);have H2:=hid (number_any c wr);obtain ⟨b1,hb1⟩:∃ b,smallB c=b:=⟨_,rfl⟩;obtain ⟨b2,hb2⟩:∃ b,(c == 95)=b:=⟨_,rfl⟩;obtain ⟨b3,hb3⟩:∃ b,(k == 0)=b:=⟨_,rfl⟩;obtain ⟨b4,hb4⟩:∃ b,(c == 45)=b:=⟨_,rfl⟩;obtain ⟨b5,hb5⟩:∃ b,numB c=b:=⟨_,rfl⟩;rw [hb1] at H1;rw [hb5] at H2;rw [hb1,hb2,hb3,hb4,hb5] at hok;rw [hb2] at hd1;rw [hb4] at hd2;rw [hb3] at hd3;have Hb3:=hid hb3;clear hb1 hb2 hb4 hb5
   have hcase:(b1=true/\ok=true)\/(b1=false/\b2=true/\ok=true)\/(b1=false/\b2=false/\b3=true/\ok=false)\/(b1=false/\b2=false/\b3=false/\b4=true/\ok=true)\/(b1=false/\b2=false/\b3=false/\b4=false/\b5=true/\ok=true)\/(b1=false/\b2=false/\b3=false/\b4=false/\b5=false/\ok=false):=by
    revert hok
    cases b1<;>cases b2<;>cases b3<;>cases b4<;>cases b5<;>simp<;>intro h<;>exact h.symm
   clear hok
   rcases hcase with ⟨rfl,rfl⟩|⟨rfl,rfl,rfl⟩|⟨rfl,rfl,rfl,rfl⟩|⟨rfl,rfl,rfl,rfl,rfl⟩|⟨rfl,rfl,rfl,rfl,rfl,rfl⟩|⟨rfl,rfl,rfl,rfl,rfl,rfl⟩
   all_goals
    try simp only [Bool.not_true,Bool.not_false] at hd1 hd2
    have hb3:=Hb3.out
    go_wp2_with (first
     |(go_at_call 115;refine H1.out.mono ?_;rintro e w1 ⟨rfl,rfl⟩)
     |(go_at_call 116;refine H2.out.mono ?_;rintro e w1 ⟨rfl,rfl⟩))
   all_goals first
    |(refine ⟨⟨k+1,by omega,by go_num,Hsucc.out Hok.out,trivial⟩,by simp [intOf];omega⟩;done)
    |(go_ret;exact ⟨by rw [Hno.out Hok.out];rfl,rfl⟩)
  ·obtain rfl:k=s.size:=by omega
   have h2:=Hall.out
   rw [show s.size=(tx s).length from by simp] at h2
   have hemp:keyB (tx s)= !s.toList.isEmpty:=by rw [keyTo_all h2,ByteArray.toList_eq]
   have HE:=hid hemp;clear h2 Hall hemp
   cases h1:s.toList.isEmpty
   all_goals
    go_wp2;go_ret
    exact ⟨by rw [HE.out,h1];rfl,rfl⟩
def vparts (s:ByteArray):List ByteArray:=Lib.splitB ⟨#[45]⟩ 0 (Lib.countB s ⟨#[45]⟩) s
def valC (c:UInt8):Bool:=smallB (c ||| 32) || numB c
def valP (p:ByteArray):Bool:=(tx p).all valC && !(tx p).isEmpty
def valB (s:ByteArray):Bool:=(vparts s).all valP
theorem dash_pos:1<=(⟨#[45]⟩:ByteArray).size:=by decide
theorem or_byte (c:UInt8):bits .or .u8 (c.toNat:Int) 32=((c ||| 32).toNat:Int):=by
 show IntKind.u8.wrap ((BitVec.ofInt 8 (c.toNat:Int) ||| BitVec.ofInt 8 32).toNat:Int)=_
 have hc:=c.toNat_lt;rw [BitVec.toNat_or,BitVec.toNat_ofInt,BitVec.toNat_ofInt]
 have h1:((c.toNat:Int) % ((2 ^ 8:Nat):Int)).toNat=c.toNat:=by omega
 have h2:((32:Int) % ((2 ^ 8:Nat):Int)).toNat=32:=by decide
 have h3:c.toNat ||| 32<2 ^ 8:=Nat.or_lt_two_pow (by omega) (by decide)
 rw [h1,h2,UInt8.toNat_or,IntKind.wrap_u8]
 show ((c.toNat ||| 32:Nat):Int) % 256=((c.toNat ||| 32:Nat):Int)
 omega
theorem isValue_any (s:ByteArray) (m:Int) (w:World) (hs:s.size<=2097152) (hm:w.cell? ⟨1,0,none⟩=some (.int .i64 m)):
  Calls prog 86 #[.string s] w fun e w'=>e= .returned (.bool (valB s))/\Below w.heap.size w w':=by
 have hL:(vparts s).length=Lib.countB s ⟨#[45]⟩+1:=Lib.splitB_all _ dash_pos 0 _ s rfl;have hcnt:=Lib.countB_le ⟨#[45]⟩ dash_pos s.size s (Nat.le_refl _);have hsz:∀ p∈vparts s,p.size<=s.size:=Plc.parts_le _ _ _
 have HS:=hid (Tryz.strings_Split s ⟨#[45]⟩ m w (by omega) hm dash_pos)
 clear hm;go_enter func86,ntmps86
 go_wp2_with (go_at_call 117;refine HS.out.mono ?_;rintro e w1 ⟨rfl,hw1⟩;have Hblk:Hid (Blk w1 w.heap.size 9 ((vparts s).map Value.string).toArray):=(by rw [hw1];exact Blk.new w _ _);have Hbel:Hid (Below w.heap.size w w1):=(by rw [hw1];exact (Below.refl _ _).alloc (Nat.le_refl _) _);clear hw1)
 have HL:=hid hL;clear hL HS;generalize hc:Lib.countB s ⟨#[45]⟩=c at*
 go_loopw [10] (fun i wr=>∃ k:Nat,k<=c+1/\i= .int .i64 k/\((vparts s).take k).all valP=true/\wr=w1) (fun i _=>c+1 - (intOf i).toNat)
 case atStart=>exact ⟨0,Nat.zero_le _,rfl,rfl,rfl⟩
 case round=>
  obtain ⟨k,hk,rfl,hall,rfl⟩:=hrel;have Hall:=hid hall;clear hall
  by_cases hkn:k<c+1
  ·have hkl:k<(vparts s).length:=by rw [HL.out];exact hkn
   have hps:=hsz (vparts s)[k] (List.getElem_mem hkl)
   have hcell:wr.cell? (Addr.add ⟨w.heap.size,0,none⟩ k)=some (.string (vparts s)[k]):=by
    rw [show Addr.add ⟨w.heap.size,0,none⟩ k=⟨w.heap.size,k,none⟩ from by unfold Addr.add;split<;>simp_all,Hblk.out.cell k]
    simp [List.getElem?_eq_getElem hkl]
   have ad:Addr.add ⟨w.heap.size,0,none⟩ k=⟨w.heap.size,k,none⟩:=by unfold Addr.add;split<;>simp_all
   rw [ad] at hcell
   have Hno:=hid (fun h:valP (vparts s)[k]=false=>(by
    unfold valB;rw [List.all_eq_false]
    exact ⟨(vparts s)[k],List.getElem_mem hkl,by rw [h];decide⟩:valB s=false))
   have Hyes:=hid (fun h:valP (vparts s)[k]=true=>(by
    rw [List.take_succ_eq_append_getElem hkl,List.all_append,Hall.out]
    simp [h]:((vparts s).take (k+1)).all valP=true))
   generalize hp:(vparts s)[k]=p at*;clear hp
   have hps2:p.size<=2097152:=by omega
   have hkd:decide ((k:Int)<(c:Int)+1)=true:=decide_eq_true (by omega)
   go_wp2_with fail
   obtain ⟨wo,hwo⟩:∃ wo:World,wr=wo:=⟨_,rfl⟩;subst hwo
   go_loopw [16] (fun i wq=>∃ j:Nat,j<=p.size/\i= .int .i64 j/\((tx p).take j).all valC=true/\wq=wr) (fun i _=>p.size - (intOf i).toNat)
   case atStart=>exact ⟨0,Nat.zero_le _,rfl,rfl,rfl⟩
   case round=>
    obtain ⟨j,hj,rfl,hpre,rfl⟩:=hrel;have Hpre:=hid hpre;clear hpre
    by_cases hjn:j<p.size
    ·have hjl:j<(tx p).length:=by simpa using hjn
     have hcx:(tx p)[j]=p[j]'hjn:=rfl
     have Hnoj:=hid (fun h:valC (tx p)[j]=false=>(by
      have:(tx p).all valC=false:=by
       rw [List.all_eq_false]
       exact ⟨(tx p)[j],List.getElem_mem hjl,by rw [h];decide⟩
      exact Hno.out (by unfold valP;rw [this];rfl):valB s=false))
     have Hyj:=hid (fun h:valC (tx p)[j]=true=>(by
      rw [List.take_succ_eq_append_getElem hjl,List.all_append,Hpre.out,List.all_cons,List.all_nil,h]
      rfl:((tx p).take (j+1)).all valC=true))
     rw [hcx] at Hnoj Hyj;obtain ⟨d,hd⟩:∃ d,p[j]'hjn=d:=⟨_,rfl⟩;rw [hd] at Hnoj Hyj
     have hi:(0:Int)<=(j:Int):=by omega
     have hj2:(j:Int)<(p.size:Int):=by omega
     have ho:=or_byte d
     have H1:=hid (small_any (d ||| 32) wr)
     have H2:=hid (number_any d wr);unfold valC at Hnoj Hyj
     obtain ⟨b1,hb1⟩:∃ b,smallB (d ||| 32)=b:=⟨_,rfl⟩
     obtain ⟨b2,hb2⟩:∃ b,numB d=b:=⟨_,rfl⟩;rw [hb1] at H1 Hnoj Hyj;rw [hb2] at H2 Hnoj Hyj
     obtain ⟨dl,hdl⟩:∃ x,d ||| 32=x:=⟨_,rfl⟩
     rw [hdl] at H1 ho;clear hcx hb1 hb2 hdl
     cases b1<;>cases b2
     all_goals
      go_wp2_with (first
       |(go_at_call 115;refine H1.out.mono ?_;rintro e w1 ⟨rfl,rfl⟩)
       |(go_at_call 116;refine H2.out.mono ?_;rintro e w1 ⟨rfl,rfl⟩))
     all_goals first
      |(refine ⟨⟨j+1,by omega,by go_num,Hyj.out (by trivial),trivial⟩,by simp [intOf];omega⟩;done)
      |(go_ret;exact ⟨by rw [Hnoj.out (by trivial)];rfl,Hbel.out⟩)
    ·obtain rfl:j=p.size:=by omega
     have h2:=Hpre.out
     rw [List.take_of_length_le (by simp)] at h2
     have hv:valP p= !p.toList.isEmpty:=by rw [valP,h2,ByteArray.toList_eq];rfl
     have HV:=hid hv;clear h2 hv Hpre
     cases h1:p.toList.isEmpty
     ·go_wp2
      refine ⟨⟨k+1,by omega,by go_num,Hyes.out (by rw [HV.out,h1];rfl),trivial⟩,by simp [intOf];omega⟩
     ·go_wp2
      go_ret
      exact ⟨by rw [Hno.out (by rw [HV.out,h1];rfl)];rfl,Hbel.out⟩
  ·obtain rfl:k=c+1:=by omega
   have h2:=Hall.out
   rw [List.take_of_length_le (by rw [HL.out];exact Nat.le_refl _)] at h2
   have HV:=hid (show valB s=true from h2);clear h2 Hall;go_wp2;go_ret
   exact ⟨by rw [HV.out];rfl,Hbel.out⟩
end Gr
end
end Go.Proofs.YtiiekaehbahenaaGreatDoor
