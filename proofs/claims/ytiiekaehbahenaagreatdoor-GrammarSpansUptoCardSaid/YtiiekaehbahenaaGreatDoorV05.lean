/-
  Contracts of the code that the law reaches, and plain laws. Conditions: as each says.
-/
import Derived.Test.YtiiekaehbahenaaGreatDoorV01
import Derived.Test.YtiiekaehbahenaaGreatDoorV03
import Derived.Test.YtiiekaehbahenaaGreatDoorV04
set_option linter.all false
set_option maxHeartbeats 40000000
set_option maxRecDepth 100000
namespace Go.Proofs.YtiiekaehbahenaaGreatDoor
open Lib (hid)
open Tryz
section
namespace Gr
open Go.RowKit Mem Atl
abbrev tx (s:ByteArray):Txt:=s.data.toList
def Rd (w:World) (g:Nat) (s:ByteArray) (k:Nat):Prop:=Blk w g 51 #[.string s,.int .i64 k]
abbrev badE:Ending:= .panicked [{ v:= .iface 24 (.int .i64 6),recovered:=false }]
def RP {α:Type} (enc:α->Value) (g:Nat) (s:ByteArray) (w:World) (r:Option (α×Nat)) (e:Ending) (w':World):Prop:=
 Kp (·=g) w w'/\match r with
  |some (v,k)=>e= .returned (enc v)/\Rd w' g s k/\k<=s.size
  |none=>e=badE
theorem RP.ok {α:Type} {enc:α->Value} {g:Nat} {s:ByteArray} {w:World} {v:α} {k:Nat} {e:Ending} {w':World} (h:RP enc g s w (some (v,k)) e w'):e= .returned (enc v)/\Rd w' g s k/\k<=s.size/\Kp (·=g) w w':=⟨h.2.1,h.2.2.1,h.2.2.2,h.1⟩
theorem RP.bad {α:Type} {enc:α->Value} {g:Nat} {s:ByteArray} {w:World} {e:Ending} {w':World} (h:RP enc g s w none e w'):e=badE/\Kp (·=g) w w':=⟨h.2,h.1⟩
theorem RP.cases {α:Type} {enc:α->Value} {g:Nat} {s:ByteArray} {w:World} {r:Option (α×Nat)} {e:Ending} {w':World} (h:RP enc g s w r e w'):
  (r=none/\e=badE/\Kp (·=g) w w')\/∃ v k,r=some (v,k)/\e= .returned (enc v)/\Rd w' g s k/\k<=s.size/\Kp (·=g) w w':=by
 rcases r with _|⟨v,k⟩
 ·exact .inl ⟨rfl,h.bad⟩
 ·exact .inr ⟨v,k,rfl,h.ok⟩
theorem tx_len (s:ByteArray):(tx s).length=s.size:=by simp
theorem tx_at {s:ByteArray} {k:Nat} (hk:k<s.size):(tx s)[k]?=some (s[k]'hk):=by
 rw [List.getElem?_eq_getElem (by simpa using hk)];rfl
theorem by_at {s:ByteArray} {k:Nat} (hk:k<s.size):byA (tx s) k=(s[k]'hk).toNat:=by rw [byA,tx_at hk]
theorem by_end {s:ByteArray} {k:Nat} (hk:¬ k<s.size):byA (tx s) k=0:=by rw [byA,List.getElem?_eq_none (by simpa using hk)]
theorem dg_at {s:ByteArray} {k:Nat} (hk:k<s.size):dgA (tx s) k=(decide (48<=(s[k]'hk).toNat) && decide ((s[k]'hk).toNat<=57)):=by rw [dgA,tx_at hk]
theorem dg_end {s:ByteArray} {k:Nat} (hk:¬ k<s.size):dgA (tx s) k=false:=by rw [dgA,List.getElem?_eq_none (by simpa using hk)]
theorem one_at {s:ByteArray} {k:Nat} (of:List UInt8) (hk:k<s.size):oneA (tx s) of k=of.contains (s[k]'hk):=by rw [oneA,tx_at hk]
theorem one_end {s:ByteArray} {k:Nat} (of:List UInt8) (hk:¬ k<s.size):oneA (tx s) of k=false:=by rw [oneA,List.getElem?_eq_none (by simpa using hk)]
theorem Rd.drewN {w:World} {g:Nat} {s:ByteArray} {k:Nat} (h:Rd w g s k) (n:Nat):Rd (w.drewN n) g s k:=h
theorem Kp.drewN {P:Nat->Prop} (w:World) (n:Nat):Kp P w (w.drewN n):=⟨rfl,rfl,rfl,Nat.le_refl _,fun _ _ _=>rfl⟩
theorem next_any (g:Nat) (s:ByteArray) (k:Nat) (w:World) (h:Rd w g s k) (hk0:k<=s.size) (_hs:s.size<=2097152):
  Calls prog 47 #[.pointer (some ⟨g,0,none⟩)] w fun e w'=>e= .returned (.int .u8 (byA (tx s) k))/\∃ n,w'=w.drewN n:=by
 go_enter func47,ntmps47;have c0:=h.cell 0;have c1:=h.cell 1;have H:=hid h;clear h
 by_cases hk:k<s.size
 ·have Hb:=hid (by_at hk)
  have hi:(0:Int)<=(k:Int):=by omega
  have hj:(k:Int)<(s.size:Int):=by omega
  go_wp2
  go_quiet (fail)
  go_wp2
  go_quiet (fail)
  go_wp2;go_ret
  exact ⟨by rw [Hb.out];rfl,_,drw2 _ _ _⟩
 ·have Hb:=hid (by_end hk)
  have hj:¬ (k:Int)<(s.size:Int):=by omega
  go_wp2
  go_quiet (fail)
  go_wp2;go_ret
  exact ⟨by rw [Hb.out];rfl,_,rfl⟩
theorem wrong_any (g:Nat) (w:World):Calls prog 23 #[.pointer (some ⟨g,0,none⟩)] w fun e w'=>e=badE/\w=w':=by
 go_enter func23,ntmps23;go_wp2;exact ⟨rfl,rfl,rfl⟩
theorem digit_any (g:Nat) (s:ByteArray) (k:Nat) (w:World) (h:Rd w g s k) (hk0:k<=s.size) (hs:s.size<=2097152):
  Calls prog 26 #[.pointer (some ⟨g,0,none⟩)] w fun e w'=>e= .returned (.bool (dgA (tx s) k))/\∃ n,w'=w.drewN n:=by
 go_enter func26,ntmps26;have c0:=h.cell 0;have c1:=h.cell 1;have hn:∀ n,Calls prog 47 #[.pointer (some ⟨g,0,none⟩)] (w.drewN n) fun e w'=>e= .returned (.int .u8 (byA (tx s) k))/\∃ m,w'=(w.drewN n).drewN m:=fun n=>next_any g s k _ (h.drewN n) hk0 hs;have HN:=hid hn;clear hn h
 by_cases hk:k<s.size
 ·have hj:decide ((k:Int)<(s.size:Int))=true:=by simpa using hk
  have hd:=dg_at hk;have hb:=by_at hk;rw [hb] at HN;rw [hd];clear hb hd;obtain ⟨b,hb⟩:∃ b,s[k]'hk=b:=⟨_,rfl⟩;rw [hb] at HN ⊢;clear hb
  cases h1:decide (48<=b.toNat)<;>cases h2:decide (b.toNat<=57)
  all_goals
   have i1:decide ((48:Int)<=(b.toNat:Int))=decide (48<=b.toNat):=by rw [Bool.eq_iff_iff];simp only [decide_eq_true_eq];omega
   have i2:decide ((b.toNat:Int)<=57)=decide (b.toNat<=57):=by rw [Bool.eq_iff_iff];simp only [decide_eq_true_eq];omega
   rw [h1] at i1;rw [h2] at i2;clear h1 h2;go_wp2
   go_quiet ((go_at_call 47;exact Calls.quiet_of (HN.out _)))
   go_wp2;go_ret;exact ⟨rfl,_,rfl⟩
 ·have hj:decide ((k:Int)<(s.size:Int))=false:=by simpa using hk
  rw [dg_end hk];go_wp2
  go_quiet ((go_at_call 47;exact Calls.quiet_of (HN.out _)))
  go_wp2;go_ret;exact ⟨rfl,_,rfl⟩
theorem idx_has (l:List UInt8) (c:UInt8):decide (Lib.indexByte l c<0)= !l.contains c:=by
 induction l with
 |nil=>rfl
 |cons b l ih=>
  have hg:=Lib.indexByte_ge l c;rw [List.contains_cons,Lib.indexByte]
  by_cases h:(b == c)=true
  ·have h2:(c == b)=true:=by rw [beq_iff_eq] at h ⊢;exact h.symm
   rw [if_pos h,h2];rfl
  ·have h2:(c == b)=false:=by
    rw [beq_eq_false_iff_ne];intro e;exact h (by rw [e];simp)
   rw [if_neg h,h2,Bool.false_or,<-ih]
   by_cases h3:Lib.indexByte l c= -1
   ·rw [h3];rfl
   ·rw [if_neg (by simpa using h3)]
    rw [Bool.eq_iff_iff];simp only [decide_eq_true_eq];omega
theorem rd_step {w:World} {g:Nat} {s:ByteArray} {k:Nat} (h:Rd w g s k):Rd (w.setCell ⟨g,1,none⟩ (.int .i64 ((k+1:Nat):Int))) g s (k+1):=by
 have:=h.set_ 1 (.int .i64 ((k+1:Nat):Int))
 simpa [Rd] using this
theorem kp_step {w W:World} {g:Nat} {v:Value} (h:Kp (·=g) w W) (i:Nat):Kp (·=g) w (W.setCell ⟨g,i,none⟩ v):=h.set rfl v
theorem kp_drw {P:Nat->Prop} {w W:World} (h:Kp P w W) (n:Nat):Kp P w (W.drewN n):=h.trans (Kp.drewN W n)
theorem quiet_same {P:Program} {f:FuncId} {args:Array Value} {w:World} {n:Nat} {v:Value}
  (h:∀ z:World,Calls P f args z fun e w'=>e= .returned v/\w'=z):Calls P f args (w.drewN n) fun e w''=>e= .returned v/\∃ m,w''=w.drewN m:=
 Calls.quiet_of_same (h _)
theorem one_yes (of:ByteArray) (g:Nat) (s:ByteArray) (k:Nat) (w:World) (h:Rd w g s k) (hs:s.size<=2097152) (ho:oneA (tx s) of.data.toList k=true):
  Calls prog 17 #[.pointer (some ⟨g,0,none⟩),.string of] w fun e w'=>e= .returned (.int .u8 (byA (tx s) k))/\Rd w' g s (k+1)/\k+1<=s.size/\Kp (·=g) w w':=by
 by_cases hk:k<s.size
 rotate_left
 ·rw [one_end _ hk] at ho;cases ho
 rw [one_at _ hk] at ho
 have Hn:=hid (next_any g s k w h (by omega) hs)
 rw [by_at hk] at Hn ⊢;go_enter func17,ntmps17;have hix:=idx_has of.data.toList (s[k]'hk);rw [ho] at hix;obtain ⟨b,hb⟩:∃ b,s[k]'hk=b:=⟨_,rfl⟩;rw [hb] at Hn hix ⊢;clear hb ho
 have hc:((b.toNat:Int).toNat).toUInt8=b:=by simp
 have HI:=hid (show ∀ z,Calls prog 29 #[.string of,.int .u8 b.toNat] z fun e w'=>e= .returned (.int .i64 (Lib.indexByte of.data.toList b))/\w'=z from fun z=>by
  have:=Tryz.strings_IndexByte of b.toNat z;rw [hc] at this
  exact this)
 have hix2:decide (Lib.indexByte of.data.toList b<0)=false:=by rw [hix];rfl
 obtain ⟨I,hI⟩:∃ I,Lib.indexByte of.data.toList b=I:=⟨_,rfl⟩;rw [hI] at HI hix2;clear hI hix hc
 have hj:decide ((s.size:Int)<=(k:Int))=false:=by simpa using hk
 have H:=hid h;clear h
 go_wp2_with fail
 go_at_call 47
 refine Hn.out.mono ?_
 rintro e w1 ⟨rfl,n,rfl⟩;have h1:=H.out.drewN n;have K1:=hid (Kp.drewN (P:=(·=g)) w n);generalize w.drewN n=W at*;have c0:=h1.cell 0;have c1:=h1.cell 1;have f1:=h1.frozen 1;have H1:=hid h1;clear h1
 go_wp2_with fail
 go_quiet ((go_at_call 29;exact quiet_same HI.out))
 go_wp2;go_ret;exact ⟨rfl,rd_step (H1.out.drewN _),hk,kp_step (kp_drw K1.out _) 1⟩
theorem one_no (of:ByteArray) (g:Nat) (s:ByteArray) (k:Nat) (w:World) (h:Rd w g s k) (hk0:k<=s.size) (hs:s.size<=2097152) (ho:oneA (tx s) of.data.toList k=false):
  Calls prog 17 #[.pointer (some ⟨g,0,none⟩),.string of] w fun e w'=>e= .returned (.int .u8 0)/\Rd w' g s k/\Kp (·=g) w w':=by
 have Hn:=hid (next_any g s k w h hk0 hs)
 by_cases hk:k<s.size
 ·rw [one_at _ hk] at ho
  rw [by_at hk] at Hn;go_enter func17,ntmps17;have hix:=idx_has of.data.toList (s[k]'hk);rw [ho] at hix;obtain ⟨b,hb⟩:∃ b,s[k]'hk=b:=⟨_,rfl⟩;rw [hb] at Hn hix;clear hb ho
  have hc:((b.toNat:Int).toNat).toUInt8=b:=by simp
  have HI:=hid (show ∀ z,Calls prog 29 #[.string of,.int .u8 b.toNat] z fun e w'=>e= .returned (.int .i64 (Lib.indexByte of.data.toList b))/\w'=z from fun z=>by
   have:=Tryz.strings_IndexByte of b.toNat z;rw [hc] at this
   exact this)
  have hix2:decide (Lib.indexByte of.data.toList b<0)=true:=by rw [hix];rfl
  obtain ⟨I,hI⟩:∃ I,Lib.indexByte of.data.toList b=I:=⟨_,rfl⟩;rw [hI] at HI hix2;clear hI hix hc
  have hj:decide ((s.size:Int)<=(k:Int))=false:=by simpa using hk
  have H:=hid h;clear h
  go_wp2_with fail
  go_at_call 47
  refine Hn.out.mono ?_
  rintro e w1 ⟨rfl,n,rfl⟩;have h1:=H.out.drewN n;have K1:=hid (Kp.drewN (P:=(·=g)) w n);generalize w.drewN n=W at*;have c0:=h1.cell 0;have c1:=h1.cell 1;have H1:=hid h1;clear h1
  go_wp2_with fail
  go_quiet ((go_at_call 29;exact quiet_same HI.out))
  go_wp2;go_ret;exact ⟨rfl,H1.out.drewN _,kp_drw K1.out _⟩
 ·go_enter func17,ntmps17
  have hj:decide ((s.size:Int)<=(k:Int))=true:=by simpa using hk
  rw [by_end hk] at Hn;have H:=hid h;clear h
  go_wp2_with fail
  go_at_call 47
  refine Hn.out.mono ?_
  rintro e w1 ⟨rfl,n,rfl⟩;have h1:=H.out.drewN n;have K1:=hid (Kp.drewN (P:=(·=g)) w n);generalize w.drewN n=W at*;have c0:=h1.cell 0;have c1:=h1.cell 1;have H1:=hid h1;clear h1
  go_wp2_with fail
  go_quiet (fail)
  go_wp2;go_ret;exact ⟨rfl,H1.out.drewN _,kp_drw K1.out _⟩
theorem one_pos {l:Txt} {of:List UInt8} {k:Nat} (h0:of.contains 0=false) (h:oneA l of k=true):0<byA l k:=by
 rw [oneA] at h;rw [byA]
 cases hl:l[k]? with
 |none=>rw [hl] at h;cases h
 |some c=>
  rw [hl] at h;simp only at h ⊢
  rcases Nat.eq_zero_or_pos c.toNat with h2|h2
  ·have:c=0:=UInt8.toNat_inj.1 (by rw [h2];rfl)
   rw [this,h0] at h
   cases h
  ·exact h2
theorem one_any (of:ByteArray) (h0:of.data.toList.contains 0=false) (g:Nat) (s:ByteArray) (k:Nat) (w:World) (h:Rd w g s k) (hk0:k<=s.size) (hs:s.size<=2097152):
  Calls prog 17 #[.pointer (some ⟨g,0,none⟩),.string of] w fun e w'=>
   ((oneA (tx s) of.data.toList k=true/\∃ c:Nat,c=byA (tx s) k/\0<c/\e= .returned (.int .u8 c)/\Rd w' g s (k+1)/\k+1<=s.size)\/(oneA (tx s) of.data.toList k=false/\e= .returned (.int .u8 0)/\Rd w' g s k))/\Kp (·=g) w w':=by
 cases ho:oneA (tx s) of.data.toList k
 ·exact (one_no of g s k w h hk0 hs ho).mono fun e w' ⟨h1,h2,h3⟩=>⟨.inr ⟨rfl,h1,h2⟩,h3⟩
 ·exact (one_yes of g s k w h hs ho).mono fun e w' ⟨h1,h2,h3,h4⟩=>⟨.inl ⟨rfl,_,rfl,one_pos h0 ho,h1,h2,h3⟩,h4⟩
theorem num_le {l:Txt}:∀ {n i v:Nat} {x:Nat×Nat},numA l n i v=some x->x.2=i+n/\x.1<(v+1)*10 ^ n
 |0,i,v,x,h=>by cases h;exact ⟨rfl,by simp⟩
 |n+1,i,v,x,h=>by
  rw [numA] at h
  split at h
  ·next hd=>
   obtain ⟨h1,h2⟩:=num_le h
   refine ⟨by omega,Nat.lt_of_lt_of_le h2 ?_⟩
   have hb:byA l i - 48<=9:=by
    rw [dgA] at hd;rw [byA]
    cases hl:l[i]? with
    |none=>simp
    |some c=>
     rw [hl] at hd;simp only [Bool.and_eq_true,decide_eq_true_eq] at hd;simp only;omega
   rw [Nat.pow_succ,Nat.mul_comm (10 ^ n) 10,<-Nat.mul_assoc]
   exact Nat.mul_le_mul_right _ (by omega)
  ·cases h
theorem digits_any (n:Nat) (g:Nat) (s:ByteArray) (k:Nat) (w:World) (h:Rd w g s k) (hk0:k<=s.size) (hs:s.size<=2097152) (hn:n<=9):
  Calls prog 50 #[.pointer (some ⟨g,0,none⟩),.int .i64 n] w (RP (fun v:Nat=> .int .i64 v) g s w (digA (tx s) n k)):=by
 go_enter func50,ntmps50;obtain ⟨R,hR⟩:∃ R,digA (tx s) n k=R:=⟨_,rfl⟩;rw [hR];unfold digA at hR;have HR:=hid hR;have H:=hid h;clear hR h
 go_wp2_with fail
 go_loopw [5,7] (fun v i wr=>∃ (j V:Nat),j<=n/\i= .int .i64 j/\v= .int .i64 V/\V<10 ^ j/\numA (tx s) (n - j) (k+j) V=R/\Rd wr g s (k+j)/\k+j<=s.size/\Kp (·=g) w wr) (fun _ i _=>n - (intOf i).toNat)
 case atStart=>exact ⟨0,0,Nat.zero_le _,rfl,rfl,by simp,HR.out,H.out,hk0,Kp.refl _ _⟩
 case round=>
  clear HR H;obtain ⟨j,V,hj,rfl,rfl,hV,hR,hr,hks,hkp⟩:=hrel;have HR:=hid hR;have H:=hid hr;have HK:=hid hkp;have HV:=hid hV
  have hV9:V<1000000000:=Nat.lt_of_lt_of_le hV (Nat.pow_le_pow_right (by omega) (by omega:j<=9))
  clear hR hr hkp hV
  by_cases hjn:j<n
  ·obtain ⟨m,hm⟩:∃ m,n - j=m+1:=⟨n - j - 1,by omega⟩
   have HD:=hid (digit_any g s (k+j) wr H.out hks hs)
   cases hd:dgA (tx s) (k+j)
   ·rw [hd] at HD
    have hR:=HR.out;rw [hm,numA,hd] at hR;simp only [Bool.false_eq_true,if_false] at hR;subst hR;clear HR hd hm
    go_wp2_with (first
     |(go_at_call 26;refine HD.out.mono ?_;rintro e w1 ⟨rfl,q,rfl⟩;have HK:=hid (kp_drw HK.out q);generalize wr.drewN q=W at *)
     |(go_at_call 23;refine (wrong_any g _).mono ?_;rintro e w2 ⟨rfl,rfl⟩))
    exact ⟨rfl,HK.out,rfl⟩
   ·rw [hd] at HD
    have hR:=HR.out;rw [hm,numA,hd] at hR;simp only [if_true] at hR;clear HR;have HR:=hid hR;clear hR
    have hlt:k+j<s.size:=by
     rcases Nat.lt_or_ge (k+j) s.size with hlt|hge
     ·exact hlt
     ·rw [dg_end (by omega)] at hd;cases hd
    obtain ⟨b,hb⟩:∃ b,byA (tx s) (k+j)=b:=⟨_,rfl⟩
    have hb1:48<=b/\b<=57:=by
     rw [dg_at hlt] at hd;rw [by_at hlt] at hb;simp only [Bool.and_eq_true,decide_eq_true_eq] at hd;omega
    obtain ⟨hb1,hb2⟩:=hb1;have Hb:=hid hb;have Hd:=hid hd;have Hm:=hid hm;clear hd hm hb
    go_wp2_with (first
     |(go_at_call 26;refine HD.out.mono ?_;rintro e w1 ⟨rfl,q,rfl⟩;have HK:=hid (kp_drw HK.out q);have H:=hid (H.out.drewN q);generalize wr.drewN q=W at *)
     |(go_at_call 47;refine (next_any g s (k+j) _ H.out hks hs).mono ?_;rintro e w1 ⟨rfl,q,rfl⟩;rw [Hb.out];have HK:=hid (kp_drw HK.out q);have h:=H.out.drewN q;have c1:=h.cell 1;have f1:=h.frozen 1;have H:=hid h;clear h;generalize World.drewN _ q=W2 at *))
    refine ⟨⟨j+1,V*10+(b - 48),by omega,by go_num,?_,?_,?_,rd_step H.out,by omega,kp_step HK.out 1⟩,by simp [intOf];omega⟩
    ·rw [show ((V*10+(b - 48):Nat):Int)=(V:Int)*10+((b:Int) - 48) from by omega]
    ·rw [Nat.pow_succ];have:=HV.out;omega
    ·rw [show n - (j+1)=m from by have:=Hm.out;omega,<-Nat.add_assoc,<-Hb.out];exact HR.out
  ·obtain rfl:j=n:=by omega
   have hR:=HR.out;rw [Nat.sub_self,numA] at hR;subst hR;clear HR;go_wp2;go_ret;exact ⟨HK.out,rfl,H.out,hks⟩
end Gr
end
end Go.Proofs.YtiiekaehbahenaaGreatDoor
