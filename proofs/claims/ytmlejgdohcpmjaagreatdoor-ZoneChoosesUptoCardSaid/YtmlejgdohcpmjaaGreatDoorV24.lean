/-
  Contracts of the code that the law reaches, and plain laws. Conditions: as each says.
-/
import Derived.Test.YtmlejgdohcpmjaaGreatDoorV06
set_option linter.all false
set_option maxHeartbeats 40000000
set_option maxRecDepth 100000
namespace Go.Proofs.YtmlejgdohcpmjaaGreatDoor
open Lib (hid)
open Tryz hiding parts
section
section
namespace R10
open Go.RowKit Mem Plc Src
theorem letter_any (n:Int) (w:World):Calls prog 62 #[.int .u8 n] w fun e w'=>e= .returned (.bool (letterI n))/\w'=w:=by
 go_enter func62,ntmps62;unfold letterI
 cases h1:decide (97<=n)<;>cases h2:decide (n<=122)<;>cases h3:decide (65<=n)<;>cases h4:decide (n<=90)
 all_goals go_wp2
 all_goals go_ret
 all_goals simp
def digI (n:Int):Bool:=decide (48<=n) && decide (n<=57)
theorem digit_any (n:Int) (w:World):Calls prog 63 #[.int .u8 n] w fun e w'=>e= .returned (.bool (digI n))/\w'=w:=by
 go_enter func63,ntmps63;unfold digI
 cases h1:decide (48<=n)<;>cases h2:decide (n<=57)
 all_goals go_wp2
 all_goals go_ret
 all_goals simp
theorem index_neg (l:List UInt8) (c:UInt8):decide (Lib.indexByte l c<0)= !l.contains c:=by
 induction l with
 |nil=>rfl
 |cons b t ih=>
  rw [Lib.indexByte,List.contains_cons]
  have hge: -1<=Lib.indexByte t c:=by
   clear ih
   induction t with
   |nil=>simp [Lib.indexByte]
   |cons b t ih=>
    rw [Lib.indexByte]
    split
    ·omega
    ·split
     ·omega
     ·omega
  by_cases hb:b=c
  ·subst hb;simp
  ·have h1:(b == c)=false:=by simpa using hb
   have h2:(c == b)=false:=by simpa using fun e=>hb e.symm
   rw [h1,h2,Bool.false_or,<-ih]
   by_cases hm:Lib.indexByte t c= -1
   ·simp [hm]
   ·have h3:(Lib.indexByte t c == -1)=false:=by simpa using hm
    rw [h3];simp only [Bool.false_eq_true,if_false]
    by_cases h4:Lib.indexByte t c<0
    ·omega
    ·rw [decide_eq_false h4,decide_eq_false (by omega)]
theorem ok_is (others:List UInt8) (c:UInt8):okB others c=(letterI c.toNat || digI c.toNat || others.contains c):=by
 unfold okB digI;rw [index_neg,Bool.not_not]
 congr 2
 by_cases h1:(c.toNat:Int)<48
 ·rw [decide_eq_true h1,decide_eq_false (show ¬ (48:Int)<=c.toNat by omega)];rfl
 ·rw [decide_eq_false h1,decide_eq_true (show (48:Int)<=c.toNat by omega)]
  by_cases h2:(57:Int)<c.toNat
  ·rw [decide_eq_true h2,decide_eq_false (show ¬ (c.toNat:Int)<=57 by omega)];rfl
  ·rw [decide_eq_false h2,decide_eq_true (show (c.toNat:Int)<=57 by omega)];rfl
theorem has2 (a b c:UInt8):([a,b]:List UInt8).contains c=(((c.toNat:Int) == (a.toNat:Int)) || ((c.toNat:Int) == (b.toNat:Int))):=by
 have e:∀ x:UInt8,(c == x)=((c.toNat:Int) == (x.toNat:Int)):=fun x=>by
  rw [Bool.eq_iff_iff,beq_iff_eq,beq_iff_eq,Int.natCast_inj,UInt8.toNat_inj]
 simp only [List.contains_cons,List.contains_nil,Bool.or_false,e]
theorem set_empty {s:ByteArray} (h:s.size=0):setB s=false:=by
 have e:s.data.toList=[]:=List.length_eq_zero_iff.1 (by rw [len_eq];exact h)
 simp [setB,madeB,e]
theorem set_long {s:ByteArray} (h:20<s.size):setB s=false:=by
 have:decide ((s.data.toList.length:Int)<=20)=false:=decide_eq_false (by rw [len_eq];omega)
 simp only [setB,madeB,this,Bool.and_false,Bool.false_and]
theorem set_head {s:ByteArray} (h0:0<s.size) (h:(digI (s[0]'h0).toNat || (((s[0]'h0).toNat:Int) == 45))=true):setB s=false:=by
 obtain ⟨c,t,he⟩:∃ c t,s.data.toList=c :: t:=by
  cases hl:s.data.toList with
  |nil=>rw [<-len_eq,hl] at h0;simp at h0
  |cons c t=>exact ⟨c,t,rfl⟩
 have hc:s[0]'h0=c:=by
  have:s.data.toList[0]?=some c:=by rw [he];rfl
  simp only [Array.getElem?_toList] at this
  exact (Array.getElem?_eq_some_iff.1 this).2
 rw [hc] at h
 have:opensB s.data.toList=false:=by
  rw [he];simp only [opensB,letterI];simp only [digI,Bool.or_eq_true,Bool.and_eq_true,decide_eq_true_eq,beq_iff_eq] at h;simp;omega
 simp [setB,this]
theorem set_good {s:ByteArray} (h0:0<s.size) (h2:s.size<=20) (h:digI (s[0]'h0).toNat=false) (h3:(((s[0]'h0).toNat:Int) == 45)=false) (hall:s.data.toList.all (okB [95,45])=true):setB s=true:=by
 obtain ⟨c,t,he⟩:∃ c t,s.data.toList=c :: t:=by
  cases hl:s.data.toList with
  |nil=>rw [<-len_eq,hl] at h0;simp at h0
  |cons c t=>exact ⟨c,t,rfl⟩
 have hc:s[0]'h0=c:=by
  have:s.data.toList[0]?=some c:=by rw [he];rfl
  simp only [Array.getElem?_toList] at this
  exact (Array.getElem?_eq_some_iff.1 this).2
 rw [hc] at h h3
 have hok:okB [95,45] c=true:=by rw [he,List.all_cons,Bool.and_eq_true] at hall;exact hall.1
 rw [ok_is,has2,h,Bool.or_false] at hok;have e45:((45:UInt8).toNat:Int)=45:=rfl;have e95:((95:UInt8).toNat:Int)=95:=rfl;rw [e45,e95,h3,Bool.or_false] at hok
 have hl:decide ((s.data.toList.length:Int)<=20)=true:=decide_eq_true (by rw [len_eq];omega)
 simp only [setB,madeB,hall,hl,Bool.true_and,Bool.and_true,Bool.and_eq_true];rw [he];exact ⟨rfl,hok⟩
theorem set_any (s:ByteArray) (w:World) (hs:s.size<=140737488355328):Calls prog 38 #[.string s] w fun e w'=>e= .returned (.bool (setB s))/\w'=w:=by
 obtain ⟨R,hR⟩:∃ R,setB s=R:=⟨_,rfl⟩;rw [hR];go_enter func38,ntmps38
 by_cases h0:s.size=0
 ·have hr:R=false:=hR ▸ set_empty h0
  subst hr
  have h0b:decide (((s.size:Nat):Int)<1)=true:=decide_eq_true (by omega)
  clear hR
  go_wp2_with fail
  go_ret;exact ⟨rfl,rfl⟩
 ·have h0b:decide (((s.size:Nat):Int)<1)=false:=decide_eq_false (by omega)
  have h0':0<s.size:=by omega
  by_cases h1:20<s.size
  ·have hr:R=false:=hR ▸ set_long h1
   subst hr
   have h1b:decide ((20:Int)<(s.size:Nat))=true:=decide_eq_true (by omega)
   clear hR
   go_wp2_with fail
   go_ret;exact ⟨rfl,rfl⟩
  ·have h1b:decide ((20:Int)<(s.size:Nat))=false:=decide_eq_false (by omega)
   have hhead:=@set_head s h0'
   have hgood:=@set_good s h0' (by omega)
   rw [hR] at hhead hgood;have HG:=hid hgood
   cases h2:digI (s[0]'h0').toNat
   ·cases h3:(((s[0]'h0').toNat:Int) == 45)
    ·have hno:∀ (k:Nat) (hk:k<s.size),okB [95,45] (s[k]'hk)=false->R=false:=fun k hk h=>by
      rw [<-hR];unfold setB
      rw [made_no (k:=k) (by rw [len_eq];exact hk) h]
      rfl
     have HG:=hid (HG.out h2 h3);have HN:=hid hno;clear hhead hgood hR hno
     go_wp2_with (go_at_call 63;refine (digit_any _ _).mono ?_;rintro e w1 ⟨rfl,rfl⟩;rw [h2])
     clear h2 h3
     go_loopw [3] (fun i wr=>∃ k:Nat,k<=s.size/\i= .int .i64 k/\(s.data.toList.take k).all (okB [95,45])=true/\wr=w1) (fun i _=>s.size - (intOf i).toNat)
     case atStart=>exact ⟨0,Nat.zero_le _,rfl,rfl,rfl⟩
     case round=>
      obtain ⟨k,hk,rfl,hall,rfl⟩:=hrel;have Hall:=hid hall;clear hall
      by_cases hkn:k<s.size
      ·have hok:=ok_is [95,45] (s[k]'hkn)
       rw [has2] at hok;rw [show ((95:UInt8).toNat:Int)=95 from rfl,show ((45:UInt8).toNat:Int)=45 from rfl] at hok;have hnok:=HN.out k hkn
       have hnx:okB [95,45] (s[k]'hkn)=true->(s.data.toList.take (k+1)).all (okB [95,45])=true:=fun h=>all_succ (f:=okB [95,45]) (k:=k) (l:=s.data.toList) (by rw [len_eq];exact hkn) Hall.out h
       generalize okB [95,45] (s[k]'hkn)=ok at*;have HO:=hid hnok;have HX:=hid hnx;clear hnok hnx;have n3:(((s[k]'hkn).toNat:Int) != 95)= !(((s[k]'hkn).toNat:Int) == 95):=rfl;have n4:(((s[k]'hkn).toNat:Int) != 45)= !(((s[k]'hkn).toNat:Int) == 45):=rfl
       cases h1:letterI ((s[k]'hkn).toNat:Int)<;>cases h2:digI ((s[k]'hkn).toNat:Int)<;>cases h3:(((s[k]'hkn).toNat:Int) == 95)<;>cases h4:(((s[k]'hkn).toNat:Int) == 45)
       all_goals rw [h1,h2,h3,h4] at hok
       all_goals rw [h3] at n3
       all_goals rw [h4] at n4
       all_goals simp only [Bool.not_false,Bool.not_true] at n3 n4
       all_goals simp only [Bool.or_false,Bool.or_true] at hok
       all_goals subst hok
       all_goals go_wp2_with (first
        |(go_at_call 62;refine (letter_any _ _).mono ?_;rintro e w1 ⟨rfl,rfl⟩;rw [h1])
        |(go_at_call 63;refine (digit_any _ _).mono ?_;rintro e w1 ⟨rfl,rfl⟩;rw [h2]))
       all_goals first
        |(refine ⟨⟨k+1,by omega,by go_num,HX.out (by trivial),trivial⟩,by simp [intOf];omega⟩;done)
        |(go_ret;refine ⟨?_,rfl⟩;rw [HO.out (by trivial)];rfl)
      ·obtain rfl:k=s.size:=by omega
       rw [show s.data.toList.take s.size=s.data.toList from List.take_of_length_le (by simp)] at Hall
       have hr:R=true:=HG.out Hall.out;subst hr;go_wp2;go_ret;exact ⟨rfl,rfl⟩
    ·have hr:R=false:=hhead (by rw [h3,Bool.or_true])
     subst hr;clear hhead hgood HG hR
     go_wp2_with (go_at_call 63;refine (digit_any _ _).mono ?_;rintro e w1 ⟨rfl,rfl⟩;rw [h2])
     go_ret;exact ⟨rfl,rfl⟩
   ·have hr:R=false:=hhead (by rw [h2,Bool.true_or])
    subst hr;clear hhead hgood HG hR
    go_wp2_with (go_at_call 63;refine (digit_any _ _).mono ?_;rintro e w1 ⟨rfl,rfl⟩;rw [h2])
    go_ret;exact ⟨rfl,rfl⟩
theorem made_of {s:ByteArray} {most:Nat} {others:List UInt8} (hall:s.data.toList.all (okB others)=true):madeB s.data.toList most others=(decide ((1:Int)<=(s.size:Nat)) && decide (((s.size:Nat):Int)<=most)):=by
 unfold madeB;rw [hall,Bool.true_and,len_eq]
 congr 1
 cases hl:s.data.toList with
 |nil=>
  have:s.size=0:=by rw [<-len_eq,hl];rfl
  rw [this];rfl
 |cons c t=>
  have:s.size=t.length+1:=by rw [<-len_eq,hl];rfl
  rw [decide_eq_true (by omega)];rfl
theorem letters_any (s:ByteArray) (w:World) (hs:s.size<=140737488355328):Calls prog 39 #[.string s] w fun e w'=>e= .returned (.bool (madeB s.data.toList 8 [43,45]))/\w'=w:=by
 obtain ⟨R,hR⟩:∃ R,madeB s.data.toList 8 [43,45]=R:=⟨_,rfl⟩;rw [hR]
 have hno:∀ (k:Nat) (hk:k<s.size),okB [43,45] (s[k]'hk)=false->R=false:=fun k hk h=>by
  rw [<-hR,made_no (k:=k) (by rw [len_eq];exact hk) h]
 have hmo:=@made_of s 8 [43,45];have HN:=hid hno
 have HM:Hid (s.data.toList.all (okB [43,45])=true->R=(decide ((1:Int)<=(s.size:Nat)) && decide (((s.size:Nat):Int)<=8))):=fun h=>by rw [<-hR];exact hmo h
 clear hno hmo hR;go_enter func39,ntmps39
 go_wp2_with fail
 go_loopw [3] (fun i wr=>∃ k:Nat,k<=s.size/\i= .int .i64 k/\(s.data.toList.take k).all (okB [43,45])=true/\wr=w) (fun i _=>s.size - (intOf i).toNat)
 case atStart=>exact ⟨0,Nat.zero_le _,rfl,rfl,rfl⟩
 case round=>
  obtain ⟨k,hk,rfl,hall,rfl⟩:=hrel;have Hall:=hid hall;clear hall
  by_cases hkn:k<s.size
  ·have hok:=ok_is [43,45] (s[k]'hkn)
   rw [has2] at hok;rw [show ((43:UInt8).toNat:Int)=43 from rfl,show ((45:UInt8).toNat:Int)=45 from rfl] at hok;have hnok:=HN.out k hkn
   have hnx:okB [43,45] (s[k]'hkn)=true->(s.data.toList.take (k+1)).all (okB [43,45])=true:=fun h=>all_succ (f:=okB [43,45]) (k:=k) (l:=s.data.toList) (by rw [len_eq];exact hkn) Hall.out h
   generalize okB [43,45] (s[k]'hkn)=ok at*;have HO:=hid hnok;have HX:=hid hnx;clear hnok hnx;have n3:(((s[k]'hkn).toNat:Int) != 43)= !(((s[k]'hkn).toNat:Int) == 43):=rfl;have n4:(((s[k]'hkn).toNat:Int) != 45)= !(((s[k]'hkn).toNat:Int) == 45):=rfl
   cases h1:letterI ((s[k]'hkn).toNat:Int)<;>cases h2:digI ((s[k]'hkn).toNat:Int)<;>cases h3:(((s[k]'hkn).toNat:Int) == 43)<;>cases h4:(((s[k]'hkn).toNat:Int) == 45)
   all_goals rw [h1,h2,h3,h4] at hok
   all_goals rw [h3] at n3
   all_goals rw [h4] at n4
   all_goals simp only [Bool.not_false,Bool.not_true] at n3 n4
   all_goals simp only [Bool.or_false,Bool.or_true] at hok
   all_goals subst hok
   all_goals go_wp2_with (first
    |(go_at_call 62;refine (letter_any _ _).mono ?_;rintro e w1 ⟨rfl,rfl⟩;rw [h1])
    |(go_at_call 63;refine (digit_any _ _).mono ?_;rintro e w1 ⟨rfl,rfl⟩;rw [h2]))
   all_goals first
    |(refine ⟨⟨k+1,by omega,by go_num,HX.out (by trivial),trivial⟩,by simp [intOf];omega⟩;done)
    |(go_ret;refine ⟨?_,rfl⟩;rw [HO.out (by trivial)];rfl)
  ·obtain rfl:k=s.size:=by omega
   rw [show s.data.toList.take s.size=s.data.toList from List.take_of_length_le (by simp)] at Hall
   have hr:=HM.out Hall.out;clear HM HN Hall
   cases h1:decide ((1:Int)<=(s.size:Nat))<;>cases h2:decide (((s.size:Nat):Int)<=8)
   all_goals rw [h1,h2] at hr
   all_goals subst hr
   all_goals go_wp2
   all_goals go_ret
   all_goals exact ⟨rfl,rfl⟩
def sp:List UInt8->List (List UInt8)
 |[]=>[[]]
 |c :: t=>if c=47 then [] :: sp t else match sp t with
  |[]=>[[c]]
  |h :: r=>(c :: h) :: r
theorem sp_ne (l:List UInt8):sp l≠[]:=by
 cases l with
 |nil=>simp [sp]
 |cons c t=>
  simp only [sp]
  split
  ·simp
  ·cases sp t<;>simp
theorem sp_miss {l:List UInt8} (h:Lib.index l [47]= -1):sp l=[l]/\(47:UInt8) ∉ l:=by
 induction l with
 |nil=>simp [sp]
 |cons c t ih=>
  rw [Lib.index] at h
  by_cases hc:c=47
  ·subst hc
   simp [List.isPrefixOf] at h
  ·have h1:([47]:List UInt8).isPrefixOf (c :: t)=false:=by simp [List.isPrefixOf,Ne.symm hc]
   rw [h1] at h;simp only [Bool.false_eq_true,if_false] at h
   have h2:Lib.index t [47]= -1:=by
    split at h
    ·next e=>simpa using e
    ·have:=Lib.index_ge t [47];omega
   obtain ⟨i1,i2⟩:=ih h2;rw [sp,if_neg hc,i1]
   exact ⟨rfl,by simp [Ne.symm hc,i2]⟩
theorem sp_hit {l:List UInt8} {i:Nat} (h:Lib.index l [47]=i):sp l=l.take i :: sp (l.drop (i+1)):=by
 induction l generalizing i with
 |nil=>simp [Lib.index] at h
 |cons c t ih=>
  rw [Lib.index] at h
  by_cases hc:c=47
  ·subst hc
   simp [List.isPrefixOf] at h
   have:i=0:=by omega
   subst this;simp [sp]
  ·have h1:([47]:List UInt8).isPrefixOf (c :: t)=false:=by simp [List.isPrefixOf,Ne.symm hc]
   rw [h1] at h;simp only [Bool.false_eq_true,if_false] at h
   split at h
   ·omega
   ·have hge:=Lib.index_ge t [47]
    obtain ⟨j,rfl⟩:∃ j,i=j+1:=⟨i - 1,by
     rename_i e
     have:Lib.index t [47]≠-1:=by simpa using e
     omega⟩
    have hj:=ih (i:=j) (by omega)
    rw [sp,if_neg hc,hj]
    rfl
theorem split_sp:∀ (k:Nat) (l:List UInt8),l.count 47<=k->Lib.splitK [47] 0 k l=sp l
 |0,l,h=>by
  have hm:(47:UInt8) ∉ l:=fun hm=>by have:=List.count_pos_iff.2 hm;omega
  have:Lib.index l [47]= -1:=by
   rcases Lib.index_spec l [47] with ⟨h1,_⟩|⟨i,h1,_,h3,_⟩
   ·exact h1
   ·exfalso
    unfold Lib.occAt at h3
    cases hd:l.drop i with
    |nil=>rw [hd] at h3;simp [List.isPrefixOf] at h3
    |cons c t=>
     rw [hd] at h3;simp [List.isPrefixOf] at h3
     exact hm (List.mem_of_mem_drop (by rw [hd,<-h3];simp:(47:UInt8)∈l.drop i))
  rw [(sp_miss this).1]
  rfl
 |k+1,l,h=>by
  unfold Lib.splitK
  rcases Lib.index_spec l [47] with ⟨h1,_⟩|⟨i,h1,_,h3,_⟩
  ·rw [if_pos (by rw [h1];rfl),(sp_miss h1).1]
  ·rw [if_neg (by rw [h1];simp),sp_hit h1,h1]
   simp only [Int.toNat_natCast,Nat.add_zero,List.length_singleton];rw [split_sp k (l.drop (i+1))];unfold Lib.occAt at h3
   cases hd:l.drop i with
   |nil=>rw [hd] at h3;simp [List.isPrefixOf] at h3
   |cons c t=>
    rw [hd] at h3;simp [List.isPrefixOf] at h3;subst h3
    have e2:l.drop (i+1)=t:=by rw [<-List.drop_drop,hd];rfl
    rw [e2]
    have e3:l.count 47=(l.take i).count 47+(47 :: t).count 47:=by rw [<-List.count_append,<-hd,List.take_append_drop]
    rw [List.count_cons_self] at e3;omega
theorem count_ge:∀ (fuel:Nat) (l:List UInt8),l.length<fuel->l.count 47<=Lib.countFrom [47] fuel l
 |0,_,h=>by omega
 |fuel+1,l,h=>by
  rw [Lib.countFrom]
  rcases Lib.index_spec l [47] with ⟨h1,_⟩|⟨i,h1,_,h3,h4⟩
  ·have:=(sp_miss h1).2
   rw [List.count_eq_zero_of_not_mem this];omega
  ·rw [if_neg (by rw [h1];simp),h1]
   simp only [Int.toNat_natCast,List.length_singleton];unfold Lib.occAt at h3
   cases hd:l.drop i with
   |nil=>rw [hd] at h3;simp [List.isPrefixOf] at h3
   |cons c t=>
    rw [hd] at h3;simp [List.isPrefixOf] at h3;subst h3
    have e2:l.drop (i+1)=t:=by rw [<-List.drop_drop,hd];rfl
    have e3:l.count 47=(l.take i).count 47+(47 :: t).count 47:=by rw [<-List.count_append,<-hd,List.take_append_drop]
    have e4:(l.take i).count 47=0:=List.count_eq_zero_of_not_mem fun hm=>by
     have hi:Lib.index (l.take i) [47]= -1:=by
      rcases Lib.index_spec (l.take i) [47] with ⟨h5,_⟩|⟨j,h5,_,h7,_⟩
      ·exact h5
      ·exfalso
       unfold Lib.occAt at h7
       cases hd2:(l.take i).drop j with
       |nil=>rw [hd2] at h7;simp [List.isPrefixOf] at h7
       |cons b u=>
        rw [hd2] at h7;simp [List.isPrefixOf] at h7;subst h7
        have hji:j<i:=by
         have:((l.take i).drop j).length=u.length+1:=by rw [hd2];rfl
         simp at this;omega
        have hocc:Lib.occAt l [47] j=true:=by
         unfold Lib.occAt
         have:l.drop j=(l.take i).drop j++l.drop i:=by
          rw [<-List.drop_append_of_le_length (by simp;have:=(Lib.index_spec l [47]);omega),List.take_append_drop]
         rw [this,hd2];simp [List.isPrefixOf]
        exact absurd hocc (by rw [h4 j hji];decide)
     exact (sp_miss hi).2 hm
    have ih:=count_ge fuel t (by
     have:(l.drop i).length=t.length+1:=by rw [hd];rfl
     simp at this
     omega)
    rw [e2];rw [List.count_cons_self] at e3;omega
theorem sp_le {l p:List UInt8} (h:p∈sp l):p.length<=l.length:=by
 induction l generalizing p with
 |nil=>simp [sp] at h;simp [h]
 |cons c t ih=>
  simp only [sp] at h
  split at h
  ·rcases List.mem_cons.1 h with rfl|h
   ·simp
   ·have:=ih h;simp;omega
  ·cases hs:sp t with
   |nil=>exact absurd hs (sp_ne t)
   |cons a r=>
    rw [hs] at h;simp only at h
    rcases List.mem_cons.1 h with rfl|h
    ·have:=ih (p:=a) (by rw [hs];simp);simp;omega
    ·have:=ih (p:=p) (by rw [hs];simp [h]);simp;omega
def okP (c:UInt8):Bool:=okB [95,43,45] c
def plS (o:Option Nat) (c:UInt8):Option Nat:=o.bind fun n=>if c=47 then (if n=0 then none else some 0) else if okP c=true then some (n+1) else none
theorem pl_none (l:List UInt8):l.foldl plS none=none:=by
 induction l with
 |nil=>rfl
 |cons c t ih=>exact ih
theorem pl_iff:∀ (l:List UInt8) (n:Nat) (h:List UInt8) (r:List (List UInt8)),sp l=h :: r->
  ((∃ m,l.foldl plS (some n)=some m/\0<m)↔(h.all okP=true/\0<n+h.length/\∀ p∈r,p.all okP=true/\p≠[]))
 |[],n,h,r,e=>by
  simp only [sp,List.cons.injEq] at e;obtain ⟨rfl,rfl⟩:=e;simp
 |c :: t,n,h,r,e=>by
  rw [List.foldl_cons];simp only [sp] at e
  obtain ⟨h',r',e'⟩:∃ h' r',sp t=h' :: r':=by
   cases hs:sp t with
   |nil=>exact absurd hs (sp_ne t)
   |cons a b=>exact ⟨a,b,rfl⟩
  by_cases hc:c=47
  ·rw [if_pos hc] at e
   simp only [List.cons.injEq] at e;obtain ⟨rfl,rfl⟩:=e
   by_cases hn:n=0
   ·subst hn
    simp [plS,hc,pl_none]
   ·have ih:=pl_iff t 0 h' r' e'
    simp only [plS,hc,if_true,Option.bind_some,if_neg hn];rw [ih,e']
    constructor
    ·rintro ⟨a,b,d⟩
     refine ⟨rfl,by simp;omega,fun p hp=>?_⟩
     rcases List.mem_cons.1 hp with rfl|hp
     ·exact ⟨a,fun e=>by rw [e] at b;simp at b⟩
     ·exact d p hp
    ·rintro ⟨_,_,d⟩
     have:=d h' (by simp)
     refine ⟨this.1,?_,fun p hp=>d p (by simp [hp])⟩
     have:=List.length_pos_iff.2 this.2;omega
  ·rw [if_neg hc,e'] at e
   simp only [List.cons.injEq] at e;obtain ⟨rfl,rfl⟩:=e
   cases hok:okP c
   ·simp [plS,hc,hok,pl_none]
   ·have ih:=pl_iff t (n+1) h' r' e'
    simp only [plS,if_neg hc,Option.bind_some,hok,if_true];rw [ih,List.all_cons,hok,Bool.true_and,List.length_cons]
    constructor
    ·rintro ⟨a,b,d⟩
     exact ⟨a,by omega,d⟩
    ·rintro ⟨a,b,d⟩
     exact ⟨a,by omega,d⟩
def placeR (l:List UInt8):Bool:=(match l.foldl plS (some 0) with|some m=>decide (0<m)|none=>false) && decide ((l.length:Int)<=40)
theorem place_is (s:ByteArray):placeB s=placeR s.data.toList:=by
 have hparts:(parts s).map (·.data.toList)=sp s.data.toList:=by
  unfold parts;rw [Lib.splitB_data]
  exact split_sp _ _ (count_ge _ _ (by omega))
 have h1:(parts s).all (fun p=>madeB p.data.toList 40 [95,43,45])=(sp s.data.toList).all (fun p=>madeB p 40 [95,43,45]):=by
  rw [<-hparts,List.all_map]
  rfl
 unfold placeB placeR;rw [h1,len_eq]
 by_cases hl:(s.size:Int)<=40
 ·rw [decide_eq_true hl,Bool.and_true,Bool.and_true]
  obtain ⟨h,r,e⟩:∃ h r,sp s.data.toList=h :: r:=by
   cases hs:sp s.data.toList with
   |nil=>exact absurd hs (sp_ne _)
   |cons a b=>exact ⟨a,b,rfl⟩
  have hi:=pl_iff s.data.toList 0 h r e
  have hm:∀ p∈sp s.data.toList,madeB p 40 [95,43,45]=(p.all okP && !p.isEmpty):=fun p hp=>by
   have:=sp_le hp;rw [len_eq] at this;unfold madeB
   rw [decide_eq_true (show (p.length:Int)<=40 by omega),Bool.and_true]
   rfl
  rw [Bool.eq_iff_iff]
  have hR:((match s.data.toList.foldl plS (some 0) with|some m=>decide (0<m)|none=>false)=true)↔∃ m,s.data.toList.foldl plS (some 0)=some m/\0<m:=by
   cases s.data.toList.foldl plS (some 0) with
   |none=>simp
   |some m=>simp
  rw [hR,hi,List.all_eq_true]
  constructor
  ·intro g
   have gh:=g h (by rw [e];simp)
   rw [hm h (by rw [e];simp)] at gh
   simp only [Bool.and_eq_true,Bool.not_eq_true',List.isEmpty_eq_false_iff] at gh
   refine ⟨gh.1,by have:=List.length_pos_iff.2 gh.2;omega,fun p hp=>?_⟩
   have gp:=g p (by rw [e];simp [hp])
   rw [hm p (by rw [e];simp [hp])] at gp
   simpa [Bool.and_eq_true] using gp
  ·rintro ⟨a,b,d⟩ p hp
   rw [hm p hp];rw [e] at hp
   rcases List.mem_cons.1 hp with rfl|hp
   ·rw [a]
    cases p with
    |nil=>simp at b
    |cons _ _=>rfl
   ·have:=d p hp
    rw [this.1]
    cases p with
    |nil=>exact absurd rfl this.2
    |cons _ _=>rfl
 ·rw [decide_eq_false hl,Bool.and_false,Bool.and_false]
theorem pl_stop {l:List UInt8} {k n:Nat} (hk:k<l.length) (h:(l.take k).foldl plS (some 0)=some n) (hs:plS (some n) l[k]=none):placeR l=false:=by
 have h1:l.foldl plS (some 0)=none:=by
  have e:l=l.take (k+1)++l.drop (k+1):=(List.take_append_drop _ _).symm;rw [e,List.foldl_append,List.take_succ_eq_append_getElem hk,List.foldl_append,h,List.foldl_cons,List.foldl_nil,hs,pl_none]
 unfold placeR;rw [h1]
 rfl
theorem pl_step {l:List UInt8} {k n m:Nat} (hk:k<l.length) (h:(l.take k).foldl plS (some 0)=some n) (hs:plS (some n) l[k]=some m):(l.take (k+1)).foldl plS (some 0)=some m:=by
 rw [List.take_succ_eq_append_getElem hk,List.foldl_append,h,List.foldl_cons,List.foldl_nil,hs]
theorem has3 (a b d c:UInt8):([a,b,d]:List UInt8).contains c=((((c.toNat:Int) == (a.toNat:Int)) || ((c.toNat:Int) == (b.toNat:Int))) || ((c.toNat:Int) == (d.toNat:Int))):=by
 have e:∀ x:UInt8,(c == x)=((c.toNat:Int) == (x.toNat:Int)):=fun x=>by
  rw [Bool.eq_iff_iff,beq_iff_eq,beq_iff_eq,Int.natCast_inj,UInt8.toNat_inj]
 simp only [List.contains_cons,List.contains_nil,Bool.or_false,e,Bool.or_assoc]
theorem okP_is (c:UInt8):okP c=(letterI c.toNat || digI c.toNat || ((((c.toNat:Int) == 95) || ((c.toNat:Int) == 43)) || ((c.toNat:Int) == 45))):=by
 unfold okP;rw [ok_is,has3]
 rfl
theorem place_any (s:ByteArray) (w:World) (hs:s.size<=140737488355328):Calls prog 34 #[.string s] w fun e w'=>e= .returned (.bool (placeB s))/\w'=w:=by
 rw [place_is];obtain ⟨R,hR⟩:∃ R,placeR s.data.toList=R:=⟨_,rfl⟩;rw [hR]
 have HN:Hid (∀ (k n:Nat) (hk:k<s.size),(s.data.toList.take k).foldl plS (some 0)=some n->plS (some n) (s[k]'hk)=none->R=false):=fun k n hk h h2=>by
  rw [<-hR]
  exact pl_stop (by rw [len_eq];exact hk) h h2
 have HX:Hid (∀ (k n m:Nat) (hk:k<s.size),(s.data.toList.take k).foldl plS (some 0)=some n->plS (some n) (s[k]'hk)=some m->(s.data.toList.take (k+1)).foldl plS (some 0)=some m):=fun k n m hk h h2=>pl_step (by rw [len_eq];exact hk) h h2
 have HE:Hid (∀ m:Nat,s.data.toList.foldl plS (some 0)=some m->R=(decide (0<m) && decide (((s.size:Nat):Int)<=40))):=fun m h=>by
  rw [<-hR];unfold placeR;rw [h,len_eq]
 clear hR;go_enter func34,ntmps34
 go_wp2_with fail
 go_loopw [3,4] (fun q i wr=>∃ k n:Nat,k<=s.size/\n<=k/\i= .int .i64 k/\q= .int .i64 n/\(s.data.toList.take k).foldl plS (some 0)=some n/\wr=w) (fun _ i _=>s.size - (intOf i).toNat)
 case atStart=>exact ⟨0,0,Nat.zero_le _,Nat.zero_le _,rfl,rfl,rfl,rfl⟩
 case round=>
  obtain ⟨k,n,hk,hnk,rfl,rfl,hf,rfl⟩:=hrel
  by_cases hkn:k<s.size
  ·have HN2:=hid (HN.out k n hkn hf)
   have HX2:=hid (fun m=>HX.out k n m hkn hf);have hp:=okP_is (s[k]'hkn)
   have hc47:((s[k]'hkn)=47)↔(((s[k]'hkn).toNat:Int) == 47)=true:=by
    rw [beq_iff_eq,show (47:Int)=((47:UInt8).toNat:Int) from rfl,Int.natCast_inj,UInt8.toNat_inj]
   have hst:plS (some n) (s[k]'hkn)=if (s[k]'hkn)=47 then (if n=0 then none else some 0) else if okP (s[k]'hkn)=true then some (n+1) else none:=rfl
   rw [hst] at HN2;simp only [hst] at HX2;clear hf hst
   cases h47:(((s[k]'hkn).toNat:Int) == 47)
   ·have hc:¬ (s[k]'hkn)=47:=fun e=>by rw [hc47.1 e] at h47;cases h47
    rw [if_neg hc] at HN2;simp only [if_neg hc] at HX2;clear hc47 hc;generalize okP (s[k]'hkn)=ok at*;have n3:(((s[k]'hkn).toNat:Int) != 95)= !(((s[k]'hkn).toNat:Int) == 95):=rfl;have n4:(((s[k]'hkn).toNat:Int) != 43)= !(((s[k]'hkn).toNat:Int) == 43):=rfl;have n5:(((s[k]'hkn).toNat:Int) != 45)= !(((s[k]'hkn).toNat:Int) == 45):=rfl
    cases h1:letterI ((s[k]'hkn).toNat:Int)<;>cases h2:digI ((s[k]'hkn).toNat:Int)<;>cases h3:(((s[k]'hkn).toNat:Int) == 95)<;>cases h4:(((s[k]'hkn).toNat:Int) == 43)<;>cases h5:(((s[k]'hkn).toNat:Int) == 45)
    all_goals rw [h1,h2,h3,h4,h5] at hp
    all_goals rw [h3] at n3
    all_goals rw [h4] at n4
    all_goals rw [h5] at n5
    all_goals simp only [Bool.not_false,Bool.not_true] at n3 n4 n5
    all_goals simp only [Bool.or_false,Bool.or_true] at hp
    all_goals subst hp
    all_goals go_wp2_with (first
     |(go_at_call 62;refine (letter_any _ _).mono ?_;rintro e w1 ⟨rfl,rfl⟩;rw [h1])
     |(go_at_call 63;refine (digit_any _ _).mono ?_;rintro e w1 ⟨rfl,rfl⟩;rw [h2]))
    all_goals first
     |(refine ⟨⟨k+1,n+1,by omega,by omega,by go_num,by go_num,HX2.out (n+1) rfl,trivial⟩,by simp [intOf];omega⟩;done)
     |(go_ret;refine ⟨?_,rfl⟩;rw [HN2.out rfl];rfl)
   ·have hc:(s[k]'hkn)=47:=hc47.2 h47
    rw [if_pos hc] at HN2;simp only [if_pos hc] at HX2;clear hc47 hc hp
    by_cases hn0:n=0
    ·subst hn0
     have hr:=HN2.out rfl;subst hr;go_wp2;go_ret;exact ⟨rfl,rfl⟩
    ·have hn1:(((n:Nat):Int) == 0)=false:=by rw [beq_eq_false_iff_ne];omega
     have hx:=HX2.out 0 (by rw [if_neg hn0])
     have HX3:=hid hx;clear hn0 hx;go_wp2
     exact ⟨⟨k+1,0,by omega,by omega,by go_num,rfl,HX3.out,trivial⟩,by simp [intOf];omega⟩
  ·obtain rfl:k=s.size:=by omega
   rw [show s.data.toList.take s.size=s.data.toList from List.take_of_length_le (by simp)] at hf
   have hr:=HE.out n hf;clear HN HX HE hf
   cases h1:decide (0<n)<;>cases h2:decide (((s.size:Nat):Int)<=40)
   all_goals rw [h1,h2] at hr
   all_goals subst hr
   all_goals go_wp2
   all_goals go_ret
   all_goals exact ⟨rfl,rfl⟩
end R10
end
end
section
section
namespace R10
open Go.RowKit Mem Plc Src
theorem index_at (c:UInt8) (s r:List UInt8) (h:c ∉ s):Lib.index (s++c :: r) [c]=s.length:=by
 induction s with
 |nil=>simp [Lib.index,List.isPrefixOf]
 |cons b l ih=>
  have hb:c≠b:=fun e=>h (by simp [e])
  have ih:=ih fun hm=>h (by simp [hm])
  rw [List.cons_append,Lib.index,ih]
  have h1:([c]:List UInt8).isPrefixOf (b :: (l++c :: r))=false:=by simp [List.isPrefixOf,hb]
  have h2:(((l.length:Nat):Int) == -1)=false:=by rw [beq_eq_false_iff_ne];omega
  rw [h1,h2];simp
theorem index_out (c:UInt8) (s:List UInt8) (h:c ∉ s):Lib.index s [c]= -1:=by
 induction s with
 |nil=>rfl
 |cons b l ih=>
  have hb:c≠b:=fun e=>h (by simp [e])
  have ih:=ih fun hm=>h (by simp [hm])
  rw [Lib.index,ih]
  have h1:([c]:List UInt8).isPrefixOf (b :: l)=false:=by simp [List.isPrefixOf,hb]
  rw [h1]
  rfl
theorem cut_at (c:UInt8) (s r:List UInt8) (h:c ∉ s):Lib.cut (s++c :: r) [c]=(s,r,true):=by
 unfold Lib.cut
 rw [index_at c s r h,if_pos (by omega)]
 simp
theorem cut_out (c:UInt8) (s:List UInt8) (h:c ∉ s):Lib.cut s [c]=(s,[],false):=by
 unfold Lib.cut
 rw [index_out c s h,if_neg (by omega)]
theorem contains_is (c:UInt8) (s:List UInt8):Lib.contains s [c]=decide (c∈s):=by
 unfold Lib.contains
 by_cases h:c∈s
 ·obtain ⟨a,b,rfl,ha⟩:=List.eq_append_cons_of_mem h
  rw [index_at c a b ha,decide_eq_true (by omega),decide_eq_true (by simp)]
 ·rw [index_out c s h,decide_eq_false (by omega),decide_eq_false h]
def fmtAt (l:List UInt8) (i:Nat):Bool:=match l[i]? with
 |none=>true
 |some c=>if c=37 then (match l[i+1]? with|some d=>sz d|none=>false) else if c=47 then !(decide (i=0) || decide (i+1=l.length)) else okB [43,45] c
def fmtR (l:List UInt8):Bool:=(List.range l.length).all (fmtAt l) && ((decide ((1:Int)<=(l.length:Nat)) && decide (((l.length:Nat):Int)<=20)) && decide (l.count 37+l.count 47<=1))
theorem ok4_is (c:UInt8):okB [43,45,37,47] c=true↔(okB [43,45] c=true\/c=37\/c=47):=by
 rw [ok_is,ok_is];simp only [List.contains_cons,List.contains_nil,Bool.or_false,Bool.or_eq_true,beq_iff_eq]
 constructor
 ·rintro ((h|h)|h|h|h|h)<;>simp [h]
 ·rintro (((h|h)|h|h)|h|h)<;>simp [h]
theorem at_mid {a b:List UInt8} {c:UInt8}:(a++c :: b)[a.length]?=some c/\(a++c :: b)[a.length+1]?=b[0]?:=by
 constructor
 ·rw [List.getElem?_append_right (Nat.le_refl _)];simp
 ·rw [List.getElem?_append_right (by omega)]
  rw [show a.length+1 - a.length=1 by omega]
  simp
theorem only_mid {a b:List UInt8} {c:UInt8} (ha:c ∉ a) (hb:c ∉ b) {i:Nat} (h:(a++c :: b)[i]?=some c):i=a.length:=by
 rcases Nat.lt_trichotomy i a.length with h1|h1|h1
 ·rw [List.getElem?_append_left h1] at h
  exact absurd (List.mem_of_getElem? h) ha
 ·exact h1
 ·rw [List.getElem?_append_right (by omega),show i - a.length=(i - a.length - 1)+1 by omega,List.getElem?_cons_succ] at h
  exact absurd (List.mem_of_getElem? h) hb
theorem fmt_all {l:List UInt8}:(List.range l.length).all (fmtAt l)=true↔∀ i,i<l.length->fmtAt l i=true:=by
 rw [List.all_eq_true];simp only [List.mem_range]
theorem first_sz {b:List UInt8}:firstSz b=true↔∃ d,b[0]?=some d/\sz d=true:=by
 cases b with
 |nil=>simp [firstSz]
 |cons d t=>simp [firstSz]
theorem format_is (l:List UInt8):formatB l=fmtR l:=by
 by_cases hl:(1:Int)<=(l.length:Nat)/\((l.length:Nat):Int)<=20
 rotate_left
 ·have h1:formatB l=false:=by
   unfold formatB madeB
   by_cases h0:(1:Int)<=(l.length:Nat)
   ·rw [decide_eq_false (show ¬ ((l.length:Nat):Int)<=20 from fun e=>hl ⟨h0,e⟩)]
    simp
   ·have:l=[]:=List.length_eq_zero_iff.1 (by omega)
    subst this
    rfl
  have h2:fmtR l=false:=by
   unfold fmtR
   by_cases h0:(1:Int)<=(l.length:Nat)
   ·rw [decide_eq_false (show ¬ ((l.length:Nat):Int)<=20 from fun e=>hl ⟨h0,e⟩)]
    simp
   ·rw [decide_eq_false h0]
    simp
  rw [h1,h2]
 obtain ⟨hl1,hl2⟩:=hl
 have hne:l≠[]:=fun e=>by subst e;simp at hl1
 cases hall:l.all (okB [43,45,37,47])
 ·have h1:formatB l=false:=by
   unfold formatB madeB;rw [hall]
   rfl
  have h2:fmtR l=false:=by
   rw [List.all_eq_false] at hall;obtain ⟨c,hc,hf⟩:=hall;obtain ⟨i,hi,rfl⟩:=List.getElem_of_mem hc;have hno:¬ (okB [43,45] l[i]=true\/l[i]=37\/l[i]=47):=fun e=>hf ((ok4_is _).2 e)
   have:(List.range l.length).all (fmtAt l)=false:=by
    rw [List.all_eq_false]
    refine ⟨i,List.mem_range.2 hi,?_⟩
    unfold fmtAt
    rw [List.getElem?_eq_getElem hi]
    simp only;rw [if_neg fun e=>hno (.inr (.inl e)),if_neg fun e=>hno (.inr (.inr e))];exact fun e=>hno (.inl e)
   unfold fmtR;rw [this]
   rfl
  rw [h1,h2]
 have hok:∀ c∈l,okB [43,45] c=true\/c=37\/c=47:=fun c hc=>(ok4_is c).1 (List.all_eq_true.1 hall c hc)
 have hmade:madeB l 20 [43,45,37,47]=true:=by
  unfold madeB;rw [hall,decide_eq_true hl2]
  cases l with
  |nil=>exact absurd rfl hne
  |cons _ _=>rfl
 unfold formatB fmtR;rw [hmade,decide_eq_true hl1,decide_eq_true hl2];simp only [Bool.true_and,Bool.and_true]
 by_cases h37:(37:UInt8)∈l
 ·obtain ⟨a,b,rfl,ha⟩:=List.eq_append_cons_of_mem h37
  rw [cut_at 37 a b ha];simp only [if_true];rw [contains_is,contains_is,Bool.eq_iff_iff];simp only [Bool.and_eq_true,Bool.not_eq_true',decide_eq_false_iff_not,decide_eq_true_eq,fmt_all,first_sz]
  have hcount:(a++37 :: b).count 37=b.count 37+1:=by
   rw [List.count_append,List.count_eq_zero_of_not_mem ha,List.count_cons_self];omega
  constructor
  ·rintro ⟨h47,hb,d,hd,hsz⟩
   refine ⟨fun i hi=>?_,?_⟩
   ·unfold fmtAt
    rw [List.getElem?_eq_getElem hi]
    simp only;have hm:(a++37 :: b)[i]∈a++37 :: b:=List.getElem_mem hi
    split
    ·next e=>
     have:=only_mid ha hb (i:=i) (by rw [List.getElem?_eq_getElem hi,e])
     subst this;rw [at_mid.2,hd];exact hsz
    ·next e=>
     rw [if_neg fun e2=>h47 (by rw [<-e2];exact hm)]
     rcases hok _ hm with h|h|h
     ·exact h
     ·exact absurd h e
     ·exact absurd (by rw [<-h];exact hm) h47
   ·rw [hcount,List.count_eq_zero_of_not_mem hb,List.count_eq_zero_of_not_mem h47];omega
  ·rintro ⟨hf,hc⟩
   rw [hcount] at hc
   have hb:(37:UInt8) ∉ b:=fun hm=>by have:=List.count_pos_iff.2 hm;omega
   have h47:(47:UInt8) ∉ a++37 :: b:=fun hm=>by have:=List.count_pos_iff.2 hm;omega
   have hmid:=hf a.length (by simp)
   unfold fmtAt at hmid;rw [at_mid.1,at_mid.2] at hmid;simp only [if_true] at hmid
   cases hd:b[0]? with
   |none=>rw [hd] at hmid;cases hmid
   |some d=>rw [hd] at hmid;exact ⟨h47,hb,d,rfl,hmid⟩
 ·rw [cut_out 37 l h37]
  simp only [Bool.false_eq_true,if_false]
  by_cases h47:(47:UInt8)∈l
  ·obtain ⟨a,b,rfl,ha⟩:=List.eq_append_cons_of_mem h47
   rw [cut_at 47 a b ha];simp only [Bool.not_true,Bool.false_or];rw [contains_is,Bool.eq_iff_iff]
   have hcount:(a++47 :: b).count 47=b.count 47+1:=by
    rw [List.count_append,List.count_eq_zero_of_not_mem ha,List.count_cons_self];omega
   simp only [Bool.and_eq_true,Bool.not_eq_true',decide_eq_false_iff_not,decide_eq_true_eq,fmt_all,List.isEmpty_eq_false_iff]
   constructor
   ·rintro ⟨hna,hnb,hb⟩
    refine ⟨fun i hi=>?_,?_⟩
    ·unfold fmtAt
     rw [List.getElem?_eq_getElem hi]
     simp only;have hm:(a++47 :: b)[i]∈a++47 :: b:=List.getElem_mem hi
     rw [if_neg fun e=>h37 (by rw [<-e];exact hm)]
     split
     ·next e=>
      have:=only_mid ha hb (i:=i) (by rw [List.getElem?_eq_getElem hi,e])
      subst this;have h1:=List.length_pos_iff.2 hna;have h2:=List.length_pos_iff.2 hnb;simp;exact ⟨hna,hnb⟩
     ·next e=>
      rcases hok _ hm with h|h|h
      ·exact h
      ·exact absurd (by rw [<-h];exact hm) h37
      ·exact absurd h e
    ·rw [hcount,List.count_eq_zero_of_not_mem hb,List.count_eq_zero_of_not_mem h37];omega
   ·rintro ⟨hf,hc⟩
    rw [hcount] at hc
    have hb:(47:UInt8) ∉ b:=fun hm=>by have:=List.count_pos_iff.2 hm;omega
    have hmid:=hf a.length (by simp)
    unfold fmtAt at hmid;rw [at_mid.1] at hmid
    simp only [show ¬ ((47:UInt8)=37) from by decide,if_false,if_true] at hmid
    simp at hmid;exact ⟨hmid.1,hmid.2,hb⟩
  ·rw [cut_out 47 l h47]
   simp only [Bool.not_false,Bool.true_or];rw [Bool.eq_iff_iff];simp only [Bool.and_eq_true,fmt_all,decide_eq_true_eq,true_iff]
   refine ⟨fun i hi=>?_,by rw [List.count_eq_zero_of_not_mem h37,List.count_eq_zero_of_not_mem h47];omega⟩
   unfold fmtAt
   rw [List.getElem?_eq_getElem hi]
   simp only;have hm:l[i]∈l:=List.getElem_mem hi
   rw [if_neg fun e=>h37 (by rw [<-e];exact hm),if_neg fun e=>h47 (by rw [<-e];exact hm)]
   rcases hok _ hm with h|h|h
   ·exact h
   ·exact absurd (by rw [<-h];exact hm) h37
   ·exact absurd (by rw [<-h];exact hm) h47
theorem count_succ {l:List UInt8} {k:Nat} (hk:k<l.length) (c:UInt8):(l.take (k+1)).count c=(l.take k).count c+if l[k]=c then 1 else 0:=by
 rw [List.take_succ_eq_append_getElem hk,List.count_append,List.count_singleton];simp
theorem byte_iff {c:UInt8} {n:Nat} (hn:n<256):c=UInt8.ofNat n↔((c.toNat:Int) == (n:Int))=true:=by
 rw [beq_iff_eq,Int.natCast_inj,<-UInt8.toNat_inj,UInt8.toNat_ofNat',Nat.mod_eq_of_lt hn]
theorem format_any (s:ByteArray) (w:World) (hs:s.size<=140737488355328):Calls prog 36 #[.string s] w fun e w'=>e= .returned (.bool (formatB s.data.toList))/\w'=w:=by
 rw [format_is];obtain ⟨R,hR⟩:∃ R,fmtR s.data.toList=R:=⟨_,rfl⟩;rw [hR]
 have HN:Hid (∀ k:Nat,k<s.size->fmtAt s.data.toList k=false->R=false):=fun k hk h=>by
  rw [<-hR];unfold fmtR
  have:(List.range s.data.toList.length).all (fmtAt s.data.toList)=false:=by
   rw [List.all_eq_false]
   exact ⟨k,List.mem_range.2 (by rw [len_eq];exact hk),by rw [h];decide⟩
  rw [this]
  rfl
 have HE:Hid ((∀ j,j<s.size->fmtAt s.data.toList j=true)->R=((decide ((1:Int)<=(s.size:Nat)) && decide (((s.size:Nat):Int)<=20)) && decide (s.data.toList.count 37+s.data.toList.count 47<=1))):=fun h=>by
  rw [<-hR];unfold fmtR
  rw [fmt_all.2 fun i hi=>h i (by rw [len_eq] at hi;exact hi),Bool.true_and,len_eq]
 clear hR;go_enter func36,ntmps36
 go_wp2_with fail
 go_loopw [3,4,5] (fun p q i wr=>∃ k a b:Nat,k<=s.size/\a+b<=k/\i= .int .i64 k/\p= .int .i64 a/\q= .int .i64 b/\(s.data.toList.take k).count 37=a/\(s.data.toList.take k).count 47=b/\(∀ j,j<k->fmtAt s.data.toList j=true)/\wr=w) (fun _ _ i _=>s.size - (intOf i).toNat)
 case atStart=>exact ⟨0,0,0,Nat.zero_le _,Nat.zero_le _,rfl,rfl,rfl,rfl,rfl,fun j hj=>absurd hj (Nat.not_lt_zero _),rfl⟩
 case round=>
  obtain ⟨k,a,b,hk,hab,rfl,rfl,rfl,hca,hcb,hall,rfl⟩:=hrel;have Hall:=hid hall;clear hall
  by_cases hkn:k<s.size
  ·have hkl:k<s.data.toList.length:=by rw [len_eq];exact hkn
   have e37:=count_succ hkl 37;have e47:=count_succ hkl 47;rw [hca] at e37;rw [hcb] at e47;have hgk:s.data.toList[k]=s[k]'hkn:=rfl;rw [hgk] at e37 e47
   have i37:(s[k]'hkn)=37↔(((s[k]'hkn).toNat:Int) == 37)=true:=byte_iff (n:=37) (by decide)
   have i47:(s[k]'hkn)=47↔(((s[k]'hkn).toNat:Int) == 47)=true:=byte_iff (n:=47) (by decide)
   have hat:fmtAt s.data.toList k=(if (s[k]'hkn)=37 then (match s.data.toList[k+1]? with|some d=>sz d|none=>false) else if (s[k]'hkn)=47 then !(decide (k=0) || decide (k+1=s.size)) else okB [43,45] (s[k]'hkn)):=by
    unfold fmtAt
    rw [List.getElem?_eq_getElem hkl,len_eq]
    rfl
   have HNk:=hid (HN.out k hkn)
   have HAll:Hid (fmtAt s.data.toList k=true->∀ j,j<k+1->fmtAt s.data.toList j=true):=fun h j hj=>by
    rcases Nat.lt_succ_iff_lt_or_eq.1 hj with h1|rfl
    ·exact Hall.out j h1
    ·exact h
   have hw1:wrap64 ((k:Int)+1)=k+1:=by unfold wrap64;omega
   rw [hat] at HNk HAll;clear hca hcb hat hgk
   cases h37:(((s[k]'hkn).toNat:Int) == 37)
   ·have n37:¬ (s[k]'hkn)=37:=fun e=>by rw [i37.1 e] at h37;cases h37
    rw [if_neg n37] at e37 HNk HAll
    cases h47:(((s[k]'hkn).toNat:Int) == 47)
    ·have n47:¬ (s[k]'hkn)=47:=fun e=>by rw [i47.1 e] at h47;cases h47
     rw [if_neg n47] at e47 HNk HAll;have hp:=ok_is [43,45] (s[k]'hkn);rw [has2] at hp;rw [show ((43:UInt8).toNat:Int)=43 from rfl,show ((45:UInt8).toNat:Int)=45 from rfl] at hp;generalize okB [43,45] (s[k]'hkn)=ok at*;have E37:=hid e37;have E47:=hid e47;clear i37 i47 n37 n47 e37 e47;have n3:(((s[k]'hkn).toNat:Int) != 43)= !(((s[k]'hkn).toNat:Int) == 43):=rfl;have n4:(((s[k]'hkn).toNat:Int) != 45)= !(((s[k]'hkn).toNat:Int) == 45):=rfl
     cases h1:letterI ((s[k]'hkn).toNat:Int)<;>cases h2:digI ((s[k]'hkn).toNat:Int)<;>cases h3:(((s[k]'hkn).toNat:Int) == 43)<;>cases h4:(((s[k]'hkn).toNat:Int) == 45)
     all_goals rw [h1,h2,h3,h4] at hp
     all_goals rw [h3] at n3
     all_goals rw [h4] at n4
     all_goals simp only [Bool.not_false,Bool.not_true] at n3 n4
     all_goals simp only [Bool.or_false,Bool.or_true] at hp
     all_goals subst hp
     all_goals go_wp2_with (first
      |(go_at_call 62;refine (letter_any _ _).mono ?_;rintro e w1 ⟨rfl,rfl⟩;rw [h1])
      |(go_at_call 63;refine (digit_any _ _).mono ?_;rintro e w1 ⟨rfl,rfl⟩;rw [h2]))
     all_goals first
      |(refine ⟨⟨k+1,a,b,by omega,by omega,by go_num,rfl,rfl,E37.out,E47.out,HAll.out (by trivial),trivial⟩,by simp [intOf];omega⟩;done)
      |(go_ret;refine ⟨?_,rfl⟩;rw [HNk.out (by trivial)];rfl)
    ·have y47:(s[k]'hkn)=47:=i47.2 h47
     rw [if_pos y47] at e47 HNk HAll;have E37:=hid e37;have E47:=hid e47;clear i37 i47 n37 y47 e37 e47
     have hw2:wrap64 ((s.size:Int) - 1)=s.size - 1:=by unfold wrap64;omega
     have hw3:wrap64 ((b:Int)+1)=b+1:=by unfold wrap64;omega
     by_cases hk0:k=0
     ·subst hk0
      have hr:=HNk.out rfl;subst hr;go_wp2;go_ret;exact ⟨rfl,rfl⟩
     ·have b0:(((k:Nat):Int) == 0)=false:=by rw [beq_eq_false_iff_ne];omega
      by_cases hke:k+1=s.size
      ·have b1:(((k:Nat):Int) == (s.size:Int) - 1)=true:=by rw [beq_iff_eq];omega
       have hr:=HNk.out (by rw [decide_eq_true hke,Bool.or_true];rfl)
       subst hr;clear hke;go_wp2;go_ret;exact ⟨rfl,rfl⟩
      ·have b1:(((k:Nat):Int) == (s.size:Int) - 1)=false:=by rw [beq_eq_false_iff_ne];omega
       have hA:=HAll.out (by rw [decide_eq_false hke,decide_eq_false hk0];rfl)
       have HA:=hid hA;clear hA hke hk0;go_wp2
       exact ⟨⟨k+1,a,b+1,by omega,by omega,by go_num,rfl,by go_num,E37.out,E47.out,HA.out,trivial⟩,by simp [intOf];omega⟩
   ·have y37:(s[k]'hkn)=37:=i37.2 h37
    have n47:¬ (s[k]'hkn)=47:=fun e=>by rw [y37] at e;exact absurd e (by decide)
    rw [if_pos y37] at e37 HNk HAll;rw [if_neg n47] at e47;have E37:=hid e37;have E47:=hid e47;clear i37 i47 y37 n47 e37 e47
    have hw3:wrap64 ((a:Int)+1)=a+1:=by unfold wrap64;omega
    by_cases hke:k+1<s.size
    ·have hge:decide (((s.size:Nat):Int)<=(k:Int)+1)=false:=decide_eq_false (by omega)
     have hg1:s.data.toList[k+1]?=some (s[k+1]'hke):=by
      rw [List.getElem?_eq_getElem (by rw [len_eq];exact hke)]
      rfl
     rw [hg1] at HNk HAll;simp only [sz] at HNk HAll;clear hg1;have n3:(((s[k+1]'hke).toNat:Int) != 115)= !(((s[k+1]'hke).toNat:Int) == 115):=rfl;have n4:(((s[k+1]'hke).toNat:Int) != 122)= !(((s[k+1]'hke).toNat:Int) == 122):=rfl
     cases h3:(((s[k+1]'hke).toNat:Int) == 115)<;>cases h4:(((s[k+1]'hke).toNat:Int) == 122)
     all_goals rw [h3] at n3
     all_goals rw [h4] at n4
     all_goals rw [h3,h4] at HNk HAll
     all_goals simp only [Bool.not_false,Bool.not_true] at n3 n4
     all_goals go_wp2
     all_goals first
      |(refine ⟨⟨k+1,a+1,b,by omega,by omega,by go_num,by go_num,rfl,E37.out,E47.out,HAll.out (by trivial),trivial⟩,by simp [intOf];omega⟩;done)
      |(go_ret;refine ⟨?_,rfl⟩;rw [HNk.out (by trivial)];rfl)
    ·have hge:decide (((s.size:Nat):Int)<=(k:Int)+1)=true:=decide_eq_true (by omega)
     have hg1:s.data.toList[k+1]?=none:=List.getElem?_eq_none (by rw [len_eq];omega)
     rw [hg1] at HNk;have hr:=HNk.out rfl;subst hr;clear hg1 hke;go_wp2;go_ret;exact ⟨rfl,rfl⟩
  ·obtain rfl:k=s.size:=by omega
   rw [show s.data.toList.take s.size=s.data.toList from List.take_of_length_le (by simp)] at hca hcb
   have hr:=HE.out Hall.out;rw [hca,hcb] at hr
   have hw3:wrap64 ((a:Int)+b)=a+b:=by unfold wrap64;omega
   have hdec:decide (((a:Int)+b)<=1)=decide (a+b<=1):=by
    rw [decide_eq_decide];omega
   rw [<-hdec] at hr;clear hca hcb hdec HN HE Hall hkn hk
   cases h1:decide ((1:Int)<=(s.size:Nat))<;>cases h2:decide (((s.size:Nat):Int)<=20)<;>cases h3:decide (((a:Int)+b)<=1)
   all_goals rw [h1,h2,h3] at hr
   all_goals subst hr
   all_goals go_wp2
   all_goals go_ret
   all_goals exact ⟨rfl,rfl⟩
end R10
end
end
end Go.Proofs.YtmlejgdohcpmjaaGreatDoor
