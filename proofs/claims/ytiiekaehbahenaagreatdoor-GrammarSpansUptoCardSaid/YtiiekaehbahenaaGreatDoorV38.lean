/-
  Contracts of the code that the law reaches, and plain laws. Conditions: as each says.
-/
import Derived.Test.YtiiekaehbahenaaGreatDoorV07
set_option linter.all false
set_option maxHeartbeats 40000000
set_option maxRecDepth 100000
namespace Go.Proofs.YtiiekaehbahenaaGreatDoor
open Lib (hid)
open Tryz
section
section
namespace Gr
open Go.RowKit Mem
def runA (l:Txt) (i n:Nat):Prop:=∀ j,j<n->dgA l (i+j)=true
theorem runA.zero (l:Txt) (i:Nat):runA l i 0:=fun j h=>absurd h (by omega)
theorem runA.step {l:Txt} {i n:Nat} (h:runA l i n) (hd:dgA l (i+n)=true):runA l i (n+1):=fun j hj=>by
 by_cases h2:j<n
 ·exact h j h2
 ·rw [show j=n from by omega];exact hd
theorem runA.tail {l:Txt} {i n:Nat} (h:runA l i (n+1)):dgA l i=true/\runA l (i+1) n:=
 ⟨h 0 (by omega),fun j hj=>by have:=h (j+1) (by omega);rwa [show i+(j+1)=i+1+j from by omega] at this⟩
theorem num_run {l:Txt}:∀ {n i v:Nat},runA l i n->∃ x,numA l n i v=some (x,i+n)
 |0,i,v,_=>⟨v,rfl⟩
 |n+1,i,v,h=>by
  obtain ⟨x,hx⟩:=num_run (v:=v*10+(byA l i - 48)) h.tail.2
  exact ⟨x,by rw [numA,if_pos h.tail.1,hx,show i+1+n=i+(n+1) from by omega]⟩
theorem fra_run {l:Txt}:∀ {n f i v x:Nat},runA l i n->dgA l (i+n)=false->n<=f->numA l n i v=some (x,i+n)->fraA l f i v=(x,f - n,i+n)
 |0,f,i,v,x,_,hd,_,hx=>by
  injection hx with hx;injection hx with hx hx2
  cases f with
  |zero=>rw [fraA,<-hx];rfl
  |succ f=>rw [fraA,if_neg (by rw [show i=i+0 from rfl,hd];decide),<-hx];rfl
 |n+1,0,i,v,x,_,_,hf,_=>absurd hf (by omega)
 |n+1,f+1,i,v,x,h,hd,hf,hx=>by
  rw [numA,if_pos h.tail.1] at hx;rw [fraA,if_pos h.tail.1]
  have e:i+(n+1)=i+1+n:=by omega
  rw [e] at hx hd
  rw [fra_run h.tail.2 hd (by omega) hx,e,show f+1 - (n+1)=f - n from by omega]
theorem fra_full {l:Txt}:∀ {f i v:Nat},runA l i f->(fraA l f i v).2=(0,i+f)
 |0,i,v,_=>rfl
 |f+1,i,v,h=>by
  rw [fraA,if_pos h.tail.1,fra_full h.tail.2,show i+1+f=i+(f+1) from by omega]
theorem part_run {l:Txt} {i n:Nat} (h0:oneA l [46,44] i=true) (h:runA l (i+1) n) (hd:dgA l (i+1+n)=false):
  ((n<1\/9<n)/\partA l i=none)\/(1<=n/\n<=9/\∃ x,numA l n (i+1) 0=some (x,i+1+n)/\partA l i=some (((x*10 ^ (9 - n):Nat):Int),i+1+n)):=by
 rw [partA,if_pos h0]
 by_cases h9:n<=9
 ·obtain ⟨x,hx⟩:=num_run (v:=0) h
  rw [fra_run h hd h9 hx];simp only
  by_cases h1:n=0
  ·subst h1
   exact .inl ⟨.inl (by omega),by rw [if_pos (Or.inl rfl)]⟩
  ·exact .inr ⟨by omega,h9,x,hx,by rw [if_neg (by rw [hd];simp;omega)]⟩
 ·have hr:runA l (i+1) 9:=fun j hj=>h j (by omega)
  have e:=fra_full (v:=0) hr
  refine .inl ⟨.inr (by omega),?_⟩
  rw [if_pos (Or.inr (by rw [e];exact h 9 (by omega)))]
theorem part_out {l:Txt} {i:Nat} (h0:oneA l [46,44] i=false):partA l i=some (-1,i):=by
 rw [partA,h0];rfl
end Gr
end
end
section
section
namespace Gr
open Go.RowKit Mem Atl
theorem ddig_any (s:ByteArray) (i:Nat) (w:World) (_hs:s.size<=2097152) (hi:i<=5000000):
  Calls prog 32 #[.string s,.int .i64 i] w fun e w'=>e= .returned (.bool (dgA (tx s) i))/\∃ n,w'=w.drewN n:=by
 have h0:decide ((0:Int)<=(i:Int))=true:=by simp
 by_cases hk:i<s.size
 ·have hj:decide ((i:Int)<(s.size:Int))=true:=by simpa using hk
  have hi:(0:Int)<=(i:Int):=by omega
  have hj2:(i:Int)<(s.size:Int):=by omega
  rw [dg_at hk];obtain ⟨b,hb⟩:∃ b,s[i]'hk=b:=⟨_,rfl⟩;have Hb:=hid hb;rw [hb]
  cases h1:decide (48<=b.toNat)<;>cases h2:decide (b.toNat<=57)
  all_goals
   have i1:decide ((48:Int)<=(b.toNat:Int))=decide (48<=b.toNat):=by rw [Bool.eq_iff_iff];simp only [decide_eq_true_eq];omega
   have i2:decide ((b.toNat:Int)<=57)=decide (b.toNat<=57):=by rw [Bool.eq_iff_iff];simp only [decide_eq_true_eq];omega
   rw [h1] at i1;rw [h2] at i2;clear h1 h2;go_enter func32,ntmps32;go_wp2;go_ret;exact ⟨rfl,0,rfl⟩
 ·have hj:decide ((i:Int)<(s.size:Int))=false:=by simpa using hk
  rw [dg_end hk];go_enter func32,ntmps32;go_wp2;go_ret;exact ⟨rfl,0,rfl⟩
theorem drop_has (of:ByteArray) (k:Nat) (hk:k<of.size) (b:UInt8):(of.data.toList.drop k).contains b=((b == of[k]'hk) || (of.data.toList.drop (k+1)).contains b):=by
 have hk':k<of.data.toList.length:=by simpa using hk
 rw [List.drop_eq_getElem_cons hk',List.contains_cons]
 rfl
theorem drop_end (of:ByteArray) (k:Nat) (hk:¬ k<of.size) (b:UInt8):(of.data.toList.drop k).contains b=false:=by
 rw [List.drop_eq_nil_of_le (by simpa using hk)];rfl
theorem drw_same (w:World):w=w.drewN 0:=rfl
theorem dis_any (of s:ByteArray) (i:Nat) (w:World) (ho:of.size<=1000) (hs:s.size<=2097152) (hi:i<=5000000):
  Calls prog 20 #[.string s,.int .i64 i,.string of] w fun e w'=>e= .returned (.bool (oneA (tx s) of.data.toList i))/\∃ n,w'=w.drewN n:=by
 have h0:decide ((0:Int)<=(i:Int))=true:=by simp
 have hi0:(0:Int)<=(i:Int):=by omega
 obtain ⟨R,hR⟩:∃ R,oneA (tx s) of.data.toList i=R:=⟨_,rfl⟩;rw [hR]
 by_cases hk:i<s.size
 ·have hj:decide ((i:Int)<(s.size:Int))=true:=by simpa using hk
  have hj2:(i:Int)<(s.size:Int):=by omega
  rw [one_at _ hk] at hR;have HR:=hid hR;clear hR;go_enter func20,ntmps20
  go_wp2_with fail
  go_loopw [7] (fun v wr=>∃ k m:Nat,v= .int .i64 k/\k<=of.size/\(of.data.toList.drop k).contains (s[i]'hk)=R/\wr=w.drewN m) (fun v _=>of.size - (intOf v).toNat)
  case atStart=>exact ⟨0,0,rfl,Nat.zero_le _,HR.out,rfl⟩
  case round=>
   clear HR;obtain ⟨k,m,rfl,hko,hR,rfl⟩:=hrel
   by_cases hk2:k<of.size
   ·have hk3:decide ((k:Int)<(of.size:Int))=true:=by simpa using hk2
    have hk4:(k:Int)<(of.size:Int):=by omega
    have hk5:(0:Int)<=(k:Int):=by omega
    rw [drop_has of k hk2] at hR
    have hbc:(((s[i]'hk).toNat:Int) == ((of[k]'hk2).toNat:Int))=(s[i]'hk == of[k]'hk2):=by
     rw [Bool.eq_iff_iff,beq_iff_eq,beq_iff_eq]
     exact ⟨fun h=>UInt8.toNat_inj.1 (by omega),fun h=>by rw [h]⟩
    cases hq:(s[i]'hk == of[k]'hk2)
    ·rw [hq] at hR hbc
     simp only [Bool.false_or] at hR;have HR:=hid hR;clear hR hq;go_wp2
     go_quiet (fail)
     go_wp2
     refine ⟨⟨k+1,_,by go_num,by omega,HR.out,rfl⟩,by simp [intOf];omega⟩
    ·rw [hq] at hR hbc
     simp only [Bool.true_or] at hR;subst hR;clear hq;go_wp2
     go_quiet (fail)
     go_wp2;go_ret;exact ⟨rfl,_,drw2 _ _ _⟩
   ·have hk3:decide ((k:Int)<(of.size:Int))=false:=by simpa using hk2
    rw [drop_end of k hk2] at hR;subst hR;go_wp2;go_ret;exact ⟨rfl,_,rfl⟩
 ·have hj:decide ((i:Int)<(s.size:Int))=false:=by simpa using hk
  rw [one_end _ hk] at hR;subst hR;go_enter func20,ntmps20
  go_wp2_with fail
  go_loopw [7] (fun v wr=>v= .int .i64 0/\wr=w) (fun _ _=>0)
  case atStart=>exact ⟨rfl,rfl⟩
  case round=>
   obtain ⟨rfl,rfl⟩:=hrel
   by_cases hk2:0<of.size
   ·have hk3:decide ((0:Int)<(of.size:Int))=true:=decide_eq_true (by omega)
    go_wp2;go_ret;exact ⟨rfl,0,rfl⟩
   ·have hk3:decide ((0:Int)<(of.size:Int))=false:=decide_eq_false (by omega)
    go_wp2;go_ret;exact ⟨rfl,0,rfl⟩
theorem pow_step {V d j:Nat} (hV:V<10 ^ j) (hd:d<=9):V*10+d<10 ^ (j+1):=by
 rw [Nat.pow_succ];omega
def numO (r:Option (Nat×Nat)):Int:=match r with|some x=>x.1|none=> -1
theorem cast_dig {b:UInt8} (h1:48<=b.toNat):((b.toNat:Int) - 48)=((b.toNat - 48:Nat):Int):=by omega
theorem dnum_any (s:ByteArray) (i n:Nat) (w:World) (hs:s.size<=2097152) (hi:i<=4000000) (hn:n<=9):
  Calls prog 74 #[.string s,.int .i64 i,.int .i64 n] w fun e w'=>e= .returned (.int .i64 (numO (digA (tx s) n i)))/\∃ m,w'=w.drewN m:=by
 obtain ⟨R,hR⟩:∃ R,digA (tx s) n i=R:=⟨_,rfl⟩;rw [hR];rw [digA] at hR;have HR:=hid hR;clear hR;go_enter func74,ntmps74
 go_wp2_with fail
 go_loopw [7,8] (fun v q wr=>∃ j V m:Nat,j<=n/\v= .int .i64 V/\q= .int .i64 ((i+j:Nat):Int)/\V<10 ^ j/\numA (tx s) (n - j) (i+j) V=R/\wr=w.drewN m) (fun _ q _=>i+n - (intOf q).toNat)
 case atStart=>exact ⟨0,0,0,Nat.zero_le _,rfl,rfl,by simp,HR.out,rfl⟩
 case round=>
  clear HR;obtain ⟨j,V,m,hj,rfl,rfl,hV,hR,rfl⟩:=hrel
  have hV9:V<1000000000:=Nat.lt_of_lt_of_le hV (Nat.pow_le_pow_right (by omega) (by omega:j<=9))
  have HV:=hid hV;have HR:=hid hR;clear hV hR
  by_cases hjn:j<n
  ·have hd3:decide (((i+j:Nat):Int)<(i:Int)+(n:Int))=true:=decide_eq_true (by omega)
   have HD:=hid (fun z=>ddig_any s (i+j) z hs (by omega))
   cases hd:dgA (tx s) (i+j)
   ·rw [hd] at HD
    have hR:=HR.out
    rw [show n - j=n - j - 1+1 from by omega,numA,hd] at hR
    simp only [Bool.false_eq_true,if_false] at hR;subst hR;clear hd HR
    go_wp2_with (go_at_call 32;refine (HD.out _).mono ?_;rintro e w1 ⟨rfl,q,rfl⟩)
    go_ret;exact ⟨rfl,_,rfl⟩
   ·rw [hd] at HD
    have hR:=HR.out
    rw [show n - j=n - (j+1)+1 from by omega,numA,if_pos hd] at hR
    have hlt:=dg_lt hd;have hbd:=dg_bd hd;rw [by_at hlt] at hR hbd
    have hb0:(0:Int)<=((i+j:Nat):Int):=by omega
    have hb1:((i+j:Nat):Int)<(s.size:Int):=by omega
    obtain ⟨b,hb⟩:∃ b,s[i+j]'hlt=b:=⟨_,rfl⟩;rw [hb] at hR hbd;have Hb:=hid hb;have hw:((b.toNat:Int) - 48)=((b.toNat - 48:Nat):Int):=cast_dig hbd.1;obtain ⟨d,hd2⟩:∃ d,b.toNat - 48=d:=⟨_,rfl⟩
    have hd9:d<=9:=by omega
    have hw2:IntKind.u8.wrap ((b.toNat:Int) - 48)=(d:Int):=by rw [hw,hd2,IntKind.wrap_u8];omega
    rw [hd2] at hR;have HR2:=hid hR;clear hR HR hd hw hd2 hbd
    go_wp2_with (go_at_call 32;refine (HD.out _).mono ?_;rintro e w1 ⟨rfl,q,rfl⟩)
    refine ⟨⟨j+1,V*10+d,_,by omega,by go_num,by go_num,pow_step HV.out hd9,HR2.out,rfl⟩,by simp [intOf];omega⟩
  ·obtain rfl:j=n:=by omega
   have hd3:decide (((i+j:Nat):Int)<(i:Int)+(j:Int))=false:=decide_eq_false (by omega)
   have hR:=HR.out;rw [Nat.sub_self,numA] at hR;subst hR;clear HR;go_wp2;go_ret;exact ⟨rfl,_,rfl⟩
end Gr
end
end
end Go.Proofs.YtiiekaehbahenaaGreatDoor
