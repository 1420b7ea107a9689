/-
  Contracts of the code that the law reaches, and plain laws. Conditions: as each says.
-/
import Derived.Test.YtadamccojdocbaaGreatDoorV31
import Derived.Test.YtadamccojdocbaaGreatDoorV26
import Derived.Test.YtadamccojdocbaaGreatDoorV17
set_option linter.all false
set_option maxHeartbeats 40000000
set_option maxRecDepth 100000
namespace Go.Proofs.YtadamccojdocbaaGreatDoor
open Lib (hid)
open Tryz
section
section
namespace Cmq
open Go.RowKit Mem Civ Img Abr
theorem sign_any (s t:ByteArray) (w:World) (hs:s.size<=2097152) (h0:0<t.size) (ht:t.size<=2097152):
  Calls prog 214 #[.string s,.string t] w fun e w'=>e= .returned (.int .i64 (Lib.index s.data.toList t.data.toList))/\w'=w:=by
 have hno:∀ j,s.size<j+t.size->Lib.occAt s.data.toList t.data.toList j=false:=fun j hj=>by
  cases ho:Lib.occAt s.data.toList t.data.toList j
  ·rfl
  ·exfalso
   rcases Lib.occAt_room ho with h|h
   ·rw [<-Lib.size_eq,<-Lib.size_eq] at h
    omega
   ·have h2:t.size=0:=by rw [Lib.size_eq,h];rfl
    omega
 have HNo:=hid hno;clear hno;go_enter func214,ntmps214;go_wp2
 go_loop [5] (fun i=>∃ k:Nat,i= .int .i64 k/\k<=s.size+1/\∀ j,j<k->Lib.occAt s.data.toList t.data.toList j=false) (fun i=>s.size+2 - (intOf i).toNat)
 case atStart=>exact ⟨0,rfl,by omega,fun j h=>by omega⟩
 case round=>
  obtain ⟨k,rfl,hk,hpre⟩:=hrel;have HPre:=hid hpre;clear hpre
  by_cases hkn:k+t.size<=s.size
  ·have hle:decide ((k:Int)+(t.size:Nat)<=(s.size:Nat))=true:=decide_eq_true (by omega)
   have hp:=(Lib.occ_of_piece s t k hkn).symm
   cases ho:Lib.occAt s.data.toList t.data.toList k
   ·rw [ho] at hp
    have HO:=hid ho;clear ho;go_wp2
    go_round
    case rel=>exact ⟨k+1,by go_num,by omega,fun j hj=>by
     rcases Nat.lt_or_ge j k with h|h
     ·exact HPre.out j h
     ·obtain rfl:j=k:=by omega
      exact HO.out⟩
    case measure=>simp [intOf];omega
   ·rw [ho] at hp
    have HI:Hid (Lib.index s.data.toList t.data.toList=(k:Int)):=Lib.index_first (by rw [<-Lib.size_eq];omega) ho HPre.out
    clear ho;go_wp2;go_ret
    exact ⟨by rw [HI.out];rfl,rfl⟩
  ·have hle:decide ((k:Int)+(t.size:Nat)<=(s.size:Nat))=false:=decide_eq_false (by omega)
   have HI:Hid (Lib.index s.data.toList t.data.toList= -1):=Lib.index_none fun j hj=>by
    rcases Nat.lt_or_ge j k with h|h
    ·exact HPre.out j h
    ·exact HNo.out j (by omega)
   go_wp2;go_ret
   exact ⟨by rw [HI.out];rfl,rfl⟩
theorem dig_one {n:Int} (h0:0<=n) (h1:n<=9) (w:World):(convert 186 9 (.slice (some ⟨w.heap.size,0,none⟩) 1 1)).run prog (w.alloc (.cells #[.int .u8 (48+n)] 5))= .ok (.string ⟨#[digB n]⟩) (w.alloc (.cells #[.int .u8 (48+n)] 5)):=by
 have h:=dig_text (n:=n) w
 rw [show n % 10=n from by omega] at h
 exact h
theorem zero_two {n:Int} (h0:0<=n) (h1:n<=9):(⟨#[48]⟩:ByteArray)++⟨#[digB n]⟩=twoB n:=by
 unfold twoB
 rw [show n / 10 % 10=0 from by omega,show n % 10=n from by omega]
 rfl
theorem two_two (n:Int) (h:n / 10<=9) (h0:0<=n):(⟨#[digB (n / 10)]⟩:ByteArray)++⟨#[digB (n % 10)]⟩=twoB n:=by
 unfold twoB
 rw [show n / 10 % 10=n / 10 from by omega]
 rfl
theorem one_none (b:UInt8):(⟨#[b]⟩:ByteArray)++⟨#[]⟩=⟨#[b]⟩:=rfl
theorem twice_pos (n:Int) (w:World) (h0:0<=n) (h1:n<=99):
  Calls prog 236 #[.int .i64 n] w fun e w'=>e= .returned (.string (twoB n))/\Below w.heap.size w w':=by
 have g1:decide (-10<n)=true:=decide_eq_true (by omega)
 have g3:decide (n<0)=false:=decide_eq_false (by omega)
 go_enter func236,ntmps236
 by_cases h9:n<10
 ·have g2:decide (n<10)=true:=decide_eq_true h9
  have hc:=dig_one (n:=n) h0 (by omega) w
  have he:=zero_two (n:=n) h0 (by omega)
  have HB:=hid ((Below.refl w.heap.size w).alloc (Nat.le_refl _) (.cells #[.int .u8 (48+n)] 5));go_wp2;go_ret;exact ⟨rfl,HB.out⟩
 ·have g2:decide (n<10)=false:=decide_eq_false h9
  go_wp2
  go_loopw [0,3] (fun s0 s3 wr=>Below w.heap.size w wr/\((s0= .int .i64 n/\s3= .string ⟨#[]⟩)\/(s0= .int .i64 (n / 10)/\s3= .string ⟨#[digB (n % 10)]⟩)\/(s0= .int .i64 0/\s3= .string (twoB n))))
   (fun s0 _ _=>(intOf s0).toNat)
  case atStart=>exact ⟨Below.refl _ _,.inl ⟨rfl,rfl⟩⟩
  case round=>
   obtain ⟨hb,⟨rfl,rfl⟩|⟨rfl,rfl⟩|⟨rfl,rfl⟩⟩:=hrel
   ·have HB:=hid (hb.alloc hb.size (.cells #[.int .u8 (48+n % 10)] 5))
    have hc:=dig_text (n:=n) wr;have e1:n.tmod 10=n % 10:=Int.tmod_eq_emod_of_nonneg h0;have e2:n.tdiv 10=n / 10:=Int.tdiv_eq_ediv_of_nonneg h0
    have g4:decide (n % 10<0)=false:=decide_eq_false (by omega)
    have g5:(n == 0)=false:=by simp;omega
    have e3:=one_none (digB (n % 10));clear hb;go_wp2
    exact ⟨⟨HB.out,.inr (.inl ⟨rfl,rfl⟩)⟩,by simp [intOf];omega⟩
   ·have HB:=hid (hb.alloc hb.size (.cells #[.int .u8 (48+n / 10)] 5))
    have hc:=dig_one (n:=n / 10) (by omega) (by omega) wr
    have e1:(n / 10).tmod 10=n / 10:=by rw [Int.tmod_eq_emod_of_nonneg (by omega)];omega
    have e2:(n / 10).tdiv 10=0:=by rw [Int.tdiv_eq_ediv_of_nonneg (by omega)];omega
    have g4:decide (n / 10<0)=false:=decide_eq_false (by omega)
    have g5:(n / 10 == 0)=false:=by simp;omega
    have e3:=two_two n (by omega) h0
    clear hb;go_wp2
    exact ⟨⟨HB.out,.inr (.inr ⟨rfl,rfl⟩)⟩,by simp [intOf];omega⟩
   ·go_wp2
    go_ret;exact ⟨rfl,hb⟩
theorem twice_neg (n:Int) (w:World) (h0:0<n) (h1:n<=99):
  Calls prog 236 #[.int .i64 (-n)] w fun e w'=>e= .returned (.string (twoB n))/\Below w.heap.size w w':=by
 have g3:decide (-n<0)=true:=decide_eq_true (by omega)
 have g2:decide (-n<10)=true:=decide_eq_true (by omega)
 go_enter func236,ntmps236
 by_cases h9:n<10
 ·have g1:decide (-10< -n)=true:=decide_eq_true (by omega)
  have hc:=dig_one (n:=n) (by omega) (by omega) w
  have he:=zero_two (n:=n) (by omega) (by omega)
  have hw:wrap64 (- -n)=n:=by unfold wrap64;omega
  have HB:=hid ((Below.refl w.heap.size w).alloc (Nat.le_refl _) (.cells #[.int .u8 (48+n)] 5));go_wp2;go_ret;exact ⟨rfl,HB.out⟩
 ·have g1:decide (-10< -n)=false:=decide_eq_false (by omega)
  go_wp2
  go_loopw [0,3] (fun s0 s3 wr=>Below w.heap.size w wr/\((s0= .int .i64 (-n)/\s3= .string ⟨#[]⟩)\/(s0= .int .i64 (-(n / 10))/\s3= .string ⟨#[digB (n % 10)]⟩)\/(s0= .int .i64 0/\s3= .string (twoB n))))
   (fun s0 _ _=>(intOf s0).natAbs)
  case atStart=>exact ⟨Below.refl _ _,.inl ⟨rfl,rfl⟩⟩
  case round=>
   obtain ⟨hb,⟨rfl,rfl⟩|⟨rfl,rfl⟩|⟨rfl,rfl⟩⟩:=hrel
   ·have HB:=hid (hb.alloc hb.size (.cells #[.int .u8 (48+n % 10)] 5))
    have hc:=dig_text (n:=n) wr
    have e1:(-n).tmod 10= -(n % 10):=by rw [Int.neg_tmod,Int.tmod_eq_emod_of_nonneg (by omega)]
    have e2:(-n).tdiv 10= -(n / 10):=by rw [Int.neg_tdiv,Int.tdiv_eq_ediv_of_nonneg (by omega)]
    have g5:(-n == 0)=false:=by simp;omega
    have e3:=one_none (digB (n % 10));have e4: - -(n % 10)=n % 10:=Int.neg_neg _;clear hb
    by_cases hz:n % 10=0
    ·have g4:decide (-(n % 10)<0)=false:=decide_eq_false (by omega)
     have g6: -(n % 10)=n % 10:=by omega
     rw [g6] at e1 g4;clear hz g6 e4;go_wp2
     exact ⟨⟨HB.out,.inr (.inl ⟨rfl,rfl⟩)⟩,by simp [intOf];omega⟩
    ·have g4:decide (-(n % 10)<0)=true:=decide_eq_true (by omega)
     go_wp2
     exact ⟨⟨HB.out,.inr (.inl ⟨rfl,rfl⟩)⟩,by simp [intOf];omega⟩
   ·have HB:=hid (hb.alloc hb.size (.cells #[.int .u8 (48+n / 10)] 5))
    have hc:=dig_one (n:=n / 10) (by omega) (by omega) wr
    have e1:(-(n / 10)).tmod 10= -(n / 10):=by rw [Int.neg_tmod,Int.tmod_eq_emod_of_nonneg (by omega)];omega
    have e2:(-(n / 10)).tdiv 10=0:=by rw [Int.neg_tdiv,Int.tdiv_eq_ediv_of_nonneg (by omega)];omega
    have g4:decide (-(n / 10)<0)=true:=decide_eq_true (by omega)
    have g5:(-(n / 10) == 0)=false:=by simp;omega
    have e3:=two_two n (by omega) (by omega)
    have e4: - -(n / 10)=n / 10:=Int.neg_neg _;clear hb;go_wp2
    exact ⟨⟨HB.out,.inr (.inr ⟨rfl,rfl⟩)⟩,by simp [intOf];omega⟩
   ·go_wp2
    go_ret;exact ⟨rfl,hb⟩
theorem rtold_any (n:Int) (w:World) (h0: -359999<=n) (h1:n<=359999):
  Calls prog 215 #[.int .i64 n] w fun e w'=>e= .returned (.string (toldB n))/\Below w.heap.size w w':=by
 unfold toldB;have HB:=hid (Below.refl w.heap.size w)
 rcases Int.lt_or_le n 0 with hn|hn
 ·rw [if_pos hn]
  obtain ⟨k,rfl⟩:∃ k,n= -k:=⟨-n,by omega⟩
  rw [Int.neg_neg]
  have HT:=hid (fun (k:Int) z (a:0<=k) (b:k<=99)=>(show Calls prog 236 #[.int .i64 (-k)] z fun e w'=>e= .returned (.string (twoB k))/\Below z.heap.size z w' from by
   rcases Int.lt_or_eq_of_le a with h|h
   ·exact twice_neg k z h b
   ·subst h;exact twice_pos 0 z (by omega) (by omega)))
  have e1:(-k).tdiv 3600= -(k / 3600):=by rw [Int.neg_tdiv,Int.tdiv_eq_ediv_of_nonneg (by omega)]
  have e2:(-k).tmod 3600= -(k % 3600):=by rw [Int.neg_tmod,Int.tmod_eq_emod_of_nonneg (by omega)]
  have e3:(-(k % 3600)).tdiv 60= -(k / 60 % 60):=by rw [Int.neg_tdiv,Int.tdiv_eq_ediv_of_nonneg (by omega)];omega
  have e4:(-k).tmod 60= -(k % 60):=by rw [Int.neg_tmod,Int.tmod_eq_emod_of_nonneg (by omega)]
  have hnb:decide (-k<0)=true:=decide_eq_true hn
  have q1:0<=k / 3600/\k / 3600<=99:=by omega
  have q2:0<=k / 60 % 60/\k / 60 % 60<=99:=by omega
  have q3:0<=k % 60/\k % 60<=99:=by omega
  have hm:(-(k % 3600) == 0)=((k / 60 % 60 == 0) && (k % 60 == 0)):=by
   rw [Bool.eq_iff_iff];simp;omega
  have hs:(-(k % 60) == 0)=(k % 60 == 0):=by rw [Bool.eq_iff_iff];simp
  unfold partsB;generalize k / 3600=h at*;generalize k / 60 % 60=m at*;generalize k % 60=s at*
  have q4:0<=k % 3600/\k % 3600<=3599:=by omega
  generalize k % 3600=r at*;have t1:=fun z=>HT.out h z q1.1 q1.2;have t2:=fun z=>HT.out m z q2.1 q2.2;have t3:=fun z=>HT.out s z q3.1 q3.2;obtain ⟨a1,hA1⟩:∃ a,-h=a:=⟨_,rfl⟩;obtain ⟨a2,hA2⟩:∃ a,-m=a:=⟨_,rfl⟩;obtain ⟨a3,hA3⟩:∃ a,-s=a:=⟨_,rfl⟩;obtain ⟨a4,hA4⟩:∃ a,-r=a:=⟨_,rfl⟩;obtain ⟨K,hK⟩:∃ a,-k=a:=⟨_,rfl⟩
  have u1:wrap64 a1=a1:=by unfold wrap64;omega
  have u2:wrap64 a2=a2:=by unfold wrap64;omega
  have u3:wrap64 a3=a3:=by unfold wrap64;omega
  have u4:wrap64 a4=a4:=by unfold wrap64;omega
  rw [hA1] at t1;rw [hA2] at t2;rw [hA3] at t3;simp only [hA1,hA2,hA3,hA4,hK] at e1 e2 e3 e4 hm hs hnb ⊢;have T1:=hid t1;have T2:=hid t2;have T3:=hid t3;clear q1 q2 q3 q4 t1 t2 t3 hA1 hA2 hA3 hA4 hK HT hn
  cases hm2:(m == 0)<;>cases hs2:(s == 0)<;>rw [hm2,hs2] at hm<;>rw [hs2] at hs<;>simp only [Bool.and_true,Bool.and_false] at hm
  all_goals
   go_enter func215,ntmps215
   go_wp2_with (first
    |(go_at_call 236;refine (T1.out _).mono ?_;rintro e w1 ⟨rfl,hb⟩;have HB:=hid (HB.out.trans (hb.mono HB.out.size));clear hb T1)
    |(go_at_call 236;refine (T2.out _).mono ?_;rintro e w1 ⟨rfl,hb⟩;have HB:=hid (HB.out.trans (hb.mono HB.out.size));clear hb T2)
    |(go_at_call 236;refine (T3.out _).mono ?_;rintro e w1 ⟨rfl,hb⟩;have HB:=hid (HB.out.trans (hb.mono HB.out.size));clear hb T3))
   go_ret;exact ⟨rfl,HB.out⟩
 ·rw [if_neg (by omega)]
  have e1:n.tdiv 3600=n / 3600:=Int.tdiv_eq_ediv_of_nonneg (by omega)
  have e2:n.tmod 3600=n % 3600:=Int.tmod_eq_emod_of_nonneg (by omega)
  have e3:(n % 3600).tdiv 60=n / 60 % 60:=by rw [Int.tdiv_eq_ediv_of_nonneg (by omega)];omega
  have e4:n.tmod 60=n % 60:=Int.tmod_eq_emod_of_nonneg (by omega)
  have hnb:decide (n<0)=false:=decide_eq_false (by omega)
  have t1:=fun z=>twice_pos (n / 3600) z (by omega) (by omega)
  have t2:=fun z=>twice_pos (n / 60 % 60) z (by omega) (by omega)
  have t3:=fun z=>twice_pos (n % 60) z (by omega) (by omega)
  have hm:(n % 3600 == 0)=((n / 60 % 60 == 0) && (n % 60 == 0)):=by
   rw [Bool.eq_iff_iff];simp;omega
  have u1:wrap64 (n / 3600)=n / 3600:=by unfold wrap64;omega
  have u2:wrap64 (n / 60 % 60)=n / 60 % 60:=by unfold wrap64;omega
  have u3:wrap64 (n % 60)=n % 60:=by unfold wrap64;omega
  have u4:wrap64 (n % 3600)=n % 3600:=by unfold wrap64;omega
  unfold partsB;generalize hG1:n / 3600=h at*;generalize hG2:n / 60 % 60=m at*;generalize hG3:n % 60=s at*;generalize hG4:n % 3600=r at*;have T1:=hid t1;have T2:=hid t2;have T3:=hid t3;clear t1 t2 t3 hn hG1 hG2 hG3 hG4 h0 h1
  cases hm2:(m == 0)<;>cases hs2:(s == 0)<;>rw [hm2,hs2] at hm<;>simp only [Bool.and_true,Bool.and_false] at hm
  all_goals
   go_enter func215,ntmps215
   go_wp2_with (first
    |(go_at_call 236;refine (T1.out _).mono ?_;rintro e w1 ⟨rfl,hb⟩;have HB:=hid (HB.out.trans (hb.mono HB.out.size));clear hb T1)
    |(go_at_call 236;refine (T2.out _).mono ?_;rintro e w1 ⟨rfl,hb⟩;have HB:=hid (HB.out.trans (hb.mono HB.out.size));clear hb T2)
    |(go_at_call 236;refine (T3.out _).mono ?_;rintro e w1 ⟨rfl,hb⟩;have HB:=hid (HB.out.trans (hb.mono HB.out.size));clear hb T3))
   go_ret;exact ⟨rfl,HB.out⟩
theorem rabbr_any (f l:ByteArray) (off save:Int) (w:World) (hf:f.size<=2097152) (hl:l.size<=2097152) (h0: -359999<=off) (h1:off<=359999):
  Calls prog 168 #[.string f,.string l,.int .i64 off,.int .i64 save] w fun e w'=>e= .returned (.string (abbrB f l off save))/\Below w.heap.size w w':=by
 have S1:=fun z=>sign_any f ⟨#[37,115]⟩ z hf (by decide) (by decide)
 have S2:=fun z=>sign_any f ⟨#[37,122]⟩ z hf (by decide) (by decide)
 have S3:=fun z=>sign_any f ⟨#[47]⟩ z hf (by decide) (by decide)
 have r2:∀ {c:List UInt8} {i:Nat},c≠[]->Lib.occAt f.data.toList c i=true->i+c.length<=f.size:=fun hc ho=>by
  rcases Lib.occAt_room ho with h|h
  ·rw [Lib.size_eq];exact h
  ·exact absurd h hc
 rcases Lib.index_spec f.data.toList [37,115] with ⟨i1,_⟩|⟨i,i1,_,ho,_⟩
 ·have T:=hid (fun z=>rtold_any off z h0 h1)
  change ∀ z,Calls _ _ _ z fun e w'=>e= .returned (.int .i64 (Lib.index f.data.toList [37,115]))/\w'=z at S1
  rw [i1] at S1
  rcases Lib.index_spec f.data.toList [37,122] with ⟨i2,_⟩|⟨i,i2,_,ho,_⟩
  ·change ∀ z,Calls _ _ _ z fun e w'=>e= .returned (.int .i64 (Lib.index f.data.toList [37,122]))/\w'=z at S2
   rw [i2] at S2
   rcases Lib.index_spec f.data.toList [47] with ⟨i3,_⟩|⟨i,i3,_,ho,_⟩
   ·change ∀ z,Calls _ _ _ z fun e w'=>e= .returned (.int .i64 (Lib.index f.data.toList [47]))/\w'=z at S3
    rw [i3] at S3;rw [abbr_no i1 i2 i3];have P1:=hid S1;have P2:=hid S2;have P3:=hid S3;clear S1 S2 S3 r2 i1 i2 i3;go_enter func168,ntmps168
    go_wp2_with (first
     |(go_at_call 214;refine (P1.out _).mono ?_;rintro e w1 ⟨rfl,rfl⟩;clear P1)
     |(go_at_call 214;refine (P2.out _).mono ?_;rintro e w1 ⟨rfl,rfl⟩;clear P2)
     |(go_at_call 214;refine (P3.out _).mono ?_;rintro e w1 ⟨rfl,rfl⟩;clear P3))
    go_ret;exact ⟨rfl,Below.refl _ _⟩
   ·change ∀ z,Calls _ _ _ z fun e w'=>e= .returned (.int .i64 (Lib.index f.data.toList [47]))/\w'=z at S3
    rw [i3] at S3
    have hi:=r2 (by simp) ho
    simp only [List.length_cons,List.length_nil] at hi;have P1:=hid S1;have P2:=hid S2;have P3:=hid S3;clear S1 S2 S3 r2 ho
    by_cases hs:save=0
    ·rw [abbr_a i1 i2 i3 hs]
     subst hs;clear i1 i2 i3;go_enter func168,ntmps168
     go_wp2_with (first
      |(go_at_call 214;refine (P1.out _).mono ?_;rintro e w1 ⟨rfl,rfl⟩;clear P1)
      |(go_at_call 214;refine (P2.out _).mono ?_;rintro e w1 ⟨rfl,rfl⟩;clear P2)
      |(go_at_call 214;refine (P3.out _).mono ?_;rintro e w1 ⟨rfl,rfl⟩;clear P3))
     go_ret;exact ⟨rfl,Below.refl _ _⟩
    ·rw [abbr_b i1 i2 i3 hs]
     have hsb:(save == 0)=false:=by simp [hs]
     clear i1 i2 i3;go_enter func168,ntmps168
     go_wp2_with (first
      |(go_at_call 214;refine (P1.out _).mono ?_;rintro e w1 ⟨rfl,rfl⟩;clear P1)
      |(go_at_call 214;refine (P2.out _).mono ?_;rintro e w1 ⟨rfl,rfl⟩;clear P2)
      |(go_at_call 214;refine (P3.out _).mono ?_;rintro e w1 ⟨rfl,rfl⟩;clear P3))
     go_ret;exact ⟨rfl,Below.refl _ _⟩
  ·change ∀ z,Calls _ _ _ z fun e w'=>e= .returned (.int .i64 (Lib.index f.data.toList [37,122]))/\w'=z at S2
   rw [i2] at S2
   have hi:=r2 (by simp) ho
   simp only [List.length_cons,List.length_nil] at hi;have hsz:(toldB off).size<=7:=told_size off;have P1:=hid S1;have P2:=hid S2;rw [abbr_z i1 i2];clear S1 S2 S3 r2 ho i1 i2;have inst:Nonempty (Qt.In (Below w.heap.size w)):=⟨⟨_,Below.refl _ _⟩⟩;have TC:Hid (∀ z,Below w.heap.size w z->Calls prog 215 #[.int .i64 off] z fun e z'=>e= .returned (.string (toldB off))/\Below w.heap.size w z'):=fun z h=>(T.out z).mono fun e z' ⟨he,hb⟩=>⟨he,h.trans (hb.mono h.size)⟩;generalize toldB off=td at*;go_enter func168,ntmps168
   go_wp2_with (first
    |(go_at_call 214;refine (P1.out _).mono ?_;rintro e w1 ⟨rfl,rfl⟩;clear P1)
    |(go_at_call 214;refine (P2.out _).mono ?_;rintro e w1 ⟨rfl,rfl⟩;clear P2))
   have hw2:IntKind.i64.wrap ((i:Int)+2)=(i:Int)+2:=by rw [IntKind.wrap_i64];omega
   refine Qt.wp_region_cls (Below w1.heap.size w1) (by kernel_rfl) (by kernel_rfl) (below_dr (n:=1) (Below.refl _ _)) ?_
   repeat (go_big_quiet_step ((go_at_call 215;exact Qt.quiet_cls (TC.out _ (Qt.In.h _)))))
   refine wpQuiet_nil ?_
   rintro wq ⟨⟨w9,hq⟩,e9⟩
   have HX:Hid (Below w1.heap.size w1 wq):=by rw [e9];exact hq
   clear hq e9 inst TC;go_wp2;go_ret;exact ⟨rfl,HX.out⟩
 ·change ∀ z,Calls _ _ _ z fun e w'=>e= .returned (.int .i64 (Lib.index f.data.toList [37,115]))/\w'=z at S1
  rw [i1] at S1
  have hi:=r2 (by simp) ho
  simp only [List.length_cons,List.length_nil] at hi;have P1:=hid S1;rw [abbr_s i1];clear S1 S2 S3 r2 ho i1;go_enter func168,ntmps168
  go_wp2_with (go_at_call 214;refine (P1.out _).mono ?_;rintro e w1 ⟨rfl,rfl⟩;clear P1)
  go_region
  go_wp2;go_ret;exact ⟨rfl,(Below.refl _ _).drew⟩
end Cmq
end
end
section
section
namespace Cmq
open Go.RowKit Mem Civ Mom Img Plc Rul Ahd Src Snd Att Abr
def phD (x:Era) (f:Int×ByteArray):Phase:=⟨x.off+f.1,f.1,abbrB x.format f.2 (x.off+f.1) f.1⟩
theorem setL_mm {rs:List Rule} {nm:ByteArray} {r:Rule}:r∈setL rs nm↔r∈rs/\r.name=nm:=by
 unfold setL;simp [List.mem_filter]
theorem bel_nx {W W' W'':World} (h:Below W.heap.size W W') (hb:Below W'.heap.size W' W''):Below W.heap.size W W'':=h.trans (hb.mono h.size)
structure EraD (x:Era):Prop where
 off: -86400<x.off/\x.off<86400
 save: -43200<=x.save/\x.save<=43200
 zero:x.kind≠2->x.kind≠1->x.save=0
 fmt:x.format.size<=2097152
theorem savE_doc {rs:List Rule} {x:Era} (h:EraD x) (t:Int):savE rs x t=if x.kind=2 then forceP (setL rs x.rules) x.off t else (x.save,⟨#[]⟩):=by
 unfold savE
 by_cases hk:x.kind=2
 ·have e:setOf rs x=setL rs x.rules:=by unfold setOf;rw [if_pos hk]
  rw [if_pos hk,if_pos hk,e]
 ·rw [if_neg hk,if_neg hk]
  by_cases h1:x.kind=1
  ·rw [if_pos h1]
  ·rw [if_neg h1,h.zero hk h1]
theorem give_force {rs:List Rule} {off t:Int} (hr:rulesB rs=true) (h1: -86400<off) (h2:off<86400):giveO rs (lastD rs off t)=forceP rs off t:=by
 unfold forceP;rw [if_pos ⟨hr,h1,h2⟩,lastD_is hr h1 h2]
theorem rph_results {w:World} {R0:Nat} {a0 a1 a2:Value} (h:Blk w R0 30 #[a0,a1,a2]) (tmps:Array Value) (ht:tmps[6]?=some (.pointer (some ⟨R0,0,none⟩))):
  (results Tryz.f105 tmps).run prog w= .ok (.agg #[a0,a1,a2]) w:=by
 have hc:=h.cell;simp [results,Tryz.results105,go_sem,hc,ht]
structure Ph3 (w:World) (cs es:Array Value) (W:World):Prop where
 src:Blk W w.heap.size 26 cs
 era:Blk W (w.heap.size+1) 84 es
 res:Blk W (w.heap.size+1+1) 30 #[.int .i64 0,.int .i64 0,.string ⟨#[]⟩]
 bel:Below w.heap.size w W
theorem Ph3.step {w W W':World} {cs es:Array Value} (h:Ph3 w cs es W) (hb:Below W.heap.size W W'):Ph3 w cs es W':=
 ⟨h.src.below hb h.src.lt,h.era.below hb h.era.lt,h.res.below hb h.res.lt,h.bel.trans (hb.mono h.bel.size)⟩
theorem Ph3.drew {w W:World} {cs es:Array Value} (h:Ph3 w cs es W):Ph3 w cs es W.drew:=⟨h.src.drew,h.era.drew,h.res.drew,h.bel.drew⟩
theorem rphase_any (s:Src) (A A2 A3:Option Addr) (c c2 c3:Nat) (x:Era) (t:Int) (w:World) (h:SrcOk s A A2 A3 w) (hs:rulesB s.rules=true) (hx:EraD x) (h1: -9223372036854775808<=t) (h2:t<=9223372036854775807):
  Calls prog 105 #[.agg #[.slice A s.rules.length c,.slice A2 s.zones.length c2,.slice A3 s.links.length c3],.agg x.cells.toArray,.int .i64 t] w fun e w'=>
   e= .returned (.agg #[.int .i64 (phaseE s.rules x t).off,.int .i64 (phaseE s.rules x t).save,.string (phaseE s.rules x t).abbr])/\Below w.heap.size w w':=by
 have hsv:phaseE s.rules x t=phD x (savE s.rules x t):=rfl;rw [hsv,savE_doc hx];have hlen:=Nat.le_trans (setL_len s.rules x.rules) h.nr;have hrs:=set_right hs x.rules;have hfo:=force_ok (setL s.rules x.rules) x.off t (fun r hr=>(h.tr r (setL_mm.1 hr).1).2);have hgv:=give_force (t:=t) hrs hx.off.1 hx.off.2;have HS:=hid (fun z (hb:Below w.heap.size w z)=>rset_any s A A2 A3 c c2 c3 x.rules z (h.below hb));have HF:=hid (fun Ae ce z hr=>refForce_any (setL s.rules x.rules) Ae ce x.off t z hr hlen hrs h1 h2);rw [hgv] at HF;have ho:=hx.off;have hsb:=hx.save;have hfm:=hx.fmt;clear h hs hx hsv hgv hrs hlen;obtain ⟨rs,zs,ls⟩:=s;obtain ⟨x0,x1,x2,x3,x4,x5,x6,⟨y0,y1,y2,y3,y4,y5⟩⟩:=x;simp only [Era.cells,phD] at HS HF hfo ho hsb hfm ⊢;have hb3:=box3 w 26 84 30 #[.slice A rs.length c,.slice A2 zs.length c2,.slice A3 ls.length c3] #[.int .i64 x0,.int .i64 x1,.int .i64 x2,.string x3,.string x4,.bool x5,.int .i64 x6,.int .i64 y0,.int .i64 y1,.int .i64 y2,.int .i64 y3,.int .i64 y4,.int .i64 y5] #[.int .i64 0,.int .i64 0,.string ⟨#[]⟩];obtain ⟨W,hW⟩:∃ W,((w.alloc (.cells #[.slice A rs.length c,.slice A2 zs.length c2,.slice A3 ls.length c3] 26)).alloc (.cells #[.int .i64 x0,.int .i64 x1,.int .i64 x2,.string x3,.string x4,.bool x5,.int .i64 x6,.int .i64 y0,.int .i64 y1,.int .i64 y2,.int .i64 y3,.int .i64 y4,.int .i64 y5] 84)).alloc (.cells #[.int .i64 0,.int .i64 0,.string ⟨#[]⟩] 30)=W:=⟨_,rfl⟩;rw [hW] at hb3;obtain ⟨b0,b1,b2,hbw,hsz⟩:=hb3;have HP:Hid (Ph3 w #[.slice A rs.length c,.slice A2 zs.length c2,.slice A3 ls.length c3] #[.int .i64 x0,.int .i64 x1,.int .i64 x2,.string x3,.string x4,.bool x5,.int .i64 x6,.int .i64 y0,.int .i64 y1,.int .i64 y2,.int .i64 y3,.int .i64 y4,.int .i64 y5] W):=⟨b0,b1,b2,hbw⟩;have c1:=b1.cell;clear b0 b1 b2 hbw
 by_cases hk:x1=2
 ·subst hk
  rw [if_pos rfl];obtain ⟨⟨fs,fl⟩,hF⟩:∃ f,forceP (setL rs x3) x0 t=f:=⟨_,rfl⟩;rw [hF] at HF hfo ⊢;simp only at HF hfo ⊢;obtain ⟨ab,hab⟩:∃ ab,abbrB x4 fl (x0+fs) fs=ab:=⟨_,rfl⟩;rw [hab];have Hab:=hid hab;clear hab;go_enter func105,ntmps105
  go_wp2_with fail
  have hSW:∀ z,Below W.heap.size W z->Calls prog 49 #[.agg #[.slice A rs.length c,.slice A2 zs.length c2,.slice A3 ls.length c3],.string x3] z fun e w'=>∃ v,e= .returned v/\w'.ownsRow z.heap.size 69 11 v (setL rs x3).length ((setL rs x3).flatMap Rule.cells)/\Below z.heap.size z w':=fun z hb=>HS.out z (HP.out.bel.trans (hb.mono HP.out.bel.size));have hKe:∀ w',Below W.heap.size W w'->w'.cell? ⟨w.heap.size,0,none⟩=some (.slice A rs.length c)/\w'.cell? ⟨w.heap.size,1,none⟩=some (.slice A2 zs.length c2)/\w'.cell? ⟨w.heap.size,2,none⟩=some (.slice A3 ls.length c3)/\w'.cell? ⟨w.heap.size+1,3,none⟩=some (.string x3)/\w'.cell? ⟨w.heap.size+1,0,none⟩=some (.int .i64 x0)/\Below W.heap.size W w':=fun w' h=>⟨(HP.out.step h).src.cell 0,(HP.out.step h).src.cell 1,(HP.out.step h).src.cell 2,(HP.out.step h).era.cell 3,(HP.out.step h).era.cell 0,h⟩;have HSW:=hid hSW;have HKe:=hid hKe;have kb0:Below W.heap.size W W.drew:=below_drew W;clear hSW hKe c1
  go_region_held3 (fun w'=>w'.cell? ⟨w.heap.size,0,none⟩=some (.slice A rs.length c)/\w'.cell? ⟨w.heap.size,1,none⟩=some (.slice A2 zs.length c2)/\w'.cell? ⟨w.heap.size,2,none⟩=some (.slice A3 ls.length c3)/\w'.cell? ⟨w.heap.size+1,3,none⟩=some (.string x3)/\w'.cell? ⟨w.heap.size+1,0,none⟩=some (.int .i64 x0)/\Below W.heap.size W w') (exact HKe.out _ (by go_grown)) (first
   |(go_at_call 49;refine (HSW.out _ (by go_grown)).mono ?_;rintro e w5 ⟨v,rfl,hown,hb⟩;obtain ⟨Av,cv,rfl⟩:=own_slice hown;have kb5:=bel_nx (W:=W) (by go_grown) hb;have ks5:=kb5.size;have HRv:=hid (Reads.of_own hown);clear hown)
   |(go_at_call 167;refine (HF.out _ _ _ HRv.out).mono ?_;rintro e w6 ⟨rfl,hb6⟩;have kb6:=bel_nx (W:=W) (by go_grown) hb6;have ks6:=kb6.size))
  all_goals
   have HP6:=hid (HP.out.step kb6);clear kb0 kb5 kb6 ks5 ks6 hb hb6 HRv HSW HKe
   go_wp2_with fail
   have hw:IntKind.i64.wrap (x0+fs)=x0+fs:=by rw [IntKind.wrap_i64];omega
   obtain ⟨Cls,hCls⟩:∃ C:World->Prop,C=Ph3 w #[.slice A rs.length c,.slice A2 zs.length c2,.slice A3 ls.length c3] #[.int .i64 x0,.int .i64 2,.int .i64 x2,.string x3,.string x4,.bool x5,.int .i64 x6,.int .i64 y0,.int .i64 y1,.int .i64 y2,.int .i64 y3,.int .i64 y4,.int .i64 y5]:=⟨_,rfl⟩
   have hC:∀ z,Cls z->Ph3 w #[.slice A rs.length c,.slice A2 zs.length c2,.slice A3 ls.length c3] #[.int .i64 x0,.int .i64 2,.int .i64 x2,.string x3,.string x4,.bool x5,.int .i64 x6,.int .i64 y0,.int .i64 y1,.int .i64 y2,.int .i64 y3,.int .i64 y4,.int .i64 y5] z:=fun z h=>by rw [hCls] at h;exact h
   have hstart:Cls w6.drew:=by rw [hCls];exact HP6.out.drew
   have inst:Nonempty (Qt.In Cls):=⟨⟨_,hstart⟩⟩;have gE:∀ (z:Qt.In Cls) (i:Nat),z.w.cell? ⟨w.heap.size+1,i,none⟩=#[.int .i64 x0,.int .i64 2,.int .i64 x2,.string x3,.string x4,.bool x5,.int .i64 x6,.int .i64 y0,.int .i64 y1,.int .i64 y2,.int .i64 y3,.int .i64 y4,.int .i64 y5][i]?:=fun z i=>(hC z.w z.h).era.cell i
   have HAc:Hid (∀ z,Cls z->Calls prog 168 #[.string x4,.string fl,.int .i64 (x0+fs),.int .i64 fs] z fun e z'=>e= .returned (.string ab)/\Cls z'):=fun z h=>by
    rw [<-Hab.out]
    exact (rabbr_any x4 fl (x0+fs) fs z hfm hfo.2.2 (by omega) (by omega)).mono fun e z' ⟨he,hb⟩=>⟨he,by rw [hCls];exact (hC z h).step hb⟩
   have HCx:=hid hC;have HSt:=hid hstart;clear hC hstart hCls HP HS HF
   refine Qt.wp_region_cls_tail Cls 15 (by kernel_rfl) (by kernel_rfl) HSt.out ?_
   simp only [List.take_succ_cons,List.take_zero,List.drop_succ_cons,List.drop_zero]
   repeat (go_big_quiet_step ((go_at_call 168;exact Qt.quiet_cls (HAc.out _ (Qt.In.h _)))))
   refine wpQuiet_nil ?_
   rintro wq ⟨⟨w9,hq⟩,e9⟩
   have HX:=hid (HCx.out wq (by rw [e9];exact hq))
   clear hq e9 gE inst HAc HCx HSt;have cR:=HX.out.res.cell;have fR:=HX.out.res.frozen
   go_wp2_with fail
   refine bodyPost_ret (rph_results (((HX.out.res.set_ 0 (.int .i64 (x0+fs))).set_ 1 (.int .i64 fs)).set_ 2 (.string ab)) _ rfl) rfl ?_
   exact ⟨rfl,((HX.out.bel.setCell (by simp;omega) _).setCell (by simp;omega) _).setCell (by simp;omega) _⟩
 ·rw [if_neg hk]
  have hkb:(x1 == 2)=false:=by simp [hk]
  simp only;obtain ⟨ab,hab⟩:∃ ab,abbrB x4 ⟨#[]⟩ (x0+x2) x2=ab:=⟨_,rfl⟩;rw [hab];have Hab:=hid hab;clear hab
  have hz0:(⟨#[]⟩:ByteArray).size<=2097152:=by decide
  go_enter func105,ntmps105
  go_wp2_with fail
  have hw:IntKind.i64.wrap (x0+x2)=x0+x2:=by rw [IntKind.wrap_i64];omega
  obtain ⟨Cls,hCls⟩:∃ C:World->Prop,C=Ph3 w #[.slice A rs.length c,.slice A2 zs.length c2,.slice A3 ls.length c3] #[.int .i64 x0,.int .i64 x1,.int .i64 x2,.string x3,.string x4,.bool x5,.int .i64 x6,.int .i64 y0,.int .i64 y1,.int .i64 y2,.int .i64 y3,.int .i64 y4,.int .i64 y5]:=⟨_,rfl⟩
  have hC:∀ z,Cls z->Ph3 w #[.slice A rs.length c,.slice A2 zs.length c2,.slice A3 ls.length c3] #[.int .i64 x0,.int .i64 x1,.int .i64 x2,.string x3,.string x4,.bool x5,.int .i64 x6,.int .i64 y0,.int .i64 y1,.int .i64 y2,.int .i64 y3,.int .i64 y4,.int .i64 y5] z:=fun z h=>by rw [hCls] at h;exact h
  have hstart:Cls W.drew:=by rw [hCls];exact HP.out.drew
  have inst:Nonempty (Qt.In Cls):=⟨⟨_,hstart⟩⟩;have gE:∀ (z:Qt.In Cls) (i:Nat),z.w.cell? ⟨w.heap.size+1,i,none⟩=#[.int .i64 x0,.int .i64 x1,.int .i64 x2,.string x3,.string x4,.bool x5,.int .i64 x6,.int .i64 y0,.int .i64 y1,.int .i64 y2,.int .i64 y3,.int .i64 y4,.int .i64 y5][i]?:=fun z i=>(hC z.w z.h).era.cell i
  have HAc:Hid (∀ z,Cls z->Calls prog 168 #[.string x4,.string ⟨#[]⟩,.int .i64 (x0+x2),.int .i64 x2] z fun e z'=>e= .returned (.string ab)/\Cls z'):=fun z h=>by
   rw [<-Hab.out]
   exact (rabbr_any x4 ⟨#[]⟩ (x0+x2) x2 z hfm hz0 (by omega) (by omega)).mono fun e z' ⟨he,hb⟩=>⟨he,by rw [hCls];exact (hC z h).step hb⟩
  have HCx:=hid hC;have HSt:=hid hstart;clear hC hstart hCls HS HF c1
  refine Qt.wp_region_cls_tail Cls 15 (by kernel_rfl) (by kernel_rfl) HSt.out ?_
  simp only [List.take_succ_cons,List.take_zero,List.drop_succ_cons,List.drop_zero]
  repeat (go_big_quiet_step ((go_at_call 168;exact Qt.quiet_cls (HAc.out _ (Qt.In.h _)))))
  refine wpQuiet_nil ?_
  rintro wq ⟨⟨w9,hq⟩,e9⟩
  have HX:=hid (HCx.out wq (by rw [e9];exact hq))
  clear hq e9 gE inst HAc HCx HSt;have cR:=HX.out.res.cell;have fR:=HX.out.res.frozen
  go_wp2_with fail
  refine bodyPost_ret (rph_results (((HX.out.res.set_ 0 (.int .i64 (x0+x2))).set_ 1 (.int .i64 x2)).set_ 2 (.string ab)) _ rfl) rfl ?_
  exact ⟨rfl,((HX.out.bel.setCell (by simp;omega) _).setCell (by simp;omega) _).setCell (by simp;omega) _⟩
end Cmq
end
end
end Go.Proofs.YtadamccojdocbaaGreatDoor
