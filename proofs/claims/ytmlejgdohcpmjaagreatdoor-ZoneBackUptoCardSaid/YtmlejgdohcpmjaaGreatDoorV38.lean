/-
  Contracts of the code that the law reaches, and plain laws. Conditions: as each says.
-/
import Derived.Test.YtmlejgdohcpmjaaGreatDoorV37
import Derived.Test.YtmlejgdohcpmjaaGreatDoorV21
set_option linter.all false
set_option maxHeartbeats 40000000
set_option maxRecDepth 100000
namespace Go.Proofs.YtmlejgdohcpmjaaGreatDoor
open Lib (hid)
open Tryz
section
section
namespace Cmq
open Go.RowKit Mem Civ Img Abr
theorem sign_any (s t:ByteArray) (w:World) (hs:s.size<=2097152) (h0:0<t.size) (ht:t.size<=2097152):
  Calls prog 108 #[.string s,.string t] w fun e w'=>e= .returned (.int .i64 (Lib.index s.data.toList t.data.toList))/\w'=w:=by
 have hno:∀ j,s.size<j+t.size->Lib.occAt s.data.toList t.data.toList j=false:=fun j hj=>by
  cases ho:Lib.occAt s.data.toList t.data.toList j
  ·rfl
  ·exfalso
   rcases Lib.occAt_room ho with h|h
   ·rw [<-Lib.size_eq,<-Lib.size_eq] at h
    omega
   ·have h2:t.size=0:=by rw [Lib.size_eq,h];rfl
    omega
 have HNo:=hid hno;clear hno;go_enter func108,ntmps108;go_wp2
 go_loop [5] (fun i=>∃ k:Nat,i= .int .i64 k/\k<=s.size+1/\∀ j,j<k->Lib.occAt s.data.toList t.data.toList j=false) (fun i=>s.size+2 - (intOf i).toNat)
 case atStart=>exact ⟨0,rfl,by omega,fun j h=>by omega⟩
 case round=>
  obtain ⟨k,rfl,hk,hpre⟩:=hrel;have HPre:=hid hpre;clear hpre
  by_cases hkn:k+t.size<=s.size
  ·have hle:decide ((k:Int)+(t.size:Nat)<=(s.size:Nat))=true:=decide_eq_true (by omega)
   have hp:=(Lib.occ_of_piece s t k hkn).symm
   cases ho:Lib.occAt s.data.toList t.data.toList k
   ·rw [ho] at hp
    have HO:=hid ho;clear ho;go_wp2
    go_round
    case rel=>exact ⟨k+1,by go_num,by omega,fun j hj=>by
     rcases Nat.lt_or_ge j k with h|h
     ·exact HPre.out j h
     ·obtain rfl:j=k:=by omega
      exact HO.out⟩
    case measure=>simp [intOf];omega
   ·rw [ho] at hp
    have HI:Hid (Lib.index s.data.toList t.data.toList=(k:Int)):=Lib.index_first (by rw [<-Lib.size_eq];omega) ho HPre.out
    clear ho;go_wp2;go_ret
    exact ⟨by rw [HI.out];rfl,rfl⟩
  ·have hle:decide ((k:Int)+(t.size:Nat)<=(s.size:Nat))=false:=decide_eq_false (by omega)
   have HI:Hid (Lib.index s.data.toList t.data.toList= -1):=Lib.index_none fun j hj=>by
    rcases Nat.lt_or_ge j k with h|h
    ·exact HPre.out j h
    ·exact HNo.out j (by omega)
   go_wp2;go_ret
   exact ⟨by rw [HI.out];rfl,rfl⟩
theorem dig_one {n:Int} (h0:0<=n) (h1:n<=9) (w:World):(convert 135 9 (.slice (some ⟨w.heap.size,0,none⟩) 1 1)).run prog (w.alloc (.cells #[.int .u8 (48+n)] 5))= .ok (.string ⟨#[digB n]⟩) (w.alloc (.cells #[.int .u8 (48+n)] 5)):=by
 have h:=dig_text (n:=n) w
 rw [show n % 10=n from by omega] at h
 exact h
theorem zero_two {n:Int} (h0:0<=n) (h1:n<=9):(⟨#[48]⟩:ByteArray)++⟨#[digB n]⟩=twoB n:=by
 unfold twoB
 rw [show n / 10 % 10=0 from by omega,show n % 10=n from by omega]
 rfl
theorem two_two (n:Int) (h:n / 10<=9) (h0:0<=n):(⟨#[digB (n / 10)]⟩:ByteArray)++⟨#[digB (n % 10)]⟩=twoB n:=by
 unfold twoB
 rw [show n / 10 % 10=n / 10 from by omega]
 rfl
theorem one_none (b:UInt8):(⟨#[b]⟩:ByteArray)++⟨#[]⟩=⟨#[b]⟩:=rfl
theorem twice_pos (n:Int) (w:World) (h0:0<=n) (h1:n<=99):
  Calls prog 141 #[.int .i64 n] w fun e w'=>e= .returned (.string (twoB n))/\Below w.heap.size w w':=by
 have g1:decide (-10<n)=true:=decide_eq_true (by omega)
 have g3:decide (n<0)=false:=decide_eq_false (by omega)
 go_enter func141,ntmps141
 by_cases h9:n<10
 ·have g2:decide (n<10)=true:=decide_eq_true h9
  have hc:=dig_one (n:=n) h0 (by omega) w
  have he:=zero_two (n:=n) h0 (by omega)
  have HB:=hid ((Below.refl w.heap.size w).alloc (Nat.le_refl _) (.cells #[.int .u8 (48+n)] 5));go_wp2;go_ret;exact ⟨rfl,HB.out⟩
 ·have g2:decide (n<10)=false:=decide_eq_false h9
  go_wp2
  go_loopw [0,3] (fun s0 s3 wr=>Below w.heap.size w wr/\((s0= .int .i64 n/\s3= .string ⟨#[]⟩)\/(s0= .int .i64 (n / 10)/\s3= .string ⟨#[digB (n % 10)]⟩)\/(s0= .int .i64 0/\s3= .string (twoB n))))
   (fun s0 _ _=>(intOf s0).toNat)
  case atStart=>exact ⟨Below.refl _ _,.inl ⟨rfl,rfl⟩⟩
  case round=>
   obtain ⟨hb,⟨rfl,rfl⟩|⟨rfl,rfl⟩|⟨rfl,rfl⟩⟩:=hrel
   ·have HB:=hid (hb.alloc hb.size (.cells #[.int .u8 (48+n % 10)] 5))
    have hc:=dig_text (n:=n) wr;have e1:n.tmod 10=n % 10:=Int.tmod_eq_emod_of_nonneg h0;have e2:n.tdiv 10=n / 10:=Int.tdiv_eq_ediv_of_nonneg h0
    have g4:decide (n % 10<0)=false:=decide_eq_false (by omega)
    have g5:(n == 0)=false:=by simp;omega
    have e3:=one_none (digB (n % 10));clear hb;go_wp2
    exact ⟨⟨HB.out,.inr (.inl ⟨rfl,rfl⟩)⟩,by simp [intOf];omega⟩
   ·have HB:=hid (hb.alloc hb.size (.cells #[.int .u8 (48+n / 10)] 5))
    have hc:=dig_one (n:=n / 10) (by omega) (by omega) wr
    have e1:(n / 10).tmod 10=n / 10:=by rw [Int.tmod_eq_emod_of_nonneg (by omega)];omega
    have e2:(n / 10).tdiv 10=0:=by rw [Int.tdiv_eq_ediv_of_nonneg (by omega)];omega
    have g4:decide (n / 10<0)=false:=decide_eq_false (by omega)
    have g5:(n / 10 == 0)=false:=by simp;omega
    have e3:=two_two n (by omega) h0
    clear hb;go_wp2
    exact ⟨⟨HB.out,.inr (.inr ⟨rfl,rfl⟩)⟩,by simp [intOf];omega⟩
   ·go_wp2
    go_ret;exact ⟨rfl,hb⟩
theorem twice_neg (n:Int) (w:World) (h0:0<n) (h1:n<=99):
  Calls prog 141 #[.int .i64 (-n)] w fun e w'=>e= .returned (.string (twoB n))/\Below w.heap.size w w':=by
 have g3:decide (-n<0)=true:=decide_eq_true (by omega)
 have g2:decide (-n<10)=true:=decide_eq_true (by omega)
 go_enter func141,ntmps141
 by_cases h9:n<10
 ·have g1:decide (-10< -n)=true:=decide_eq_true (by omega)
  have hc:=dig_one (n:=n) (by omega) (by omega) w
  have he:=zero_two (n:=n) (by omega) (by omega)
  have hw:wrap64 (- -n)=n:=by unfold wrap64;omega
  have HB:=hid ((Below.refl w.heap.size w).alloc (Nat.le_refl _) (.cells #[.int .u8 (48+n)] 5));go_wp2;go_ret;exact ⟨rfl,HB.out⟩
 ·have g1:decide (-10< -n)=false:=decide_eq_false (by omega)
  go_wp2
  go_loopw [0,3] (fun s0 s3 wr=>Below w.heap.size w wr/\((s0= .int .i64 (-n)/\s3= .string ⟨#[]⟩)\/(s0= .int .i64 (-(n / 10))/\s3= .string ⟨#[digB (n % 10)]⟩)\/(s0= .int .i64 0/\s3= .string (twoB n))))
   (fun s0 _ _=>(intOf s0).natAbs)
  case atStart=>exact ⟨Below.refl _ _,.inl ⟨rfl,rfl⟩⟩
  case round=>
   obtain ⟨hb,⟨rfl,rfl⟩|⟨rfl,rfl⟩|⟨rfl,rfl⟩⟩:=hrel
   ·have HB:=hid (hb.alloc hb.size (.cells #[.int .u8 (48+n % 10)] 5))
    have hc:=dig_text (n:=n) wr
    have e1:(-n).tmod 10= -(n % 10):=by rw [Int.neg_tmod,Int.tmod_eq_emod_of_nonneg (by omega)]
    have e2:(-n).tdiv 10= -(n / 10):=by rw [Int.neg_tdiv,Int.tdiv_eq_ediv_of_nonneg (by omega)]
    have g5:(-n == 0)=false:=by simp;omega
    have e3:=one_none (digB (n % 10));have e4: - -(n % 10)=n % 10:=Int.neg_neg _;clear hb
    by_cases hz:n % 10=0
    ·have g4:decide (-(n % 10)<0)=false:=decide_eq_false (by omega)
     have g6: -(n % 10)=n % 10:=by omega
     rw [g6] at e1 g4;clear hz g6 e4;go_wp2
     exact ⟨⟨HB.out,.inr (.inl ⟨rfl,rfl⟩)⟩,by simp [intOf];omega⟩
    ·have g4:decide (-(n % 10)<0)=true:=decide_eq_true (by omega)
     go_wp2
     exact ⟨⟨HB.out,.inr (.inl ⟨rfl,rfl⟩)⟩,by simp [intOf];omega⟩
   ·have HB:=hid (hb.alloc hb.size (.cells #[.int .u8 (48+n / 10)] 5))
    have hc:=dig_one (n:=n / 10) (by omega) (by omega) wr
    have e1:(-(n / 10)).tmod 10= -(n / 10):=by rw [Int.neg_tmod,Int.tmod_eq_emod_of_nonneg (by omega)];omega
    have e2:(-(n / 10)).tdiv 10=0:=by rw [Int.neg_tdiv,Int.tdiv_eq_ediv_of_nonneg (by omega)];omega
    have g4:decide (-(n / 10)<0)=true:=decide_eq_true (by omega)
    have g5:(-(n / 10) == 0)=false:=by simp;omega
    have e3:=two_two n (by omega) (by omega)
    have e4: - -(n / 10)=n / 10:=Int.neg_neg _;clear hb;go_wp2
    exact ⟨⟨HB.out,.inr (.inr ⟨rfl,rfl⟩)⟩,by simp [intOf];omega⟩
   ·go_wp2
    go_ret;exact ⟨rfl,hb⟩
theorem rtold_any (n:Int) (w:World) (h0: -359999<=n) (h1:n<=359999):
  Calls prog 109 #[.int .i64 n] w fun e w'=>e= .returned (.string (toldB n))/\Below w.heap.size w w':=by
 unfold toldB;have HB:=hid (Below.refl w.heap.size w)
 rcases Int.lt_or_le n 0 with hn|hn
 ·rw [if_pos hn]
  obtain ⟨k,rfl⟩:∃ k,n= -k:=⟨-n,by omega⟩
  rw [Int.neg_neg]
  have HT:=hid (fun (k:Int) z (a:0<=k) (b:k<=99)=>(show Calls prog 141 #[.int .i64 (-k)] z fun e w'=>e= .returned (.string (twoB k))/\Below z.heap.size z w' from by
   rcases Int.lt_or_eq_of_le a with h|h
   ·exact twice_neg k z h b
   ·subst h;exact twice_pos 0 z (by omega) (by omega)))
  have e1:(-k).tdiv 3600= -(k / 3600):=by rw [Int.neg_tdiv,Int.tdiv_eq_ediv_of_nonneg (by omega)]
  have e2:(-k).tmod 3600= -(k % 3600):=by rw [Int.neg_tmod,Int.tmod_eq_emod_of_nonneg (by omega)]
  have e3:(-(k % 3600)).tdiv 60= -(k / 60 % 60):=by rw [Int.neg_tdiv,Int.tdiv_eq_ediv_of_nonneg (by omega)];omega
  have e4:(-k).tmod 60= -(k % 60):=by rw [Int.neg_tmod,Int.tmod_eq_emod_of_nonneg (by omega)]
  have hnb:decide (-k<0)=true:=decide_eq_true hn
  have q1:0<=k / 3600/\k / 3600<=99:=by omega
  have q2:0<=k / 60 % 60/\k / 60 % 60<=99:=by omega
  have q3:0<=k % 60/\k % 60<=99:=by omega
  have hm:(-(k % 3600) == 0)=((k / 60 % 60 == 0) && (k % 60 == 0)):=by
   rw [Bool.eq_iff_iff];simp;omega
  have hs:(-(k % 60) == 0)=(k % 60 == 0):=by rw [Bool.eq_iff_iff];simp
  unfold partsB;generalize k / 3600=h at*;generalize k / 60 % 60=m at*;generalize k % 60=s at*
  have q4:0<=k % 3600/\k % 3600<=3599:=by omega
  generalize k % 3600=r at*;have t1:=fun z=>HT.out h z q1.1 q1.2;have t2:=fun z=>HT.out m z q2.1 q2.2;have t3:=fun z=>HT.out s z q3.1 q3.2;obtain ⟨a1,hA1⟩:∃ a,-h=a:=⟨_,rfl⟩;obtain ⟨a2,hA2⟩:∃ a,-m=a:=⟨_,rfl⟩;obtain ⟨a3,hA3⟩:∃ a,-s=a:=⟨_,rfl⟩;obtain ⟨a4,hA4⟩:∃ a,-r=a:=⟨_,rfl⟩;obtain ⟨K,hK⟩:∃ a,-k=a:=⟨_,rfl⟩
  have u1:wrap64 a1=a1:=by unfold wrap64;omega
  have u2:wrap64 a2=a2:=by unfold wrap64;omega
  have u3:wrap64 a3=a3:=by unfold wrap64;omega
  have u4:wrap64 a4=a4:=by unfold wrap64;omega
  rw [hA1] at t1;rw [hA2] at t2;rw [hA3] at t3;simp only [hA1,hA2,hA3,hA4,hK] at e1 e2 e3 e4 hm hs hnb ⊢;have T1:=hid t1;have T2:=hid t2;have T3:=hid t3;clear q1 q2 q3 q4 t1 t2 t3 hA1 hA2 hA3 hA4 hK HT hn
  cases hm2:(m == 0)<;>cases hs2:(s == 0)<;>rw [hm2,hs2] at hm<;>rw [hs2] at hs<;>simp only [Bool.and_true,Bool.and_false] at hm
  all_goals
   go_enter func109,ntmps109
   go_wp2_with (first
    |(go_at_call 141;refine (T1.out _).mono ?_;rintro e w1 ⟨rfl,hb⟩;have HB:=hid (HB.out.trans (hb.mono HB.out.size));clear hb T1)
    |(go_at_call 141;refine (T2.out _).mono ?_;rintro e w1 ⟨rfl,hb⟩;have HB:=hid (HB.out.trans (hb.mono HB.out.size));clear hb T2)
    |(go_at_call 141;refine (T3.out _).mono ?_;rintro e w1 ⟨rfl,hb⟩;have HB:=hid (HB.out.trans (hb.mono HB.out.size));clear hb T3))
   go_ret;exact ⟨rfl,HB.out⟩
 ·rw [if_neg (by omega)]
  have e1:n.tdiv 3600=n / 3600:=Int.tdiv_eq_ediv_of_nonneg (by omega)
  have e2:n.tmod 3600=n % 3600:=Int.tmod_eq_emod_of_nonneg (by omega)
  have e3:(n % 3600).tdiv 60=n / 60 % 60:=by rw [Int.tdiv_eq_ediv_of_nonneg (by omega)];omega
  have e4:n.tmod 60=n % 60:=Int.tmod_eq_emod_of_nonneg (by omega)
  have hnb:decide (n<0)=false:=decide_eq_false (by omega)
  have t1:=fun z=>twice_pos (n / 3600) z (by omega) (by omega)
  have t2:=fun z=>twice_pos (n / 60 % 60) z (by omega) (by omega)
  have t3:=fun z=>twice_pos (n % 60) z (by omega) (by omega)
  have hm:(n % 3600 == 0)=((n / 60 % 60 == 0) && (n % 60 == 0)):=by
   rw [Bool.eq_iff_iff];simp;omega
  have u1:wrap64 (n / 3600)=n / 3600:=by unfold wrap64;omega
  have u2:wrap64 (n / 60 % 60)=n / 60 % 60:=by unfold wrap64;omega
  have u3:wrap64 (n % 60)=n % 60:=by unfold wrap64;omega
  have u4:wrap64 (n % 3600)=n % 3600:=by unfold wrap64;omega
  unfold partsB;generalize hG1:n / 3600=h at*;generalize hG2:n / 60 % 60=m at*;generalize hG3:n % 60=s at*;generalize hG4:n % 3600=r at*;have T1:=hid t1;have T2:=hid t2;have T3:=hid t3;clear t1 t2 t3 hn hG1 hG2 hG3 hG4 h0 h1
  cases hm2:(m == 0)<;>cases hs2:(s == 0)<;>rw [hm2,hs2] at hm<;>simp only [Bool.and_true,Bool.and_false] at hm
  all_goals
   go_enter func109,ntmps109
   go_wp2_with (first
    |(go_at_call 141;refine (T1.out _).mono ?_;rintro e w1 ⟨rfl,hb⟩;have HB:=hid (HB.out.trans (hb.mono HB.out.size));clear hb T1)
    |(go_at_call 141;refine (T2.out _).mono ?_;rintro e w1 ⟨rfl,hb⟩;have HB:=hid (HB.out.trans (hb.mono HB.out.size));clear hb T2)
    |(go_at_call 141;refine (T3.out _).mono ?_;rintro e w1 ⟨rfl,hb⟩;have HB:=hid (HB.out.trans (hb.mono HB.out.size));clear hb T3))
   go_ret;exact ⟨rfl,HB.out⟩
theorem rabbr_any (f l:ByteArray) (off save:Int) (w:World) (hf:f.size<=2097152) (hl:l.size<=2097152) (h0: -359999<=off) (h1:off<=359999):
  Calls prog 78 #[.string f,.string l,.int .i64 off,.int .i64 save] w fun e w'=>e= .returned (.string (abbrB f l off save))/\Below w.heap.size w w':=by
 have S1:=fun z=>sign_any f ⟨#[37,115]⟩ z hf (by decide) (by decide)
 have S2:=fun z=>sign_any f ⟨#[37,122]⟩ z hf (by decide) (by decide)
 have S3:=fun z=>sign_any f ⟨#[47]⟩ z hf (by decide) (by decide)
 have r2:∀ {c:List UInt8} {i:Nat},c≠[]->Lib.occAt f.data.toList c i=true->i+c.length<=f.size:=fun hc ho=>by
  rcases Lib.occAt_room ho with h|h
  ·rw [Lib.size_eq];exact h
  ·exact absurd h hc
 rcases Lib.index_spec f.data.toList [37,115] with ⟨i1,_⟩|⟨i,i1,_,ho,_⟩
 ·have T:=hid (fun z=>rtold_any off z h0 h1)
  change ∀ z,Calls _ _ _ z fun e w'=>e= .returned (.int .i64 (Lib.index f.data.toList [37,115]))/\w'=z at S1
  rw [i1] at S1
  rcases Lib.index_spec f.data.toList [37,122] with ⟨i2,_⟩|⟨i,i2,_,ho,_⟩
  ·change ∀ z,Calls _ _ _ z fun e w'=>e= .returned (.int .i64 (Lib.index f.data.toList [37,122]))/\w'=z at S2
   rw [i2] at S2
   rcases Lib.index_spec f.data.toList [47] with ⟨i3,_⟩|⟨i,i3,_,ho,_⟩
   ·change ∀ z,Calls _ _ _ z fun e w'=>e= .returned (.int .i64 (Lib.index f.data.toList [47]))/\w'=z at S3
    rw [i3] at S3;rw [abbr_no i1 i2 i3];have P1:=hid S1;have P2:=hid S2;have P3:=hid S3;clear S1 S2 S3 r2 i1 i2 i3;go_enter func78,ntmps78
    go_wp2_with (first
     |(go_at_call 108;refine (P1.out _).mono ?_;rintro e w1 ⟨rfl,rfl⟩;clear P1)
     |(go_at_call 108;refine (P2.out _).mono ?_;rintro e w1 ⟨rfl,rfl⟩;clear P2)
     |(go_at_call 108;refine (P3.out _).mono ?_;rintro e w1 ⟨rfl,rfl⟩;clear P3))
    go_ret;exact ⟨rfl,Below.refl _ _⟩
   ·change ∀ z,Calls _ _ _ z fun e w'=>e= .returned (.int .i64 (Lib.index f.data.toList [47]))/\w'=z at S3
    rw [i3] at S3
    have hi:=r2 (by simp) ho
    simp only [List.length_cons,List.length_nil] at hi;have P1:=hid S1;have P2:=hid S2;have P3:=hid S3;clear S1 S2 S3 r2 ho
    by_cases hs:save=0
    ·rw [abbr_a i1 i2 i3 hs]
     subst hs;clear i1 i2 i3;go_enter func78,ntmps78
     go_wp2_with (first
      |(go_at_call 108;refine (P1.out _).mono ?_;rintro e w1 ⟨rfl,rfl⟩;clear P1)
      |(go_at_call 108;refine (P2.out _).mono ?_;rintro e w1 ⟨rfl,rfl⟩;clear P2)
      |(go_at_call 108;refine (P3.out _).mono ?_;rintro e w1 ⟨rfl,rfl⟩;clear P3))
     go_ret;exact ⟨rfl,Below.refl _ _⟩
    ·rw [abbr_b i1 i2 i3 hs]
     have hsb:(save == 0)=false:=by simp [hs]
     clear i1 i2 i3;go_enter func78,ntmps78
     go_wp2_with (first
      |(go_at_call 108;refine (P1.out _).mono ?_;rintro e w1 ⟨rfl,rfl⟩;clear P1)
      |(go_at_call 108;refine (P2.out _).mono ?_;rintro e w1 ⟨rfl,rfl⟩;clear P2)
      |(go_at_call 108;refine (P3.out _).mono ?_;rintro e w1 ⟨rfl,rfl⟩;clear P3))
     go_ret;exact ⟨rfl,Below.refl _ _⟩
  ·change ∀ z,Calls _ _ _ z fun e w'=>e= .returned (.int .i64 (Lib.index f.data.toList [37,122]))/\w'=z at S2
   rw [i2] at S2
   have hi:=r2 (by simp) ho
   simp only [List.length_cons,List.length_nil] at hi;have hsz:(toldB off).size<=7:=told_size off;have P1:=hid S1;have P2:=hid S2;rw [abbr_z i1 i2];clear S1 S2 S3 r2 ho i1 i2;have inst:Nonempty (Qt.In (Below w.heap.size w)):=⟨⟨_,Below.refl _ _⟩⟩;have TC:Hid (∀ z,Below w.heap.size w z->Calls prog 109 #[.int .i64 off] z fun e z'=>e= .returned (.string (toldB off))/\Below w.heap.size w z'):=fun z h=>(T.out z).mono fun e z' ⟨he,hb⟩=>⟨he,h.trans (hb.mono h.size)⟩;generalize toldB off=td at*;go_enter func78,ntmps78
   go_wp2_with (first
    |(go_at_call 108;refine (P1.out _).mono ?_;rintro e w1 ⟨rfl,rfl⟩;clear P1)
    |(go_at_call 108;refine (P2.out _).mono ?_;rintro e w1 ⟨rfl,rfl⟩;clear P2))
   have hw2:IntKind.i64.wrap ((i:Int)+2)=(i:Int)+2:=by rw [IntKind.wrap_i64];omega
   refine Qt.wp_region_cls (Below w1.heap.size w1) (by kernel_rfl) (by kernel_rfl) (below_dr (n:=1) (Below.refl _ _)) ?_
   repeat (go_big_quiet_step ((go_at_call 109;exact Qt.quiet_cls (TC.out _ (Qt.In.h _)))))
   refine wpQuiet_nil ?_
   rintro wq ⟨⟨w9,hq⟩,e9⟩
   have HX:Hid (Below w1.heap.size w1 wq):=by rw [e9];exact hq
   clear hq e9 inst TC;go_wp2;go_ret;exact ⟨rfl,HX.out⟩
 ·change ∀ z,Calls _ _ _ z fun e w'=>e= .returned (.int .i64 (Lib.index f.data.toList [37,115]))/\w'=z at S1
  rw [i1] at S1
  have hi:=r2 (by simp) ho
  simp only [List.length_cons,List.length_nil] at hi;have P1:=hid S1;rw [abbr_s i1];clear S1 S2 S3 r2 ho i1;go_enter func78,ntmps78
  go_wp2_with (go_at_call 108;refine (P1.out _).mono ?_;rintro e w1 ⟨rfl,rfl⟩;clear P1)
  go_region
  go_wp2;go_ret;exact ⟨rfl,(Below.refl _ _).drew⟩
end Cmq
end
end
section
section
namespace Snd
open Go.RowKit Mem Civ Mom Img Plc Rul Src Go.Maps
theorem rset_any (s:Src) (A A2 A3:Option Addr) (c c2 c3:Nat) (nm:ByteArray) (w:World) (h:SrcOk s A A2 A3 w):
  Calls prog 77 #[.agg #[.slice A s.rules.length c,.slice A2 s.zones.length c2,.slice A3 s.links.length c3],.string nm] w fun e w'=>∃ v,e= .returned v/\w'.ownsRow w.heap.size 69 11 v (setL s.rules nm).length ((setL s.rules nm).flatMap Rule.cells)/\Below w.heap.size w w':=by
 obtain ⟨i1,hi1,hy0,hy1,hy2⟩:=info_parts info_rule;have hrr:=h.rr;have nr:=h.nr;clear h;obtain ⟨rs,zs,ls⟩:=s;simp only at hrr nr ⊢;have hone:=One.new w 82 #[.slice A rs.length c,.slice A2 zs.length c2,.slice A3 ls.length c3];obtain ⟨W,hW⟩:∃ W,w.alloc (.cells #[.slice A rs.length c,.slice A2 zs.length c2,.slice A3 ls.length c3] 82)=W:=⟨_,rfl⟩;rw [hW] at hone
 have hsz:W.heap.size=w.heap.size+1:=by rw [<-hW];simp
 have HO:=hid hone;have HR:=hid hrr;have HSz:=hid hsz;clear hone hrr hsz;go_enter func77,ntmps77
 go_wp2_with fail
 go_loopw [5,6] (fun v i wr=>∃ k:Nat,k<=rs.length/\i= .int .i64 k/\wr.ownsRow W.heap.size 69 11 v (setL (rs.take k) nm).length ((setL (rs.take k) nm).flatMap Rule.cells)/\Below W.heap.size W wr) (fun _ i _=>rs.length - (intOf i).toNat)
 case atStart=>exact ⟨0,Nat.zero_le _,rfl,World.ownsRow_nil _ _ _ _,Below.refl _ _⟩
 case round=>
  obtain ⟨k,hk,rfl,hown,hb⟩:=hrel;have hsl:=setL_len (rs.take k) nm;rw [List.length_take] at hsl;have ho:=HO.out.step hb;have c0:=ho.1.cell;have HOw:=hid hown;have HB:=hid hb;have Hsz:=hid hb.size;have HOr:=hid ho;clear hown hb ho
  by_cases hkn:k<rs.length
  ·obtain ⟨ad,hA,hadb,a0,a1,a2,a3,a4,a5,a6,a7,a8,a9,a10⟩:=rule_cells (HR.out.below HOr.out.2) hkn
   subst hA;have hst:=setL_step (nm:=nm) hkn;have hbq:=tl_beq rs[k].name nm;have HSt:=hid hst;clear hst;generalize rs[k]=x at*;obtain ⟨x0,x1,x2,x3,x4,x5,x6,x7,x8,x9,x10⟩:=x;simp only at a0 a1 a2 a3 a4 a5 a6 a7 a8 a9 a10 HSt hbq
   have m1:(setL (rs.take k) nm).length+1<=maxLen:=by unfold maxLen;omega
   have m2:((setL (rs.take k) nm).length+1)*104<=140737488355328:=by omega
   have M1:=hid m1;have M2:=hid m2;clear m1 m2 hsl
   cases hd:decide (x0=nm)
   ·rw [hd] at HSt hbq
    go_wp2_with fail
    refine ⟨⟨k+1,by omega,by go_num,?_,HB.out⟩,by simp [intOf];omega⟩
    rw [HSt.out];simp only [Bool.false_eq_true,if_false];exact HOw.out
   ·rw [hd] at HSt hbq
    generalize setL (rs.take k) nm=l1 at*
    go_wp2_with ((at_builtin;refine wpList_append1g wr rfl (.tmp 22) (.tmp 28) 25 rfl W.heap.size 69 i1 _ 11 104 underlying25 hi1 hy0 hy1 hy2 rfl (by decide) _ l1.length (l1.flatMap Rule.cells) rfl HOw.out (by simp [Act.eval]) rfl one_rule M1.out M2.out Hsz.out ?_;intro v' wB hown8 hg8;have HO2:=hid hown8;have HB2:=hid ((HB.out.alloc Hsz.out _).grown hg8 (by have:=Hsz.out;simp;omega) (fun j hj=>(HOw.out.lt j hj).1));clear hown8 hg8))
    refine ⟨⟨k+1,by omega,by go_num,?_,HB2.out⟩,by simp [intOf];omega⟩
    rw [HSt.out];simp only [if_true,List.length_append,List.flatMap_append,List.length_cons,List.length_nil,List.flatMap_cons,List.flatMap_nil,List.append_nil];exact HO2.out
  ·obtain rfl:k=rs.length:=by omega
   have hb:=HOr.out.2;have ho2:=HOw.out;rw [List.take_length] at ho2
   have HO2:=hid (own_base ho2 (by have:=HSz.out;omega:w.heap.size<=W.heap.size))
   clear ho2
   go_wp2_with fail
   go_ret;exact ⟨_,rfl,HO2.out,HOr.out.2⟩
theorem set_right {rs:List Rule} (h:rulesB rs=true) (nm:ByteArray):rulesB (setL rs nm)=true:=by
 unfold rulesB at h ⊢;rw [List.all_eq_true] at h ⊢;exact fun r hr=>h r (List.mem_filter.1 hr).1
end Snd
end
end
section
section
namespace Trn
open Go.RowKit Mem Civ Mom Img Rul Ahd Rgt
theorem firstY_one {rs:List Rule} (h:rulesB rs=true) (h0:0<rs.length):firstY (rs.take 1)=rs[0].lo:=by
 have hb:=ruleB_bd (List.all_eq_true.1 h _ (List.getElem_mem h0));rw [firstY_succ rs 0 h0];simp only [List.take_zero,firstY,List.foldl_nil];omega
def MinP (rs:List Rule) (w:World) (e:Ending) (w':World):Prop:=∃ r:Rule,e= .returned (.agg #[.string r.name,.int .i64 r.lo,.int .i64 r.hi,.int .i64 r.month,.int .i64 r.kind,.int .i64 r.weekday,.int .i64 r.day,.int .i64 r.time,.int .i64 r.ref,.int .i64 r.save,.string r.letter])/\r.lo=firstY rs/\Below w.heap.size w w'
theorem le1 (n:Nat):n<=n+1:=by omega
theorem below_set11 {B b:Nat} {w w':World} (h:Below B w w') (hb:B<=b) (v0 v1 v2 v3 v4 v5 v6 v7 v8 v9 v10:Value):
  Below B w (((((((((((w'.setCell ⟨b,0,none⟩ v0).setCell ⟨b,1,none⟩ v1).setCell ⟨b,2,none⟩ v2).setCell ⟨b,3,none⟩ v3).setCell ⟨b,4,none⟩ v4).setCell ⟨b,5,none⟩ v5).setCell ⟨b,6,none⟩ v6).setCell ⟨b,7,none⟩ v7).setCell ⟨b,8,none⟩ v8).setCell ⟨b,9,none⟩ v9).setCell ⟨b,10,none⟩ v10):=
 ((((((((((h.setCell hb _).setCell hb _).setCell hb _).setCell hb _).setCell hb _).setCell hb _).setCell hb _).setCell hb _).setCell hb _).setCell hb _).setCell hb _
theorem blk_set11 {b:Nat} {t:TypeId} {w:World} {x0 x1 x2 x3 x4 x5 x6 x7 x8 x9 x10:Value} (h:Blk w b t #[x0,x1,x2,x3,x4,x5,x6,x7,x8,x9,x10]) (v0 v1 v2 v3 v4 v5 v6 v7 v8 v9 v10:Value):
  Blk (((((((((((w.setCell ⟨b,0,none⟩ v0).setCell ⟨b,1,none⟩ v1).setCell ⟨b,2,none⟩ v2).setCell ⟨b,3,none⟩ v3).setCell ⟨b,4,none⟩ v4).setCell ⟨b,5,none⟩ v5).setCell ⟨b,6,none⟩ v6).setCell ⟨b,7,none⟩ v7).setCell ⟨b,8,none⟩ v8).setCell ⟨b,9,none⟩ v9).setCell ⟨b,10,none⟩ v10) b t #[v0,v1,v2,v3,v4,v5,v6,v7,v8,v9,v10]:=by
 have:=(((((((((((h.set_ 0 v0).set_ 1 v1).set_ 2 v2).set_ 3 v3).set_ 4 v4).set_ 5 v5).set_ 6 v6).set_ 7 v7).set_ 8 v8).set_ 9 v9).set_ 10 v10)
 simpa using this
theorem blk_far11 {b g:Nat} {t:TypeId} {cs:Array Value} {w:World} (h:Blk w g t cs) (hne:g≠b) (v0 v1 v2 v3 v4 v5 v6 v7 v8 v9 v10:Value):
  Blk (((((((((((w.setCell ⟨b,0,none⟩ v0).setCell ⟨b,1,none⟩ v1).setCell ⟨b,2,none⟩ v2).setCell ⟨b,3,none⟩ v3).setCell ⟨b,4,none⟩ v4).setCell ⟨b,5,none⟩ v5).setCell ⟨b,6,none⟩ v6).setCell ⟨b,7,none⟩ v7).setCell ⟨b,8,none⟩ v8).setCell ⟨b,9,none⟩ v9).setCell ⟨b,10,none⟩ v10) g t cs:=
 ((((((((((h.far hne _).far hne _).far hne _).far hne _).far hne _).far hne _).far hne _).far hne _).far hne _).far hne _).far hne _
end Trn
end
end
section
section
namespace Cmq
open Go.RowKit Mem Civ Mom Img Rul Ahd Trn Src Snd Att Rgt Abr
def savV (x:Era) (f:Int×ByteArray):Int×ByteArray:=if x.kind=2 then f else if x.kind=1 then (x.save,⟨#[]⟩) else (0,⟨#[]⟩)
def ForceAt (A:Option Addr) (n c:Nat) (off t:Int) (f:Int×ByteArray) (w:World):Prop:=
 ∀ z,Below w.heap.size w z->Calls prog 42 #[.slice A n c,.int .i64 off,.int .i64 t] z fun e w'=>e= .returned (.tuple #[.int .i64 f.1,.string f.2])/\Below z.heap.size z w'
section
variable (x:Era) (A:Option Addr) (n c:Nat) (t:Int) (w:World)
end
def phaseV (x:Era) (f:Int×ByteArray):Phase:=⟨x.off+(savV x f).1,(savV x f).1,abbrB x.format (savV x f).2 (x.off+(savV x f).1) (savV x f).1⟩
end Cmq
end
end
end Go.Proofs.YtmlejgdohcpmjaaGreatDoor
