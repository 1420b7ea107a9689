/-
  Contracts of the code that the law reaches, and plain laws. Conditions: as each says.
-/
import Derived.Test.YtadamccojdocbaaGreatDoorV02
import Derived.Test.YtadamccojdocbaaGreatDoorV05
set_option linter.all false
set_option maxHeartbeats 40000000
set_option maxRecDepth 100000
namespace Go.Proofs.YtadamccojdocbaaGreatDoor
open Lib (hid)
open Tryz
section
section
namespace Abr
open Go.RowKit Mem Img
def digB (n:Int):UInt8:=UInt8.ofNat (48+n).toNat
def twoB (n:Int):ByteArray:=⟨#[digB (n / 10 % 10),digB (n % 10)]⟩
theorem dig_nat {n:Int}:((digB (n % 10)).toNat:Int)=48+n % 10:=by
 unfold digB
 rw [UInt8.toNat_ofNat_of_lt' (by show _<256;omega)]
 omega
theorem dig_text {n:Int} (w:World):
  (convert 186 9 (.slice (some ⟨w.heap.size,0,none⟩) 1 1)).run prog (w.alloc (.cells #[.int .u8 (48+n % 10)] 5))= .ok (.string ⟨#[digB (n % 10)]⟩) (w.alloc (.cells #[.int .u8 (48+n % 10)] 5)):=by
 refine run_convert_bytes_back _ _ _ _ _ _ [digB (n % 10)] underlying186 underlying5 underlying9 fun j hj=>?_
 obtain rfl:j=0:=by simp at hj;exact hj
 rw [show Addr.add ⟨w.heap.size,0,none⟩ 0=⟨w.heap.size,0,none⟩ from rfl,World.cell?_alloc_new]
 simp [dig_nat]
theorem two_any (n:Int) (w:World) (h0:0<=n) (h1:n<=99):
  Calls prog 154 #[.int .i64 n] w fun e w'=>e= .returned (.string (twoB n))/\Below w.heap.size w w':=by
 go_enter func154,ntmps154;go_wp2
 go_loopw [0,3,4] (fun s0 s3 s4 wr=>Below w.heap.size w wr/\((s0= .int .i64 n/\s3= .string ⟨#[]⟩/\s4= .int .i64 0)\/(s0= .int .i64 (n / 10)/\s3= .string ⟨#[digB (n % 10)]⟩/\s4= .int .i64 1)\/(s0= .int .i64 0/\s3= .string (twoB n)/\s4= .int .i64 2)))
  (fun _ _ s4 _=>2 - (intOf s4).toNat)
 case atStart=>exact ⟨Below.refl _ _,.inl ⟨rfl,rfl,rfl⟩⟩
 case round=>
  obtain ⟨hb,⟨rfl,rfl,rfl⟩|⟨rfl,rfl,rfl⟩|⟨rfl,rfl,rfl⟩⟩:=hrel
  ·have HB:=hid (hb.alloc hb.size (.cells #[.int .u8 (48+n % 10)] 5))
   have hc:=dig_text (n:=n) wr;clear hb
   cases hpb:decide (0<n)
   all_goals
    go_wp2
    exact ⟨⟨HB.out,.inr (.inl ⟨rfl,rfl,rfl⟩)⟩,by simp [intOf]⟩
  ·have HB:=hid (hb.alloc hb.size (.cells #[.int .u8 (48+n / 10 % 10)] 5))
   have hc:=dig_text (n:=n / 10) wr
   have hz:n / 10 / 10=0:=by omega
   have HZ:=hid hz;clear hb hz
   cases hpb:decide (0<n / 10)
   all_goals
    go_wp2
    exact ⟨⟨HB.out,.inr (.inr ⟨by rw [HZ.out],rfl,rfl⟩)⟩,by simp [intOf]⟩
  ·go_wp2
   go_ret;exact ⟨rfl,hb⟩
def partsB (g:ByteArray) (h m s:Int):ByteArray:=
 if (m == 0 && s == 0)=true then g++twoB h else if (s == 0)=true then g++twoB h++twoB m else g++twoB h++twoB m++twoB s
def toldB (n:Int):ByteArray:=if n<0 then partsB ⟨#[45]⟩ (-n / 3600) (-n / 60 % 60) (-n % 60) else partsB ⟨#[43]⟩ (n / 3600) (n / 60 % 60) (n % 60)
theorem told_any (n:Int) (w:World) (h0: -359999<=n) (h1:n<=359999):
  Calls prog 94 #[.int .i64 n] w fun e w'=>e= .returned (.string (toldB n))/\Below w.heap.size w w':=by
 have HT:=hid (fun (k:Int) z (a:0<=k) (b:k<=99)=>two_any k z a b);unfold toldB
 rcases Int.lt_or_le n 0 with hn|hn
 ·rw [if_pos hn]
  obtain ⟨k,rfl⟩:∃ k,n= -k:=⟨-n,by omega⟩
  rw [Int.neg_neg]
  have e1:(-k).tdiv 3600= -(k / 3600):=by rw [Int.neg_tdiv,Int.tdiv_eq_ediv_of_nonneg (by omega)]
  have e2:(-k).tdiv 60= -(k / 60):=by rw [Int.neg_tdiv,Int.tdiv_eq_ediv_of_nonneg (by omega)]
  have e3:(-(k / 60)).tmod 60= -(k / 60 % 60):=by rw [Int.neg_tmod,Int.tmod_eq_emod_of_nonneg (by omega)]
  have e4:(-k).tmod 60= -(k % 60):=by rw [Int.neg_tmod,Int.tmod_eq_emod_of_nonneg (by omega)]
  have hnb:decide (-k<0)=true:=decide_eq_true hn
  have q1:0<=k / 3600/\k / 3600<=99:=by omega
  have q2:0<=k / 60 % 60/\k / 60 % 60<=99:=by omega
  have q3:0<=k % 60/\k % 60<=99:=by omega
  unfold partsB;generalize k / 3600=h at*;generalize k / 60 % 60=m at*;generalize k % 60=s at*;have HB:=hid (Below.refl w.heap.size w);have Q1:=hid q1;have Q2:=hid q2;have Q3:=hid q3
  cases hm:(m == 0)<;>cases hs:(s == 0)
  all_goals
   go_enter func94,ntmps94
   go_wp2_with (go_at_call 154;refine (HT.out _ _ (by have:=Q1.out;have:=Q2.out;have:=Q3.out;omega) (by have:=Q1.out;have:=Q2.out;have:=Q3.out;omega)).mono ?_;rintro e w1 ⟨rfl,hb⟩;have HB:=hid (HB.out.trans (hb.mono HB.out.size));clear hb)
   go_ret;exact ⟨rfl,HB.out⟩
 ·rw [if_neg (by omega)]
  have hnb:decide (n<0)=false:=decide_eq_false (by omega)
  have e1:n.tdiv 3600=n / 3600:=Int.tdiv_eq_ediv_of_nonneg (by omega)
  have e2:n.tdiv 60=n / 60:=Int.tdiv_eq_ediv_of_nonneg (by omega)
  have e3:(n / 60).tmod 60=n / 60 % 60:=Int.tmod_eq_emod_of_nonneg (by omega)
  have e4:n.tmod 60=n % 60:=Int.tmod_eq_emod_of_nonneg (by omega)
  have q1:0<=n / 3600/\n / 3600<=99:=by omega
  have q2:0<=n / 60 % 60/\n / 60 % 60<=99:=by omega
  have q3:0<=n % 60/\n % 60<=99:=by omega
  unfold partsB;generalize hG1:n / 3600=h at*;generalize hG2:n / 60 % 60=m at*;generalize hG3:n % 60=s at*;have HB:=hid (Below.refl w.heap.size w);have Q1:=hid q1;have Q2:=hid q2;have Q3:=hid q3
  cases hm:(m == 0)<;>cases hs:(s == 0)
  all_goals
   go_enter func94,ntmps94
   go_wp2_with (go_at_call 154;refine (HT.out _ _ (by have:=Q1.out;have:=Q2.out;have:=Q3.out;omega) (by have:=Q1.out;have:=Q2.out;have:=Q3.out;omega)).mono ?_;rintro e w1 ⟨rfl,hb⟩;have HB:=hid (HB.out.trans (hb.mono HB.out.size));clear hb)
   go_ret;exact ⟨rfl,HB.out⟩
def abbrB (f l:ByteArray) (off save:Int):ByteArray:=
 if Lib.contains f.data.toList [37,115]=true then ⟨(Lib.replace f.data.toList [37,115] l.data.toList 1).toArray⟩
 else if Lib.contains f.data.toList [37,122]=true then ⟨(Lib.replace f.data.toList [37,122] (toldB off).data.toList 1).toArray⟩
 else if ((Lib.cut f.data.toList [47]).2.2 && !(save == 0))=true then ⟨(Lib.cut f.data.toList [47]).2.1.toArray⟩ else ⟨(Lib.cut f.data.toList [47]).1.toArray⟩
theorem two_size (n:Int):(twoB n).size=2:=rfl
theorem told_size (n:Int):(toldB n).size<=7:=by
 unfold toldB
 split
 all_goals
  unfold partsB
  split
  ·simp [ByteArray.size_append,two_size];decide
  ·split
   ·simp [ByteArray.size_append,two_size];decide
   ·simp [ByteArray.size_append,two_size];decide
theorem below_drawn {w w':World} (h:∃ n,w'=w.drewN n):Below w.heap.size w w':=by
 obtain ⟨n,rfl⟩:=h;exact below_drewN (Below.refl _ _) n
theorem abbr_any (f l:ByteArray) (off save m:Int) (w:World) (hf:f.size<=2097152) (hl:l.size<=2097152) (h0: -359999<=off) (h1:off<=359999) (hm:w.cell? ⟨0,0,none⟩=some (.int .i64 m)):
  Calls prog 43 #[.string f,.string l,.int .i64 off,.int .i64 save] w fun e w'=>e= .returned (.string (abbrB f l off save))/\Below w.heap.size w w':=by
 have e1:(⟨#[37,115]⟩:ByteArray).data.toList=[37,115]:=rfl;have e2:(⟨#[37,122]⟩:ByteArray).data.toList=[37,122]:=rfl;have e3:(⟨#[47]⟩:ByteArray).data.toList=[47]:=rfl
 have K1:=Tryz.strings_Contains f ⟨#[37,115]⟩ m w (by omega) hm
 have K2:=Tryz.strings_Contains f ⟨#[37,122]⟩ m w (by omega) hm
 have HC:=Tryz.strings_Cut f ⟨#[47]⟩ m w (by omega) hm
 have hroom:∀ (s r:ByteArray),1<=s.size->r.size<=2097152->f.size+Lib.countB f s*r.size<=140737488355328:=fun s r h1 hr=>by
  have h2:=Lib.countB_le s h1 f.size f (Nat.le_refl _);have h3:=Nat.mul_le_mul (Nat.le_trans h2 hf) hr;omega
 have R1:=Tryz.strings_Replace f ⟨#[37,115]⟩ l 1 m w (by omega) hm (by decide) (hroom _ _ (by decide) hl)
 have R2:=fun z (hb:Below w.heap.size w z)=>Tryz.strings_Replace f ⟨#[37,122]⟩ (toldB off) 1 m z (by omega) (cell_later hb hm) (by decide) (hroom _ _ (by decide) (Nat.le_trans (told_size off) (by decide)))
 have HT:=hid (told_any off w h0 h1);rw [e1] at K1 R1;rw [e2] at K2;rw [e3] at HC;clear hm h0 h1 e1 e2 e3 hroom hf hl;unfold abbrB;generalize toldB off=T at*;generalize (⟨(Lib.replace f.data.toList [37,115] l.data.toList 1).toArray⟩:ByteArray)=P1 at*;generalize (⟨(Lib.replace f.data.toList [37,122] T.data.toList 1).toArray⟩:ByteArray)=P2 at*;generalize Lib.contains f.data.toList [37,115]=b1 at*;generalize Lib.contains f.data.toList [37,122]=b2 at*;generalize Lib.cut f.data.toList [47]=q at*;obtain ⟨q1,q2,q3⟩:=q;simp only at HC ⊢;generalize (⟨q1.toArray⟩:ByteArray)=C1 at*;generalize (⟨q2.toArray⟩:ByteArray)=C2 at*;have HK1:=hid K1;have HK2:=hid K2;have HR1:=hid R1;have HR2:=hid R2;have Hc:=hid HC;clear K1 K2 R1 R2 HC
 cases b1
 ·rw [if_neg (by decide)]
  cases b2
  ·rw [if_neg (by decide)]
   cases q3<;>cases hs:(save == 0)
   all_goals
    go_enter func43,ntmps43
    go_wp2_with (first
     |(go_at_call 92;refine HK1.out.mono ?_;rintro e w1 ⟨rfl,rfl⟩;have tok:True:=trivial;clear HK1)
     |(go_at_call 92;refine HK2.out.mono ?_;rintro e w1 ⟨rfl,rfl⟩)
     |(go_at_call 95;refine Hc.out.mono ?_;rintro e w1 ⟨rfl,hw⟩;have HW:=hid hw;clear hw))
    go_ret;exact ⟨rfl,below_drawn HW.out⟩
  ·rw [if_pos rfl]
   go_enter func43,ntmps43
   go_wp2_with (first
    |(go_at_call 92;refine HK1.out.mono ?_;rintro e w1 ⟨rfl,rfl⟩;have tok:True:=trivial;clear HK1)
    |(go_at_call 92;refine HK2.out.mono ?_;rintro e w1 ⟨rfl,rfl⟩)
    |(go_at_call 94;refine HT.out.mono ?_;rintro e w1 ⟨rfl,hb⟩;have HB:=hid hb;clear hb)
    |(go_at_call 93;refine (HR2.out _ HB.out).mono ?_;rintro e w1 ⟨rfl,hb⟩;have HB2:=hid (HB.out.trans (hb.mono HB.out.size));clear hb))
   go_ret;exact ⟨rfl,HB2.out⟩
 ·rw [if_pos rfl]
  go_enter func43,ntmps43
  go_wp2_with (first
   |(go_at_call 92;refine HK1.out.mono ?_;rintro e w1 ⟨rfl,rfl⟩)
   |(go_at_call 93;refine HR1.out.mono ?_;rintro e w1 ⟨rfl,hb⟩;have HB2:=hid hb;clear hb))
  go_ret;exact ⟨rfl,HB2.out⟩
end Abr
end
end
section
section
namespace Sch
open Go.RowKit Mem Img
def searchF (f:Nat->Bool):Nat->Nat->Nat->Nat
 |0,i,_=>i
 |k+1,i,j=>if i<j then (if f ((i+j) / 2)=true then searchF f k i ((i+j) / 2) else searchF f k ((i+j) / 2+1) j) else i
theorem search_more (f:Nat->Bool):∀ (k i j:Nat),j - i<=k->searchF f k i j=searchF f (j - i) i j
 |0,i,j,h=>by rw [show j - i=0 by omega]
 |k+1,i,j,h=>by
  by_cases hij:i<j
  ·obtain ⟨d,hd⟩:∃ d,j - i=d+1:=⟨j - i - 1,by omega⟩
   rw [hd,searchF,searchF,if_pos hij,if_pos hij]
   have h1:=search_more f k i ((i+j) / 2) (by omega)
   have h2:=search_more f k ((i+j) / 2+1) j (by omega)
   have h3:=search_more f d i ((i+j) / 2) (by omega)
   have h4:=search_more f d ((i+j) / 2+1) j (by omega)
   rw [h1,h2,h3,h4]
  ·rw [show j - i=0 by omega,searchF,searchF,if_neg hij]
termination_by k i j _=>k
theorem search_step {f:Nat->Bool} {i j:Nat} (h:i<j):searchF f (j - i) i j=if f ((i+j) / 2)=true then searchF f ((i+j) / 2 - i) i ((i+j) / 2) else searchF f (j - ((i+j) / 2+1)) ((i+j) / 2+1) j:=by
 obtain ⟨d,hd⟩:∃ d,j - i=d+1:=⟨j - i - 1,by omega⟩
 rw [hd,searchF,if_pos h,search_more f d i ((i+j) / 2) (by omega),search_more f d ((i+j) / 2+1) j (by omega)]
theorem search_le (f:Nat->Bool):∀ (k i j:Nat),i<=j->searchF f k i j<=j
 |0,i,j,h=>h
 |k+1,i,j,h=>by
  rw [searchF]
  split
  ·split
   ·exact Nat.le_trans (search_le f k i _ (by omega)) (by omega)
   ·exact search_le f k _ j (by omega)
  ·exact h
end Sch
end
end
end Go.Proofs.YtadamccojdocbaaGreatDoor
