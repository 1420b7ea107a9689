/-
  Contracts of the code that the law reaches, and plain laws. Conditions: as each says.
-/
import Derived.Test.YtiiekaehbahenaaGreatDoorV33
set_option linter.all false
set_option maxHeartbeats 40000000
set_option maxRecDepth 100000
namespace Go.Proofs.YtiiekaehbahenaaGreatDoor
open Lib (hid)
open Tryz
section
namespace Gr
open Go.RowKit Mem Atl Wid
def upC (c:UInt8):UInt8:=if 97<=c.toNat/\c.toNat<=122 then c - 32 else c
abbrev upS:List (List UInt8):=[[43,45],[80,112],[84,116],[46,44],[45]]
theorem up_tw (l:Txt):Tw upS l (l.map upC):=Tw.of (by simp) fun i c d hc hd=>by
 rw [List.getElem?_map,hc] at hd
 cases hd
 exact byte_chk (p:=fun c=>relB upS c (upC c)) (by kernel_rfl) c
def whC (lets:List UInt8) (c:UInt8):Option Nat:=if (lets++lets.map (·+32)).contains c=true then lets.findIdx? (fun d=>d=c\/d+32=c) else none
theorem wh_up {lets:List UInt8} (h:(List.range 256).all (fun n=>whC lets (UInt8.ofNat n) == whC lets (upC (UInt8.ofNat n)))=true) (l:Txt) (i:Nat):whA l lets i=whA (l.map upC) lets i:=by
 rw [whA,whA,List.getElem?_map]
 cases l[i]? with
 |none=>rfl
 |some c=>exact beq_iff_eq.1 (byte_chk (p:=fun c=>whC lets c == whC lets (upC c)) h c)
theorem span_up (l:Txt):spanB (l.map upC)=spanB l:=by
 rw [spanB,spanB,(up_tw l).one [45] (by simp) 0,span_tw (up_tw l) (by simp) (by simp) (by simp) (by simp) (wh_up (by kernel_rfl) l) (wh_up (by kernel_rfl) l)]
theorem span_minus {l:Txt} (hl:oneA l [43,45] 0=false):spanB (45 :: l)=spanO true (spanA l):=by
 rw [spanB,span_sign (hx:=Or.inr rfl) (hl:=hl)];rfl
theorem span_plus {l:Txt} (hl:oneA l [43,45] 0=false):spanB (43 :: l)=spanB l:=by
 rw [spanB,spanB,span_sign (hx:=Or.inl rfl) (hl:=hl),pm_no hl];rfl
theorem eq_dur (a b c d e f g h:Int) (w:World):(Op.equalIn 10000 32 (.agg #[.int .i64 a,.int .i64 b,.int .i64 c,.int .i64 d,.int .i64 e,.int .i64 f,.int .i64 g,.int .i64 h]) (.agg #[.int .i64 a,.int .i64 b,.int .i64 c,.int .i64 d,.int .i64 e,.int .i64 f,.int .i64 g,.int .i64 h])).run prog w= .ok true w:=by
 simp [go_sem]
theorem span_three {l:Txt} (hl:oneA l [43,45] 0=false):∃ a b c d e f g h n:Nat,(∀ k,oct a b c d e f g h k<9223372036854775808)/\rightB (oct a b c d e f g h)=true/\
  spanB l=([(a:Int),b,c,d,e,f,g,h],n)/\spanB (43 :: l)=([(a:Int),b,c,d,e,f,g,h],n)/\(spanB (45 :: l)).2=n/\(spanB (45 :: l)).1.length=8/\(n=0->(spanB (45 :: l)).1=[-(a:Int),-b,-c,-d,-e,-f,-g,-h]):=by
 rw [span_plus hl,span_minus hl]
 have hz:∀ n,∃ a b c d e f g h n':Nat,(∀ k,oct a b c d e f g h k<9223372036854775808)/\rightB (oct a b c d e f g h)=true/\(z8,n)=([(a:Int),b,c,d,e,f,g,h],n')/\(z8,n)=([(a:Int),b,c,d,e,f,g,h],n')/\(z8,n).2=n'/\(z8,n).1.length=8/\(n'=0->(z8,n).1=[-(a:Int),-b,-c,-d,-e,-f,-g,-h]):=
  fun n=>⟨0,0,0,0,0,0,0,0,n,fun k=>by unfold oct;split<;>omega,by rw [rightB_eq];rfl,rfl,rfl,rfl,rfl,fun _=>rfl⟩
 rw [spanB,pm_no hl]
 cases hS:spanA l with
 |none=>exact hz 6
 |some x=>
  obtain ⟨room,f⟩:=x;have hok:=span_ok hS
  by_cases hr:(room && rightL f)=true
  ·simp only [spanO,if_pos hr,Bool.false_eq_true,if_false,if_true]
   obtain ⟨a,b,c,d,e,g,i,j,rfl,ho⟩:=list_oct hok.1 hok.2;simp only [Bool.and_eq_true] at hr
   exact ⟨a,b,c,d,e,g,i,j,0,ho,by rw [<-right_oct];exact hr.2,rfl,rfl,rfl,rfl,fun _=>rfl⟩
  ·simp only [spanO,if_neg hr]
   exact hz 4
def upT (s:ByteArray) (k:Nat):ByteArray:=⟨(((tx s).take k).map upC).toArray⟩
theorem up_size (s:ByteArray) {k:Nat} (hk:k<=s.size):(upT s k).size=k:=by
 show ((((tx s).take k).map upC).toArray).size=k
 simp;omega
theorem up_step (s:ByteArray) {k:Nat} (hk:k<s.size) {c:UInt8} (hc:upC (s[k]'hk)=c):upT s k++⟨#[c]⟩=upT s (k+1):=by
 have hk':k<(tx s).length:=by simpa using hk
 apply ByteArray.ext
 rw [ByteArray.data_append]
 show ((((tx s).take k).map upC).toArray)++#[c]=(((tx s).take (k+1)).map upC).toArray
 rw [List.take_succ_eq_append_getElem hk',List.map_append,<-hc];simp
 rfl
theorem up_zero (s:ByteArray):upT s 0=⟨#[]⟩:=rfl
theorem up_all (s:ByteArray):tx (upT s s.size)=(tx s).map upC:=by
 show (((tx s).take s.size).map upC).toArray.toList=_
 rw [List.take_of_length_le (by simp)]
theorem sub_byte {c:UInt8} (h:97<=c.toNat/\c.toNat<=122):((c - 32).toNat:Int)=(c.toNat:Int) - 32:=by
 rw [UInt8.toNat_sub_of_le _ _ (by rw [UInt8.le_iff_toNat_le];show 32<=_;omega)]
 show ((c.toNat - 32:Nat):Int)=_
 omega
theorem tx_cons (c:UInt8) (s:ByteArray):tx (⟨#[c]⟩++s)=c :: tx s:=by simp
theorem first_one {s:ByteArray} (h0:0<s.size) (h1:(s[0]'h0).toNat≠43) (h2:(s[0]'h0).toNat≠45):oneA (tx s) [43,45] 0=false:=by
 rw [one_at _ h0];simp only [List.contains_cons,List.contains_nil,Bool.or_false,Bool.or_eq_false_iff,beq_eq_false_iff_ne]
 exact ⟨fun e=>h1 (by rw [e];rfl),fun e=>h2 (by rw [e];rfl)⟩
theorem span_is (s:ByteArray) (z:World) (hs:s.size<=2097152) {l:Txt} (hl:tx s=l) {f:List Int} {n:Nat} (h:spanB l=(f,n)):
  Calls prog 11 #[.string s] z fun e w'=>e= .returned (.tuple #[.agg (durF (flF f)),.int .i64 n])/\Below z.heap.size z w':=by
 refine (span_text s z hs).mono ?_
 rintro e w' ⟨rfl,hb⟩
 exact ⟨by rw [spanV,hl,h],hb⟩
theorem span_is8 (s:ByteArray) (z:World) (hs:s.size<=2097152) {l:Txt} (hl:tx s=l) {a b c d e f g h:Int} {n:Nat} (hB:spanB l=([a,b,c,d,e,f,g,h],n)):
  Calls prog 11 #[.string s] z fun r w'=>r= .returned (.tuple #[.agg #[.int .i64 a,.int .i64 b,.int .i64 c,.int .i64 d,.int .i64 e,.int .i64 f,.int .i64 g,.int .i64 h],.int .i64 n])/\Below z.heap.size z w':=by
 refine (span_is s z hs hl hB).mono ?_
 rintro r w' ⟨rfl,hb⟩;exact ⟨rfl,hb⟩
theorem dneg8 (a b c d e f g h:Nat) (hD:∀ k,oct a b c d e f g h k<9223372036854775808) (hrt:rightB (oct a b c d e f g h)=true) (z:World):
  Calls prog 14 #[.agg (durV a b c d e f g h)] z fun r w'=>r= .returned (.tuple #[.agg #[.int .i64 (-(a:Int)),.int .i64 (-(b:Int)),.int .i64 (-(c:Int)),.int .i64 (-(d:Int)),.int .i64 (-(e:Int)),.int .i64 (-(f:Int)),.int .i64 (-(g:Int)),.int .i64 (-(h:Int))],.int .i64 0])/\Below z.heap.size z w':=by
 refine (dneg_any a b c d e f g h hD hrt z).mono ?_
 rintro r w' ⟨rfl,hb⟩;exact ⟨rfl,hb⟩
theorem letters (s:ByteArray) (m:Int) (w:World) (hm:w.cell? ⟨1,0,none⟩=some (.int .i64 m)) (hs:s.size<=2097152):
  Calls prog 6 #[.string s] w fun e w'=>e= .returned (.bool true)/\Below w.heap.size w w':=by
 have HA:=hid (fun z (hb:Below w.heap.size w z)=>alive_any m z (cell_later hb hm))
 by_cases hl:300<s.size
 ·have hl2:decide ((300:Int)<(s.size:Int))=true:=decide_eq_true (by omega)
  clear hm hl;go_enter func6,ntmps6
  go_wp2_with (go_at_call 9;refine (HA.out _ (Below.refl _ _)).mono ?_;rintro e w1 ⟨rfl,hb⟩;have H1:=hid hb;clear hb)
  go_ret;exact ⟨rfl,H1.out⟩
 have hl2:decide ((300:Int)<(s.size:Int))=false:=decide_eq_false (by omega)
 have hs3:s.size<=300:=by omega
 clear hm hl;go_enter func6,ntmps6
 go_wp2_with fail
 go_loopw [3,4,5] (fun t i _ wr=>∃ k:Nat,i= .int .i64 k/\k<=s.size/\t= .string (upT s k)/\Below w.heap.size w wr) (fun _ i _ _=>s.size - (intOf i).toNat)
 case atStart=>exact ⟨0,rfl,Nat.zero_le _,rfl,Below.refl _ _⟩
 case round=>
  obtain ⟨k,rfl,hk,rfl,hbl⟩:=hrel;have HB:=hid hbl;clear hbl;have hz1:=up_size s hk
  by_cases hks:k<s.size
  ·have i0:(0:Int)<=(k:Int):=by omega
   have i1:(k:Int)<(s.size:Int):=by omega
   by_cases hc:97<=(s[k]'hks).toNat/\(s[k]'hks).toNat<=122
   ·have hcu:upC (s[k]'hks)=s[k]'hks - 32:=if_pos hc
    have Hst:=hid (up_step s hks hcu);have hcv:=fun z=>byte_conv (((s[k]'hks).toNat:Int) - 32) (s[k]'hks - 32) (sub_byte hc) z;have h1z:(⟨#[s[k]'hks - 32]⟩:ByteArray).size=1:=rfl;have q1:=hc.1;have q2:=hc.2
    have p1:decide ((97:Int)<=((s[k]'hks).toNat:Int))=true:=decide_eq_true (by omega)
    have p2:decide (((s[k]'hks).toNat:Int)<=122)=true:=decide_eq_true (by omega)
    clear hcu hc
    go_wp2_with fail
    refine ⟨⟨k+1,by go_num,by omega,by rw [Hst.out],HB.out.alloc HB.out.size _⟩,by simp [intOf];omega⟩
   ·have hcu:upC (s[k]'hks)=s[k]'hks:=if_neg hc
    have Hst:=hid (up_step s hks hcu);have hcv:=fun z=>byte_conv ((s[k]'hks).toNat:Int) (s[k]'hks) rfl z;have h1z:(⟨#[s[k]'hks]⟩:ByteArray).size=1:=rfl;clear hcu
    by_cases h9:97<=(s[k]'hks).toNat
    ·have p1:decide ((97:Int)<=((s[k]'hks).toNat:Int))=true:=decide_eq_true (by omega)
     have p2:decide (((s[k]'hks).toNat:Int)<=122)=false:=decide_eq_false (by omega)
     clear hc h9
     go_wp2_with fail
     refine ⟨⟨k+1,by go_num,by omega,by rw [Hst.out],HB.out.alloc HB.out.size _⟩,by simp [intOf];omega⟩
    ·have p1:decide ((97:Int)<=((s[k]'hks).toNat:Int))=false:=decide_eq_false (by omega)
     clear hc h9
     go_wp2_with fail
     refine ⟨⟨k+1,by go_num,by omega,by rw [Hst.out],HB.out.alloc HB.out.size _⟩,by simp [intOf];omega⟩
  ·obtain rfl:k=s.size:=by omega
   have hq:tx (upT s s.size)=(tx s).map upC:=up_all s;obtain ⟨T,hT⟩:∃ T,upT s s.size=T:=⟨_,rfl⟩;rw [hT] at hz1 hq ⊢;clear hT;have hA:∀ q:Bool,q=true->True:=fun _ _=>trivial;clear hA hk hks
   by_cases hsg:s.size=0\/∃ h0:0<s.size,(s[0]'h0).toNat=43\/(s[0]'h0).toNat=45
   ·obtain ⟨f,n,hB⟩:∃ f n,spanB (tx s)=(f,n):=⟨_,_,rfl⟩
    have HS1:=hid (fun z=>span_is s z hs rfl hB);have hBu:=(span_up (tx s)).trans hB
    have HS2:=hid (fun z=>span_is T z (by omega) hq hBu)
    have heq:=eq_dur (flF f 0) (flF f 1) (flF f 2) (flF f 3) (flF f 4) (flF f 5) (flF f 6) (flF f 7);clear hB hq hBu
    go_wp2_with fail
    go_at_call 11
    refine (HS1.out _).mono ?_
    rintro e w1 ⟨rfl,hb1⟩;have b1:=Blk.new w1 32 (durF (flF f));have hB1:=HB.out.trans (hb1.mono HB.out.size);have H1:=hid (And.intro b1 (hB1.alloc hB1.size (.cells (durF (flF f)) 32)));clear b1 hb1 hB1 HB HS1
    go_wp2_with fail
    go_at_call 11
    generalize World.alloc _ _=W1 at*
    refine (HS2.out W1).mono ?_
    rintro e w2 ⟨rfl,hb2⟩;have d1:=(H1.out.1.below hb2 H1.out.1.lt).alloc (.cells (durF (flF f)) 32);have d2:=Blk.new w2 32 (durF (flF f));have hB2:=H1.out.2.trans (hb2.mono H1.out.2.size);have H2:=hid (hB2.alloc hB2.size (.cells (durF (flF f)) 32));have c1:=d1.cell;have c2:=d2.cell;clear d1 d2 hb2 hB2 H1 HS2
    rcases hsg with h0|⟨h0,h1|h1⟩
    ·have q1:((s.size:Int) == 0)=true:=by rw [beq_iff_eq];omega
     go_wp2_with (go_at_call 9;refine (HA.out _ H2.out).mono ?_;rintro e w3 ⟨rfl,hb⟩;have H3:=hid (H2.out.trans (hb.mono H2.out.size));clear hb)
     go_ret;exact ⟨rfl,H3.out⟩
    ·have q1:((s.size:Int) == 0)=false:=by rw [beq_eq_false_iff_ne];omega
     have q0:(0:Int)<(s.size:Int):=by omega
     have q2:(((s[0]'h0).toNat:Int) == 43)=true:=by rw [beq_iff_eq];omega
     go_wp2_with (go_at_call 9;refine (HA.out _ H2.out).mono ?_;rintro e w3 ⟨rfl,hb⟩;have H3:=hid (H2.out.trans (hb.mono H2.out.size));clear hb)
     go_ret;exact ⟨rfl,H3.out⟩
    ·have q1:((s.size:Int) == 0)=false:=by rw [beq_eq_false_iff_ne];omega
     have q0:(0:Int)<(s.size:Int):=by omega
     have q2:(((s[0]'h0).toNat:Int) == 43)=false:=by rw [beq_eq_false_iff_ne];omega
     have q3:(((s[0]'h0).toNat:Int) == 45)=true:=by rw [beq_iff_eq];omega
     go_wp2_with (go_at_call 9;refine (HA.out _ H2.out).mono ?_;rintro e w3 ⟨rfl,hb⟩;have H3:=hid (H2.out.trans (hb.mono H2.out.size));clear hb)
     go_ret;exact ⟨rfl,H3.out⟩
   ·have h0:0<s.size:=by omega
    have h1:(s[0]'h0).toNat≠43:=fun e=>hsg (.inr ⟨h0,.inl e⟩);have h2:(s[0]'h0).toNat≠45:=fun e=>hsg (.inr ⟨h0,.inr e⟩);obtain ⟨a,b,c,d,e,f,g,h,n,ho,hrt,hB,hBp,hBm,hBl,hBn⟩:=span_three (first_one h0 h1 h2)
    have q1:((s.size:Int) == 0)=false:=by rw [beq_eq_false_iff_ne];omega
    have q0:(0:Int)<(s.size:Int):=by omega
    have q2:(((s[0]'h0).toNat:Int) == 43)=false:=by rw [beq_eq_false_iff_ne];omega
    have q3:(((s[0]'h0).toNat:Int) == 45)=false:=by rw [beq_eq_false_iff_ne];omega
    have hBu:=(span_up (tx s)).trans hB;have HS1:=hid (fun z=>span_is8 s z hs rfl hB)
    have HS2:=hid (fun z=>span_is8 T z (by omega) hq hBu)
    have hsz1:(⟨#[45]⟩++s:ByteArray).size<=2097152:=by rw [ByteArray.size_append];show 1+s.size<=_;omega
    have hsz2:(⟨#[43]⟩++s:ByteArray).size<=2097152:=by rw [ByteArray.size_append];show 1+s.size<=_;omega
    obtain ⟨M,hM⟩:∃ M,(spanB (45 :: tx s)).1=M:=⟨_,rfl⟩
    have HB3:=hid (And.intro hsz1 (show spanB (45 :: tx s)=(M,n) from by rw [<-hM,<-hBm]))
    have HS4:=hid (fun z=>span_is8 (⟨#[43]⟩++s) z hsz2 (tx_cons 43 s) hBp);have HN:=hid (fun z=>dneg8 a b c d e f g h ho hrt z);have HM:=hid (fun hn:n=0=>hM.symm.trans (hBn hn));have heq:=eq_dur a b c d e f g h;clear hB hBu hq hsz1 hsz2 hM hBp hBm hBl hBn ho hrt hsg h1 h2
    go_wp2_with fail
    go_at_call 11
    refine (HS1.out _).mono ?_
    rintro e' w1 ⟨rfl,hb1⟩;have b1:=Blk.new w1 32 (durV a b c d e f g h);have hB1:=HB.out.trans (hb1.mono HB.out.size);have H1:=hid (And.intro b1 (hB1.alloc hB1.size (.cells (durV a b c d e f g h) 32)));clear b1 hb1 hB1 HB HS1
    go_wp2_with fail
    go_at_call 11
    generalize World.alloc _ _=W1 at*
    refine (HS2.out W1).mono ?_
    rintro e' w2 ⟨rfl,hb2⟩;have d1:=(H1.out.1.below hb2 H1.out.1.lt).alloc (.cells (durV a b c d e f g h) 32);have d2:=Blk.new w2 32 (durV a b c d e f g h);have hB2:=H1.out.2.trans (hb2.mono H1.out.2.size);have H2:=hid (And.intro d1 (hB2.alloc hB2.size (.cells (durV a b c d e f g h) 32)));have c1:=d1.cell;have c2:=d2.cell;clear d1 d2 hb2 hB2 H1 HS2
    by_cases hn:n=0
    ·subst hn
     have hM2:=HM.out rfl;subst hM2;have HS3:=hid (fun z=>span_is8 (⟨#[45]⟩++s) z HB3.out.1 (tx_cons 45 s) HB3.out.2);have heq2:=eq_dur (-(a:Int)) (-(b:Int)) (-(c:Int)) (-(d:Int)) (-(e:Int)) (-(f:Int)) (-(g:Int)) (-(h:Int));clear HM HB3
     go_wp2_with fail
     go_at_call 11
     generalize World.alloc _ _=W2 at*
     refine (HS3.out W2).mono ?_
     rintro e' w3 ⟨rfl,hb3⟩;have d1:=(H2.out.1.below hb3 H2.out.1.lt).alloc (.cells #[.int .i64 (-(a:Int)),.int .i64 (-(b:Int)),.int .i64 (-(c:Int)),.int .i64 (-(d:Int)),.int .i64 (-(e:Int)),.int .i64 (-(f:Int)),.int .i64 (-(g:Int)),.int .i64 (-(h:Int))] 32);have d3:=Blk.new w3 32 #[.int .i64 (-(a:Int)),.int .i64 (-(b:Int)),.int .i64 (-(c:Int)),.int .i64 (-(d:Int)),.int .i64 (-(e:Int)),.int .i64 (-(f:Int)),.int .i64 (-(g:Int)),.int .i64 (-(h:Int))];have hB3:=H2.out.2.trans (hb3.mono H2.out.2.size);have H3:=hid (And.intro d1 (And.intro d3 (hB3.alloc hB3.size (.cells #[.int .i64 (-(a:Int)),.int .i64 (-(b:Int)),.int .i64 (-(c:Int)),.int .i64 (-(d:Int)),.int .i64 (-(e:Int)),.int .i64 (-(f:Int)),.int .i64 (-(g:Int)),.int .i64 (-(h:Int))] 32))));clear c1 c2 hb3 hB3 H2 HS3 d3;have c1:=d1.cell;clear d1
     go_wp2_with fail
     go_at_call 14
     generalize World.alloc _ _=W3 at*
     refine (HN.out W3).mono ?_
     rintro e' w4 ⟨rfl,hb4⟩;have d1:=(H3.out.1.below hb4 H3.out.1.lt).alloc (.cells #[.int .i64 (-(a:Int)),.int .i64 (-(b:Int)),.int .i64 (-(c:Int)),.int .i64 (-(d:Int)),.int .i64 (-(e:Int)),.int .i64 (-(f:Int)),.int .i64 (-(g:Int)),.int .i64 (-(h:Int))] 32);have d3:=(H3.out.2.1.below hb4 H3.out.2.1.lt).alloc (.cells #[.int .i64 (-(a:Int)),.int .i64 (-(b:Int)),.int .i64 (-(c:Int)),.int .i64 (-(d:Int)),.int .i64 (-(e:Int)),.int .i64 (-(f:Int)),.int .i64 (-(g:Int)),.int .i64 (-(h:Int))] 32);have d4:=Blk.new w4 32 #[.int .i64 (-(a:Int)),.int .i64 (-(b:Int)),.int .i64 (-(c:Int)),.int .i64 (-(d:Int)),.int .i64 (-(e:Int)),.int .i64 (-(f:Int)),.int .i64 (-(g:Int)),.int .i64 (-(h:Int))];have hB4:=H3.out.2.2.trans (hb4.mono H3.out.2.2.size);have H4:=hid (And.intro d1 (And.intro d3 (And.intro d4 (hB4.alloc hB4.size (.cells #[.int .i64 (-(a:Int)),.int .i64 (-(b:Int)),.int .i64 (-(c:Int)),.int .i64 (-(d:Int)),.int .i64 (-(e:Int)),.int .i64 (-(f:Int)),.int .i64 (-(g:Int)),.int .i64 (-(h:Int))] 32)))));clear c1 hb4 hB4 H3 HN d1 d3 d4
     go_wp2_with fail
     go_at_call 11
     generalize World.alloc _ _=W4 at*
     refine (HS4.out W4).mono ?_
     rintro e' w5 ⟨rfl,hb5⟩;have d1:=(H4.out.1.below hb5 H4.out.1.lt).alloc (.cells (durV a b c d e f g h) 32);have d3:=(H4.out.2.1.below hb5 H4.out.2.1.lt).alloc (.cells (durV a b c d e f g h) 32);have d4:=(H4.out.2.2.1.below hb5 H4.out.2.2.1.lt).alloc (.cells (durV a b c d e f g h) 32);have d5:=Blk.new w5 32 (durV a b c d e f g h);have hB5:=H4.out.2.2.2.trans (hb5.mono H4.out.2.2.2.size);have H5:=hid (And.intro d1 (And.intro d3 (And.intro d4 (And.intro d5 (hB5.alloc hB5.size (.cells (durV a b c d e f g h) 32))))));clear hb5 hB5 H4 HS4 d1 d3 d4 d5
     go_wp2_with fail
     go_at_call 9
     generalize World.alloc _ _=W5 at*
     refine (HA.out W5 H5.out.2.2.2.2).mono ?_
     rintro e' w6 ⟨rfl,hb6⟩;have d1:=H5.out.1.below hb6 H5.out.1.lt;have d3:=H5.out.2.1.below hb6 H5.out.2.1.lt;have d4:=H5.out.2.2.1.below hb6 H5.out.2.2.1.lt;have d5:=H5.out.2.2.2.1.below hb6 H5.out.2.2.2.1.lt;have H6:=hid (H5.out.2.2.2.2.trans (hb6.mono H5.out.2.2.2.2.size));have c1:=d1.cell;have c3:=d3.cell;have c4:=d4.cell;have c5:=d5.cell;clear hb6 H5 HA d1 d3 d4 d5
     go_wp2_with fail
     go_ret;exact ⟨rfl,H6.out⟩
    ·have HS3:=hid (fun z=>span_is (⟨#[45]⟩++s) z HB3.out.1 (tx_cons 45 s) HB3.out.2)
     have qn:((n:Int) != 0)=true:=by rw [bne_iff_ne];omega
     clear HM HB3
     go_wp2_with fail
     go_at_call 11
     generalize World.alloc _ _=W2 at*
     refine (HS3.out W2).mono ?_
     rintro e' w3 ⟨rfl,hb3⟩;have d1:=(H2.out.1.below hb3 H2.out.1.lt).alloc (.cells (durF (flF M)) 32);have d3:=Blk.new w3 32 (durF (flF M));have hB3:=H2.out.2.trans (hb3.mono H2.out.2.size);have H3:=hid (And.intro d1 (And.intro d3 (hB3.alloc hB3.size (.cells (durF (flF M)) 32))));clear c1 c2 hb3 hB3 H2 HS3 d3;have c1:=d1.cell;clear d1
     go_wp2_with fail
     go_at_call 14
     generalize World.alloc _ _=W3 at*
     refine (HN.out W3).mono ?_
     rintro e' w4 ⟨rfl,hb4⟩;have d1:=(H3.out.1.below hb4 H3.out.1.lt).alloc (.cells #[.int .i64 (-(a:Int)),.int .i64 (-(b:Int)),.int .i64 (-(c:Int)),.int .i64 (-(d:Int)),.int .i64 (-(e:Int)),.int .i64 (-(f:Int)),.int .i64 (-(g:Int)),.int .i64 (-(h:Int))] 32);have d3:=(H3.out.2.1.below hb4 H3.out.2.1.lt).alloc (.cells #[.int .i64 (-(a:Int)),.int .i64 (-(b:Int)),.int .i64 (-(c:Int)),.int .i64 (-(d:Int)),.int .i64 (-(e:Int)),.int .i64 (-(f:Int)),.int .i64 (-(g:Int)),.int .i64 (-(h:Int))] 32);have d4:=Blk.new w4 32 #[.int .i64 (-(a:Int)),.int .i64 (-(b:Int)),.int .i64 (-(c:Int)),.int .i64 (-(d:Int)),.int .i64 (-(e:Int)),.int .i64 (-(f:Int)),.int .i64 (-(g:Int)),.int .i64 (-(h:Int))];have hB4:=H3.out.2.2.trans (hb4.mono H3.out.2.2.size);have H4:=hid (And.intro d1 (And.intro d3 (And.intro d4 (hB4.alloc hB4.size (.cells #[.int .i64 (-(a:Int)),.int .i64 (-(b:Int)),.int .i64 (-(c:Int)),.int .i64 (-(d:Int)),.int .i64 (-(e:Int)),.int .i64 (-(f:Int)),.int .i64 (-(g:Int)),.int .i64 (-(h:Int))] 32)))));clear c1 hb4 hB4 H3 HN d1 d3 d4
     go_wp2_with fail
     go_at_call 11
     generalize World.alloc _ _=W4 at*
     refine (HS4.out W4).mono ?_
     rintro e' w5 ⟨rfl,hb5⟩;have d1:=(H4.out.1.below hb5 H4.out.1.lt).alloc (.cells (durV a b c d e f g h) 32);have d3:=(H4.out.2.1.below hb5 H4.out.2.1.lt).alloc (.cells (durV a b c d e f g h) 32);have d4:=(H4.out.2.2.1.below hb5 H4.out.2.2.1.lt).alloc (.cells (durV a b c d e f g h) 32);have d5:=Blk.new w5 32 (durV a b c d e f g h);have hB5:=H4.out.2.2.2.trans (hb5.mono H4.out.2.2.2.size);have H5:=hid (And.intro d1 (And.intro d3 (And.intro d4 (And.intro d5 (hB5.alloc hB5.size (.cells (durV a b c d e f g h) 32))))));clear hb5 hB5 H4 HS4 d1 d3 d4 d5
     go_wp2_with fail
     go_at_call 9
     generalize World.alloc _ _=W5 at*
     refine (HA.out W5 H5.out.2.2.2.2).mono ?_
     rintro e' w6 ⟨rfl,hb6⟩;have d1:=H5.out.1.below hb6 H5.out.1.lt;have d3:=H5.out.2.1.below hb6 H5.out.2.1.lt;have d4:=H5.out.2.2.1.below hb6 H5.out.2.2.1.lt;have d5:=H5.out.2.2.2.1.below hb6 H5.out.2.2.2.1.lt;have H6:=hid (H5.out.2.2.2.2.trans (hb6.mono H5.out.2.2.2.2.size));have c1:=d1.cell;have c3:=d3.cell;have c4:=d4.cell;have c5:=d5.cell;clear hb6 H5 HA d1 d3 d4 d5
     go_wp2_with fail
     go_ret;exact ⟨rfl,H6.out⟩
end Gr
end
end Go.Proofs.YtiiekaehbahenaaGreatDoor
