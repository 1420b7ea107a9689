/-
  Contracts of the code that the law reaches, and plain laws. Conditions: as each says.
-/
import Derived.Test.YtiiekaehbahenaaGreatDoorV10
import Derived.IntWalk
import Derived.Test.YtiiekaehbahenaaGreatDoorV12
set_option linter.all false
set_option maxHeartbeats 40000000
set_option maxRecDepth 100000
namespace Go.Proofs.YtiiekaehbahenaaGreatDoor
open Lib (hid)
open Tryz
section
section
namespace Atl
open Go.RowKit Mem
def pairOk (a b:UInt8):Bool:=(!decide ((a.toNat:Int)<48) && !decide (57<(a.toNat:Int))) && (!decide ((b.toNat:Int)<48) && !decide (57<(b.toNat:Int)))
def pairN (a b:UInt8):Int:=((a.toNat:Int) - 48)*10+((b.toNat:Int) - 48)
theorem pairN_bd {a b:UInt8} (h:pairOk a b=true):0<=pairN a b/\pairN a b<=99:=by
 unfold pairOk at h;simp only [Bool.and_eq_true,Bool.not_eq_true',decide_eq_false_iff_not] at h;unfold pairN;omega
def twoP (a b:UInt8) (k:Int):Int×Bool:=if pairOk a b=true then (pairN a b,decide (pairN a b<k)) else (0,false)
theorem twoP_bd {a b:UInt8} {k:Int} (h:(twoP a b k).2=true):0<=(twoP a b k).1/\(twoP a b k).1<=99/\(twoP a b k).1<k:=by
 unfold twoP at h ⊢
 split at h
 ·next hp=>
  have:=pairN_bd hp;rw [if_pos hp];have hk:pairN a b<k:=of_decide_eq_true h;exact ⟨this.1,this.2,hk⟩
 ·cases h
theorem twoP_in (a b:UInt8) (k:Int):0<=(twoP a b k).1/\(twoP a b k).1<=99:=by
 unfold twoP
 split
 ·next hp=>exact pairN_bd hp
 ·exact ⟨by decide,by decide⟩
theorem two_any (a b:UInt8) (k:Int) (w:World):Calls prog 133 #[.string ⟨#[a,b]⟩,.int .i64 k] w fun e w'=>
  e= .returned (.tuple #[.int .i64 (twoP a b k).1,.bool (twoP a b k).2])/\∃ n,w'=w.drewN n:=by
 obtain ⟨P,hP⟩:∃ P,pairOk a b=P:=⟨_,rfl⟩;unfold twoP;rw [hP];unfold pairOk at hP
 have g0:(⟨#[a,b]⟩:ByteArray)[0]'(by simp [ByteArray.size])=a:=rfl
 have g1:(⟨#[a,b]⟩:ByteArray)[1]'(by simp [ByteArray.size])=b:=rfl
 go_enter func133,ntmps133
 cases h1:decide ((a.toNat:Int)<48)
 rotate_left
 ·obtain rfl:P=false:=by rw [<-hP,h1];rfl
  go_wp2
  go_ret2
  exact ⟨rfl,0,rfl⟩
 cases h2:decide (57<(a.toNat:Int))
 rotate_left
 ·obtain rfl:P=false:=by rw [<-hP,h2];simp
  go_wp2
  go_ret2
  exact ⟨rfl,0,rfl⟩
 cases h3:decide ((b.toNat:Int)<48)
 rotate_left
 ·obtain rfl:P=false:=by rw [<-hP,h3];simp
  go_wp2
  go_ret2
  exact ⟨rfl,0,rfl⟩
 cases h4:decide (57<(b.toNat:Int))
 rotate_left
 ·obtain rfl:P=false:=by rw [<-hP,h4];simp
  go_wp2
  go_ret2
  exact ⟨rfl,0,rfl⟩
 obtain rfl:P=true:=by rw [<-hP,h1,h2,h3,h4];rfl
 clear hP
 have a1:48<=(a.toNat:Int):=by have:=of_decide_eq_false h1;omega
 have a2:(a.toNat:Int)<=57:=by have:=of_decide_eq_false h2;omega
 have b1:48<=(b.toNat:Int):=by have:=of_decide_eq_false h3;omega
 have b2:(b.toNat:Int)<=57:=by have:=of_decide_eq_false h4;omega
 go_wp2;obtain ⟨Cls,hCls⟩:∃ C:World->Prop,C=fun z=>∃ n,z=w.drewN n:=⟨_,rfl⟩
 have hC:∀ z,Cls z->∃ n,z=w.drewN n:=fun z h=>by rw [hCls] at h;exact h
 have hstart:Cls w.drew:=by rw [hCls];exact ⟨1,rfl⟩
 have inst:Nonempty (Qt.In Cls):=⟨⟨_,hstart⟩⟩;have HC:=hid hC;have HS:=hid hstart;clear hC hstart hCls
 refine Qt.wp_region_cls Cls (by kernel_rfl) (by kernel_rfl) HS.out ?_
 repeat (go_big_quiet_step (fail))
 refine wpQuiet_nil ?_
 rintro wq ⟨⟨w9,hq⟩,e9⟩
 obtain ⟨nq,hnq⟩:=HC.out wq (by rw [e9];exact hq)
 clear hq e9;subst hnq;go_wp2
 go_ret2
 exact ⟨rfl,nq,rfl⟩
def signQ (s:UInt8):Bool:=((s.toNat:Int) == 43) || ((s.toNat:Int) == 45)
def sgnV (s:UInt8) (n:Int):Int:=if ((s.toNat:Int) == 45)=true then -n else n
def fixedB:List UInt8->Option Int
 |[s,a,b,c,d,e]=>if (signQ s && ((c.toNat:Int) == 58) && ((twoP a b 24).2 && (twoP d e 60).2))=true then some (sgnV s ((twoP a b 24).1*3600+(twoP d e 60).1*60)) else none
 |[s,a,b,c,d,e,c2,f,g]=>if (signQ s && ((c.toNat:Int) == 58) && ((c2.toNat:Int) == 58) && ((twoP a b 24).2 && (twoP d e 60).2 && (twoP f g 60).2))=true then some (sgnV s ((twoP a b 24).1*3600+(twoP d e 60).1*60+(twoP f g 60).1)) else none
 |_=>none
theorem drs2 {w w1 w2:World} (h:∃ n,w1=w.drewN n) (k:∃ n,w2=w1.drewN n):∃ n,w2=w.drewN n:=by
 obtain ⟨n,rfl⟩:=h;obtain ⟨m,rfl⟩:=k;exact ⟨n+m,drw2 w n m⟩
theorem fixed6 (s a b c d e:UInt8) (w:World):Calls prog 113 #[.string ⟨#[s,a,b,c,d,e]⟩] w fun r w'=>
  r= .returned (.tuple #[.int .i64 ((fixedB [s,a,b,c,d,e]).getD 0),.bool (fixedB [s,a,b,c,d,e]).isSome])/\∃ n,w'=w.drewN n:=by
 have h1:=fun z=>two_any a b 24 z;have h2:=fun z=>two_any d e 60 z;have v1:=twoP_in a b 24;have v2:=twoP_in d e 60;obtain ⟨R,hR⟩:∃ R,fixedB [s,a,b,c,d,e]=R:=⟨_,rfl⟩;rw [hR];unfold fixedB signQ sgnV at hR
 have g0:(⟨#[s,a,b,c,d,e]⟩:ByteArray)[0]'(by simp [ByteArray.size])=s:=rfl
 have g3:(⟨#[s,a,b,c,d,e]⟩:ByteArray)[3]'(by simp [ByteArray.size])=c:=rfl
 have x1:(⟨#[s,a,b,c,d,e]⟩:ByteArray).extract 1 3=⟨#[a,b]⟩:=rfl;have x2:(⟨#[s,a,b,c,d,e]⟩:ByteArray).extract 4 6=⟨#[d,e]⟩:=rfl;obtain ⟨p1,hp1⟩:∃ p,twoP a b 24=p:=⟨_,rfl⟩;obtain ⟨p2,hp2⟩:∃ p,twoP d e 60=p:=⟨_,rfl⟩;rw [hp1] at h1 v1;rw [hp2] at h2 v2;simp only [hp1,hp2] at hR;obtain ⟨n1,q1⟩:=p1;obtain ⟨n2,q2⟩:=p2;simp only at h1 h2 v1 v2 hR;have HR:=hid hR;have H1:=hid h1;have H2:=hid h2;clear hR h1 h2 hp1 hp2
 by_cases k1:(s.toNat:Int)=43<;>by_cases k2:(s.toNat:Int)=45<;>by_cases k3:(c.toNat:Int)=58<;>cases q1<;>cases q2
 all_goals first|omega|skip
 all_goals
  go_enter func113,ntmps113
  go_wp2_with (first
   |(go_at_call 133;refine (H1.out _).mono ?_;rintro r w1 ⟨rfl,hd⟩;have D1:=hid hd;clear hd H1)
   |(go_at_call 133;refine (H2.out _).mono ?_;rintro r w2 ⟨rfl,hd⟩;have D2:=hid (drs2 D1.out hd);clear hd))
  go_ret2
  have hr:=HR.out;simp [k1,k2,k3] at hr;subst hr
  first
   |exact ⟨rfl,0,rfl⟩
   |exact ⟨rfl,D2.out⟩
theorem fixed9 (s a b c d e c2 f g:UInt8) (w:World):Calls prog 113 #[.string ⟨#[s,a,b,c,d,e,c2,f,g]⟩] w fun r w'=>
  r= .returned (.tuple #[.int .i64 ((fixedB [s,a,b,c,d,e,c2,f,g]).getD 0),.bool (fixedB [s,a,b,c,d,e,c2,f,g]).isSome])/\∃ n,w'=w.drewN n:=by
 have h1:=fun z=>two_any a b 24 z;have h2:=fun z=>two_any d e 60 z;have h3:=fun z=>two_any f g 60 z;have v1:=twoP_in a b 24;have v2:=twoP_in d e 60;have v3:=twoP_in f g 60;obtain ⟨R,hR⟩:∃ R,fixedB [s,a,b,c,d,e,c2,f,g]=R:=⟨_,rfl⟩;rw [hR];unfold fixedB signQ sgnV at hR
 have g0:(⟨#[s,a,b,c,d,e,c2,f,g]⟩:ByteArray)[0]'(by simp [ByteArray.size])=s:=rfl
 have g3:(⟨#[s,a,b,c,d,e,c2,f,g]⟩:ByteArray)[3]'(by simp [ByteArray.size])=c:=rfl
 have g6:(⟨#[s,a,b,c,d,e,c2,f,g]⟩:ByteArray)[6]'(by simp [ByteArray.size])=c2:=rfl
 have x1:(⟨#[s,a,b,c,d,e,c2,f,g]⟩:ByteArray).extract 1 3=⟨#[a,b]⟩:=rfl;have x2:(⟨#[s,a,b,c,d,e,c2,f,g]⟩:ByteArray).extract 4 6=⟨#[d,e]⟩:=rfl;have x3:(⟨#[s,a,b,c,d,e,c2,f,g]⟩:ByteArray).extract 7 9=⟨#[f,g]⟩:=rfl;obtain ⟨p1,hp1⟩:∃ p,twoP a b 24=p:=⟨_,rfl⟩;obtain ⟨p2,hp2⟩:∃ p,twoP d e 60=p:=⟨_,rfl⟩;obtain ⟨p3,hp3⟩:∃ p,twoP f g 60=p:=⟨_,rfl⟩;rw [hp1] at h1 v1;rw [hp3] at h3 v3;rw [hp2] at h2 v2;simp only [hp1,hp2,hp3] at hR;obtain ⟨n1,q1⟩:=p1;obtain ⟨n2,q2⟩:=p2;obtain ⟨n3,q3⟩:=p3;simp only at h1 h2 h3 v1 v2 v3 hR;have HR:=hid hR;have H1:=hid h1;have H2:=hid h2;have H3:=hid h3;clear hR h1 h2 h3 hp1 hp2 hp3
 by_cases k1:(s.toNat:Int)=43<;>by_cases k2:(s.toNat:Int)=45<;>by_cases k3:(c.toNat:Int)=58<;>by_cases k4:(c2.toNat:Int)=58<;>cases q1<;>cases q2<;>cases q3
 all_goals first|omega|skip
 all_goals
  go_enter func113,ntmps113
  go_wp2_with (first
   |(go_at_call 133;refine (H1.out _).mono ?_;rintro r w1 ⟨rfl,hd⟩;have D1:=hid hd;clear hd H1)
   |(go_at_call 133;refine (H2.out _).mono ?_;rintro r w2 ⟨rfl,hd⟩;have D2:=hid (drs2 D1.out hd);clear hd H2)
   |(go_at_call 133;refine (H3.out _).mono ?_;rintro r w3 ⟨rfl,hd⟩;have D3:=hid (drs2 D2.out hd);clear hd))
  go_ret2
  have hr:=HR.out;simp [k1,k2,k3,k4] at hr;subst hr
  first
   |exact ⟨rfl,0,rfl⟩
   |exact ⟨rfl,D3.out⟩
theorem fixed_no (s:ByteArray) (w:World) (h6:s.size≠6) (h9:s.size≠9):Calls prog 113 #[.string s] w fun r w'=>r= .returned (.tuple #[.int .i64 0,.bool false])/\w'=w:=by
 have k6:¬ (s.size:Int)=6:=by omega
 have k9:¬ (s.size:Int)=9:=by omega
 go_enter func113,ntmps113;go_wp2
 go_ret2
 exact ⟨rfl,rfl⟩
theorem fixedB_no {l:List UInt8} (h6:l.length≠6) (h9:l.length≠9):fixedB l=none:=by
 unfold fixedB
 split
 ·simp at h6
 ·simp at h9
 ·rfl
theorem list6 {l:List UInt8} (h:l.length=6):∃ s a b c d e,l=[s,a,b,c,d,e]:=by
 match l,h with
 |[s,a,b,c,d,e],_=>exact ⟨s,a,b,c,d,e,rfl⟩
theorem list9 {l:List UInt8} (h:l.length=9):∃ s a b c d e c2 f g,l=[s,a,b,c,d,e,c2,f,g]:=by
 match l,h with
 |[s,a,b,c,d,e,c2,f,g],_=>exact ⟨s,a,b,c,d,e,c2,f,g,rfl⟩
theorem fixed_any (s:ByteArray) (w:World):Calls prog 113 #[.string s] w fun r w'=>
  r= .returned (.tuple #[.int .i64 ((fixedB s.data.toList).getD 0),.bool (fixedB s.data.toList).isSome])/\∃ n,w'=w.drewN n:=by
 have hsz:s.size=s.data.toList.length:=by simp
 have hs:s=⟨s.data.toList.toArray⟩:=rfl;generalize s.data.toList=l at*;subst hs
 by_cases h6:l.length=6
 ·obtain ⟨s,a,b,c,d,e,rfl⟩:=list6 h6
  exact fixed6 s a b c d e w
 ·by_cases h9:l.length=9
  ·obtain ⟨s,a,b,c,d,e,c2,f,g,rfl⟩:=list9 h9
   exact fixed9 s a b c d e c2 f g w
  ·rw [fixedB_no h6 h9]
   exact (fixed_no _ w (by omega) (by omega)).mono fun r w' ⟨h1,h2⟩=>⟨h1,0,h2⟩
end Atl
end
end
section
section
namespace Gr
open Go.RowKit Mem Atl
def nameB (l:Txt):Bool:=(fixedB l).isSome || Plc.placeB ⟨l.toArray⟩
theorem isName_any (s:ByteArray) (m:Int) (w:World) (hs:s.size<=2097152) (hm:w.cell? ⟨1,0,none⟩=some (.int .i64 m)):
  Calls prog 84 #[.string s] w fun e w'=>e= .returned (.bool (nameB (tx s)))/\Below w.heap.size w w':=by
 have HF:=hid (fixed_any s w)
 have HP:=hid (show ∀ z,Below w.heap.size w z->Calls prog 114 #[.string s] z fun e w'=>e= .returned (.bool (Plc.placeB s))/\Below z.heap.size z w' from fun z hz=>Plc.place_any s m z (by omega) (cell_later hz hm))
 clear hm
 have hn:nameB (tx s)=((fixedB (tx s)).isSome || Plc.placeB s):=rfl
 rw [hn];clear hn;obtain ⟨b1,hb1⟩:∃ b,(fixedB (tx s)).isSome=b:=⟨_,rfl⟩;obtain ⟨n1,hn1⟩:∃ b,(fixedB (tx s)).getD 0=b:=⟨_,rfl⟩;obtain ⟨b2,hb2⟩:∃ b,Plc.placeB s=b:=⟨_,rfl⟩;rw [show s.data.toList=tx s from rfl,hb1,hn1] at HF;rw [hb2] at HP;rw [hb1,hb2];clear hb1 hb2 hn1;go_enter func84,ntmps84
 cases b1
 ·go_wp2_with (first
   |(go_at_call 113;refine HF.out.mono ?_;rintro e w1 ⟨rfl,q,rfl⟩;have hb:=below_drwN (Below.refl w.heap.size w) q;have HB:=hid hb;have HP1:=hid (HP.out _ hb);clear hb HP HF;generalize w.drewN q=W at *)
   |(go_at_call 114;refine HP1.out.mono ?_;rintro e w2 ⟨rfl,hb⟩;have HB2:=hid (HB.out.trans (hb.mono HB.out.size));clear hb HP1))
  go_ret;exact ⟨rfl,HB2.out⟩
 ·go_wp2_with (go_at_call 113;refine HF.out.mono ?_;rintro e w1 ⟨rfl,q,rfl⟩;have HB:=hid (below_drwN (Below.refl w.heap.size w) q);clear HP HF;generalize w.drewN q=W at *)
  go_ret;exact ⟨rfl,HB.out⟩
theorem idx_tw (c:UInt8) (l:List UInt8):(c∈l->Lib.indexByte l c=((l.takeWhile (· != c)).length:Int))/\(c ∉ l->Lib.indexByte l c= -1):=by
 induction l with
 |nil=>exact ⟨(fun h=>by cases h),fun _=>rfl⟩
 |cons b l ih=>
  by_cases hb:b=c
  ·subst hb
   refine ⟨fun _=>?_,fun h=>absurd (List.mem_cons_self ..) h⟩
   rw [Lib.indexByte,if_pos (by simp),List.takeWhile_cons_of_neg (by simp)]
   rfl
  ·have hne:(b == c)=false:=by simpa using hb
   have htw:(b :: l).takeWhile (· != c)=b :: l.takeWhile (· != c):=List.takeWhile_cons_of_pos (by simpa using hb)
   rw [Lib.indexByte,hne];simp only [Bool.false_eq_true,if_false]
   refine ⟨fun h=>?_,fun h=>?_⟩
   ·have h2:c∈l:=by
     rcases List.mem_cons.1 h with h|h
     ·exact absurd h.symm hb
     ·exact h
    rw [ih.1 h2,htw,List.length_cons,if_neg (by rw [beq_iff_eq];omega)]
    omega
   ·have h2:c ∉ l:=fun h3=>h (List.mem_cons_of_mem _ h3)
    rw [ih.2 h2]
    rfl
theorem rd_jump {w:World} {g:Nat} {s:ByteArray} {k:Nat} (h:Rd w g s k) (j:Nat):Rd (w.setCell ⟨g,1,none⟩ (.int .i64 (j:Int))) g s j:=by
 have:=h.set_ 1 (.int .i64 (j:Int))
 simpa [Rd] using this
theorem bang_list:(⟨#[33]⟩:ByteArray).data.toList=[33]:=rfl
abbrev braV (v:Txt×Bool):Value:= .tuple #[.string ⟨v.1.toArray⟩,.bool v.2]
theorem one_lt {s:ByteArray} {of:List UInt8} {k:Nat} (h:oneA (tx s) of k=true):k<s.size:=by
 rcases Nat.lt_or_ge k s.size with hlt|hge
 ·exact hlt
 ·rw [one_end of (by omega)] at h;cases h
theorem ext_tw {s:ByteArray} {p n:Nat} (h:n=(((tx s).drop p).takeWhile (· != 93)).length):s.extract p (p+n)=⟨(((tx s).drop p).takeWhile (· != 93)).toArray⟩:=by
 apply ByteArray.ext
 apply Array.toList_inj.1
 have h1:(s.extract p (p+n)).data.toList=((tx s).drop p).take n:=by
  rw [Lib.extract_data,Nat.add_sub_cancel_left]
 rw [h1,h];have hp:=List.takeWhile_prefix (· != (93:UInt8)) (l:=(tx s).drop p);exact (List.prefix_iff_eq_take.1 hp).symm
theorem ext_end (s:ByteArray) (p:Nat):(s.extract p s.size).data.toList=(tx s).drop p:=by
 exact Lib.extract_to_end s p
theorem bracket_any (g:Nat) (s:ByteArray) (k:Nat) (w:World) (h:Rd w g s k) (hk0:k<s.size) (hs:s.size<=2097152):
  Calls prog 82 #[.pointer (some ⟨g,0,none⟩)] w (RP braV g s w (braA (tx s) k)):=by
 obtain ⟨R,hR⟩:∃ R,braA (tx s) k=R:=⟨_,rfl⟩;rw [hR];unfold braA at hR;have HR:=hid hR;have c1:=h.cell 1;have f1:=h.frozen 1;have h1:=rd_step h;have k1:=kp_step (v:= .int .i64 ((k+1:Nat):Int)) (Kp.refl (·=g) w) 1;have H1:=hid (And.intro h1 k1);clear hR h h1 k1;go_enter func82,ntmps82
 go_wp2_with fail
 have hcast:w.setCell ⟨g,1,none⟩ (.int .i64 ((k:Int)+1))=w.setCell ⟨g,1,none⟩ (.int .i64 ((k+1:Nat):Int)):=rfl;rw [hcast];clear hcast c1 f1;generalize w.setCell ⟨g,1,none⟩ (.int .i64 ((k+1:Nat):Int))=W at*
 have HO:=hid (one_any ⟨#[33]⟩ (by decide) g s (k+1) W H1.out.1 hk0 hs)
 rw [bang_list] at HO
 go_at_call 17
 refine HO.out.mono ?_
 rintro e w1 ⟨hcase,hg⟩
 have hst:∃ (c p:Nat) (sh:Bool),e= .returned (.int .u8 c)/\oneA (tx s) [33] (k+1)=sh/\p=(if sh=true then k+2 else k+1)/\Rd w1 g s p/\p<=s.size/\decide (0<c)=sh:=by
  rcases hcase with ⟨h1,c,_,h0,he,hr,hk⟩|⟨h1,he,hr⟩
  ·exact ⟨c,k+2,true,he,h1,rfl,hr,hk,decide_eq_true h0⟩
  ·exact ⟨0,k+1,false,he,h1,rfl,hr,hk0,rfl⟩
 obtain ⟨c,p,sh,rfl,h33,hp,hr,hps,hc⟩:=hst;have hR:=HR.out;rw [h33,<-hp] at hR;have K2:=hid (H1.out.2.trans hg);have H2:=hid hr;have c0:=hr.cell 0;have c1:=hr.cell 1;have f1:=hr.frozen 1;clear HO hcase hg hr h33 hp HR H1;have hidx:=idx_tw 93 ((tx s).drop p)
 have HI:=hid (show ∀ z,Calls prog 29 #[.string (s.extract p s.size),.int .u8 93] z fun e w'=>e= .returned (.int .i64 (Lib.indexByte ((tx s).drop p) 93))/\w'=z from fun z=>by
  have:=Tryz.strings_IndexByte (s.extract p s.size) 93 z;rw [Lib.extract_to_end] at this
  exact this)
 have hp0:(0:Int)<=(p:Int):=by omega
 have hp1:(p:Int)<=(s.size:Int):=by omega
 by_cases hmem:93∈(tx s).drop p
 ·rw [if_pos hmem] at hR
  have hi:=hidx.1 hmem;obtain ⟨n,hn⟩:∃ n,(((tx s).drop p).takeWhile (· != 93)).length=n:=⟨_,rfl⟩;rw [hn] at hi;rw [hi] at HI;have hext:=ext_tw hn.symm;obtain ⟨r,hr⟩:=tw_at (tx s) p hmem
  have hroom:p+n+1<=s.size:=by
   have:=congrArg List.length hr;rw [List.length_append,List.length_cons,hn,List.length_drop,tx_len] at this;omega
  rw [hn] at hR;have HR:=hid hR;have HX:=hid hext
  have hp2:(p:Int)<=(p:Int)+(n:Int):=by omega
  have hp3:(p:Int)+(n:Int)<=(s.size:Int):=by omega
  clear hR hi hn hext hr hidx hmem
  go_wp2_with fail
  go_quiet ((go_at_call 29;exact quiet_same HI.out))
  go_wp2_with fail
  have hwr:IntKind.i64.wrap ((p:Int)+(n:Int))=(p:Int)+(n:Int):=IntWalk.i64_in _ (by omega)
  have htn:((p:Int)+(n:Int)).toNat=p+n:=by omega
  have hge:(0:Int)<=(p:Int)+(n:Int):=by omega
  go_quiet (fail)
  clear hwr htn hge;go_wp2
  go_ret2
  show RP braV g s w R (.returned (.tuple #[.string (s.extract p (p+n)),.bool sh])) _
  rw [HX.out]
  have hnum:(p:Int)+((n:Int)+1)=((p+n+1:Nat):Int):=by omega
  rw [hnum];exact RP.done (enc:=braV) (v:=(_,sh)) HR.out.symm (kp_step (kp_drw K2.out _) 1) (rd_jump (H2.out.drewN _) _) hroom
 ·rw [if_neg hmem] at hR
  subst hR;rw [hidx.2 hmem] at HI;clear hidx hmem
  go_wp2_with fail
  go_quiet ((go_at_call 29;exact quiet_same HI.out))
  go_wp2_with (go_at_call 23;refine (wrong_any g _).mono ?_;rintro e w2 ⟨rfl,rfl⟩)
  exact ⟨rfl,kp_drw K2.out _,rfl⟩
end Gr
end
end
end Go.Proofs.YtiiekaehbahenaaGreatDoor
