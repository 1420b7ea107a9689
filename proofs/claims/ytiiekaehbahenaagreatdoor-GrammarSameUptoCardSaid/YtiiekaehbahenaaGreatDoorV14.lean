/-
  Contracts of the code that the law reaches, and plain laws. Conditions: as each says.
-/
import Derived.Test.YtiiekaehbahenaaGreatDoorV03
import Derived.Test.YtiiekaehbahenaaGreatDoorV01
set_option linter.all false
set_option maxHeartbeats 40000000
set_option maxRecDepth 100000
namespace Go.Proofs.YtiiekaehbahenaaGreatDoor
open Lib (hid)
open Tryz
section
namespace Atl
open Go.RowKit Mem
def pairOk (a b:UInt8):Bool:=(!decide ((a.toNat:Int)<48) && !decide (57<(a.toNat:Int))) && (!decide ((b.toNat:Int)<48) && !decide (57<(b.toNat:Int)))
def pairN (a b:UInt8):Int:=((a.toNat:Int) - 48)*10+((b.toNat:Int) - 48)
theorem pairN_bd {a b:UInt8} (h:pairOk a b=true):0<=pairN a b/\pairN a b<=99:=by
 unfold pairOk at h;simp only [Bool.and_eq_true,Bool.not_eq_true',decide_eq_false_iff_not] at h;unfold pairN;omega
def twoP (a b:UInt8) (k:Int):Int×Bool:=if pairOk a b=true then (pairN a b,decide (pairN a b<k)) else (0,false)
theorem twoP_bd {a b:UInt8} {k:Int} (h:(twoP a b k).2=true):0<=(twoP a b k).1/\(twoP a b k).1<=99/\(twoP a b k).1<k:=by
 unfold twoP at h ⊢
 split at h
 ·next hp=>
  have:=pairN_bd hp;rw [if_pos hp];have hk:pairN a b<k:=of_decide_eq_true h;exact ⟨this.1,this.2,hk⟩
 ·cases h
theorem twoP_in (a b:UInt8) (k:Int):0<=(twoP a b k).1/\(twoP a b k).1<=99:=by
 unfold twoP
 split
 ·next hp=>exact pairN_bd hp
 ·exact ⟨by decide,by decide⟩
theorem two_any (a b:UInt8) (k:Int) (w:World):Calls prog 133 #[.string ⟨#[a,b]⟩,.int .i64 k] w fun e w'=>
  e= .returned (.tuple #[.int .i64 (twoP a b k).1,.bool (twoP a b k).2])/\∃ n,w'=w.drewN n:=by
 obtain ⟨P,hP⟩:∃ P,pairOk a b=P:=⟨_,rfl⟩;unfold twoP;rw [hP];unfold pairOk at hP
 have g0:(⟨#[a,b]⟩:ByteArray)[0]'(by simp [ByteArray.size])=a:=rfl
 have g1:(⟨#[a,b]⟩:ByteArray)[1]'(by simp [ByteArray.size])=b:=rfl
 go_enter func133,ntmps133
 cases h1:decide ((a.toNat:Int)<48)
 rotate_left
 ·obtain rfl:P=false:=by rw [<-hP,h1];rfl
  go_wp2
  go_ret2
  exact ⟨rfl,0,rfl⟩
 cases h2:decide (57<(a.toNat:Int))
 rotate_left
 ·obtain rfl:P=false:=by rw [<-hP,h2];simp
  go_wp2
  go_ret2
  exact ⟨rfl,0,rfl⟩
 cases h3:decide ((b.toNat:Int)<48)
 rotate_left
 ·obtain rfl:P=false:=by rw [<-hP,h3];simp
  go_wp2
  go_ret2
  exact ⟨rfl,0,rfl⟩
 cases h4:decide (57<(b.toNat:Int))
 rotate_left
 ·obtain rfl:P=false:=by rw [<-hP,h4];simp
  go_wp2
  go_ret2
  exact ⟨rfl,0,rfl⟩
 obtain rfl:P=true:=by rw [<-hP,h1,h2,h3,h4];rfl
 clear hP
 have a1:48<=(a.toNat:Int):=by have:=of_decide_eq_false h1;omega
 have a2:(a.toNat:Int)<=57:=by have:=of_decide_eq_false h2;omega
 have b1:48<=(b.toNat:Int):=by have:=of_decide_eq_false h3;omega
 have b2:(b.toNat:Int)<=57:=by have:=of_decide_eq_false h4;omega
 go_wp2;obtain ⟨Cls,hCls⟩:∃ C:World->Prop,C=fun z=>∃ n,z=w.drewN n:=⟨_,rfl⟩
 have hC:∀ z,Cls z->∃ n,z=w.drewN n:=fun z h=>by rw [hCls] at h;exact h
 have hstart:Cls w.drew:=by rw [hCls];exact ⟨1,rfl⟩
 have inst:Nonempty (Qt.In Cls):=⟨⟨_,hstart⟩⟩;have HC:=hid hC;have HS:=hid hstart;clear hC hstart hCls
 refine Qt.wp_region_cls Cls (by kernel_rfl) (by kernel_rfl) HS.out ?_
 repeat (go_big_quiet_step (fail))
 refine wpQuiet_nil ?_
 rintro wq ⟨⟨w9,hq⟩,e9⟩
 obtain ⟨nq,hnq⟩:=HC.out wq (by rw [e9];exact hq)
 clear hq e9;subst hnq;go_wp2
 go_ret2
 exact ⟨rfl,nq,rfl⟩
def signQ (s:UInt8):Bool:=((s.toNat:Int) == 43) || ((s.toNat:Int) == 45)
def sgnV (s:UInt8) (n:Int):Int:=if ((s.toNat:Int) == 45)=true then -n else n
def fixedB:List UInt8->Option Int
 |[s,a,b,c,d,e]=>if (signQ s && ((c.toNat:Int) == 58) && ((twoP a b 24).2 && (twoP d e 60).2))=true then some (sgnV s ((twoP a b 24).1*3600+(twoP d e 60).1*60)) else none
 |[s,a,b,c,d,e,c2,f,g]=>if (signQ s && ((c.toNat:Int) == 58) && ((c2.toNat:Int) == 58) && ((twoP a b 24).2 && (twoP d e 60).2 && (twoP f g 60).2))=true then some (sgnV s ((twoP a b 24).1*3600+(twoP d e 60).1*60+(twoP f g 60).1)) else none
 |_=>none
theorem drs2 {w w1 w2:World} (h:∃ n,w1=w.drewN n) (k:∃ n,w2=w1.drewN n):∃ n,w2=w.drewN n:=by
 obtain ⟨n,rfl⟩:=h;obtain ⟨m,rfl⟩:=k;exact ⟨n+m,drw2 w n m⟩
theorem fixed6 (s a b c d e:UInt8) (w:World):Calls prog 113 #[.string ⟨#[s,a,b,c,d,e]⟩] w fun r w'=>
  r= .returned (.tuple #[.int .i64 ((fixedB [s,a,b,c,d,e]).getD 0),.bool (fixedB [s,a,b,c,d,e]).isSome])/\∃ n,w'=w.drewN n:=by
 have h1:=fun z=>two_any a b 24 z;have h2:=fun z=>two_any d e 60 z;have v1:=twoP_in a b 24;have v2:=twoP_in d e 60;obtain ⟨R,hR⟩:∃ R,fixedB [s,a,b,c,d,e]=R:=⟨_,rfl⟩;rw [hR];unfold fixedB signQ sgnV at hR
 have g0:(⟨#[s,a,b,c,d,e]⟩:ByteArray)[0]'(by simp [ByteArray.size])=s:=rfl
 have g3:(⟨#[s,a,b,c,d,e]⟩:ByteArray)[3]'(by simp [ByteArray.size])=c:=rfl
 have x1:(⟨#[s,a,b,c,d,e]⟩:ByteArray).extract 1 3=⟨#[a,b]⟩:=rfl;have x2:(⟨#[s,a,b,c,d,e]⟩:ByteArray).extract 4 6=⟨#[d,e]⟩:=rfl;obtain ⟨p1,hp1⟩:∃ p,twoP a b 24=p:=⟨_,rfl⟩;obtain ⟨p2,hp2⟩:∃ p,twoP d e 60=p:=⟨_,rfl⟩;rw [hp1] at h1 v1;rw [hp2] at h2 v2;simp only [hp1,hp2] at hR;obtain ⟨n1,q1⟩:=p1;obtain ⟨n2,q2⟩:=p2;simp only at h1 h2 v1 v2 hR;have HR:=hid hR;have H1:=hid h1;have H2:=hid h2;clear hR h1 h2 hp1 hp2
 by_cases k1:(s.toNat:Int)=43<;>by_cases k2:(s.toNat:Int)=45<;>by_cases k3:(c.toNat:Int)=58<;>cases q1<;>cases q2
 all_goals first|omega|skip
 all_goals
  go_enter func113,ntmps113
  go_wp2_with (first
   |(go_at_call 133;refine (H1.out _).mono ?_;rintro r w1 ⟨rfl,hd⟩;have D1:=hid hd;clear hd H1)
   |(go_at_call 133;refine (H2.out _).mono ?_;rintro r w2 ⟨rfl,hd⟩;have D2:=hid (drs2 D1.out hd);clear hd))
  go_ret2
  have hr:=HR.out;simp [k1,k2,k3] at hr;subst hr
  first
   |exact ⟨rfl,0,rfl⟩
   |exact ⟨rfl,D2.out⟩
theorem fixed9 (s a b c d e c2 f g:UInt8) (w:World):Calls prog 113 #[.string ⟨#[s,a,b,c,d,e,c2,f,g]⟩] w fun r w'=>
  r= .returned (.tuple #[.int .i64 ((fixedB [s,a,b,c,d,e,c2,f,g]).getD 0),.bool (fixedB [s,a,b,c,d,e,c2,f,g]).isSome])/\∃ n,w'=w.drewN n:=by
 have h1:=fun z=>two_any a b 24 z;have h2:=fun z=>two_any d e 60 z;have h3:=fun z=>two_any f g 60 z;have v1:=twoP_in a b 24;have v2:=twoP_in d e 60;have v3:=twoP_in f g 60;obtain ⟨R,hR⟩:∃ R,fixedB [s,a,b,c,d,e,c2,f,g]=R:=⟨_,rfl⟩;rw [hR];unfold fixedB signQ sgnV at hR
 have g0:(⟨#[s,a,b,c,d,e,c2,f,g]⟩:ByteArray)[0]'(by simp [ByteArray.size])=s:=rfl
 have g3:(⟨#[s,a,b,c,d,e,c2,f,g]⟩:ByteArray)[3]'(by simp [ByteArray.size])=c:=rfl
 have g6:(⟨#[s,a,b,c,d,e,c2,f,g]⟩:ByteArray)[6]'(by simp [ByteArray.size])=c2:=rfl
 have x1:(⟨#[s,a,b,c,d,e,c2,f,g]⟩:ByteArray).extract 1 3=⟨#[a,b]⟩:=rfl;have x2:(⟨#[s,a,b,c,d,e,c2,f,g]⟩:ByteArray).extract 4 6=⟨#[d,e]⟩:=rfl;have x3:(⟨#[s,a,b,c,d,e,c2,f,g]⟩:ByteArray).extract 7 9=⟨#[f,g]⟩:=rfl;obtain ⟨p1,hp1⟩:∃ p,twoP a b 24=p:=⟨_,rfl⟩;obtain ⟨p2,hp2⟩:∃ p,twoP d e 60=p:=⟨_,rfl⟩;obtain ⟨p3,hp3⟩:∃ p,twoP f g 60=p:=⟨_,rfl⟩;rw [hp1] at h1 v1;rw [hp3] at h3 v3;rw [hp2] at h2 v2;simp only [hp1,hp2,hp3] at hR;obtain ⟨n1,q1⟩:=p1;obtain ⟨n2,q2⟩:=p2;obtain ⟨n3,q3⟩:=p3;simp only at h1 h2 h3 v1 v2 v3 hR;have HR:=hid hR;have H1:=hid h1;have H2:=hid h2;have H3:=hid h3;clear hR h1 h2 h3 hp1 hp2 hp3
 by_cases k1:(s.toNat:Int)=43<;>by_cases k2:(s.toNat:Int)=45<;>by_cases k3:(c.toNat:Int)=58<;>by_cases k4:(c2.toNat:Int)=58<;>cases q1<;>cases q2<;>cases q3
 all_goals first|omega|skip
 all_goals
  go_enter func113,ntmps113
  go_wp2_with (first
   |(go_at_call 133;refine (H1.out _).mono ?_;rintro r w1 ⟨rfl,hd⟩;have D1:=hid hd;clear hd H1)
   |(go_at_call 133;refine (H2.out _).mono ?_;rintro r w2 ⟨rfl,hd⟩;have D2:=hid (drs2 D1.out hd);clear hd H2)
   |(go_at_call 133;refine (H3.out _).mono ?_;rintro r w3 ⟨rfl,hd⟩;have D3:=hid (drs2 D2.out hd);clear hd))
  go_ret2
  have hr:=HR.out;simp [k1,k2,k3,k4] at hr;subst hr
  first
   |exact ⟨rfl,0,rfl⟩
   |exact ⟨rfl,D3.out⟩
theorem fixed_no (s:ByteArray) (w:World) (h6:s.size≠6) (h9:s.size≠9):Calls prog 113 #[.string s] w fun r w'=>r= .returned (.tuple #[.int .i64 0,.bool false])/\w'=w:=by
 have k6:¬ (s.size:Int)=6:=by omega
 have k9:¬ (s.size:Int)=9:=by omega
 go_enter func113,ntmps113;go_wp2
 go_ret2
 exact ⟨rfl,rfl⟩
theorem fixedB_no {l:List UInt8} (h6:l.length≠6) (h9:l.length≠9):fixedB l=none:=by
 unfold fixedB
 split
 ·simp at h6
 ·simp at h9
 ·rfl
theorem list6 {l:List UInt8} (h:l.length=6):∃ s a b c d e,l=[s,a,b,c,d,e]:=by
 match l,h with
 |[s,a,b,c,d,e],_=>exact ⟨s,a,b,c,d,e,rfl⟩
theorem list9 {l:List UInt8} (h:l.length=9):∃ s a b c d e c2 f g,l=[s,a,b,c,d,e,c2,f,g]:=by
 match l,h with
 |[s,a,b,c,d,e,c2,f,g],_=>exact ⟨s,a,b,c,d,e,c2,f,g,rfl⟩
theorem fixed_any (s:ByteArray) (w:World):Calls prog 113 #[.string s] w fun r w'=>
  r= .returned (.tuple #[.int .i64 ((fixedB s.data.toList).getD 0),.bool (fixedB s.data.toList).isSome])/\∃ n,w'=w.drewN n:=by
 have hsz:s.size=s.data.toList.length:=by simp
 have hs:s=⟨s.data.toList.toArray⟩:=rfl;generalize s.data.toList=l at*;subst hs
 by_cases h6:l.length=6
 ·obtain ⟨s,a,b,c,d,e,rfl⟩:=list6 h6
  exact fixed6 s a b c d e w
 ·by_cases h9:l.length=9
  ·obtain ⟨s,a,b,c,d,e,c2,f,g,rfl⟩:=list9 h9
   exact fixed9 s a b c d e c2 f g w
  ·rw [fixedB_no h6 h9]
   exact (fixed_no _ w (by omega) (by omega)).mono fun r w' ⟨h1,h2⟩=>⟨h1,0,h2⟩
end Atl
end
end Go.Proofs.YtiiekaehbahenaaGreatDoor
