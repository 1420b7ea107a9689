/-
  Contracts of the code that the law reaches, and plain laws. Conditions: as each says.
-/
import Derived.Test.YtiiekaehbahenaaGreatDoorV07
set_option linter.all false
set_option maxHeartbeats 40000000
set_option maxRecDepth 100000
namespace Go.Proofs.YtiiekaehbahenaaGreatDoor
open Lib (hid)
open Tryz
section
namespace Gr
open Go.RowKit Mem Atl
abbrev cntV (v:Int×Bool):Value:= .tuple #[.int .i64 v.1,.bool v.2]
def mayB (n:Int) (d:Int):Bool:=decide (n<922337203685477580) || (n == 922337203685477580 && decide (d<=7))
theorem cntA_yes {l:Txt} {f i:Nat} {n:Int} {ok:Bool} {d:Int} (h:dgA l i=true) (hd:(byA l i:Int) - 48=d):
  cntA l (f+1) i n ok=cntA l f (i+1) (if (ok && mayB n d)=true then n*10+d else n) (ok && mayB n d):=by
 rw [cntA,if_pos h,hd];rfl
theorem cntA_no {l:Txt} {f i:Nat} {n:Int} {ok:Bool} (h:dgA l i=false):cntA l f i n ok=((n,ok),i):=by
 cases f with
 |zero=>rfl
 |succ f=>rw [cntA,h];simp
theorem may_le {n d:Int} (h:mayB n d=true) (hd:d<=9):n*10+d<=9223372036854775807:=by
 simp only [mayB,Bool.or_eq_true,Bool.and_eq_true,decide_eq_true_eq,beq_iff_eq] at h;omega
theorem count_any (g:Nat) (s:ByteArray) (k:Nat) (w:World) (h:Rd w g s k) (hk0:k<=s.size) (hs:s.size<=2097152):
  Calls prog 24 #[.pointer (some ⟨g,0,none⟩)] w (RP cntV g s w (countA (tx s) k)):=by
 have hl:(tx s).length=s.size:=by simp
 have HD:=hid (digit_any g s k w h hk0 hs)
 cases hd:dgA (tx s) k
 ·rw [countA,hd]
  simp only [Bool.false_eq_true,if_false];rw [hd] at HD;have H:=hid (Kp.refl (·=g) w);clear h;go_enter func24,ntmps24
  go_wp2_with (first
   |(go_at_call 26;refine HD.out.mono ?_;rintro e w1 ⟨rfl,q,rfl⟩;have HK:=hid (kp_drw H.out q);generalize w.drewN q=W at *)
   |(go_at_call 23;refine (wrong_any g _).mono ?_;rintro e w2 ⟨rfl,rfl⟩))
  exact ⟨rfl,HK.out,rfl⟩
 ·rw [countA,hd,hl]
  simp only [if_true];rw [hd] at HD;obtain ⟨R,hR⟩:∃ R,cntA (tx s) (s.size - k) k 0 true=R:=⟨_,rfl⟩;rw [hR];have HR:=hid hR;have H:=hid (And.intro h (Kp.refl (·=g) w));clear hR h hd;go_enter func24,ntmps24
  go_wp2_with (go_at_call 26;refine HD.out.mono ?_;rintro e w1 ⟨rfl,q,rfl⟩;have H1:=hid (And.intro (H.out.1.drewN q) (kp_drw H.out.2 q));generalize w.drewN q=W at *)
  go_loopg [4,5,6] (s.size+1) (fun f v b _ wr=>∃ (i:Nat) (n:Int) (ok:Bool),v= .int .i64 n/\b= .bool ok/\cntA (tx s) (s.size - i) i n ok=R/\s.size+1<=f+i/\i<=s.size/\0<=n/\n<=9223372036854775807/\Rd wr g s i/\Kp (·=g) w wr)
  case atStart=>exact ⟨k,0,true,rfl,rfl,HR.out,by omega,hk0,by omega,by omega,H1.out.1,H1.out.2⟩
  case round=>
   clear HR H H1 HD;obtain ⟨i,n,ok,rfl,rfl,hR,hf,hi,hn0,hn1,hr,hkp⟩:=hrel
   cases gk with
   |zero=>exact absurd hf (by omega)
   |succ f=>
   have HR:=hid hR;have H:=hid (And.intro hr hkp);have HD:=hid (digit_any g s i wr hr hi hs);clear hR hr hkp
   cases hd:dgA (tx s) i
   ·rw [hd] at HD
    have hR:=HR.out;rw [cntA_no hd] at hR;subst hR;clear HR hd
    go_wp2_with (go_at_call 26;refine HD.out.mono ?_;rintro e w1 ⟨rfl,q,rfl⟩;have H1:=hid (And.intro (H.out.1.drewN q) (kp_drw H.out.2 q));generalize wr.drewN q=W at *)
    go_ret2
    exact ⟨H1.out.2,rfl,H1.out.1,hi⟩
   ·rw [hd] at HD
    have hlt:=dg_lt hd;obtain ⟨d,hdd⟩:∃ d,byA (tx s) i - 48=d:=⟨_,rfl⟩
    have hb:(byA (tx s) i:Int) - 48=(d:Int)/\d<=9:=by
     have h1:=hd;rw [dg_at hlt] at h1;rw [by_at hlt] at hdd ⊢;simp only [Bool.and_eq_true,decide_eq_true_eq] at h1;omega
    obtain ⟨hb1,hd9⟩:=hb
    have Hdg:=hid ((dig1 hd).trans (by rw [hdd]))
    have hR:=HR.out
    obtain ⟨m,hm⟩:∃ m,s.size - i=m+1:=⟨s.size - i - 1,by omega⟩
    rw [hm,cntA_yes hd hb1,show m=s.size - (i+1) from by omega] at hR
    clear HR hd hdd hb1 hm
    cases ok
    ·simp only [Bool.false_and,Bool.false_eq_true,if_false] at hR
     have HR:=hid hR;clear hR
     go_wp2_with (first
      |(go_at_call 26;refine HD.out.mono ?_;rintro e w1 ⟨rfl,q,rfl⟩;have H1:=hid (And.intro (H.out.1.drewN q) (kp_drw H.out.2 q));generalize wr.drewN q=W at *)
      |(go_at_call 50;have hdg:=digits_any 1 g s i W H1.out.1 hi hs (by decide);rw [Hdg.out] at hdg;refine hdg.mono ?_;intro e w2 hp;obtain ⟨rfl,h2,h2s,h2k⟩:=hp.ok;have H2:=hid (And.intro h2 (H1.out.2.trans h2k));clear hp h2 h2k))
     go_roundg f
     case rel=>exact ⟨i+1,_,_,rfl,rfl,HR.out,by omega,h2s,by omega,by omega,H2.out.1,H2.out.2⟩
     case measure=>omega
    ·by_cases q1:n<922337203685477580
     ·have hmay:mayB n d=true:=by simp [mayB,q1]
      have hle:=may_le hmay (by omega)
      rw [hmay] at hR;simp only [Bool.true_and,if_true] at hR
      have hw1:IntKind.i64.wrap (n*10)=n*10:=by rw [IntKind.wrap_i64];omega
      have hw2:IntKind.i64.wrap (n*10+(d:Int))=n*10+(d:Int):=by rw [IntKind.wrap_i64];omega
      have HR:=hid hR;clear hR hmay;have e1:decide (n<922337203685477580)=true:=decide_eq_true q1
      go_wp2_with (first
       |(go_at_call 26;refine HD.out.mono ?_;rintro e w1 ⟨rfl,q,rfl⟩;have H1:=hid (And.intro (H.out.1.drewN q) (kp_drw H.out.2 q));generalize wr.drewN q=W at *)
       |(go_at_call 50;have hdg:=digits_any 1 g s i W H1.out.1 hi hs (by decide);rw [Hdg.out] at hdg;refine hdg.mono ?_;intro e w2 hp;obtain ⟨rfl,h2,h2s,h2k⟩:=hp.ok;have H2:=hid (And.intro h2 (H1.out.2.trans h2k));clear hp h2 h2k))
      go_roundg f
      case rel=>exact ⟨i+1,_,_,rfl,rfl,HR.out,by omega,h2s,by omega,by omega,H2.out.1,H2.out.2⟩
      case measure=>omega
     ·have e1:decide (n<922337203685477580)=false:=decide_eq_false q1
      by_cases q2:n=922337203685477580
      ·subst q2
       by_cases q3:d<=7
       ·have e3:decide ((d:Int)<=7)=true:=decide_eq_true (by omega)
        have hmay:mayB 922337203685477580 d=true:=by simp [mayB];omega
        have hle:=may_le hmay (by omega)
        rw [hmay] at hR;simp only [Bool.true_and,if_true] at hR
        have hw1:IntKind.i64.wrap (922337203685477580*10)=922337203685477580*10:=by rw [IntKind.wrap_i64];omega
        have hw2:IntKind.i64.wrap (922337203685477580*10+(d:Int))=922337203685477580*10+(d:Int):=by rw [IntKind.wrap_i64];omega
        have HR:=hid hR;clear hR hmay
        go_wp2_with (first
         |(go_at_call 26;refine HD.out.mono ?_;rintro e w1 ⟨rfl,q,rfl⟩;have H1:=hid (And.intro (H.out.1.drewN q) (kp_drw H.out.2 q));generalize wr.drewN q=W at *)
         |(go_at_call 50;have hdg:=digits_any 1 g s i W H1.out.1 hi hs (by decide);rw [Hdg.out] at hdg;refine hdg.mono ?_;intro e w2 hp;obtain ⟨rfl,h2,h2s,h2k⟩:=hp.ok;have H2:=hid (And.intro h2 (H1.out.2.trans h2k));clear hp h2 h2k))
        go_roundg f
        case rel=>exact ⟨i+1,_,_,rfl,rfl,(by first|exact HR.out|simpa using HR.out),by omega,h2s,by omega,by omega,H2.out.1,H2.out.2⟩
        case measure=>omega
       ·have e3:decide ((d:Int)<=7)=false:=decide_eq_false (by omega)
        have hmay:mayB 922337203685477580 d=false:=by simp [mayB];omega
        rw [hmay] at hR;simp only [Bool.and_false,Bool.false_eq_true,if_false] at hR;have HR:=hid hR;clear hR hmay
        go_wp2_with (first
         |(go_at_call 26;refine HD.out.mono ?_;rintro e w1 ⟨rfl,q,rfl⟩;have H1:=hid (And.intro (H.out.1.drewN q) (kp_drw H.out.2 q));generalize wr.drewN q=W at *)
         |(go_at_call 50;have hdg:=digits_any 1 g s i W H1.out.1 hi hs (by decide);rw [Hdg.out] at hdg;refine hdg.mono ?_;intro e w2 hp;obtain ⟨rfl,h2,h2s,h2k⟩:=hp.ok;have H2:=hid (And.intro h2 (H1.out.2.trans h2k));clear hp h2 h2k))
        go_roundg f
        case rel=>exact ⟨i+1,_,_,rfl,rfl,(by first|exact HR.out|simpa using HR.out),by omega,h2s,by omega,by omega,H2.out.1,H2.out.2⟩
        case measure=>omega
      ·have e2:(n == 922337203685477580)=false:=by rw [beq_eq_false_iff_ne];exact q2
       have hmay:mayB n d=false:=by rw [mayB,e1,e2];rfl
       rw [hmay] at hR;simp only [Bool.and_false,Bool.false_eq_true,if_false] at hR;have HR:=hid hR;clear hR hmay
       go_wp2_with (first
        |(go_at_call 26;refine HD.out.mono ?_;rintro e w1 ⟨rfl,q,rfl⟩;have H1:=hid (And.intro (H.out.1.drewN q) (kp_drw H.out.2 q));generalize wr.drewN q=W at *)
        |(go_at_call 50;have hdg:=digits_any 1 g s i W H1.out.1 hi hs (by decide);rw [Hdg.out] at hdg;refine hdg.mono ?_;intro e w2 hp;obtain ⟨rfl,h2,h2s,h2k⟩:=hp.ok;have H2:=hid (And.intro h2 (H1.out.2.trans h2k));clear hp h2 h2k))
       go_roundg f
       case rel=>exact ⟨i+1,_,_,rfl,rfl,HR.out,by omega,h2s,by omega,by omega,H2.out.1,H2.out.2⟩
       case measure=>omega
end Gr
end
end Go.Proofs.YtiiekaehbahenaaGreatDoor
