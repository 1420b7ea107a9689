/-
  Contracts of the code that the law reaches, and plain laws. Conditions: as each says.
-/
import Derived.Test.YtiiekaehbahenaaGreatDoorV21
import Derived.Test.YtiiekaehbahenaaGreatDoorV10
set_option linter.all false
set_option maxHeartbeats 40000000
set_option maxRecDepth 100000
namespace Go.Proofs.YtiiekaehbahenaaGreatDoor
open Lib (hid)
open Tryz
section
section
namespace Gr
open Go.RowKit Mem Atl
abbrev cntV (v:Int×Bool):Value:= .tuple #[.int .i64 v.1,.bool v.2]
def mayB (n:Int) (d:Int):Bool:=decide (n<922337203685477580) || (n == 922337203685477580 && decide (d<=7))
theorem cntA_yes {l:Txt} {f i:Nat} {n:Int} {ok:Bool} {d:Int} (h:dgA l i=true) (hd:(byA l i:Int) - 48=d):
  cntA l (f+1) i n ok=cntA l f (i+1) (if (ok && mayB n d)=true then n*10+d else n) (ok && mayB n d):=by
 rw [cntA,if_pos h,hd];rfl
theorem cntA_no {l:Txt} {f i:Nat} {n:Int} {ok:Bool} (h:dgA l i=false):cntA l f i n ok=((n,ok),i):=by
 cases f with
 |zero=>rfl
 |succ f=>rw [cntA,h];simp
theorem may_le {n d:Int} (h:mayB n d=true) (hd:d<=9):n*10+d<=9223372036854775807:=by
 simp only [mayB,Bool.or_eq_true,Bool.and_eq_true,decide_eq_true_eq,beq_iff_eq] at h;omega
theorem count_any (g:Nat) (s:ByteArray) (k:Nat) (w:World) (h:Rd w g s k) (hk0:k<=s.size) (hs:s.size<=2097152):
  Calls prog 24 #[.pointer (some ⟨g,0,none⟩)] w (RP cntV g s w (countA (tx s) k)):=by
 have hl:(tx s).length=s.size:=by simp
 have HD:=hid (digit_any g s k w h hk0 hs)
 cases hd:dgA (tx s) k
 ·rw [countA,hd]
  simp only [Bool.false_eq_true,if_false];rw [hd] at HD;have H:=hid (Kp.refl (·=g) w);clear h;go_enter func24,ntmps24
  go_wp2_with (first
   |(go_at_call 26;refine HD.out.mono ?_;rintro e w1 ⟨rfl,q,rfl⟩;have HK:=hid (kp_drw H.out q);generalize w.drewN q=W at *)
   |(go_at_call 23;refine (wrong_any g _).mono ?_;rintro e w2 ⟨rfl,rfl⟩))
  exact ⟨rfl,HK.out,rfl⟩
 ·rw [countA,hd,hl]
  simp only [if_true];rw [hd] at HD;obtain ⟨R,hR⟩:∃ R,cntA (tx s) (s.size - k) k 0 true=R:=⟨_,rfl⟩;rw [hR];have HR:=hid hR;have H:=hid (And.intro h (Kp.refl (·=g) w));clear hR h hd;go_enter func24,ntmps24
  go_wp2_with (go_at_call 26;refine HD.out.mono ?_;rintro e w1 ⟨rfl,q,rfl⟩;have H1:=hid (And.intro (H.out.1.drewN q) (kp_drw H.out.2 q));generalize w.drewN q=W at *)
  go_loopg [4,5,6] (s.size+1) (fun f v b _ wr=>∃ (i:Nat) (n:Int) (ok:Bool),v= .int .i64 n/\b= .bool ok/\cntA (tx s) (s.size - i) i n ok=R/\s.size+1<=f+i/\i<=s.size/\0<=n/\n<=9223372036854775807/\Rd wr g s i/\Kp (·=g) w wr)
  case atStart=>exact ⟨k,0,true,rfl,rfl,HR.out,by omega,hk0,by omega,by omega,H1.out.1,H1.out.2⟩
  case round=>
   clear HR H H1 HD;obtain ⟨i,n,ok,rfl,rfl,hR,hf,hi,hn0,hn1,hr,hkp⟩:=hrel
   cases gk with
   |zero=>exact absurd hf (by omega)
   |succ f=>
   have HR:=hid hR;have H:=hid (And.intro hr hkp);have HD:=hid (digit_any g s i wr hr hi hs);clear hR hr hkp
   cases hd:dgA (tx s) i
   ·rw [hd] at HD
    have hR:=HR.out;rw [cntA_no hd] at hR;subst hR;clear HR hd
    go_wp2_with (go_at_call 26;refine HD.out.mono ?_;rintro e w1 ⟨rfl,q,rfl⟩;have H1:=hid (And.intro (H.out.1.drewN q) (kp_drw H.out.2 q));generalize wr.drewN q=W at *)
    go_ret2
    exact ⟨H1.out.2,rfl,H1.out.1,hi⟩
   ·rw [hd] at HD
    have hlt:=dg_lt hd;obtain ⟨d,hdd⟩:∃ d,byA (tx s) i - 48=d:=⟨_,rfl⟩
    have hb:(byA (tx s) i:Int) - 48=(d:Int)/\d<=9:=by
     have h1:=hd;rw [dg_at hlt] at h1;rw [by_at hlt] at hdd ⊢;simp only [Bool.and_eq_true,decide_eq_true_eq] at h1;omega
    obtain ⟨hb1,hd9⟩:=hb
    have Hdg:=hid ((dig1 hd).trans (by rw [hdd]))
    have hR:=HR.out
    obtain ⟨m,hm⟩:∃ m,s.size - i=m+1:=⟨s.size - i - 1,by omega⟩
    rw [hm,cntA_yes hd hb1,show m=s.size - (i+1) from by omega] at hR
    clear HR hd hdd hb1 hm
    cases ok
    ·simp only [Bool.false_and,Bool.false_eq_true,if_false] at hR
     have HR:=hid hR;clear hR
     go_wp2_with (first
      |(go_at_call 26;refine HD.out.mono ?_;rintro e w1 ⟨rfl,q,rfl⟩;have H1:=hid (And.intro (H.out.1.drewN q) (kp_drw H.out.2 q));generalize wr.drewN q=W at *)
      |(go_at_call 50;have hdg:=digits_any 1 g s i W H1.out.1 hi hs (by decide);rw [Hdg.out] at hdg;refine hdg.mono ?_;intro e w2 hp;obtain ⟨rfl,h2,h2s,h2k⟩:=hp.ok;have H2:=hid (And.intro h2 (H1.out.2.trans h2k));clear hp h2 h2k))
     go_roundg f
     case rel=>exact ⟨i+1,_,_,rfl,rfl,HR.out,by omega,h2s,by omega,by omega,H2.out.1,H2.out.2⟩
     case measure=>omega
    ·by_cases q1:n<922337203685477580
     ·have hmay:mayB n d=true:=by simp [mayB,q1]
      have hle:=may_le hmay (by omega)
      rw [hmay] at hR;simp only [Bool.true_and,if_true] at hR
      have hw1:IntKind.i64.wrap (n*10)=n*10:=by rw [IntKind.wrap_i64];omega
      have hw2:IntKind.i64.wrap (n*10+(d:Int))=n*10+(d:Int):=by rw [IntKind.wrap_i64];omega
      have HR:=hid hR;clear hR hmay;have e1:decide (n<922337203685477580)=true:=decide_eq_true q1
      go_wp2_with (first
       |(go_at_call 26;refine HD.out.mono ?_;rintro e w1 ⟨rfl,q,rfl⟩;have H1:=hid (And.intro (H.out.1.drewN q) (kp_drw H.out.2 q));generalize wr.drewN q=W at *)
       |(go_at_call 50;have hdg:=digits_any 1 g s i W H1.out.1 hi hs (by decide);rw [Hdg.out] at hdg;refine hdg.mono ?_;intro e w2 hp;obtain ⟨rfl,h2,h2s,h2k⟩:=hp.ok;have H2:=hid (And.intro h2 (H1.out.2.trans h2k));clear hp h2 h2k))
      go_roundg f
      case rel=>exact ⟨i+1,_,_,rfl,rfl,HR.out,by omega,h2s,by omega,by omega,H2.out.1,H2.out.2⟩
      case measure=>omega
     ·have e1:decide (n<922337203685477580)=false:=decide_eq_false q1
      by_cases q2:n=922337203685477580
      ·subst q2
       by_cases q3:d<=7
       ·have e3:decide ((d:Int)<=7)=true:=decide_eq_true (by omega)
        have hmay:mayB 922337203685477580 d=true:=by simp [mayB];omega
        have hle:=may_le hmay (by omega)
        rw [hmay] at hR;simp only [Bool.true_and,if_true] at hR
        have hw1:IntKind.i64.wrap (922337203685477580*10)=922337203685477580*10:=by rw [IntKind.wrap_i64];omega
        have hw2:IntKind.i64.wrap (922337203685477580*10+(d:Int))=922337203685477580*10+(d:Int):=by rw [IntKind.wrap_i64];omega
        have HR:=hid hR;clear hR hmay
        go_wp2_with (first
         |(go_at_call 26;refine HD.out.mono ?_;rintro e w1 ⟨rfl,q,rfl⟩;have H1:=hid (And.intro (H.out.1.drewN q) (kp_drw H.out.2 q));generalize wr.drewN q=W at *)
         |(go_at_call 50;have hdg:=digits_any 1 g s i W H1.out.1 hi hs (by decide);rw [Hdg.out] at hdg;refine hdg.mono ?_;intro e w2 hp;obtain ⟨rfl,h2,h2s,h2k⟩:=hp.ok;have H2:=hid (And.intro h2 (H1.out.2.trans h2k));clear hp h2 h2k))
        go_roundg f
        case rel=>exact ⟨i+1,_,_,rfl,rfl,(by first|exact HR.out|simpa using HR.out),by omega,h2s,by omega,by omega,H2.out.1,H2.out.2⟩
        case measure=>omega
       ·have e3:decide ((d:Int)<=7)=false:=decide_eq_false (by omega)
        have hmay:mayB 922337203685477580 d=false:=by simp [mayB];omega
        rw [hmay] at hR;simp only [Bool.and_false,Bool.false_eq_true,if_false] at hR;have HR:=hid hR;clear hR hmay
        go_wp2_with (first
         |(go_at_call 26;refine HD.out.mono ?_;rintro e w1 ⟨rfl,q,rfl⟩;have H1:=hid (And.intro (H.out.1.drewN q) (kp_drw H.out.2 q));generalize wr.drewN q=W at *)
         |(go_at_call 50;have hdg:=digits_any 1 g s i W H1.out.1 hi hs (by decide);rw [Hdg.out] at hdg;refine hdg.mono ?_;intro e w2 hp;obtain ⟨rfl,h2,h2s,h2k⟩:=hp.ok;have H2:=hid (And.intro h2 (H1.out.2.trans h2k));clear hp h2 h2k))
        go_roundg f
        case rel=>exact ⟨i+1,_,_,rfl,rfl,(by first|exact HR.out|simpa using HR.out),by omega,h2s,by omega,by omega,H2.out.1,H2.out.2⟩
        case measure=>omega
      ·have e2:(n == 922337203685477580)=false:=by rw [beq_eq_false_iff_ne];exact q2
       have hmay:mayB n d=false:=by rw [mayB,e1,e2];rfl
       rw [hmay] at hR;simp only [Bool.and_false,Bool.false_eq_true,if_false] at hR;have HR:=hid hR;clear hR hmay
       go_wp2_with (first
        |(go_at_call 26;refine HD.out.mono ?_;rintro e w1 ⟨rfl,q,rfl⟩;have H1:=hid (And.intro (H.out.1.drewN q) (kp_drw H.out.2 q));generalize wr.drewN q=W at *)
        |(go_at_call 50;have hdg:=digits_any 1 g s i W H1.out.1 hi hs (by decide);rw [Hdg.out] at hdg;refine hdg.mono ?_;intro e w2 hp;obtain ⟨rfl,h2,h2s,h2k⟩:=hp.ok;have H2:=hid (And.intro h2 (H1.out.2.trans h2k));clear hp h2 h2k))
       go_roundg f
       case rel=>exact ⟨i+1,_,_,rfl,rfl,HR.out,by omega,h2s,by omega,by omega,H2.out.1,H2.out.2⟩
       case measure=>omega
end Gr
end
end
section
section
namespace Wid
open Go.RowKit Mem Atl Gr
def flF (l:List Int):Nat->Int:=fun j=>l.getD j 0
theorem flF_set {l:List Int} {k:Nat} (hk:k<l.length) (v:Int):(fun j=>if j=k then v else flF l j)=flF (l.set k v):=by
 funext j
 unfold flF
 by_cases h:j=k
 ·subst h
  rw [if_pos rfl,List.getD_eq_getElem?_getD,List.getElem?_set_self hk];rfl
 ·rw [if_neg h,List.getD_eq_getElem?_getD,List.getD_eq_getElem?_getD,List.getElem?_set_ne (fun e=>h e.symm)]
theorem fl_set {W:World} {X:Nat} {T:TypeId} {l:List Int} (h:Blk W X T (durF (flF l))) {k:Nat} (hk:k<8) (hl:l.length=8) (v:Int):Blk (W.setCell ⟨X,k,none⟩ (.int .i64 v)) X T (durF (flF (l.set k v))):=by
 have:=durF_set h hk v
 rwa [flF_set (by omega)] at this
theorem lay_vals (N:Nat):(.agg (durF (layG N 3)):Value)= .agg (durV 0 0 0 0 0 (N / 60000000000) (N % 60000000000 / 1000000000) (N % 60000000000 % 1000000000)):=by rw [layG_end]
theorem lay_out (N:Nat) (hN:N<3600000000000):∃ a b c:Nat,N / 60000000000=a/\N % 60000000000 / 1000000000=b/\N % 60000000000 % 1000000000=c/\∀ z,
  Calls prog 59 #[.agg #[.int .i64 0,.int .u64 N],.int .i64 6] z fun r w'=>r= .returned (.tuple #[.agg (durV 0 0 0 0 0 a b c),.int .i64 0])/\Below z.heap.size z w':=
 ⟨_,_,_,rfl,rfl,rfl,fun z=>by have:=lay_any N hN z;rwa [lay_vals] at this⟩
theorem cast_div (p k A:Nat):(((p*k / A:Nat)):Int)=(p:Int)*k / A:=by push_cast;rfl
theorem cast_mod (p k A:Nat):(((p*k % A:Nat)):Int)=(p:Int)*k % A:=by push_cast;rfl
theorem cast_md (p k A B:Nat):(((p*k % A / B:Nat)):Int)=(p:Int)*k % A / B:=by push_cast;rfl
theorem cast_mm (p k A B:Nat):(((p*k % A % B:Nat)):Int)=(p:Int)*k % A % B:=by push_cast;rfl
theorem kpset {P:Nat->Prop} {w W:World} {X:Nat} (hP:P X) (h:Kp P w W) (i:Nat) (v:Value):Kp P w (W.setCell ⟨X,i,none⟩ v):=h.set (p:=⟨X,i,none⟩) hP v
theorem over_any (X:Nat) (l:List Int) (u p:Nat) (w:World) (h:Blk w X 32 (durF (flF l))) (hl:l.length=8) (hu:u<=2) (hp:p<1000000000):
  Calls prog 30 #[.pointer (some ⟨X,0,none⟩),.int .i64 u,.int .i64 p] w fun e w'=>e= .returned (.tuple #[])/\Blk w' X 32 (durF (flF (overF l u p)))/\Kp (·=X) w w':=by
 have H:=hid (And.intro h (Kp.refl (·=X) w))
 have:u=0\/u=1\/u=2:=by omega
 rcases this with rfl|rfl|rfl
 ·have HL:=hid (show ∀ z,Calls prog 58 #[.int .i64 5] z fun e w'=>e= .returned (.int .i64 3600000000000)/\z=w' from fun z=>length_any 5 (by decide) (by decide) z)
  obtain ⟨N,hN⟩:∃ N,p*3600=N:=⟨_,rfl⟩
  have hN2:N<3600000000000:=by omega
  have e1:(p:Int)*3600=(N:Int):=by omega
  obtain ⟨a,b,c,ha,hb,hc,hLay⟩:=lay_out N hN2;have HLay:=hid hLay
  have HOf:=hid (fun z=>of_small N (by omega) z)
  have HE:=hid (show flF (((l.set 5 (a:Int)).set 6 (b:Int)).set 7 (c:Int))=flF (overF l 0 p) from by
   rw [overF,if_pos rfl,<-ha,<-hb,<-hc,<-hN,cast_div,cast_md,cast_mm];rfl)
  clear hLay ha hb hc hN h;go_enter func30,ntmps30
  go_wp2_with (first
   |(go_at_call 58;refine (HL.out _).mono ?_;rintro r w1 ⟨rfl,rfl⟩)
   |(go_at_call 60;refine (HOf.out _).mono ?_;rintro r w2 ⟨rfl,hb2⟩;have H2:=hid (And.intro (H.out.1.below hb2 H.out.1.lt) (H.out.2.trans (Kp.below hb2)));clear H hb2 HOf)
   |(go_at_call 59;refine (HLay.out _).mono ?_;rintro r w3 ⟨rfl,hb3⟩;have bX:=H2.out.1.below hb3 H2.out.1.lt;have H3:=hid (And.intro bX (H2.out.2.trans (Kp.below hb3)));have cX:=bX.cell;have fX:=bX.frozen;have lX:=bX.lt;have nX:=Nat.ne_of_lt lX;have mX:=nX.symm;clear H2 hb3 bX HLay))
  go_end0
  have b0:=fl_set H3.out.1 (show 5<8 from by decide) hl (a:Int)
  have b1:=fl_set b0 (show 6<8 from by decide) (by simpa using hl) (b:Int)
  have b2:=fl_set b1 (show 7<8 from by decide) (by simpa using hl) (c:Int)
  rw [HE.out] at b2;exact ⟨rfl,b2.alloc _,(kpset (P:=(·=X)) rfl (kpset (P:=(·=X)) rfl (kpset (P:=(·=X)) rfl H3.out.2 5 _) 6 _) 7 _).alloc _⟩
 ·have HL:=hid (show ∀ z,Calls prog 58 #[.int .i64 6] z fun e w'=>e= .returned (.int .i64 60000000000)/\z=w' from fun z=>length_any 6 (by decide) (by decide) z)
  obtain ⟨N,hN⟩:∃ N,p*60=N:=⟨_,rfl⟩
  have hN2:N<3600000000000:=by omega
  have e1:(p:Int)*60=(N:Int):=by omega
  obtain ⟨a,b,c,ha,hb,hc,hLay⟩:=lay_out N hN2;have HLay:=hid hLay
  have HOf:=hid (fun z=>of_small N (by omega) z)
  have HE:=hid (show flF ((l.set 6 (b:Int)).set 7 (c:Int))=flF (overF l 1 p) from by
   rw [overF,if_neg (by decide),if_pos rfl,<-hb,<-hc,Nat.mod_eq_of_lt (show N<60000000000 from by omega),<-hN,cast_div,cast_mod];rfl)
  clear hLay ha hb hc hN h;go_enter func30,ntmps30
  go_wp2_with (first
   |(go_at_call 58;refine (HL.out _).mono ?_;rintro r w1 ⟨rfl,rfl⟩)
   |(go_at_call 60;refine (HOf.out _).mono ?_;rintro r w2 ⟨rfl,hb2⟩;have H2:=hid (And.intro (H.out.1.below hb2 H.out.1.lt) (H.out.2.trans (Kp.below hb2)));clear H hb2 HOf)
   |(go_at_call 59;refine (HLay.out _).mono ?_;rintro r w3 ⟨rfl,hb3⟩;have bX:=H2.out.1.below hb3 H2.out.1.lt;have H3:=hid (And.intro bX (H2.out.2.trans (Kp.below hb3)));have cX:=bX.cell;have fX:=bX.frozen;have lX:=bX.lt;have nX:=Nat.ne_of_lt lX;have mX:=nX.symm;clear H2 hb3 bX HLay))
  go_end0
  have b0:=fl_set H3.out.1 (show 6<8 from by decide) hl (b:Int)
  have b1:=fl_set b0 (show 7<8 from by decide) (by simpa using hl) (c:Int)
  rw [HE.out] at b1;exact ⟨rfl,b1.alloc _,(kpset (P:=(·=X)) rfl (kpset (P:=(·=X)) rfl H3.out.2 6 _) 7 _).alloc _⟩
 ·have HL:=hid (show ∀ z,Calls prog 58 #[.int .i64 7] z fun e w'=>e= .returned (.int .i64 1000000000)/\z=w' from fun z=>length_any 7 (by decide) (by decide) z)
  obtain ⟨N,hN⟩:∃ N,p*1=N:=⟨_,rfl⟩
  have hN2:N<3600000000000:=by omega
  have e1:(p:Int)*1=(N:Int):=by omega
  obtain ⟨a,b,c,ha,hb,hc,hLay⟩:=lay_out N hN2;have HLay:=hid hLay
  have HOf:=hid (fun z=>of_small N (by omega) z)
  have HE:=hid (show flF (l.set 7 (c:Int))=flF (overF l 2 p) from by
   rw [overF,if_neg (by decide),if_neg (by decide),<-hc,Nat.mod_eq_of_lt (show N<60000000000 from by omega),Nat.mod_eq_of_lt (show N<1000000000 from by omega),<-hN,Nat.mul_one])
  clear hLay ha hb hc hN h;go_enter func30,ntmps30
  go_wp2_with (first
   |(go_at_call 58;refine (HL.out _).mono ?_;rintro r w1 ⟨rfl,rfl⟩)
   |(go_at_call 60;refine (HOf.out _).mono ?_;rintro r w2 ⟨rfl,hb2⟩;have H2:=hid (And.intro (H.out.1.below hb2 H.out.1.lt) (H.out.2.trans (Kp.below hb2)));clear H hb2 HOf)
   |(go_at_call 59;refine (HLay.out _).mono ?_;rintro r w3 ⟨rfl,hb3⟩;have bX:=H2.out.1.below hb3 H2.out.1.lt;have H3:=hid (And.intro bX (H2.out.2.trans (Kp.below hb3)));have cX:=bX.cell;have fX:=bX.frozen;have lX:=bX.lt;have nX:=Nat.ne_of_lt lX;have mX:=nX.symm;clear H2 hb3 bX HLay))
  go_end0
  have b0:=fl_set H3.out.1 (show 7<8 from by decide) hl (c:Int)
  rw [HE.out] at b0;exact ⟨rfl,b0.alloc _,(kpset (P:=(·=X)) rfl H3.out.2 7 _).alloc _⟩
end Wid
end
end
section
section
namespace Gr
open Go.RowKit Mem Atl Wid
structure DS (X G A TK RM PF:Nat):Prop where
 xg:X≠G
 ag:A≠G
 tg:TK≠G
 rg:RM≠G
 pg:PF≠G
 ax:A≠X
 tx:TK≠X
 rx:RM≠X
 px:PF≠X
 ar:A≠RM
 tr:TK≠RM
 pr:PF≠RM
abbrev takeC (G:Nat):Array Value:=#[.func (.func 24) #[.pointer (some ⟨G,0,none⟩)] #[]]
structure US (w:World) (X G A TK RM PF:Nat) (s:ByteArray) (ps:Array Value) (f:List Int) (room:Bool) (k:Nat) (W:World):Prop where
 rd:Rd W G s k
 le:k<=s.size
 bX:Blk W X 32 (durF (flF f))
 bA:Blk W A 49 #[.pointer (some ⟨G,0,none⟩)]
 bT:Blk W TK 56 (takeC G)
 bR:Blk W RM 4 #[.bool room]
 bP:Blk W PF 62 ps
 kp:Kp (fun b=>b=G\/b=X\/b=RM) w W
section
variable {w W Y:World} {X G A TK RM PF:Nat} {s:ByteArray} {ps:Array Value} {f:List Int} {room:Bool} {k j:Nat}
theorem US.step (h:US w X G A TK RM PF s ps f room k W) (d:DS X G A TK RM PF) (hr:Rd Y G s j) (hj:j<=s.size) (hk:Kp (·=G) W Y):US w X G A TK RM PF s ps f room j Y:=
 ⟨hr,hj,hk.blk h.bX d.xg,hk.blk h.bA d.ag,hk.blk h.bT d.tg,hk.blk h.bR d.rg,hk.blk h.bP d.pg,h.kp.trans (hk.mono fun _ e=> .inl e)⟩
theorem US.bel (h:US w X G A TK RM PF s ps f room k W) (hb:Below W.heap.size W Y):US w X G A TK RM PF s ps f room k Y:=
 ⟨Blk.below h.rd hb h.rd.lt,h.le,h.bX.below hb h.bX.lt,h.bA.below hb h.bA.lt,h.bT.below hb h.bT.lt,h.bR.below hb h.bR.lt,h.bP.below hb h.bP.lt,h.kp.trans (Kp.below hb)⟩
theorem US.drw (h:US w X G A TK RM PF s ps f room k W) (n:Nat):US w X G A TK RM PF s ps f room k (W.drewN n):=⟨h.rd,h.le,h.bX,h.bA,h.bT,h.bR,h.bP,h.kp.trans (Kp.drewN _ _)⟩
theorem US.room_ (h:US w X G A TK RM PF s ps f room k W) (d:DS X G A TK RM PF) (b:Bool):US w X G A TK RM PF s ps f b k (W.setCell ⟨RM,0,none⟩ (.bool b)):=
 ⟨Blk.far h.rd (p:=⟨RM,0,none⟩) d.rg.symm _,h.le,h.bX.far (p:=⟨RM,0,none⟩) d.rx.symm _,h.bA.far (p:=⟨RM,0,none⟩) d.ar _,h.bT.far (p:=⟨RM,0,none⟩) d.tr _,h.bR.set_ 0 _,h.bP.far (p:=⟨RM,0,none⟩) d.pr _,h.kp.set (p:=⟨RM,0,none⟩) (.inr (.inr rfl)) _⟩
theorem US.field (h:US w X G A TK RM PF s ps f room k W) (d:DS X G A TK RM PF) (hj:j<8) (hl:f.length=8) (v:Int):US w X G A TK RM PF s ps (f.set j v) room k (W.setCell ⟨X,j,none⟩ (.int .i64 v)):=
 ⟨Blk.far h.rd (p:=⟨X,j,none⟩) d.xg.symm _,h.le,fl_set h.bX hj hl v,h.bA.far (p:=⟨X,j,none⟩) d.ax _,h.bT.far (p:=⟨X,j,none⟩) d.tx _,h.bR.far (p:=⟨X,j,none⟩) d.rx _,h.bP.far (p:=⟨X,j,none⟩) d.px _,h.kp.set (p:=⟨X,j,none⟩) (.inr (.inl rfl)) _⟩
end
def UP (w:World) (X G A TK RM PF:Nat) (s:ByteArray) (ps:Array Value) (r:Option (UnT×Nat)) (e:Ending) (w':World):Prop:=match r with
 |some x=>e= .returned (.tuple #[.int .i64 x.1.had,.int .i64 x.1.part])/\x.1.f.length=8/\US w X G A TK RM PF s ps x.1.f x.1.room x.2 w'
 |none=>e=badE/\(∃ f,Blk w' X 32 (durF f))/\Kp (fun b=>b=G\/b=X\/b=RM) w w'
theorem UP.fail {w W:World} {X G A TK RM PF:Nat} {s:ByteArray} {ps:Array Value} {f:List Int} {room:Bool} {k:Nat} {r:Option (UnT×Nat)} (hr:r=none) (h:US w X G A TK RM PF s ps f room k W):UP w X G A TK RM PF s ps r badE W:=by
 subst hr;exact ⟨rfl,⟨_,h.bX⟩,h.kp⟩
theorem UP.failk {w W Y:World} {X G A TK RM PF:Nat} {s:ByteArray} {ps:Array Value} {f:List Int} {room:Bool} {k:Nat} {r:Option (UnT×Nat)} (hr:r=none) (h:US w X G A TK RM PF s ps f room k W) (d:DS X G A TK RM PF) (hk:Kp (·=G) W Y):UP w X G A TK RM PF s ps r badE Y:=by
 subst hr;exact ⟨rfl,⟨_,hk.blk h.bX d.xg⟩,h.kp.trans (hk.mono fun _ e=> .inl e)⟩
theorem byte_chk {p:UInt8->Bool} (h:(List.range 256).all (fun n=>p (UInt8.ofNat n))=true) (c:UInt8):p c=true:=by
 rw [List.all_eq_true] at h;have:=h c.toNat (List.mem_range.2 c.toNat_lt)
 rwa [UInt8.ofNat_toNat] at this
theorem not_byte (c:UInt8):bits .andNot .u8 (c.toNat:Int) 32=((c &&& 223).toNat:Int):=by
 have h:=byte_chk (p:=fun c=>bits .andNot .u8 (c.toNat:Int) 32 == ((c &&& 223).toNat:Int)) (by kernel_rfl) c
 exact beq_iff_eq.1 h
structure LetOk (L:ByteArray) (low:List UInt8) (n:Nat):Prop where
 len:L.size=n
 le:n<=4
 lo_:∀ z,Calls prog 28 #[.string L] z fun e w'=>e= .returned (.string ⟨low.toArray⟩)/\Below z.heap.size z w'
 eq:low=L.data.toList.map (·+32)
 no0:(L.data.toList++low).contains 0=false
 wh:∀ c:UInt8,(L.data.toList++low).contains c=true->∃ j,j<n/\L.data.toList.findIdx? (fun d=>d=c\/d+32=c)=some j/\Lib.indexByte L.data.toList (c &&& 223)=(j:Int)
theorem let_of (L:ByteArray) (low:List UInt8) (n:Nat) (h1:L.size=n) (h2:n<=4) (h3:Lib.toLowerA L.data.toList=low) (h4:low=L.data.toList.map (·+32)) (h5:(L.data.toList++low).contains 0=false) (h6:∀ (j:Nat) (b:UInt8),L.data.toList[j]?=some b->b.toNat<128)
  (h7:(List.range 256).all (fun x=>(!(L.data.toList++low).contains (UInt8.ofNat x) || (List.range n).any fun j=>(L.data.toList.findIdx? (fun d=>d=UInt8.ofNat x\/d+32=UInt8.ofNat x) == some j) && (Lib.indexByte L.data.toList (UInt8.ofNat x &&& 223) == (j:Int))))=true):LetOk L low n:=by
 refine ⟨h1,h2,fun z=>?_,h4,h5,fun c hc=>?_⟩
 ·have:=Tryz.strings_ToLower_ascii L z (by omega) h6
  rw [h3] at this;exact this
 ·have h:=byte_chk (p:=fun c=>(!(L.data.toList++low).contains c || (List.range n).any fun j=>(L.data.toList.findIdx? (fun d=>d=c\/d+32=c) == some j) && (Lib.indexByte L.data.toList (c &&& 223) == (j:Int)))) h7 c
  rw [hc] at h;simp only [Bool.not_true,Bool.false_or,List.any_eq_true,List.mem_range,Bool.and_eq_true,beq_iff_eq] at h;obtain ⟨j,hj,ha,hb⟩:=h;exact ⟨j,hj,ha,hb⟩
theorem let_ymwd:LetOk ⟨#[89,77,87,68]⟩ [121,109,119,100] 4:=let_of _ _ _ rfl (by decide) (by decide) (by decide) (by decide) (by
 intro j b h
 match j,h with
 |0,h=>cases h;decide
 |1,h=>cases h;decide
 |2,h=>cases h;decide
 |3,h=>cases h;decide
 |j+4,h=>cases h) (by kernel_rfl)
theorem let_hms:LetOk ⟨#[72,77,83]⟩ [104,109,115] 3:=let_of _ _ _ rfl (by decide) (by decide) (by decide) (by decide) (by
 intro j b h
 match j,h with
 |0,h=>cases h;decide
 |1,h=>cases h;decide
 |2,h=>cases h;decide
 |j+3,h=>cases h) (by kernel_rfl)
end Gr
end
end
end Go.Proofs.YtiiekaehbahenaaGreatDoor
