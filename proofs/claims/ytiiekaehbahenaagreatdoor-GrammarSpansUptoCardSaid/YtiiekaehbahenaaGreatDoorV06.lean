/-
  Contracts of the code that the law reaches, and plain laws. Conditions: as each says.
-/
import Derived.Test.YtiiekaehbahenaaGreatDoorV05
set_option linter.all false
set_option maxHeartbeats 40000000
set_option maxRecDepth 100000
namespace Go.Proofs.YtiiekaehbahenaaGreatDoor
open Lib (hid)
open Tryz
section
namespace Gr
open Go.RowKit Mem Atl
theorem two_bd {l:Txt} {lo hi i:Nat} {x:Nat×Nat} (h:twoA l lo hi i=some x):lo<=x.1/\x.1<=hi:=by
 obtain ⟨y,hy,h⟩:=Option.bind_eq_some_iff.1 h
 split at h
 ·cases h
 ·cases h;omega
theorem two_any (lo hi:Nat) (g:Nat) (s:ByteArray) (k:Nat) (w:World) (h:Rd w g s k) (hk0:k<=s.size) (hs:s.size<=2097152):
  Calls prog 81 #[.pointer (some ⟨g,0,none⟩),.int .i64 lo,.int .i64 hi] w (RP (fun v:Nat=> .int .i64 v) g s w (twoA (tx s) lo hi k)):=by
 have Hn:=hid (digits_any 2 g s k w h hk0 hs (by omega));clear h
 obtain ⟨R,hR⟩:∃ R,twoA (tx s) lo hi k=R:=⟨_,rfl⟩;rw [hR];unfold twoA at hR;go_enter func81,ntmps81
 cases hm:digA (tx s) 2 k with
 |none=>
  rw [hm] at Hn hR;have hR:none=R:=hR;subst hR;clear hm
  go_wp2_with (go_at_call 50;refine Hn.out.mono ?_;rintro e w1 hr;obtain ⟨rfl,hg⟩:=hr.bad;have Hg:=hid hg;clear hr hg)
  exact ⟨rfl,Hg.out,rfl⟩
 |some x=>
  obtain ⟨n,k2⟩:=x;rw [hm] at Hn hR;simp only [Option.bind_some] at hR;clear hm
  cases h1:decide (n<lo)<;>cases h2:decide (hi<n)
  all_goals
   have hc:(n<lo\/hi<n)↔(decide (n<lo) || decide (hi<n))=true:=by simp
   rw [h1,h2] at hc
  ·rw [if_neg (by rw [hc];decide)] at hR
   subst hR;clear hc
   go_wp2_with (go_at_call 50;refine Hn.out.mono ?_;rintro e w1 hr;obtain ⟨rfl,hrd,hks,hg⟩:=hr.ok;have Hg:=hid (And.intro hg hrd);clear hr hg hrd)
   go_ret;exact ⟨Hg.out.1,rfl,Hg.out.2,hks⟩
  all_goals
   rw [if_pos (by rw [hc];rfl)] at hR
   subst hR;clear hc
   go_wp2_with (first
    |(go_at_call 50;refine Hn.out.mono ?_;rintro e w1 hr;obtain ⟨rfl,hrd,hks,hg⟩:=hr.ok;have Hg:=hid (And.intro hg hrd);clear hr hg hrd)
    |(go_at_call 23;refine (wrong_any g _).mono ?_;rintro e w2 ⟨rfl,rfl⟩))
   exact ⟨rfl,Hg.out.1,rfl⟩
theorem c58:(⟨#[58]⟩:ByteArray).data.toList=[58]:=rfl
theorem more_any (long:Bool) (g:Nat) (s:ByteArray) (k:Nat) (w:World) (h:Rd w g s k) (hk0:k<=s.size) (hs:s.size<=2097152):
  Calls prog 90 #[.pointer (some ⟨g,0,none⟩),.bool long] w fun e w'=>
   e= .returned (.bool (moreA (tx s) long k))/\Rd w' g s (if moreA (tx s) long k=true then skipA long k else k)/\(if moreA (tx s) long k=true then skipA long k else k)<=s.size/\Kp (·=g) w w':=by
 go_enter func90,ntmps90;have H:=hid h;clear h
 cases long
 ·have e1:moreA (tx s) false k=dgA (tx s) k:=rfl
  have e2:(if moreA (tx s) false k=true then skipA false k else k)=k:=by unfold skipA;split<;>rfl
  rw [e2,e1];clear e1 e2
  go_wp2_with (go_at_call 26;refine (digit_any g s k _ H.out hk0 hs).mono ?_;rintro e w1 ⟨rfl,q,rfl⟩)
  go_ret;exact ⟨rfl,H.out.drewN _,hk0,kp_drw (Kp.refl _ _) _⟩
 ·have e1:moreA (tx s) true k=oneA (tx s) [58] k:=rfl
  rw [e1]
  have HO:=hid (one_any ⟨#[58]⟩ (by decide) g s k w H.out hk0 hs)
  rw [c58] at HO;clear e1;obtain ⟨b,hb⟩:∃ b,oneA (tx s) [58] k=b:=⟨_,rfl⟩;rw [hb] at HO ⊢;clear hb
  go_wp2_with fail
  go_at_call 17
  refine HO.out.mono ?_
  rintro e w1 ⟨⟨rfl,c,hc,hc0,rfl,hr,hk⟩|⟨rfl,rfl,hr⟩,hg⟩
  ·have HF:=hid (And.intro hr (And.intro hk hg))
   clear hr hk hg hc HO;go_wp2;go_ret;exact ⟨rfl,HF.out⟩
  ·have HF:=hid (And.intro hr hg)
   clear hr hg HO;go_wp2;go_ret;exact ⟨rfl,HF.out⟩
theorem colon (l:Txt) (k:Nat):oneA l [58] k=((byA l k:Int) == 58):=by
 rw [oneA,byA]
 cases l[k]? with
 |none=>rfl
 |some c=>
  simp only [List.contains_cons,List.contains_nil,Bool.or_false];rw [Bool.eq_iff_iff];simp only [beq_iff_eq]
  constructor
  ·rintro rfl;rfl
  ·intro h
   exact UInt8.toNat_inj.1 (by show c.toNat=58;omega)
theorem results_tmp4 {fn:Func} {t u v x:Tmp} (h:fn.results=#[.tmp t,.tmp u,.tmp v,.tmp x]) (tmps:Array Value) (P:Program) (w:World):
  (results fn tmps).run P w= .ok (.tuple #[tmps.getD t undef,tmps.getD u undef,tmps.getD v undef,tmps.getD x undef]) w:=by simp [results,h]
abbrev clkV (v:ClkT):Value:= .tuple #[.int .i64 v.h,.int .i64 v.m,.int .i64 v.s,.int .i64 v.n]
theorem RP.fail {α:Type} {enc:α->Value} {g:Nat} {s:ByteArray} {w w':World} {r:Option (α×Nat)} (h:r=none) (hk:Kp (·=g) w w'):RP enc g s w r badE w':=by subst h;exact ⟨hk,rfl⟩
theorem RP.done {α:Type} {enc:α->Value} {g:Nat} {s:ByteArray} {w w':World} {r:Option (α×Nat)} {v:α} {k:Nat} (h:r=some (v,k)) (hk:Kp (·=g) w w') (hr:Rd w' g s k) (hks:k<=s.size):RP enc g s w r (.returned (enc v)) w':=by subst h;exact ⟨hk,rfl,hr,hks⟩
theorem clock_any (most:Nat) (g:Nat) (s:ByteArray) (k:Nat) (w:World) (h:Rd w g s k) (hk0:k<=s.size) (hs:s.size<=2097152):
  Calls prog 48 #[.pointer (some ⟨g,0,none⟩),.int .i64 most] w (RP clkV g s w (clkA (tx s) most k)):=by
 have HT:=hid (two_any 0 23 g s k w h hk0 hs);clear h;obtain ⟨R,hR⟩:∃ R,clkA (tx s) most k=R:=⟨_,rfl⟩;rw [hR];unfold clkA at hR;have HR:=hid hR;clear hR;go_enter func48,ntmps48
 go_wp2_with fail
 go_at_call 81
 refine HT.out.mono ?_
 rintro e w1 hr
 rcases hr.cases with ⟨hm,rfl,hg⟩|⟨a,k1,hm,rfl,hrd,hk1,hg⟩
 ·refine ⟨rfl,RP.fail (by rw [<-HR.out,hm];rfl) hg⟩
 have hR:=HR.out;rw [hm] at hR;simp only [Option.bind_some] at hR;clear HR HT hm hr;have HR:=hid hR;have H1:=hid hrd;have K1:=hid hg;clear hR hrd hg;have hcol:=colon (tx s) k1;obtain ⟨long,hl⟩:∃ b,oneA (tx s) [58] k1=b:=⟨_,rfl⟩;rw [hl] at HR hcol;have HN:=hid (next_any g s k1 w1 H1.out hk1 hs);obtain ⟨c,hc⟩:∃ c,byA (tx s) k1=c:=⟨_,rfl⟩;rw [hc] at HN hcol;clear hl hc;have hcol2:=hcol.symm;clear hcol
 go_wp2_with fail
 go_at_call 47
 refine HN.out.mono ?_
 rintro e w2 ⟨rfl,q,rfl⟩;have H2:=hid (H1.out.drewN q);have K2:=hid (kp_drw K1.out q);generalize w1.drewN q=W at*;clear H1 K1 HN;have HM:=hid (more_any long g s k1 W H2.out hk1 hs);obtain ⟨b1,hb1⟩:∃ b,moreA (tx s) long k1=b:=⟨_,rfl⟩;have hR:=HR.out;unfold minA at hR;rw [hb1] at HM hR;clear hb1 HR;have HR:=hid hR;clear hR
 cases b1
 ·go_wp2_with (go_at_call 90;refine HM.out.mono ?_;rintro e w3 ⟨rfl,hr,hk,hg⟩;have HF:=hid (And.intro hr (K2.out.trans hg));clear hr hk hg)
  refine bodyPost_ret (results_tmp4 rfl _ _ _) rfl ?_
  exact RP.done (enc:=clkV) (v:=ClkT.mk a 0 0 1) HR.out.symm HF.out.2 HF.out.1 hk1
 have hk2:skipA long k1<=s.size\/True:= .inr trivial
 go_wp2_with fail
 go_at_call 90
 refine HM.out.mono ?_
 rintro e w3 ⟨rfl,hr,hk,hg⟩;simp only [if_true] at hr hk;have H3:=hid hr;have K3:=hid (K2.out.trans hg);clear hr hg HM H2 K2 hk2;have HT:=hid (two_any 0 59 g s _ w3 H3.out hk hs);have hR:=HR.out;simp only [if_true] at hR;clear HR;have HR:=hid hR;clear hR
 go_wp2_with fail
 go_at_call 81
 refine HT.out.mono ?_
 rintro e w4 hr
 rcases hr.cases with ⟨hm,rfl,hg⟩|⟨m,k2,hm,rfl,hrd,hk2,hg⟩
 ·exact ⟨rfl,RP.fail (by rw [<-HR.out,hm];rfl) (K3.out.trans hg)⟩
 have hR:=HR.out;rw [hm] at hR;simp only [Option.bind_some] at hR;have H4:=hid hrd;have K4:=hid (K3.out.trans hg);clear HR HT hm hr hrd hg H3 K3;have HM:=hid (more_any long g s k2 w4 H4.out hk2 hs);obtain ⟨b2,hb2⟩:∃ b,moreA (tx s) long k2=b:=⟨_,rfl⟩;unfold secA at hR;rw [hb2] at HM hR;clear hb2;have HR:=hid hR;clear hR
 cases b2
 ·go_wp2_with (go_at_call 90;refine HM.out.mono ?_;rintro e w5 ⟨rfl,hr,hk,hg⟩;have HF:=hid (And.intro hr (K4.out.trans hg));clear hr hk hg)
  refine bodyPost_ret (results_tmp4 rfl _ _ _) rfl ?_
  exact RP.done (enc:=clkV) (v:=ClkT.mk a m 0 2) HR.out.symm HF.out.2 HF.out.1 hk2
 go_wp2_with fail
 go_at_call 90
 refine HM.out.mono ?_
 rintro e w5 ⟨rfl,hr,hk5,hg⟩;simp only [if_true] at hr hk5;have H5:=hid hr;have K5:=hid (K4.out.trans hg);clear hr hg HM H4 K4;have HT:=hid (two_any 0 most g s _ w5 H5.out hk5 hs);have hR:=HR.out;simp only [if_true] at hR;clear HR;have HR:=hid hR;clear hR
 go_wp2_with fail
 go_at_call 81
 refine HT.out.mono ?_
 rintro e w6 hr
 rcases hr.cases with ⟨hm,rfl,hg⟩|⟨x,k3,hm,rfl,hrd,hk3,hg⟩
 ·exact ⟨rfl,RP.fail (by rw [<-HR.out,hm];rfl) (K5.out.trans hg)⟩
 have hR:=HR.out;rw [hm] at hR;simp only [Option.bind_some] at hR;have HR2:=hid hR;have H6:=hid hrd;have K6:=hid (K5.out.trans hg);clear HR HT hm hr hrd hg H5 K5 hR;go_wp2
 refine bodyPost_ret (results_tmp4 rfl _ _ _) rfl ?_
 exact RP.done (enc:=clkV) (v:=ClkT.mk a m x 3) HR2.out.symm K6.out H6.out hk3
theorem dot_list:(⟨#[46,44]⟩:ByteArray).data.toList=[46,44]:=rfl
theorem dig1 {l:Txt} {k:Nat} (h:dgA l k=true):digA l 1 k=some (byA l k - 48,k+1):=by
 rw [digA,numA,if_pos h,numA,Nat.zero_mul,Nat.zero_add]
theorem dg_lt {s:ByteArray} {k:Nat} (h:dgA (tx s) k=true):k<s.size:=by
 rcases Nat.lt_or_ge k s.size with hlt|hge
 ·exact hlt
 ·rw [dg_end (by omega)] at h;cases h
theorem dg_bd {l:Txt} {k:Nat} (h:dgA l k=true):48<=byA l k/\byA l k<=57:=by
 rw [dgA] at h;rw [byA]
 cases hl:l[k]? with
 |none=>rw [hl] at h;cases h
 |some c=>
  rw [hl] at h;simp only [Bool.and_eq_true,decide_eq_true_eq] at h;simp only;omega
theorem part_any (g:Nat) (s:ByteArray) (k:Nat) (w:World) (h:Rd w g s k) (hk0:k<=s.size) (hs:s.size<=2097152):
  Calls prog 27 #[.pointer (some ⟨g,0,none⟩)] w (RP (fun v:Int=> .int .i64 v) g s w (partA (tx s) k)):=by
 have HO:=hid (one_any ⟨#[46,44]⟩ (by decide) g s k w h hk0 hs);clear h
 rw [dot_list] at HO;obtain ⟨R,hR⟩:∃ R,partA (tx s) k=R:=⟨_,rfl⟩;rw [hR];unfold partA at hR;obtain ⟨o,ho⟩:∃ b,oneA (tx s) [46,44] k=b:=⟨_,rfl⟩;rw [ho] at HO hR;have HR:=hid hR;clear hR ho;go_enter func27,ntmps27
 go_wp2_with fail
 go_at_call 17
 refine HO.out.mono ?_
 rintro e w1 ⟨⟨rfl,c,hc,hc0,rfl,hr,hk⟩|⟨rfl,rfl,hr⟩,hg⟩
 rotate_left
 ·have HF:=hid (And.intro hr hg)
  clear hr hg HO;go_wp2;go_ret;exact RP.done (v:=(-1:Int)) HR.out.symm HF.out.2 HF.out.1 hk0
 have hz:((c:Int) == 0)=false:=by rw [beq_eq_false_iff_ne];omega
 have H:=hid hr;have K:=hid hg;clear HO hc hr hg;obtain ⟨F,hF⟩:∃ F,fraA (tx s) 9 (k+1) 0=F:=⟨_,rfl⟩;have hR:=HR.out;simp only [if_true] at hR;rw [hF] at hR;have HF:=hid hF;clear HR hF;have HR:=hid hR;clear hR
 go_wp2_with fail
 go_loopw [3,4] (fun v i wr=>∃ (j V:Nat),j<=9/\i= .int .i64 j/\v= .int .i64 V/\V<10 ^ j/\fraA (tx s) (9 - j) (k+1+j) V=F/\Rd wr g s (k+1+j)/\k+1+j<=s.size/\Kp (·=g) w wr) (fun _ i _=>9 - (intOf i).toNat)
 case atStart=>exact ⟨0,0,Nat.zero_le _,rfl,rfl,by simp,HF.out,H.out,hk,K.out⟩
 case round=>
  clear HF H K;obtain ⟨j,V,hj,rfl,rfl,hV,hF,hr,hks,hkp⟩:=hrel;have HF:=hid hF;have H:=hid hr;have HK:=hid hkp;have HV:=hid hV
  have hV9:V<1000000000:=Nat.lt_of_lt_of_le hV (Nat.pow_le_pow_right (by omega) (by omega:j<=9))
  clear hF hr hkp hV;have HD:=hid (digit_any g s (k+1+j) wr H.out hks hs)
  cases hd:dgA (tx s) (k+1+j)
  ·rw [hd] at HD
   have hF:F=(V,9 - j,k+1+j):=by
    rw [<-HF.out]
    cases h9:9 - j with
    |zero=>rfl
    |succ m=>rw [fraA,hd];rfl
   subst hF;clear HF;have HR2:=HR.out;simp only [hd] at HR2;have Hd:=hid hd;clear HR hd;have HR:=hid HR2;clear HR2
   have HDA:=hid (show ∀ z,Rd z g s (k+1+j)->Calls prog 26 #[.pointer (some ⟨g,0,none⟩)] z fun e w'=>e= .returned (.bool false)/\∃ n,w'=z.drewN n from fun z hz=>by
    have:=digit_any g s (k+1+j) z hz hks hs;rw [Hd.out] at this
    exact this)
   clear HD
   by_cases h0:j=0
   ·subst h0
    go_wp2_with (first
     |(go_at_call 26;refine (HDA.out _ H.out).mono ?_;rintro e w1 ⟨rfl,q,rfl⟩;have HK:=hid (kp_drw HK.out q);generalize wr.drewN q=W at *)
     |(go_at_call 23;refine (wrong_any g _).mono ?_;rintro e w2 ⟨rfl,rfl⟩))
    exact ⟨rfl,RP.fail (by rw [<-HR.out];rfl) HK.out⟩
   ·have h0b:((j:Int) == 0)=false:=by rw [beq_eq_false_iff_ne];omega
    go_wp2_with (first
     |(go_at_call 26;have tk:=tokA;refine (HDA.out _ H.out).mono ?_;rintro e w1 ⟨rfl,q,rfl⟩;have HK:=hid (kp_drw HK.out q);have H:=hid (H.out.drewN q);generalize World.drewN _ q=W2 at *)
     |(go_at_call 26;refine (HDA.out _ H.out).mono ?_;rintro e w1 ⟨rfl,q,rfl⟩;have HK:=hid (kp_drw HK.out q);have H:=hid (H.out.drewN q);generalize wr.drewN q=W at *;have tokA:True:=trivial))
    go_loop [3,4] (fun v i=>∃ (t U:Nat),j<=t/\t<=9/\i= .int .i64 t/\v= .int .i64 U/\U<10 ^ t/\U*10 ^ (9 - t)=V*10 ^ (9 - j)) (fun _ i=>9 - (intOf i).toNat)
    case atStart=>exact ⟨j,V,Nat.le_refl _,hj,rfl,rfl,HV.out,rfl⟩
    case round=>
     obtain ⟨t,U,ht,ht9,rfl,rfl,hU,hE⟩:=hrel;have HU:=hid hU;have HE:=hid hE
     have hU9:U<1000000000:=Nat.lt_of_lt_of_le hU (Nat.pow_le_pow_right (by omega) (by omega:t<=9))
     clear hU hE
     by_cases ht9:t<9
     ·go_wp2
      go_round
      case rel=>exact ⟨t+1,U*10,by omega,by omega,by go_num,by go_num,by rw [Nat.pow_succ];have:=HU.out;omega,by rw [<-HE.out,show 9 - t=(9 - (t+1))+1 from by omega,Nat.pow_succ,Nat.mul_assoc,Nat.mul_comm 10]⟩
      case measure=>simp [intOf];omega
     ·obtain rfl:t=9:=by omega
      go_wp2;go_ret;have e:=HR.out
      rw [if_neg (by simp;omega)] at e
      have e2:=HE.out;rw [Nat.sub_self,Nat.pow_zero,Nat.mul_one] at e2;rw [<-e2] at e;exact RP.done (v:=((U:Nat):Int)) e.symm HK.out H.out hks
  ·have HDA:=hid (show ∀ z,Rd z g s (k+1+j)->Calls prog 26 #[.pointer (some ⟨g,0,none⟩)] z fun e w'=>e= .returned (.bool true)/\∃ n,w'=z.drewN n from fun z hz=>by
    have:=digit_any g s (k+1+j) z hz hks hs;rw [hd] at this
    exact this)
   clear HD;have hlt:=dg_lt hd;obtain ⟨hb1,hb2⟩:=dg_bd hd
   by_cases h9:j<9
   ·have HG:=hid (show ∀ z,Rd z g s (k+1+j)->Calls prog 50 #[.pointer (some ⟨g,0,none⟩),.int .i64 1] z fun e w'=>e= .returned (.int .i64 ((byA (tx s) (k+1+j) - 48:Nat):Int))/\Rd w' g s (k+1+j+1)/\Kp (·=g) z w' from fun z hz=>(digits_any 1 g s (k+1+j) z hz hks hs (by omega)).mono fun e w' hr=>by
     rw [dig1 hd] at hr;obtain ⟨h1,h2,_,h4⟩:=hr.ok
     exact ⟨h1,h2,h4⟩)
    have hF:=HF.out
    rw [show 9 - j=(9 - (j+1))+1 from by omega,fraA,if_pos hd] at hF
    obtain ⟨d,hdd⟩:∃ d,byA (tx s) (k+1+j) - 48=d:=⟨_,rfl⟩
    have hd9:d<=9:=by omega
    rw [hdd] at HG hF;clear HF hd hdd hb1 hb2;have HF:=hid hF;clear hF
    go_wp2_with (first
     |(go_at_call 26;refine (HDA.out _ H.out).mono ?_;rintro e w1 ⟨rfl,q,rfl⟩;have HK:=hid (kp_drw HK.out q);have H:=hid (H.out.drewN q);generalize wr.drewN q=W at *)
     |(go_at_call 50;refine (HG.out _ H.out).mono ?_;rintro e w1 ⟨rfl,hr,hg⟩;have HK:=hid (HK.out.trans hg);have H:=hid hr;clear hr hg))
    refine ⟨⟨j+1,V*10+d,by omega,by go_num,by go_num,by rw [Nat.pow_succ];have:=HV.out;omega,HF.out,H.out,by omega,HK.out⟩,by simp [intOf];omega⟩
   ·obtain rfl:j=9:=by omega
    have hF:=HF.out;rw [Nat.sub_self,fraA] at hF;subst hF;have e:=HR.out;rw [if_pos (.inr hd)] at e;subst e;clear HR HF hd hb1 hb2
    go_wp2_with (first
     |(go_at_call 26;have tk:=tokA;refine (HDA.out _ H.out).mono ?_;rintro e w1 ⟨rfl,q,rfl⟩;have HK:=hid (kp_drw HK.out q);have H:=hid (H.out.drewN q);generalize World.drewN _ q=W2 at *)
     |(go_at_call 26;refine (HDA.out _ H.out).mono ?_;rintro e w1 ⟨rfl,q,rfl⟩;have HK:=hid (kp_drw HK.out q);have H:=hid (H.out.drewN q);generalize wr.drewN q=W at *;have tokA:True:=trivial)
     |(go_at_call 23;refine (wrong_any g _).mono ?_;rintro e w2 ⟨rfl,rfl⟩))
    exact ⟨rfl,HK.out,rfl⟩
end Gr
end
end Go.Proofs.YtiiekaehbahenaaGreatDoor
