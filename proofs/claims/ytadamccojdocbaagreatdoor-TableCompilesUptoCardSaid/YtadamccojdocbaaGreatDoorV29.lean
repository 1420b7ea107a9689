/-
  Contracts of the code that the law reaches, and plain laws. Conditions: as each says.
-/
import Derived.Test.YtadamccojdocbaaGreatDoorV28
import Derived.Test.YtadamccojdocbaaGreatDoorV27
set_option linter.all false
set_option maxHeartbeats 40000000
set_option maxRecDepth 100000
namespace Go.Proofs.YtadamccojdocbaaGreatDoor
open Lib (hid)
open Tryz
section
section
namespace D10
open Go.RowKit Mem Civ Mom Img Plc Rul Src
theorem eraB_bad {x:Era} (h:x.off<=-86400\/86400<=x.off\/43200<x.save\/x.save< -43200\/formatB x.format.data.toList=false\/x.kind<0\/2<x.kind\/(x.kind≠1/\x.save≠0)\/(x.kind≠2/\x.rules.toList.isEmpty=false)\/(x.kind=2/\setB x.rules=false)):eraB x=false:=by
 cases he:eraB x
 ·rfl
 ·exfalso
  unfold eraB at he;simp only [Bool.and_eq_true] at he;obtain ⟨⟨h1,h2⟩,h3,_⟩:=he;unfold Rgt.dayB at h1;simp only [Bool.and_eq_true,decide_eq_true_eq] at h1;unfold kindB savingB at h3
  rcases h with h|h|h|h|h|h|h|⟨h,h'⟩|⟨h,h'⟩|⟨h,h'⟩
  ·omega
  ·omega
  ·split at h3
   ·simp at h3;omega
   ·split at h3
    ·simp at h3;omega
    ·split at h3
     ·simp at h3;omega
     ·cases h3
  ·split at h3
   ·simp at h3;omega
   ·split at h3
    ·simp at h3;omega
    ·split at h3
     ·simp at h3;omega
     ·cases h3
  ·rw [h2] at h;cases h
  ·rw [if_neg (by omega),if_neg (by omega),if_neg (by omega)] at h3;cases h3
  ·rw [if_neg (by omega),if_neg (by omega),if_neg (by omega)] at h3;cases h3
  ·rw [if_neg h] at h3
   split at h3
   ·simp at h3;omega
   ·split at h3
    ·simp at h3;omega
    ·cases h3
  ·rw [h',Bool.and_false,Bool.and_false,if_neg h] at h3
   split at h3
   ·cases h3
   ·split at h3<;>cases h3
  ·rw [h',Bool.and_false,if_neg (by omega),if_neg (by omega),if_pos h] at h3;cases h3
theorem eraB_good {x:Era} (h1: -86400<x.off) (h2:x.off<86400) (h3:x.save<=43200) (h4: -43200<=x.save) (h5:formatB x.format.data.toList=true)
  (h6:(x.kind=0/\x.save=0/\x.rules.toList.isEmpty=true)\/(x.kind=1/\x.rules.toList.isEmpty=true)\/(x.kind=2/\x.save=0/\setB x.rules=true)):eraB x=tillB x:=by
 have hd:Rgt.dayB x.off=true:=by unfold Rgt.dayB;rw [decide_eq_true h1,decide_eq_true h2];rfl
 have hk:kindB x=true:=by
  unfold kindB
  rcases h6 with ⟨a,b,c⟩|⟨a,c⟩|⟨a,b,c⟩
  ·rw [if_pos a,b,c];rfl
  ·rw [if_neg (by omega),if_pos a,c]
   unfold savingB;rw [decide_eq_true h4,decide_eq_true h3];rfl
  ·rw [if_neg (by omega),if_neg (by omega),if_pos a,b,c];rfl
 unfold eraB;rw [hd,h5,hk];rfl
theorem till_no {x:Era} (h:x.till=true) (h1:x.year<1\/9999<x.year\/spotB x.spot=false):tillB x=false:=by
 unfold tillB yearB;rw [if_pos h]
 rcases h1 with h1|h1|h1
 ·rw [decide_eq_false (by omega:¬ (1<=x.year))];rfl
 ·rw [decide_eq_false (by omega:¬ (x.year<=9999)),Bool.and_false];rfl
 ·rw [h1,Bool.and_false]
theorem till_yes {x:Era} (h:x.till=true) (h1:1<=x.year) (h2:x.year<=9999) (h3:spotB x.spot=true):tillB x=true:=by
 unfold tillB yearB;rw [if_pos h,decide_eq_true h1,decide_eq_true h2,h3];rfl
theorem still_is {x:Era} (h:x.till=false):tillB x=(decide (x.year=0) && decide (x.spot=⟨0,0,0,0,0,0⟩)):=by
 unfold tillB
 rw [if_neg (by rw [h];decide)]
theorem era_any (x:Era) (w:World) (h1:x.rules.size<=2097152) (h2:x.format.size<=2097152):
  Calls prog 210 #[.agg x.cells.toArray] w fun e w'=>e= .returned (.bool (eraB x))/\Below w.heap.size w w':=by
 have hone:=One.new w 84 x.cells.toArray
 have Hs:=hid (fun z=>R10.set_any x.rules z (by omega))
 have Hf:=hid (fun z=>R10.format_any x.format z (by omega))
 have Hp:=hid (fun z=>R09.right_any x.spot z);have heq:=fun z=>eq_spot x.spot ⟨0,0,0,0,0,0⟩ z;have hbad:=@eraB_bad x;have hgood:=@eraB_good x;have hno:=@till_no x;have hyes:=@till_yes x;have hstill:=@still_is x;clear h1 h2;obtain ⟨R,hR⟩:∃ R,eraB x=R:=⟨_,rfl⟩;rw [hR] at hbad hgood ⊢;clear hR;generalize tillB x=tb at*;obtain ⟨x0,x1,x2,x3,x4,x5,x6,⟨y0,y1,y2,y3,y4,y5⟩⟩:=x;simp only [Era.cells,Spot.cells] at hone Hs Hf Hp heq hbad hgood hno hyes hstill ⊢;generalize setB x3=b3 at*;generalize formatB x4.data.toList=b4 at*;generalize spotB ⟨y0,y1,y2,y3,y4,y5⟩=b7 at*;generalize decide ((⟨y0,y1,y2,y3,y4,y5⟩:Spot)=⟨0,0,0,0,0,0⟩)=b8 at*
 have e6:(x6 == 0)=decide (x6=0):=by rw [Bool.eq_iff_iff];simp
 generalize decide (x6=0)=b5 at*;obtain ⟨W,hW⟩:∃ W,w.alloc (.cells #[.int .i64 x0,.int .i64 x1,.int .i64 x2,.string x3,.string x4,.bool x5,.int .i64 x6,.int .i64 y0,.int .i64 y1,.int .i64 y2,.int .i64 y3,.int .i64 y4,.int .i64 y5] 84)=W:=⟨_,rfl⟩;rw [hW] at hone;have HO:=hid hone;have HBad:=hid hbad;have HGood:=hid hgood;have HNo:=hid hno;have HYes:=hid hyes;have HStill:=hid hstill;have c0:=hone.1.cell;clear hone hbad hgood hno hyes hstill;go_enter func210,ntmps210
 by_cases k0:x0<=-86400
 have kb0:decide (x0<=-86400)=true:=decide_eq_true k0;have hr:R=false:=HBad.out (.inl (k0));subst hr;clear HBad HGood HNo HYes HStill
 rotate_left
 have kb0:decide (x0<=-86400)=false:=decide_eq_false k0
 by_cases k1:86400<=x0
 have kb1:decide (86400<=x0)=true:=decide_eq_true k1;have hr:R=false:=HBad.out (.inr (.inl (k1)));subst hr;clear HBad HGood HNo HYes HStill
 rotate_left
 have kb1:decide (86400<=x0)=false:=decide_eq_false k1
 by_cases k2:43200<x2
 have kb2:decide (43200<x2)=true:=decide_eq_true k2;have hr:R=false:=HBad.out (.inr (.inr (.inl (k2))));subst hr;clear HBad HGood HNo HYes HStill
 rotate_left
 have kb2:decide (43200<x2)=false:=decide_eq_false k2
 by_cases k3:x2< -43200
 have kb3:decide (x2< -43200)=true:=decide_eq_true k3;have hr:R=false:=HBad.out (.inr (.inr (.inr (.inl (k3)))));subst hr;clear HBad HGood HNo HYes HStill
 rotate_left
 have kb3:decide (x2< -43200)=false:=decide_eq_false k3
 cases b4
 have hr:R=false:=HBad.out (.inr (.inr (.inr (.inr (.inl (rfl))))));subst hr;clear HBad HGood HNo HYes HStill
 rotate_left
 rcases (by omega:x1<0\/2<x1\/x1=0\/x1=1\/x1=2) with n1|n1|rfl|rfl|rfl
 have nb:decide (x1<0)=true:=decide_eq_true n1;have hr:R=false:=HBad.out (.inr (.inr (.inr (.inr (.inr (.inl (n1)))))));subst hr;clear HBad HGood HNo HYes HStill
 rotate_left
 have nb:decide (x1<0)=false:=decide_eq_false (by omega)
 have nb2:decide (2<x1)=true:=decide_eq_true n1;have hr:R=false:=HBad.out (.inr (.inr (.inr (.inr (.inr (.inr (.inl (n1))))))));subst hr;clear HBad HGood HNo HYes HStill
 rotate_left
 by_cases hs:x2=0
 subst hs
 cases hr3:x3.toList.isEmpty
 have hr:R=false:=HBad.out (.inr (.inr (.inr (.inr (.inr (.inr (.inr (.inr (.inl (⟨by decide,hr3⟩))))))))))
 subst hr;clear HBad HGood HNo HYes HStill
 rotate_left
 have hr:R=tb:=HGood.out (by omega) (by omega) (by omega) (by omega) rfl (.inl ⟨rfl,rfl,hr3⟩)
 subst hr
 cases x5
 have ht:=HStill.out rfl;subst ht
 cases b5
 clear HBad HGood HNo HYes HStill
 rotate_left
 clear HBad HGood HNo HYes HStill
 rotate_left
 by_cases j1:1<=x6
 have jb:decide (1<=x6)=true:=decide_eq_true j1
 by_cases j2:x6<=9999
 have jb2:decide (x6<=9999)=true:=decide_eq_true j2
 cases b7
 have ht:=HNo.out rfl (.inr (.inr rfl));subst ht;clear HBad HGood HNo HYes HStill
 rotate_left
 have ht:=HYes.out rfl j1 j2 rfl;subst ht;clear HBad HGood HNo HYes HStill
 rotate_left
 have jb2:decide (x6<=9999)=false:=decide_eq_false j2
 have ht:=HNo.out rfl (.inr (.inl (by omega)))
 subst ht;clear HBad HGood HNo HYes HStill
 rotate_left
 have jb:decide (1<=x6)=false:=decide_eq_false j1
 have ht:=HNo.out rfl (.inl (by omega))
 subst ht;clear HBad HGood HNo HYes HStill
 rotate_left
 have hs2:(x2 != 0)=true:=by simpa using hs
 have hr:R=false:=HBad.out (.inr (.inr (.inr (.inr (.inr (.inr (.inr (.inl (⟨by decide,hs⟩)))))))))
 subst hr;clear HBad HGood HNo HYes HStill
 rotate_left
 cases hr3:x3.toList.isEmpty
 have hr:R=false:=HBad.out (.inr (.inr (.inr (.inr (.inr (.inr (.inr (.inr (.inl (⟨by decide,hr3⟩))))))))))
 subst hr;clear HBad HGood HNo HYes HStill
 rotate_left
 have hr:R=tb:=HGood.out (by omega) (by omega) (by omega) (by omega) rfl (.inr (.inl ⟨rfl,hr3⟩))
 subst hr
 cases x5
 have ht:=HStill.out rfl;subst ht
 cases b5
 clear HBad HGood HNo HYes HStill
 rotate_left
 clear HBad HGood HNo HYes HStill
 rotate_left
 by_cases j1:1<=x6
 have jb:decide (1<=x6)=true:=decide_eq_true j1
 by_cases j2:x6<=9999
 have jb2:decide (x6<=9999)=true:=decide_eq_true j2
 cases b7
 have ht:=HNo.out rfl (.inr (.inr rfl));subst ht;clear HBad HGood HNo HYes HStill
 rotate_left
 have ht:=HYes.out rfl j1 j2 rfl;subst ht;clear HBad HGood HNo HYes HStill
 rotate_left
 have jb2:decide (x6<=9999)=false:=decide_eq_false j2
 have ht:=HNo.out rfl (.inr (.inl (by omega)))
 subst ht;clear HBad HGood HNo HYes HStill
 rotate_left
 have jb:decide (1<=x6)=false:=decide_eq_false j1
 have ht:=HNo.out rfl (.inl (by omega))
 subst ht;clear HBad HGood HNo HYes HStill
 rotate_left
 by_cases hs:x2=0
 subst hs
 cases b3
 have hr:R=false:=HBad.out (.inr (.inr (.inr (.inr (.inr (.inr (.inr (.inr (.inr (⟨rfl,rfl⟩))))))))));subst hr;clear HBad HGood HNo HYes HStill
 rotate_left
 have hr:R=tb:=HGood.out (by omega) (by omega) (by omega) (by omega) rfl (.inr (.inr ⟨rfl,rfl,rfl⟩))
 subst hr
 cases x5
 have ht:=HStill.out rfl;subst ht
 cases b5
 clear HBad HGood HNo HYes HStill
 rotate_left
 clear HBad HGood HNo HYes HStill
 rotate_left
 by_cases j1:1<=x6
 have jb:decide (1<=x6)=true:=decide_eq_true j1
 by_cases j2:x6<=9999
 have jb2:decide (x6<=9999)=true:=decide_eq_true j2
 cases b7
 have ht:=HNo.out rfl (.inr (.inr rfl));subst ht;clear HBad HGood HNo HYes HStill
 rotate_left
 have ht:=HYes.out rfl j1 j2 rfl;subst ht;clear HBad HGood HNo HYes HStill
 rotate_left
 have jb2:decide (x6<=9999)=false:=decide_eq_false j2
 have ht:=HNo.out rfl (.inr (.inl (by omega)))
 subst ht;clear HBad HGood HNo HYes HStill
 rotate_left
 have jb:decide (1<=x6)=false:=decide_eq_false j1
 have ht:=HNo.out rfl (.inl (by omega))
 subst ht;clear HBad HGood HNo HYes HStill
 rotate_left
 have hs2:(x2 != 0)=true:=by simpa using hs
 have hr:R=false:=HBad.out (.inr (.inr (.inr (.inr (.inr (.inr (.inr (.inl (⟨by decide,hs⟩)))))))))
 subst hr;clear HBad HGood HNo HYes HStill
 rotate_left
 all_goals
  go_wp2_with (first
   |(go_at_call 60;refine (Hf.out _).mono ?_;rintro e w1 ⟨rfl,rfl⟩)
   |(go_at_call 62;refine (Hs.out _).mono ?_;rintro e w1 ⟨rfl,rfl⟩)
   |(go_at_call 121;refine (Hp.out _).mono ?_;rintro e w2 ⟨rfl,hw⟩;have HB2:=hid (HO.out.step (below_of_eq hw));clear hw))
  first
   |(go_ret;exact ⟨rfl,HB2.out.2⟩)
   |(go_ret;exact ⟨rfl,HO.out.2⟩)
end D10
namespace D10
open Go.RowKit Mem Civ Mom Img Plc Rul Src
theorem ruleR_bad {r:Rule} (h:r.lo<1\/9999<r.lo\/r.hi<1\/(9999<r.hi/\r.hi≠1000000)\/spotB (spotOf r)=false\/43200<r.save\/r.save< -43200\/setB r.name=false\/r.letter.toList=[45]\/(r.letter.toList≠[]/\madeB r.letter.data.toList 8 [43,45]=false)):ruleR r=false:=by
 cases he:ruleR r
 ·rfl
 ·exfalso
  unfold ruleR yearB savingB letterB at he;simp only [Bool.and_eq_true,Bool.or_eq_true,decide_eq_true_eq,Bool.not_eq_true',decide_eq_false_iff_not] at he;obtain ⟨h1,⟨h2,h3⟩,h4,h5,⟨h6,h7⟩,h8⟩:=he
  rcases h with h|h|h|⟨h,h'⟩|h|h|h|h|h|⟨h,h'⟩
  ·omega
  ·omega
  ·omega
  ·omega
  ·rw [h5] at h;cases h
  ·omega
  ·omega
  ·rw [h1] at h;cases h
  ·rcases h8 with h8|⟨h8,_⟩
   ·rw [h] at h8;cases h8
   ·exact h8 h
  ·rcases h8 with h8|⟨_,h8⟩
   ·exact h h8
   ·rw [h8] at h';cases h'
theorem ruleR_good {r:Rule} (h1:1<=r.lo) (h2:r.lo<=9999) (h3:1<=r.hi) (h4:r.hi<=9999\/r.hi=1000000) (h5:spotB (spotOf r)=true) (h6:r.save<=43200) (h7: -43200<=r.save) (h8:setB r.name=true)
  (h9:r.letter.toList=[]\/(r.letter.toList≠[45]/\madeB r.letter.data.toList 8 [43,45]=true)):ruleR r=true:=by
 unfold ruleR yearB savingB letterB;simp only [Bool.and_eq_true,Bool.or_eq_true,decide_eq_true_eq,Bool.not_eq_true',decide_eq_false_iff_not]
 refine ⟨h8,⟨h1,h2⟩,?_,h5,⟨h7,h6⟩,h9⟩
 omega
theorem eras_step {es:List Era} {j:Nat} (hj:j<es.length) (h:erasOk es j=true):erasOk es (j+1)=(eraB es[j] && (es[j].till == decide (((j:Nat):Int)<(es.length:Int) - 1))):=by
 rw [erasOk,h,List.getElem?_eq_getElem hj]
 rfl
theorem all_stop {α:Type} {p:α->Bool} {l:List α} {k:Nat} (hk:k<l.length) (h:p l[k]=false):l.all p=false:=Src.all_no p l k hk h
theorem bounded_any (s:Src) (A A2 A3:Option Addr) (c c2 c3:Nat) (w:World) (h:SrcOk s A A2 A3 w):
  Calls prog 156 #[.agg #[.slice A s.rules.length c,.slice A2 s.zones.length c2,.slice A3 s.links.length c3]] w fun e w'=>e= .returned (.bool (srcB s))/\Below w.heap.size w w':=by
 have hone:=One.new w 26 #[.slice A s.rules.length c,.slice A2 s.zones.length c2,.slice A3 s.links.length c3];have hrr:=h.rr;have hrz:=h.rz;have hrl:=h.rl;have hre:=h.re;have nr:=h.nr;have nz:=h.nz;have nl:=h.nl;have ne:=h.ne;have tr:=h.tr;have tz:=h.tz;have te:=h.te;have tl:=h.tl;clear h;obtain ⟨Q,hQ⟩:∃ Q,srcB s=Q:=⟨_,rfl⟩;rw [hQ];unfold srcB at hQ;obtain ⟨rs,zs,ls⟩:=s;simp only at hone hrr hrz hrl hre nr nz nl ne tr tz te tl hQ ⊢;obtain ⟨W,hW⟩:∃ W,w.alloc (.cells #[.slice A rs.length c,.slice A2 zs.length c2,.slice A3 ls.length c3] 26)=W:=⟨_,rfl⟩;rw [hW] at hone;have HO:=hid hone;have HR:=hid hrr;have HZ:=hid hrz;have HL:=hid hrl;have HE:=hid hre;have HTr:=hid tr;have HTz:=hid tz;have HTe:=hid te;have HTl:=hid tl;have HNe:=hid ne;have c0:=hone.1.cell;clear hone hrr hrz hrl hre tr tz te tl ne;go_enter func156,ntmps156
 by_cases brs:200<rs.length
 ·have bbrs:decide ((200:Int)<(rs.length:Nat))=true:=decide_eq_true (by omega)
  have hq:Q=false:=by rw [<-hQ,decide_eq_true brs];simp
  subst hq;go_wp2;go_ret;exact ⟨rfl,HO.out.2⟩
 have bbrs:decide ((200:Int)<(rs.length:Nat))=false:=decide_eq_false (by omega)
 by_cases bzs:50<zs.length
 ·have bbzs:decide ((50:Int)<(zs.length:Nat))=true:=decide_eq_true (by omega)
  have hq:Q=false:=by rw [<-hQ,decide_eq_true bzs];simp
  subst hq;go_wp2;go_ret;exact ⟨rfl,HO.out.2⟩
 have bbzs:decide ((50:Int)<(zs.length:Nat))=false:=decide_eq_false (by omega)
 by_cases bls:100<ls.length
 ·have bbls:decide ((100:Int)<(ls.length:Nat))=true:=decide_eq_true (by omega)
  have hq:Q=false:=by rw [<-hQ,decide_eq_true bls];simp
  subst hq;go_wp2;go_ret;exact ⟨rfl,HO.out.2⟩
 have bbls:decide ((100:Int)<(ls.length:Nat))=false:=decide_eq_false (by omega)
 rw [decide_eq_false brs,decide_eq_false bzs,decide_eq_false bls] at hQ
 have hQ2:(rs.all ruleR && (zs.all zoneB && ls.all linkB))=Q:=by rw [<-hQ];rfl
 have HQ:=hid hQ2;clear hQ hQ2;go_wp2;clear c0 bbrs bbzs bbls
 go_loopw [3] (fun i wr=>∃ k:Nat,k<=rs.length/\i= .int .i64 k/\(rs.take k).all ruleR=true/\One w w.heap.size 26 #[.slice A rs.length c,.slice A2 zs.length c2,.slice A3 ls.length c3] wr) (fun i _=>rs.length - (intOf i).toNat)
 case atStart=>exact ⟨0,Nat.zero_le _,rfl,rfl,HO.out⟩
 case round=>
  clear HO;obtain ⟨k,hk,rfl,hall,ho⟩:=hrel;have HO:=hid ho;have Hall:=hid hall;have c0:=ho.1.cell;clear ho hall
  by_cases hkn:k<rs.length
  ·obtain ⟨ad,hA,hadb,a0,a1,a2,a3,a4,a5,a6,a7,a8,a9,a10⟩:=rule_cells (HR.out.below HO.out.2) hkn
   subst hA
   have hst:ruleR rs[k]=true->(rs.take (k+1)).all ruleR=true:=fun h=>by rw [all_step _ _ _ hkn Hall.out];exact h
   have hno:ruleR rs[k]=false->Q=false:=fun h=>by rw [<-HQ.out,all_stop hkn h];rfl
   have HNo:=hid (fun h=>hno (ruleR_bad h));have hgd:=@ruleR_good rs[k];have HGood:=hid (fun h1 h2 h3 h4 h5 h6 h7 h8 h9=>hst (hgd h1 h2 h3 h4 h5 h6 h7 h8 h9));obtain ⟨t1,t2⟩:=HTr.out rs[k] (List.getElem_mem hkn)
   have Hs:=hid (fun z=>R10.set_any rs[k].name z (by omega))
   have Hl:=hid (fun z=>R10.letters_any rs[k].letter z (by omega))
   have Hp:=hid (fun z=>R09.right_any (spotOf rs[k]) z);clear hst hno Hall t1 t2 hgd;generalize rs[k]=r at*;obtain ⟨r0,r1,r2,r3,r4,r5,r6,r7,r8,r9,r10⟩:=r;simp only [spotOf,Spot.cells] at a0 a1 a2 a3 a4 a5 a6 a7 a8 a9 a10 HNo HGood Hs Hl Hp;generalize setB r0=b1 at*;generalize spotB ⟨r3,r4,r5,r6,r7,r8⟩=b5 at*;generalize madeB r10.data.toList 8 [43,45]=b9 at*;have hxb:=Blk.new wr 69 #[.string r0,.int .i64 r1,.int .i64 r2,.int .i64 r3,.int .i64 r4,.int .i64 r5,.int .i64 r6,.int .i64 r7,.int .i64 r8,.int .i64 r9,.string r10];have HX:=hid hxb;have HOx:=hid (HO.out.step ((Below.refl _ _).alloc (Nat.le_refl _) (.cells #[.string r0,.int .i64 r1,.int .i64 r2,.int .i64 r3,.int .i64 r4,.int .i64 r5,.int .i64 r6,.int .i64 r7,.int .i64 r8,.int .i64 r9,.string r10] 69)));clear hxb
   by_cases k0:r1<1
   have k0b:decide (r1<1)=true:=decide_eq_true k0;have hr:Q=false:=HNo.out (.inl (k0));subst hr;clear HNo HGood HQ
   rotate_left
   have k0b:decide (r1<1)=false:=decide_eq_false k0
   by_cases k1:9999<r1
   have k1b:decide (9999<r1)=true:=decide_eq_true k1;have hr:Q=false:=HNo.out (.inr (.inl (k1)));subst hr;clear HNo HGood HQ
   rotate_left
   have k1b:decide (9999<r1)=false:=decide_eq_false k1
   by_cases k2:r2<1
   have k2b:decide (r2<1)=true:=decide_eq_true k2;have hr:Q=false:=HNo.out (.inr (.inr (.inl (k2))));subst hr;clear HNo HGood HQ
   rotate_left
   have k2b:decide (r2<1)=false:=decide_eq_false k2
   by_cases k3:9999<r2
   have k3b:decide (9999<r2)=true:=decide_eq_true k3
   by_cases k4:r2=1000000
   subst k4
   cases b5
   have hr:Q=false:=HNo.out (.inr (.inr (.inr (.inr (.inl (rfl))))));subst hr;clear HNo HGood HQ
   rotate_left
   by_cases k5:43200<r9
   have k5b:decide (43200<r9)=true:=decide_eq_true k5;have hr:Q=false:=HNo.out (.inr (.inr (.inr (.inr (.inr (.inl (k5)))))));subst hr;clear HNo HGood HQ
   rotate_left
   have k5b:decide (43200<r9)=false:=decide_eq_false k5
   by_cases k6:r9< -43200
   have k6b:decide (r9< -43200)=true:=decide_eq_true k6;have hr:Q=false:=HNo.out (.inr (.inr (.inr (.inr (.inr (.inr (.inl (k6))))))));subst hr;clear HNo HGood HQ
   rotate_left
   have k6b:decide (r9< -43200)=false:=decide_eq_false k6
   cases b1
   have hr:Q=false:=HNo.out (.inr (.inr (.inr (.inr (.inr (.inr (.inr (.inl (rfl)))))))));subst hr;clear HNo HGood HQ
   rotate_left
   by_cases hl2:r10.toList=[45]
   have hl2b:(r10.toList == [45])=true:=by simpa using hl2
   have hl1b:r10.toList.isEmpty=false:=by rw [hl2];rfl
   have hr:Q=false:=HNo.out (.inr (.inr (.inr (.inr (.inr (.inr (.inr (.inr (.inl (hl2))))))))));subst hr;clear HNo HGood HQ
   rotate_left
   have hl2b:(r10.toList == [45])=false:=by simpa using hl2
   by_cases hl1:r10.toList=[]
   have hl1b:r10.toList.isEmpty=true:=by rw [hl1];rfl
   have hg:=HGood.out (by omega) (by omega) (by omega) (.inr rfl) rfl (by omega) (by omega) rfl (.inl hl1)
   have HG:=hid hg;clear HNo HGood hg hl1 hl2
   rotate_left
   have hl1b:r10.toList.isEmpty=false:=by cases hh:r10.toList with|nil=>exact absurd hh hl1|cons a t=>rfl
   cases b9
   have hr:Q=false:=HNo.out (.inr (.inr (.inr (.inr (.inr (.inr (.inr (.inr (.inr (⟨hl1,rfl⟩))))))))));subst hr;clear HNo HGood HQ
   rotate_left
   have hg:=HGood.out (by omega) (by omega) (by omega) (.inr rfl) rfl (by omega) (by omega) rfl (.inr ⟨hl2,rfl⟩)
   have HG:=hid hg;clear HNo HGood hg hl1 hl2
   rotate_left
   have k4b:(r2 != 1000000)=true:=by simpa using k4
   have hr:Q=false:=HNo.out (.inr (.inr (.inr (.inl (⟨k3,k4⟩)))));subst hr;clear HNo HGood HQ
   rotate_left
   have k3b:decide (9999<r2)=false:=decide_eq_false k3
   cases b5
   have hr:Q=false:=HNo.out (.inr (.inr (.inr (.inr (.inl (rfl))))));subst hr;clear HNo HGood HQ
   rotate_left
   by_cases k5:43200<r9
   have k5b:decide (43200<r9)=true:=decide_eq_true k5;have hr:Q=false:=HNo.out (.inr (.inr (.inr (.inr (.inr (.inl (k5)))))));subst hr;clear HNo HGood HQ
   rotate_left
   have k5b:decide (43200<r9)=false:=decide_eq_false k5
   by_cases k6:r9< -43200
   have k6b:decide (r9< -43200)=true:=decide_eq_true k6;have hr:Q=false:=HNo.out (.inr (.inr (.inr (.inr (.inr (.inr (.inl (k6))))))));subst hr;clear HNo HGood HQ
   rotate_left
   have k6b:decide (r9< -43200)=false:=decide_eq_false k6
   cases b1
   have hr:Q=false:=HNo.out (.inr (.inr (.inr (.inr (.inr (.inr (.inr (.inl (rfl)))))))));subst hr;clear HNo HGood HQ
   rotate_left
   by_cases hl2:r10.toList=[45]
   have hl2b:(r10.toList == [45])=true:=by simpa using hl2
   have hl1b:r10.toList.isEmpty=false:=by rw [hl2];rfl
   have hr:Q=false:=HNo.out (.inr (.inr (.inr (.inr (.inr (.inr (.inr (.inr (.inl (hl2))))))))));subst hr;clear HNo HGood HQ
   rotate_left
   have hl2b:(r10.toList == [45])=false:=by simpa using hl2
   by_cases hl1:r10.toList=[]
   have hl1b:r10.toList.isEmpty=true:=by rw [hl1];rfl
   have hg:=HGood.out (by omega) (by omega) (by omega) (.inl (by omega)) rfl (by omega) (by omega) rfl (.inl hl1)
   have HG:=hid hg;clear HNo HGood hg hl1 hl2
   rotate_left
   have hl1b:r10.toList.isEmpty=false:=by cases hh:r10.toList with|nil=>exact absurd hh hl1|cons a t=>rfl
   cases b9
   have hr:Q=false:=HNo.out (.inr (.inr (.inr (.inr (.inr (.inr (.inr (.inr (.inr (⟨hl1,rfl⟩))))))))));subst hr;clear HNo HGood HQ
   rotate_left
   have hg:=HGood.out (by omega) (by omega) (by omega) (.inl (by omega)) rfl (by omega) (by omega) rfl (.inr ⟨hl2,rfl⟩)
   have HG:=hid hg;clear HNo HGood hg hl1 hl2
   rotate_left
   all_goals
    go_wp2_with (first
     |(go_at_call 121;refine (Hp.out _).mono ?_;rintro e w1 ⟨rfl,hw⟩;have hbw:=below_of_eq hw;have HO1:=hid (HOx.out.step hbw);have c1:=fun i=>(HX.out.below hbw HX.out.lt).cell i;clear hw hbw)
     |(go_at_call 62;refine (Hs.out _).mono ?_;rintro e w2 ⟨rfl,rfl⟩)
     |(go_at_call 63;refine (Hl.out _).mono ?_;rintro e w2 ⟨rfl,rfl⟩))
    first
     |(go_ret;exact ⟨rfl,HO1.out.2⟩)
     |(go_ret;exact ⟨rfl,HOx.out.2⟩)
     |(exact ⟨⟨k+1,by omega,by go_num,HG.out,HO1.out⟩,by simp [intOf];omega⟩)
  ·obtain rfl:k=rs.length:=by omega
   have hall:=Hall.out;rw [List.take_length] at hall
   have hq:(zs.all zoneB && ls.all linkB)=Q:=by rw [<-HQ.out,hall];rfl
   have HQ2:=hid hq;clear hall hq Hall HQ HR HTr;go_wp2;clear c0
   go_loopw [5] (fun i wr=>∃ k:Nat,k<=zs.length/\i= .int .i64 k/\(zs.take k).all zoneB=true/\One w w.heap.size 26 #[.slice A rs.length c,.slice A2 zs.length c2,.slice A3 ls.length c3] wr) (fun i _=>zs.length - (intOf i).toNat)
   case atStart=>exact ⟨0,Nat.zero_le _,rfl,rfl,HO.out⟩
   case round=>
    clear HO;obtain ⟨k,hk,rfl,hall,ho⟩:=hrel;have HO:=hid ho;have Hall:=hid hall;have c0:=ho.1.cell;clear ho hall
    by_cases hkn:k<zs.length
    ·obtain ⟨ad,hA,hadb,a0,a1⟩:=zone_cells (HZ.out.below HO.out.2) hkn rfl
     subst hA;have hmem:=List.getElem_mem hkn
     have hst:zoneB zs[k]=true->(zs.take (k+1)).all zoneB=true:=fun h=>by rw [all_step _ _ _ hkn Hall.out];exact h
     have hno:zoneB zs[k]=false->Q=false:=fun h=>by rw [<-HQ2.out,all_stop hkn h];rfl
     have HSt:=hid hst;have HNo:=hid hno;have t1:=HTz.out zs[k] hmem
     have Hpl:=hid (fun z=>R10.place_any zs[k].name z (by omega))
     have HRe:=hid (HE.out zs[k] hmem);have hne:=HNe.out zs[k] hmem;have HTk:=hid (HTe.out zs[k] hmem);clear hst hno Hall t1 hmem;generalize zs[k]=zn at*;obtain ⟨z0,es,Az,cz⟩:=zn;simp only at a0 a1 HSt HNo Hpl HRe hne HTk;unfold zoneB at HSt HNo;simp only at HSt HNo;generalize placeB z0=pb at*;have hxb:=Blk.new wr 65 #[.string z0,.slice Az es.length cz];have HX:=hid hxb;have HOx:=hid (HO.out.step ((Below.refl _ _).alloc (Nat.le_refl _) (.cells #[.string z0,.slice Az es.length cz] 65)));have cx:=hxb.cell;clear hxb
     cases pb
     ·have hq:Q=false:=HNo.out rfl
      subst hq;clear HSt HNo HQ2
      go_wp2_with (go_at_call 58;refine (Hpl.out _).mono ?_;rintro e w2 ⟨rfl,rfl⟩)
      go_ret;exact ⟨rfl,HOx.out.2⟩
     by_cases l0:es.length=0
     ·have l0b:decide (((es.length:Nat):Int)<1)=true:=decide_eq_true (by omega)
      have hq:Q=false:=HNo.out (by rw [l0];rfl)
      subst hq;clear HSt HNo HQ2 l0
      go_wp2_with (go_at_call 58;refine (Hpl.out _).mono ?_;rintro e w2 ⟨rfl,rfl⟩)
      go_ret;exact ⟨rfl,HOx.out.2⟩
     have l0b:decide (((es.length:Nat):Int)<1)=false:=decide_eq_false (by omega)
     have l0c:(((es.length:Nat):Int) == 0)=false:=by rw [beq_eq_false_iff_ne];omega
     by_cases l1:40<es.length
     ·have l1b:decide ((40:Int)<(es.length:Nat))=true:=decide_eq_true (by omega)
      have hq:Q=false:=HNo.out (by rw [l1b,l0c];rfl)
      subst hq;clear HSt HNo HQ2 l0c
      go_wp2_with (go_at_call 58;refine (Hpl.out _).mono ?_;rintro e w2 ⟨rfl,rfl⟩)
      go_ret;exact ⟨rfl,HOx.out.2⟩
     have l1b:decide ((40:Int)<(es.length:Nat))=false:=decide_eq_false (by omega)
     rw [l1b,l0c] at HSt HNo
     have HSt2:Hid (erasOk es es.length=true->(zs.take (k+1)).all zoneB=true):=fun h=>HSt.out (by rw [h];rfl)
     have HNo2:Hid (erasOk es es.length=false->Q=false):=fun h=>HNo.out (by rw [h];rfl)
     clear HSt HNo l0c
     go_wp2_with (go_at_call 58;refine (Hpl.out _).mono ?_;rintro e w2 ⟨rfl,rfl⟩)
     clear l0b l1b a0 a1 cx c0;obtain ⟨bx,hbx⟩:∃ bx,bx=wr.heap.size:=⟨_,rfl⟩;rw [<-hbx] at HX ⊢;generalize wr.alloc (.cells #[.string z0,.slice Az es.length cz] 65)=wx at*;clear hbx HO
     go_loopw [7] (fun i wz=>∃ j:Nat,j<=es.length/\i= .int .i64 j/\erasOk es j=true/\One w w.heap.size 26 #[.slice A rs.length c,.slice (some ad) zs.length c2,.slice A3 ls.length c3] wz/\Blk wz bx 65 #[.string z0,.slice Az es.length cz]) (fun i _=>es.length - (intOf i).toNat)
     case atStart=>exact ⟨0,Nat.zero_le _,rfl,rfl,HOx.out,HX.out⟩
     case round=>
      clear HOx HX;obtain ⟨j,hj,rfl,hok,ho,hx⟩:=hrel;have HO:=hid ho;have HX:=hid hx;have HOk:=hid hok;have cx:=hx.cell;clear ho hx hok
      by_cases hjn:j<es.length
      ·obtain ⟨ae,hAe,haeb,d0,d1,d2,d3,d4,d5,d6,d7,d8,d9,d10,d11,d12⟩:=era_cells (HRe.out.below HO.out.2) hjn rfl
       subst hAe;have hest:=eras_step hjn HOk.out;have hbad:erasOk es (j+1)=false->Q=false:=fun h=>HNo2.out (erasOk_no hjn h);have HBad:=hid hbad;have HSe:=hid hest;obtain ⟨t3,t4⟩:=HTk.out es[j] (List.getElem_mem hjn);have HEr:=hid (fun z=>D10.era_any es[j] z t3 t4);have hcells:=fun z (hb:Below w.heap.size w z)=>era_cells (HRe.out.below hb) hjn rfl;obtain ⟨Cls,hCls⟩:∃ C:World->Prop,C=fun z=>One w w.heap.size 26 #[.slice A rs.length c,.slice (some ad) zs.length c2,.slice A3 ls.length c3] z/\Blk z bx 65 #[.string z0,.slice (some ae) es.length cz]:=⟨_,rfl⟩
       have hC:∀ z,Cls z->One w w.heap.size 26 #[.slice A rs.length c,.slice (some ad) zs.length c2,.slice A3 ls.length c3] z/\Blk z bx 65 #[.string z0,.slice (some ae) es.length cz]:=fun z h=>by rw [hCls] at h;exact h
       have hstart:Cls wr.drew:=by rw [hCls];exact ⟨HO.out.drew,HX.out.drew⟩
       have inst:Nonempty (Qt.In Cls):=⟨⟨_,hstart⟩⟩;have zx:∀ (z:Qt.In Cls) (i:Nat),z.w.cell? ⟨bx,i,none⟩=#[.string z0,.slice (some ae) es.length cz][i]?:=fun z i=>(hC z.w z.h).2.cell i
       have ze:∀ (z:Qt.In Cls),z.w.cell? (ae.add (j*13))=some (.int .i64 es[j].off)/\z.w.cell? ⟨(ae.add (j*13)).block,(ae.add (j*13)).off+1,none⟩=some (.int .i64 es[j].kind)/\z.w.cell? ⟨(ae.add (j*13)).block,(ae.add (j*13)).off+2,none⟩=some (.int .i64 es[j].save)/\z.w.cell? ⟨(ae.add (j*13)).block,(ae.add (j*13)).off+3,none⟩=some (.string es[j].rules)/\z.w.cell? ⟨(ae.add (j*13)).block,(ae.add (j*13)).off+4,none⟩=some (.string es[j].format)/\z.w.cell? ⟨(ae.add (j*13)).block,(ae.add (j*13)).off+5,none⟩=some (.bool es[j].till)/\z.w.cell? ⟨(ae.add (j*13)).block,(ae.add (j*13)).off+6,none⟩=some (.int .i64 es[j].year)/\z.w.cell? ⟨(ae.add (j*13)).block,(ae.add (j*13)).off+7,none⟩=some (.int .i64 es[j].spot.month)/\z.w.cell? ⟨(ae.add (j*13)).block,(ae.add (j*13)).off+8,none⟩=some (.int .i64 es[j].spot.kind)/\z.w.cell? ⟨(ae.add (j*13)).block,(ae.add (j*13)).off+9,none⟩=some (.int .i64 es[j].spot.weekday)/\z.w.cell? ⟨(ae.add (j*13)).block,(ae.add (j*13)).off+10,none⟩=some (.int .i64 es[j].spot.day)/\z.w.cell? ⟨(ae.add (j*13)).block,(ae.add (j*13)).off+11,none⟩=some (.int .i64 es[j].spot.time)/\z.w.cell? ⟨(ae.add (j*13)).block,(ae.add (j*13)).off+12,none⟩=some (.int .i64 es[j].spot.ref):=fun z=>by
        obtain ⟨ae',e,_,q⟩:=hcells z.w (hC z.w z.h).1.2
        obtain rfl:ae=ae':=by injection e
        exact q
       have HCx:=hid hC
       have HECl:Hid (∀ z,Cls z->Calls prog 210 #[.agg es[j].cells.toArray] z fun e z'=>e= .returned (.bool (eraB es[j]))/\Cls z'):=fun z h=>
        (HEr.out z).mono fun e z' ⟨he,hb⟩=>⟨he,by rw [hCls];exact ⟨(hC z h).1.step hb,(hC z h).2.below hb (hC z h).2.lt⟩⟩
       have HS:=hid hstart;clear hC hstart hCls hcells hest hbad t3 t4 d0 d1 d2 d3 d4 d5 d6 d7 d8 d9 d10 d11 d12 HEr;generalize eraB es[j]=eb at*;generalize es[j]=y at*;obtain ⟨y0,y1,y2,y3,y4,y5,y6,⟨u0,u1,u2,u3,u4,u5⟩⟩:=y;simp only [Era.cells] at ze HECl HSe;have f0:=fun z=>(ze z).1;have f1:=fun z=>(ze z).2.1;have f2:=fun z=>(ze z).2.2.1;have f3:=fun z=>(ze z).2.2.2.1;have f4:=fun z=>(ze z).2.2.2.2.1;have f5:=fun z=>(ze z).2.2.2.2.2.1;have f6:=fun z=>(ze z).2.2.2.2.2.2.1;have f7:=fun z=>(ze z).2.2.2.2.2.2.2.1;have f8:=fun z=>(ze z).2.2.2.2.2.2.2.2.1;have f9:=fun z=>(ze z).2.2.2.2.2.2.2.2.2.1;have f10:=fun z=>(ze z).2.2.2.2.2.2.2.2.2.2.1;have f11:=fun z=>(ze z).2.2.2.2.2.2.2.2.2.2.2.1;have f12:=fun z=>(ze z).2.2.2.2.2.2.2.2.2.2.2.2;clear ze
       have hlast:decide (((j:Nat):Int)<(es.length:Int) - 1)= !((j:Int) == (es.length:Int) - 1):=by rw [Bool.eq_iff_iff];simp;omega
       rw [hlast] at HSe;clear hlast
       cases eb
       ·have hq:Q=false:=HBad.out (by rw [HSe.out];rfl)
        subst hq;clear HBad HSe HQ2 HSt2 HNo2
        cases y5<;>cases hdl:((j:Int) == (es.length:Int) - 1)
        all_goals
         go_wp2
         refine Qt.wp_region_cls Cls (by kernel_rfl) (by kernel_rfl) HS.out ?_
         repeat (go_big_quiet_step (exact Qt.quiet_cls (HECl.out _ (Qt.In.h _))))
         refine wpQuiet_nil ?_
         rintro wq ⟨⟨w9,hq9⟩,e9⟩
         have HX9:=hid (HCx.out wq (by rw [e9];exact hq9))
         clear hq9 e9 zx f0 f1 f2 f3 f4 f5 f6 f7 f8 f9 f10 f11 f12 HECl HCx HS inst;go_wp2;go_ret;exact ⟨rfl,HX9.out.1.2⟩
       ·cases y5<;>cases hdl:((j:Int) == (es.length:Int) - 1)<;>rw [hdl] at HSe
        case false.false=>
         have hq:Q=false:=HBad.out (by rw [HSe.out];rfl)
         subst hq;clear HBad HSe HQ2 HSt2 HNo2;go_wp2
         refine Qt.wp_region_cls Cls (by kernel_rfl) (by kernel_rfl) HS.out ?_
         repeat (go_big_quiet_step (exact Qt.quiet_cls (HECl.out _ (Qt.In.h _))))
         refine wpQuiet_nil ?_
         rintro wq ⟨⟨w9,hq9⟩,e9⟩
         have HX9:=hid (HCx.out wq (by rw [e9];exact hq9))
         clear hq9 e9 zx f0 f1 f2 f3 f4 f5 f6 f7 f8 f9 f10 f11 f12 HECl HCx HS inst;go_wp2;go_ret;exact ⟨rfl,HX9.out.1.2⟩
        case true.true=>
         have hq:Q=false:=HBad.out (by rw [HSe.out];rfl)
         subst hq;clear HBad HSe HQ2 HSt2 HNo2;go_wp2
         refine Qt.wp_region_cls Cls (by kernel_rfl) (by kernel_rfl) HS.out ?_
         repeat (go_big_quiet_step (exact Qt.quiet_cls (HECl.out _ (Qt.In.h _))))
         refine wpQuiet_nil ?_
         rintro wq ⟨⟨w9,hq9⟩,e9⟩
         have HX9:=hid (HCx.out wq (by rw [e9];exact hq9))
         clear hq9 e9 zx f0 f1 f2 f3 f4 f5 f6 f7 f8 f9 f10 f11 f12 HECl HCx HS inst;go_wp2;go_ret;exact ⟨rfl,HX9.out.1.2⟩
        all_goals
         have hok2:=HSe.out;have HOk2:Hid (erasOk es (j+1)=true):=hok2;clear hok2 HSe HBad;go_wp2
         refine Qt.wp_region_cls Cls (by kernel_rfl) (by kernel_rfl) HS.out ?_
         repeat (go_big_quiet_step (exact Qt.quiet_cls (HECl.out _ (Qt.In.h _))))
         refine wpQuiet_nil ?_
         rintro wq ⟨⟨w9,hq9⟩,e9⟩
         have HX9:=hid (HCx.out wq (by rw [e9];exact hq9))
         clear hq9 e9 zx f0 f1 f2 f3 f4 f5 f6 f7 f8 f9 f10 f11 f12 HECl HCx HS inst;go_wp2
         exact ⟨⟨j+1,by omega,by go_num,HOk2.out,HX9.out.1,HX9.out.2⟩,by simp [intOf];omega⟩
      ·obtain rfl:j=es.length:=by omega
       have hall2:=HSt2.out HOk.out;have HAll2:=hid hall2;clear hall2 HSt2 HNo2;go_wp2
       exact ⟨⟨k+1,by omega,by go_num,HAll2.out,HO.out⟩,by simp [intOf];omega⟩
    ·obtain rfl:k=zs.length:=by omega
     have hall:=Hall.out;rw [List.take_length] at hall
     have hq:ls.all linkB=Q:=by rw [<-HQ2.out,hall];rfl
     have HQ3:=hid hq;clear hall hq Hall HQ2 HZ HTz HE HTe HNe;go_wp2;clear c0
     go_loopw [8] (fun i wr=>∃ k:Nat,k<=ls.length/\i= .int .i64 k/\(ls.take k).all linkB=true/\One w w.heap.size 26 #[.slice A rs.length c,.slice A2 zs.length c2,.slice A3 ls.length c3] wr) (fun i _=>ls.length - (intOf i).toNat)
     case atStart=>exact ⟨0,Nat.zero_le _,rfl,rfl,HO.out⟩
     case round=>
      clear HO;obtain ⟨k,hk,rfl,hall,ho⟩:=hrel;have HO:=hid ho;have Hall:=hid hall;have c0:=ho.1.cell;clear ho hall
      by_cases hkn:k<ls.length
      ·obtain ⟨ad,hA,hadb,a0,a1⟩:=link_cells (HL.out.below HO.out.2) hkn rfl
       subst hA
       have hst:linkB ls[k]=true->(ls.take (k+1)).all linkB=true:=fun h=>by rw [all_step _ _ _ hkn Hall.out];exact h
       have hno:linkB ls[k]=false->Q=false:=fun h=>by rw [<-HQ3.out,all_stop hkn h]
       have HSt:=hid hst;have HNo:=hid hno;obtain ⟨t1,t2⟩:=HTl.out ls[k] (List.getElem_mem hkn)
       have Hp1:=hid (fun z=>R10.place_any ls[k].target z (by omega))
       have Hp2:=hid (fun z=>R10.place_any ls[k].name z (by omega))
       clear hst hno Hall t1 t2;generalize ls[k]=l at*;obtain ⟨l0,l1⟩:=l;simp only at a0 a1 HSt HNo Hp1 Hp2;unfold linkB at HSt HNo;simp only at HSt HNo;generalize placeB l0=p0 at*;generalize placeB l1=p1 at*
       cases p0
       ·have hq:Q=false:=HNo.out rfl
        subst hq;clear HSt HNo HQ3
        go_wp2_with (go_at_call 58;refine (Hp1.out _).mono ?_;rintro e w2 ⟨rfl,rfl⟩)
        go_ret;exact ⟨rfl,HO.out.2⟩
       cases p1
       ·have hq:Q=false:=HNo.out rfl
        subst hq;clear HSt HNo HQ3
        go_wp2_with (first
         |(go_at_call 58;have tk:=tok;refine (Hp2.out _).mono ?_;rintro e w2 ⟨rfl,rfl⟩)
         |(go_at_call 58;refine (Hp1.out _).mono ?_;rintro e w2 ⟨rfl,rfl⟩;have tok:True:=trivial))
        go_ret;exact ⟨rfl,HO.out.2⟩
       ·have hst:=HSt.out rfl
        have HS2:=hid hst;clear HSt HNo hst
        go_wp2_with (first
         |(go_at_call 58;have tk:=tok;refine (Hp2.out _).mono ?_;rintro e w2 ⟨rfl,rfl⟩)
         |(go_at_call 58;refine (Hp1.out _).mono ?_;rintro e w2 ⟨rfl,rfl⟩;have tok:True:=trivial))
        exact ⟨⟨k+1,by omega,by go_num,HS2.out,HO.out⟩,by simp [intOf];omega⟩
      ·obtain rfl:k=ls.length:=by omega
       have hall:=Hall.out;rw [List.take_length] at hall
       have hq:Q=true:=by rw [<-HQ3.out,hall]
       subst hq;clear hall Hall;go_wp2;go_ret;exact ⟨rfl,HO.out.2⟩
theorem right_any (s:Src) (A A2 A3:Option Addr) (c c2 c3:Nat) (w:World) (h:SrcOk s A A2 A3 w):
  Calls prog 96 #[.agg #[.slice A s.rules.length c,.slice A2 s.zones.length c2,.slice A3 s.links.length c3]] w fun e w'=>e= .returned (.bool (srcB s))/\Below w.heap.size w w':=by
 have HB:=hid (fun z (hb:Below w.heap.size w z)=>bounded_any s A A2 A3 c c2 c3 z (h.below hb));have hone:=One.new w 26 #[.slice A s.rules.length c,.slice A2 s.zones.length c2,.slice A3 s.links.length c3];clear h;obtain ⟨W,hW⟩:∃ W,w.alloc (.cells #[.slice A s.rules.length c,.slice A2 s.zones.length c2,.slice A3 s.links.length c3] 26)=W:=⟨_,rfl⟩;rw [hW] at hone;have HO:=hid hone;have c0:=hone.1.cell;clear hone;go_enter func96,ntmps96
 go_wp2_with (go_at_call 156;refine (HB.out _ HO.out.2).mono ?_;rintro e w1 ⟨rfl,hb⟩;have HO1:=hid (HO.out.step hb);clear hb)
 go_ret;exact ⟨rfl,HO1.out.2⟩
end D10
end
end
section
section
namespace Snd
open Go.RowKit Mem Civ Mom Img Plc Rul Src Go.Maps
theorem in_next {α:Type} {f:α->ByteArray} {l:List α} {j:Nat} (hj:j<l.length) (nm:ByteArray):inL ((l.take (j+1)).map f) nm=(inL ((l.take j).map f) nm || decide (f l[j]=nm)):=by
 rw [List.take_succ_eq_append_getElem hj,List.map_append,inL_append];simp [inL]
theorem in_more {α:Type} {f:α->ByteArray} {l:List α} {j k:Nat} (hj:j<=k) {nm:ByteArray} (h:inL ((l.take j).map f) nm=true):inL ((l.take k).map f) nm=true:=by
 rw [inL_iff] at h ⊢;obtain ⟨a,ha,e⟩:=List.mem_map.1 h
 refine List.mem_map.2 ⟨a,?_,e⟩
 rw [<-Nat.min_eq_left hj,<-List.take_take] at ha;exact List.mem_of_mem_take ha
theorem first_any (s:Src) (A A2 A3:Option Addr) (c c2 c3 k:Nat) (w:World) (h:SrcOk s A A2 A3 w) (hk:k<s.rules.length):
  Calls prog 98 #[.agg #[.slice A s.rules.length c,.slice A2 s.zones.length c2,.slice A3 s.links.length c3],.int .i64 k] w fun e w'=>e= .returned (.bool (!inL ((s.rules.take k).map (·.name)) (s.rules[k]'hk).name))/\Below w.heap.size w w':=by
 have HR:=hid h.rr;have nr:=h.nr;clear h;obtain ⟨Q,hQ⟩:∃ Q,inL ((s.rules.take k).map (·.name)) (s.rules[k]'hk).name=Q:=⟨_,rfl⟩;rw [hQ];have HQ:=hid hQ;clear hQ;have hone:=One.new w 26 #[.slice A s.rules.length c,.slice A2 s.zones.length c2,.slice A3 s.links.length c3];obtain ⟨W,hW⟩:∃ W,w.alloc (.cells #[.slice A s.rules.length c,.slice A2 s.zones.length c2,.slice A3 s.links.length c3] 26)=W:=⟨_,rfl⟩;rw [hW] at hone;have HO:=hid hone;clear hone;go_enter func98,ntmps98;go_wp2
 go_loopw [5] (fun i wr=>∃ j:Nat,j<=k/\i= .int .i64 j/\inL ((s.rules.take j).map (·.name)) (s.rules[k]'hk).name=false/\One w w.heap.size 26 #[.slice A s.rules.length c,.slice A2 s.zones.length c2,.slice A3 s.links.length c3] wr) (fun i _=>k - (intOf i).toNat)
 case atStart=>exact ⟨0,Nat.zero_le _,rfl,rfl,HO.out⟩
 case round=>
  clear HO;obtain ⟨j,hj,rfl,hin,ho⟩:=hrel;have HO:=hid ho;have HIn:=hid hin;clear ho hin
  by_cases hjk:j<k
  ·have hjn:j<s.rules.length:=by omega
   obtain ⟨ad,hA,hadb,_⟩:=rule_cells (HR.out.below HO.out.2) hk;subst hA;have hnx:=in_next (f:=fun r:Rule=>r.name) hjn (s.rules[k]'hk).name;rw [HIn.out,Bool.false_or] at hnx;have hrc:=fun z (hb:Below w.heap.size w z) t ht=>rule_cells (k:=t) (HR.out.below hb) ht;obtain ⟨Cls,hCls⟩:∃ C:World->Prop,C=One w w.heap.size 26 #[.slice (some ad) s.rules.length c,.slice A2 s.zones.length c2,.slice A3 s.links.length c3]:=⟨_,rfl⟩
   have hC:∀ z,Cls z->One w w.heap.size 26 #[.slice (some ad) s.rules.length c,.slice A2 s.zones.length c2,.slice A3 s.links.length c3] z:=fun z h=>by rw [hCls] at h;exact h
   have hinC:∀ z,One w w.heap.size 26 #[.slice (some ad) s.rules.length c,.slice A2 s.zones.length c2,.slice A3 s.links.length c3] z->Cls z:=fun z h=>by rw [hCls];exact h
   have hstart:=hinC _ HO.out.drew;have inst:Nonempty (Qt.In Cls):=⟨⟨_,hstart⟩⟩;have gs:∀ (z:Qt.In Cls) (i:Nat),z.w.cell? ⟨w.heap.size,i,none⟩=#[.slice (some ad) s.rules.length c,.slice A2 s.zones.length c2,.slice A3 s.links.length c3][i]?:=fun z i=>(hC z.w z.h).1.cell i
   have gj:∀ z:Qt.In Cls,z.w.cell? (ad.add (j*11))=some (.string (s.rules[j]'hjn).name):=fun z=>by obtain ⟨ad',e,_,q⟩:=hrc z.w (hC z.w z.h).2 j hjn;obtain rfl:ad=ad':=(by injection e);exact q.1
   have gk:∀ z:Qt.In Cls,z.w.cell? (ad.add (k*11))=some (.string (s.rules[k]'hk).name):=fun z=>by obtain ⟨ad',e,_,q⟩:=hrc z.w (hC z.w z.h).2 k hk;obtain rfl:ad=ad':=(by injection e);exact q.1
   have hbq:=tl_beq (s.rules[j]'hjn).name (s.rules[k]'hk).name;have HNx:=hid hnx;have HCx:=hid hC;have HS:=hid hstart;clear hnx hC hinC hCls hstart hrc;obtain ⟨nk,hnk⟩:∃ n,n=(s.rules[k]'hk).name:=⟨_,rfl⟩;obtain ⟨nj,hnj⟩:∃ n,n=(s.rules[j]'hjn).name:=⟨_,rfl⟩;rw [<-hnk] at gk hbq HNx HQ;rw [<-hnj] at gj hbq
   have HNx2:Hid (inL ((s.rules.take (j+1)).map (·.name)) nk=decide (nj=nk)):=by rw [hnj];exact HNx
   have HNk:=hid hnk;clear HNx hnj hnk
   cases hd:decide (nj=nk)<;>rw [hd] at HNx2 hbq
   ·go_wp2
    refine Qt.wp_region_cls Cls (by kernel_rfl) (by kernel_rfl) HS.out ?_
    repeat (go_big_quiet_step (fail))
    refine wpQuiet_nil ?_
    rintro wq ⟨⟨w9,hq9⟩,e9⟩
    have HX:=hid (HCx.out wq (by rw [e9];exact hq9))
    clear hq9 e9 gs gj gk;go_wp2
    exact ⟨⟨j+1,by omega,by go_num,by rw [<-HNk.out];exact HNx2.out,HX.out⟩,by simp [intOf];omega⟩
   ·have hq:Q=true:=by rw [<-HQ.out];exact in_more (by omega) HNx2.out
    subst hq;go_wp2
    refine Qt.wp_region_cls Cls (by kernel_rfl) (by kernel_rfl) HS.out ?_
    repeat (go_big_quiet_step (fail))
    refine wpQuiet_nil ?_
    rintro wq ⟨⟨w9,hq9⟩,e9⟩
    have HX:=hid (HCx.out wq (by rw [e9];exact hq9))
    clear hq9 e9 gs gj gk;go_wp2;go_ret;exact ⟨rfl,HX.out.2⟩
  ·obtain rfl:j=k:=by omega
   have hq:Q=false:=by rw [<-HQ.out];exact HIn.out
   subst hq;go_wp2;go_ret;exact ⟨rfl,HO.out.2⟩
theorem rcheck_results {w:World} {R0:Nat} {a0 a1 a2 a3:Value} (h:Blk w R0 72 #[a0,a1,a2,a3]) (tmps:Array Value) (ht:tmps[2]?=some (.pointer (some ⟨R0,0,none⟩))):(results Tryz.f44 tmps).run prog w= .ok (.agg #[a0,a1,a2,a3]) w:=by
 have hc:=h.cell;simp [results,Tryz.results44,go_sem,hc,ht]
theorem two_cells {w W:World} {a0 a1 a2:Value} {ds:Array Value} {p:Addr} {u:Value} (h:Two w #[a0,a1,a2] ds W) (hu:W.cell? p=some u):W.cell? ⟨w.heap.size,0,none⟩=some a0/\W.cell? ⟨w.heap.size,1,none⟩=some a1/\W.cell? ⟨w.heap.size,2,none⟩=some a2/\W.cell? p=some u:=⟨h.src.cell 0,h.src.cell 1,h.src.cell 2,hu⟩
theorem setL_ne {rs:List Rule} {k:Nat} (hk:k<rs.length):setL rs rs[k].name≠[]:=fun h=>by
 have:rs[k]∈setL rs rs[k].name:=List.mem_filter.2 ⟨List.getElem_mem hk,by simp⟩
 rw [h] at this
 cases this
theorem seen_in {seen:List ByteArray} {rs:List Rule} {k:Nat} (h:∀ n,n∈seen↔n∈(rs.take k).map (·.name)) (nm:ByteArray):inL seen nm=inL ((rs.take k).map (·.name)) nm:=by
 rw [Bool.eq_iff_iff,inL_iff,inL_iff];exact h nm
theorem seen_same {seen:List ByteArray} {rs:List Rule} {k:Nat} (hk:k<rs.length) (h:∀ n,n∈seen↔n∈(rs.take k).map (·.name)) (hi:inL seen rs[k].name=true):∀ n,n∈seen↔n∈(rs.take (k+1)).map (·.name):=fun n=>by
 rw [List.take_succ_eq_append_getElem hk,List.map_append,List.mem_append,<-h n]
 constructor
 ·exact .inl
 ·rintro (h2|h2)
  ·exact h2
  ·rw [show n=rs[k].name by simpa using h2];exact inL_iff.1 hi
theorem seen_more {seen:List ByteArray} {rs:List Rule} {k:Nat} (hk:k<rs.length) (h:∀ n,n∈seen↔n∈(rs.take k).map (·.name)):∀ n,n∈seen++[rs[k].name]↔n∈(rs.take (k+1)).map (·.name):=fun n=>by
 rw [List.take_succ_eq_append_getElem hk,List.map_append,List.mem_append,List.mem_append,h n];simp
theorem check_chain {s:Src} (hs:srcB s=true):checkB s=if ordersB s=noFlaw then (if setsB s=noFlaw then (if zonesB s (svF s)=noFlaw then (if linksB s=noFlaw then targetsB s else linksB s) else zonesB s (svF s)) else setsB s) else ordersB s:=by
 unfold checkB;rw [if_pos hs];simp only [firstF]
 split
 ·split
  ·split
   ·split
    ·split
     ·next h=>exact h.symm
     ·rfl
    ·rfl
   ·rfl
  ·rfl
 ·rfl
theorem if_no {c:Prop} [Decidable c] {a b q:Flaw} (h:(if c then a else b)=q) (hc:c):a=q:=by rw [if_pos hc] at h;exact h
theorem if_yes {c:Prop} [Decidable c] {a b q:Flaw} (h:(if c then a else b)=q) (hc:¬ c):b=q:=by rw [if_neg hc] at h;exact h
theorem rcheck_any (s:Src) (A A2 A3:Option Addr) (c c2 c3:Nat) (w:World) (h:SrcOk s A A2 A3 w):
  Calls prog 44 #[.agg #[.slice A s.rules.length c,.slice A2 s.zones.length c2,.slice A3 s.links.length c3]] w fun e w'=>e= .returned (.agg (checkB s).cells.toArray)/\Below w.heap.size w w':=by
 have HRt:=hid (fun z (hb:Below w.heap.size w z)=>D10.right_any s A A2 A3 c c2 c3 z (h.below hb));obtain ⟨Q,hQ⟩:∃ Q,checkB s=Q:=⟨_,rfl⟩;rw [hQ];have hst:=Two.start w #[.slice A s.rules.length c,.slice A2 s.zones.length c2,.slice A3 s.links.length c3];obtain ⟨W,hW⟩:∃ W,(w.alloc (.cells #[.slice A s.rules.length c,.slice A2 s.zones.length c2,.slice A3 s.links.length c3] 26)).alloc (.cells #[.int .i64 0,.int .i64 0,.int .i64 0,.int .i64 0] 72)=W:=⟨_,rfl⟩;rw [hW] at hst;have HT:=hid hst;have c0:=hst.src.cell;clear hst
 cases hs:srcB s
 ·have hq:Q=⟨1,0,0,0⟩:=by rw [<-hQ];unfold checkB;rw [if_neg (by rw [hs];decide)]
  subst hq;rw [hs] at HRt;clear hQ h;go_enter func44,ntmps44
  go_wp2_with (first
   |(go_at_call 96;refine (HRt.out _ HT.out.bel).mono ?_;rintro e w1 ⟨rfl,hb⟩;have HX:=hid (HT.out.step hb);clear hb)
   |(go_at_call 97;refine (flaw_any _ _ _ _ _).mono ?_;rintro e w5 ⟨rfl,hb⟩;have ht:=HX.out.step hb;have fR:=ht.res.frozen;have cR:=ht.res.cell;have HF:=hid (ht.fill (.int .i64 1) (.int .i64 0) (.int .i64 0) (.int .i64 0));clear hb ht))
  refine bodyPost_ret (rcheck_results HF.out.res _ rfl) rfl ?_
  exact ⟨rfl,HF.out.bel⟩
 rw [hs] at HRt;rw [check_chain hs] at hQ;have HFi:=hid (fun k hk z (hb:Below w.heap.size w z)=>first_any s A A2 A3 c c2 c3 k z (h.below hb) hk);have HSt:=hid (fun nm z (hb:Below w.heap.size w z)=>rset_any s A A2 A3 c c2 c3 nm z (h.below hb));have HEr:=hid (fun zn hz j hj z (hb:Below w.heap.size w z)=>rera_any s A A2 A3 c c2 c3 zn j z (h.below hb) hz hj hs);have HLk:=hid (fun z (hb:Below w.heap.size w z)=>rlinks_any s A A2 A3 c c2 c3 z (h.below hb));have hru:=right_rules hs;obtain ⟨hn1,hn2,hn3⟩:=right_nr hs
 have hset:=fun (k:Nat) (hk:k<s.rules.length) Av cv z hr=>set_any (setL s.rules (s.rules[k]'hk).name) Av cv z hr (Nat.le_trans (setL_len _ _) (by omega)) (set_right hru _) (setL_ne hk)
 have HSe:=hid hset;have HR:=hid h.rr;have HZ:=hid h.rz;have HRe:=hid h.re;have HNe:=hid h.ne;have nr:=h.nr;have nz:=h.nz;have HQ:=hid hQ;clear hQ h hru hset hs;generalize svF s=sv at*;go_enter func44,ntmps44
 go_wp2_with (go_at_call 96;refine (HRt.out _ HT.out.bel).mono ?_;rintro e w1 ⟨rfl,hb⟩;have HT1:=hid (HT.out.step hb);clear hb)
 clear c0 HT HRt
 go_loopw [3] (fun i wr=>∃ k:Nat,k<=s.rules.length/\i= .int .i64 k/\(s.rules.take k).all (fun r=> !decide (r.hi<r.lo))=true/\Two w #[.slice A s.rules.length c,.slice A2 s.zones.length c2,.slice A3 s.links.length c3] #[.int .i64 0,.int .i64 0,.int .i64 0,.int .i64 0] wr) (fun i _=>s.rules.length - (intOf i).toNat)
 case atStart=>exact ⟨0,Nat.zero_le _,rfl,rfl,HT1.out⟩
 case round=>
  clear HT1;obtain ⟨k,hk,rfl,hall,ht⟩:=hrel;have HT:=hid ht;have c0:=ht.src.cell
  by_cases hkn:k<s.rules.length
  ·have hhit:=fun hp=>find_hit (p:=fun r:Rule=>decide (r.hi<r.lo)) hkn hall hp
   have hnx:=fun hp=>no_step (p:=fun r:Rule=>decide (r.hi<r.lo)) hkn hall hp;have HHit:=hid hhit;have HNx:=hid hnx;obtain ⟨ad,hA,hadb,_⟩:=rule_cells (HR.out.below ht.bel) hkn;subst hA;clear hhit hnx hall ht;obtain ⟨Cls,hCls⟩:∃ C:World->Prop,C=Two w #[.slice (some ad) s.rules.length c,.slice A2 s.zones.length c2,.slice A3 s.links.length c3] #[.int .i64 0,.int .i64 0,.int .i64 0,.int .i64 0]:=⟨_,rfl⟩
   have hC:∀ z,Cls z->Two w #[.slice (some ad) s.rules.length c,.slice A2 s.zones.length c2,.slice A3 s.links.length c3] #[.int .i64 0,.int .i64 0,.int .i64 0,.int .i64 0] z:=fun z h=>by rw [hCls] at h;exact h
   have hin:∀ z,Two w #[.slice (some ad) s.rules.length c,.slice A2 s.zones.length c2,.slice A3 s.links.length c3] #[.int .i64 0,.int .i64 0,.int .i64 0,.int .i64 0] z->Cls z:=fun z h=>by rw [hCls];exact h
   have hstart:=hin _ (two_drew HT.out);have inst:Nonempty (Qt.In Cls):=⟨⟨_,hstart⟩⟩;have gs:∀ (z:Qt.In Cls) (i:Nat),z.w.cell? ⟨w.heap.size,i,none⟩=#[.slice (some ad) s.rules.length c,.slice A2 s.zones.length c2,.slice A3 s.links.length c3][i]?:=fun z i=>(hC z.w z.h).src.cell i;have hrc:=fun z (hb:Below w.heap.size w z)=>rule_cells (k:=k) (HR.out.below hb) hkn
   have g1:∀ z:Qt.In Cls,z.w.cell? ⟨(ad.add (k*11)).block,(ad.add (k*11)).off+1,none⟩=some (.int .i64 (s.rules[k]'hkn).lo):=fun z=>by obtain ⟨ad',e,_,q⟩:=hrc z.w (hC z.w z.h).bel;obtain rfl:ad=ad':=(by injection e);exact q.2.1
   have g2:∀ z:Qt.In Cls,z.w.cell? ⟨(ad.add (k*11)).block,(ad.add (k*11)).off+2,none⟩=some (.int .i64 (s.rules[k]'hkn).hi):=fun z=>by obtain ⟨ad',e,_,q⟩:=hrc z.w (hC z.w z.h).bel;obtain rfl:ad=ad':=(by injection e);exact q.2.2.1
   have HCx:=hid hC;have HS:=hid hstart;clear hC hin hCls hstart hrc;generalize (s.rules[k]'hkn).lo=lo at*;generalize (s.rules[k]'hkn).hi=hi at*
   cases hd:decide (hi<lo)
   ·have hn:=HNx.out hd
    have HN:=hid hn;clear hn HNx HHit;go_wp2
    refine Qt.wp_region_cls Cls (by kernel_rfl) (by kernel_rfl) HS.out ?_
    repeat (go_big_quiet_step (fail))
    refine wpQuiet_nil ?_
    rintro wq ⟨⟨w9,hq9⟩,e9⟩
    have HX:=hid (HCx.out wq (by rw [e9];exact hq9))
    clear hq9 e9 gs g1 g2;go_wp2
    exact ⟨⟨k+1,by omega,by go_num,HN.out,HX.out⟩,by simp [intOf];omega⟩
   ·have ho:ordersB s=⟨16,1,k,0⟩:=by unfold ordersB;rw [HHit.out hd];rfl
    have hq:=if_yes HQ.out (by rw [ho];exact flaw_ne (.inl (by decide)))
    rw [ho] at hq;subst hq;clear ho HNx HHit HQ;go_wp2
    refine Qt.wp_region_cls Cls (by kernel_rfl) (by kernel_rfl) HS.out ?_
    repeat (go_big_quiet_step (fail))
    refine wpQuiet_nil ?_
    rintro wq ⟨⟨w9,hq9⟩,e9⟩
    have HX:=hid (HCx.out wq (by rw [e9];exact hq9))
    clear hq9 e9 gs g1 g2
    go_wp2_with (go_at_call 97;refine (flaw_any _ _ _ _ _).mono ?_;rintro e w5 ⟨rfl,hb⟩;have ht:=HX.out.step hb;have fR:=ht.res.frozen;have cR:=ht.res.cell;have HF:=hid (ht.fill (.int .i64 16) (.int .i64 1) (.int .i64 k) (.int .i64 0));clear hb ht)
    refine bodyPost_ret (rcheck_results HF.out.res _ rfl) rfl ?_
    exact ⟨rfl,HF.out.bel⟩
  ·obtain rfl:k=s.rules.length:=by omega
   rw [List.take_length] at hall
   have ho:ordersB s=noFlaw:=by unfold ordersB;rw [find_miss hall];rfl
   have HQ2:=hid (if_no HQ.out ho);clear ho hall HQ ht;go_wp2;clear c0
   go_loopw [4] (fun i wr=>∃ (k:Nat) (seen:List ByteArray),k<=s.rules.length/\i= .int .i64 k/\setsL s.rules seen (s.rules.drop k) k=setsB s/\(∀ n,n∈seen↔n∈(s.rules.take k).map (·.name))/\Two w #[.slice A s.rules.length c,.slice A2 s.zones.length c2,.slice A3 s.links.length c3] #[.int .i64 0,.int .i64 0,.int .i64 0,.int .i64 0] wr) (fun i _=>s.rules.length - (intOf i).toNat)
   case atStart=>exact ⟨0,[],Nat.zero_le _,rfl,rfl,(fun n=>by simp),HT.out⟩
   case round=>
    clear HT;obtain ⟨k,seen,hk,rfl,hse,hsn,ht⟩:=hrel;have HT:=hid ht;have c0:=ht.src.cell
    by_cases hkn:k<s.rules.length
    ·obtain ⟨ad,hA,hadb,_⟩:=rule_cells (HR.out.below ht.bel) hkn
     subst hA;have hrc:=fun z (hb:Below w.heap.size w z)=>rule_cells (k:=k) (HR.out.below hb) hkn;rw [List.drop_eq_getElem_cons hkn,setsL,seen_in hsn] at hse;have hsi:=seen_in hsn (s.rules[k]'hkn).name;have HFk:=hid (HFi.out k hkn)
     cases hfb:inL ((s.rules.take k).map (·.name)) (s.rules[k]'hkn).name
     rotate_left
     ·rw [hfb] at HFk hsi hse
      rw [if_pos rfl] at hse;have hsm:=seen_same hkn hsn hsi;have HSe2:=hid hse;have HSm:=hid hsm;clear hse hsm hsn hsi ht hrc hfb
      go_wp2_with (go_at_call 98;refine (HFk.out _ HT.out.bel).mono ?_;rintro e w2 ⟨rfl,hb⟩;have HT2:=hid (HT.out.step hb);clear hb)
      exact ⟨⟨k+1,seen,by omega,by go_num,HSe2.out,HSm.out,HT2.out⟩,by simp [intOf];omega⟩
     ·rw [hfb] at HFk hse
      rw [if_neg (by decide)] at hse
      have hsm:=seen_more hkn hsn;have HSk:=hid (HSe.out k hkn);have HSn:=hid (HSt.out (s.rules[k]'hkn).name);have HRc:=hid hrc;have HSe2:=hid hse;have HSm:=hid hsm;clear hse hsm hsn hsi ht hrc hfb;obtain ⟨nm,hnm⟩:∃ n,n=(s.rules[k]'hkn).name:=⟨_,rfl⟩;rw [<-hnm] at HSk HSn HRc HSm;rw [<-hnm] at HSe2;clear hnm;obtain ⟨E,hE⟩:∃ E,setErr (setL s.rules nm)=E:=⟨_,rfl⟩;rw [hE] at HSk HSe2;clear hE
      go_wp2_with (go_at_call 98;refine (HFk.out _ HT.out.bel).mono ?_;rintro e w2 ⟨rfl,hb⟩;have HT2:=hid (HT.out.step hb);clear hb)
      clear c0;have htd:=two_drew HT2.out;obtain ⟨ad',hA',_,b0,_⟩:=HRc.out _ htd.bel
      obtain rfl:ad=ad':=by injection hA'
      have k0:=two_cells htd b0;have HTd:=hid htd;clear htd b0 hA'
      go_region_held3 (fun w'=>w'.cell? ⟨w.heap.size,0,none⟩=some (.slice (some ad) s.rules.length c)/\w'.cell? ⟨w.heap.size,1,none⟩=some (.slice A2 s.zones.length c2)/\w'.cell? ⟨w.heap.size,2,none⟩=some (.slice A3 s.links.length c3)/\w'.cell? (ad.add (k*11))=some (.string nm)) (first|assumption|(simp [*];done))
       (first
       |(go_at_call 49;refine (HSn.out _ HTd.out.bel).mono ?_;rintro e w3 ⟨v,rfl,hown,hb⟩;obtain ⟨Av,cv,rfl⟩:=own_slice hown;have hr:=Reads.of_own hown;have ht:=HTd.out.step hb;obtain ⟨ad',hA',_,b0,_⟩:=HRc.out _ ht.bel;obtain rfl:ad=ad':=(by injection hA');have kk:=two_cells ht b0;have HT3:=hid ht;have HRv:=hid hr;clear hb hown hr ht b0 hA')
       |(go_at_call 99;refine (HSk.out _ _ _ HRv.out).mono ?_;rintro e w4 ⟨rfl,hb⟩;have ht:=HT3.out.step hb;obtain ⟨ad',hA',_,b0,_⟩:=HRc.out _ ht.bel;obtain rfl:ad=ad':=(by injection hA');have kk4:=two_cells ht b0;have HX:=hid ht;clear hb ht b0 hA'))
      clear k0
      by_cases hE:E=0
      ·subst hE
       have hse:=HSe2.out;rw [if_pos rfl] at hse;have HSe3:=hid hse;clear hse HSe2;go_wp2
       exact ⟨⟨k+1,_,by omega,by go_num,HSe3.out,HSm.out,HX.out⟩,by simp [intOf];omega⟩
      ·have hse:=HSe2.out
       rw [if_neg hE] at hse
       have hq:=if_yes HQ2.out (by rw [<-hse];exact flaw_ne (.inl hE))
       rw [<-hse] at hq;subst hq
       have hEb:(E != 0)=true:=by simpa using hE
       clear hse HSe2 HSm HQ2 hE
       go_wp2_with (go_at_call 97;refine (flaw_any _ _ _ _ _).mono ?_;rintro e w5 ⟨rfl,hb⟩;have ht:=HX.out.step hb;have fR:=ht.res.frozen;have cR:=ht.res.cell;have HF:=hid (ht.fill (.int .i64 E) (.int .i64 1) (.int .i64 k) (.int .i64 0));clear hb ht)
       refine bodyPost_ret (rcheck_results HF.out.res _ rfl) rfl ?_
       exact ⟨rfl,HF.out.bel⟩
    ·obtain rfl:k=s.rules.length:=by omega
     rw [List.drop_length,setsL] at hse;have HQ3:=hid (if_no HQ2.out hse.symm);clear hse hsn ht HQ2 HSe HSt HFi HR;go_wp2;clear c0
     go_loopw [6] (fun i wr=>∃ k:Nat,k<=s.zones.length/\i= .int .i64 k/\zonesL s.rules sv ((s.zones.take k).map (·.name)) (s.zones.drop k) k=zonesB s sv/\Two w #[.slice A s.rules.length c,.slice A2 s.zones.length c2,.slice A3 s.links.length c3] #[.int .i64 0,.int .i64 0,.int .i64 0,.int .i64 0] wr) (fun i _=>s.zones.length - (intOf i).toNat)
     case atStart=>exact ⟨0,Nat.zero_le _,rfl,rfl,HT.out⟩
     case round=>
      clear HT;obtain ⟨k,hk,rfl,hzl,ht⟩:=hrel;have HT:=hid ht;have c0:=ht.src.cell
      by_cases hkn:k<s.zones.length
      ·obtain ⟨ad,hA,hadb,_⟩:=zone_cells (HZ.out.below ht.bel) hkn rfl
       subst hA;have HZc:=hid (fun z (hb:Below w.heap.size w z) t ht=>zone_cells (k:=t) (HZ.out.below hb) ht rfl);rw [List.drop_eq_getElem_cons hkn,zonesL] at hzl;have HZl:=hid hzl;have hmem:=List.getElem_mem hkn;have HErk:=hid (HEr.out (s.zones[k]'hkn) hmem);have hne:=HNe.out (s.zones[k]'hkn) hmem
       have hsu:(s.zones.take (k+1)).map (·.name)=(s.zones.take k).map (·.name)++[(s.zones[k]'hkn).name]:=by rw [List.take_succ_eq_append_getElem hkn,List.map_append];rfl
       have HSu:=hid hsu;have HZk:=hid (fun z hb=>HZc.out z hb k hkn);clear hzl ht hmem hsu;obtain ⟨zn,hzn⟩:∃ z,z=s.zones[k]'hkn:=⟨_,rfl⟩;rw [<-hzn] at HZl HErk hne HSu HZk;clear hzn;obtain ⟨z0,es,Az,cz⟩:=zn;simp only at HZl HErk hne HSu HZk;go_wp2;clear c0
       go_loopw [7] (fun i wz=>∃ j:Nat,j<=k/\i= .int .i64 j/\inL ((s.zones.take j).map (·.name)) z0=false/\Two w #[.slice A s.rules.length c,.slice (some ad) s.zones.length c2,.slice A3 s.links.length c3] #[.int .i64 0,.int .i64 0,.int .i64 0,.int .i64 0] wz) (fun i _=>k - (intOf i).toNat)
       case atStart=>exact ⟨0,Nat.zero_le _,rfl,rfl,HT.out⟩
       case round=>
        clear HT;obtain ⟨j,hj,rfl,hin0,ht⟩:=hrel;have HT:=hid ht;have c0:=ht.src.cell;clear ht
        by_cases hjk:j<k
        ·have hjn:j<s.zones.length:=by omega
         have hnx:=in_next (f:=fun z:ZoneM=>z.name) hjn z0;rw [hin0,Bool.false_or] at hnx;clear hin0 c0;obtain ⟨Cls,hCls⟩:∃ C:World->Prop,C=Two w #[.slice A s.rules.length c,.slice (some ad) s.zones.length c2,.slice A3 s.links.length c3] #[.int .i64 0,.int .i64 0,.int .i64 0,.int .i64 0]:=⟨_,rfl⟩
         have hC:∀ z,Cls z->Two w #[.slice A s.rules.length c,.slice (some ad) s.zones.length c2,.slice A3 s.links.length c3] #[.int .i64 0,.int .i64 0,.int .i64 0,.int .i64 0] z:=fun z h=>by rw [hCls] at h;exact h
         have hin:∀ z,Two w #[.slice A s.rules.length c,.slice (some ad) s.zones.length c2,.slice A3 s.links.length c3] #[.int .i64 0,.int .i64 0,.int .i64 0,.int .i64 0] z->Cls z:=fun z h=>by rw [hCls];exact h
         have hstart:=hin _ (two_drew HT.out);have inst:Nonempty (Qt.In Cls):=⟨⟨_,hstart⟩⟩;have gs:∀ (z:Qt.In Cls) (i:Nat),z.w.cell? ⟨w.heap.size,i,none⟩=#[.slice A s.rules.length c,.slice (some ad) s.zones.length c2,.slice A3 s.links.length c3][i]?:=fun z i=>(hC z.w z.h).src.cell i
         have gj:∀ z:Qt.In Cls,z.w.cell? (ad.add (j*2))=some (.string (s.zones[j]'hjn).name):=fun z=>by obtain ⟨ad',e,_,q⟩:=HZc.out z.w (hC z.w z.h).bel j hjn;obtain rfl:ad=ad':=(by injection e);exact q.1
         have gk:∀ z:Qt.In Cls,z.w.cell? (ad.add (k*2))=some (.string z0):=fun z=>by obtain ⟨ad',e,_,q⟩:=HZk.out z.w (hC z.w z.h).bel;obtain rfl:ad=ad':=(by injection e);exact q.1
         have hbq:=tl_beq (s.zones[j]'hjn).name z0;have HCx:=hid hC;have HS:=hid hstart;have HNx:=hid hnx;clear hC hin hCls hstart hnx;have HNx2:Hid (inL ((s.zones.take (j+1)).map (·.name)) z0=decide ((s.zones[j]'hjn).name=z0)):=HNx;clear HNx;generalize (s.zones[j]'hjn).name=nj at*
         cases hd:decide (nj=z0)<;>rw [hd] at HNx2 hbq
         ·go_wp2
          refine Qt.wp_region_cls Cls (by kernel_rfl) (by kernel_rfl) HS.out ?_
          repeat (go_big_quiet_step (fail))
          refine wpQuiet_nil ?_
          rintro wq ⟨⟨w9,hq9⟩,e9⟩
          have HX:=hid (HCx.out wq (by rw [e9];exact hq9))
          clear hq9 e9 gs gj gk;go_wp2
          exact ⟨⟨j+1,by omega,by go_num,HNx2.out,HX.out⟩,by simp [intOf];omega⟩
         ·have hzl:=HZl.out
          rw [if_pos (in_more (by omega) HNx2.out)] at hzl
          have hq:=if_yes HQ3.out (by rw [<-hzl];exact flaw_ne (.inl (by decide)))
          rw [<-hzl] at hq;subst hq;clear hzl HZl HQ3;go_wp2
          refine Qt.wp_region_cls Cls (by kernel_rfl) (by kernel_rfl) HS.out ?_
          repeat (go_big_quiet_step (fail))
          refine wpQuiet_nil ?_
          rintro wq ⟨⟨w9,hq9⟩,e9⟩
          have HX:=hid (HCx.out wq (by rw [e9];exact hq9))
          clear hq9 e9 gs gj gk
          go_wp2_with (go_at_call 97;refine (flaw_any _ _ _ _ _).mono ?_;rintro e w5 ⟨rfl,hb⟩;have ht:=HX.out.step hb;have fR:=ht.res.frozen;have cR:=ht.res.cell;have HF:=hid (ht.fill (.int .i64 10) (.int .i64 2) (.int .i64 k) (.int .i64 0));clear hb ht)
          refine bodyPost_ret (rcheck_results HF.out.res _ rfl) rfl ?_
          exact ⟨rfl,HF.out.bel⟩
        ·obtain rfl:j=k:=by omega
         have hzl:=HZl.out
         rw [if_neg (by rw [hin0];decide)] at hzl
         have HZl2:=hid hzl;clear hzl HZl hin0;go_wp2;clear c0
         go_loopw [8] (fun i wz=>∃ t:Nat,t<=es.length/\i= .int .i64 t/\(∀ n,n<t->eraAt s.rules sv es n=0)/\Two w #[.slice A s.rules.length c,.slice (some ad) s.zones.length c2,.slice A3 s.links.length c3] #[.int .i64 0,.int .i64 0,.int .i64 0,.int .i64 0] wz) (fun i _=>es.length - (intOf i).toNat)
         case atStart=>exact ⟨0,Nat.zero_le _,rfl,(fun n hn=>absurd hn (Nat.not_lt_zero _)),HT.out⟩
         case round=>
          clear HT;obtain ⟨t,htl,rfl,hz,ht⟩:=hrel;have HT:=hid ht;have c0:=ht.src.cell;obtain ⟨ad',hA',_,q0,q1⟩:=HZk.out _ ht.bel
          obtain rfl:ad=ad':=by injection hA'
          clear hA' ht
          by_cases htn:t<es.length
          ·have HEt:=hid (HErk.out t htn)
           have hhit:=fun hne=>zErr_hit (rs:=s.rules) (sv:=sv) htn hz hne;obtain ⟨E,hE⟩:∃ E,E=eraAt s.rules sv es t:=⟨_,rfl⟩;rw [<-hE] at HEt hhit;have HHit:=hid hhit;have HEe:=hid hE;have HZz:=hid hz;clear hhit hE hz;obtain ⟨Cls,hCls⟩:∃ C:World->Prop,C=Two w #[.slice A s.rules.length c,.slice (some ad) s.zones.length c2,.slice A3 s.links.length c3] #[.int .i64 0,.int .i64 0,.int .i64 0,.int .i64 0]:=⟨_,rfl⟩
           have hC:∀ z,Cls z->Two w #[.slice A s.rules.length c,.slice (some ad) s.zones.length c2,.slice A3 s.links.length c3] #[.int .i64 0,.int .i64 0,.int .i64 0,.int .i64 0] z:=fun z h=>by rw [hCls] at h;exact h
           have hin:∀ z,Two w #[.slice A s.rules.length c,.slice (some ad) s.zones.length c2,.slice A3 s.links.length c3] #[.int .i64 0,.int .i64 0,.int .i64 0,.int .i64 0] z->Cls z:=fun z h=>by rw [hCls];exact h
           have hstart:=hin _ (two_drew HT.out);have inst:Nonempty (Qt.In Cls):=⟨⟨_,hstart⟩⟩;have gs:∀ (z:Qt.In Cls) (i:Nat),z.w.cell? ⟨w.heap.size,i,none⟩=#[.slice A s.rules.length c,.slice (some ad) s.zones.length c2,.slice A3 s.links.length c3][i]?:=fun z i=>(hC z.w z.h).src.cell i
           have gk0:∀ z:Qt.In Cls,z.w.cell? (ad.add (j*2))=some (.string z0):=fun z=>by obtain ⟨ad',e,_,q⟩:=HZk.out z.w (hC z.w z.h).bel;obtain rfl:ad=ad':=(by injection e);exact q.1
           have gk1:∀ z:Qt.In Cls,z.w.cell? ⟨(ad.add (j*2)).block,(ad.add (j*2)).off+1,none⟩=some (.slice Az es.length cz):=fun z=>by obtain ⟨ad',e,_,q⟩:=HZk.out z.w (hC z.w z.h).bel;obtain rfl:ad=ad':=(by injection e);exact q.2
           have HEc:Hid (∀ z,Cls z->Calls prog 100 #[.agg #[.slice A s.rules.length c,.slice (some ad) s.zones.length c2,.slice A3 s.links.length c3],.agg #[.string z0,.slice Az es.length cz],.int .i64 t] z fun e z'=>e= .returned (.int .i64 E)/\Cls z'):=fun z h=>(HEt.out z (hC z h).bel).mono fun e z' ⟨he,hb⟩=>⟨he,hin _ ((hC z h).step hb)⟩;have HCx:=hid hC;have HS:=hid hstart;clear hC hin hCls hstart HEt
           by_cases h0:E=0
           ·subst h0
            have HZ2:Hid (∀ n,n<t+1->eraAt s.rules sv es n=0):=fun n hn=>by
             by_cases e:n=t
             ·rw [e];exact HEe.out.symm
             ·exact HZz.out n (by omega)
            clear HHit HEe HZz;go_wp2
            refine Qt.wp_region_cls Cls (by kernel_rfl) (by kernel_rfl) HS.out ?_
            repeat (go_big_quiet_step (fail))
            go_big_quiet_step (exact Qt.quiet_cls (HEc.out _ (Qt.In.h _)))
            repeat (go_big_quiet_step (fail))
            refine wpQuiet_nil ?_
            rintro wq ⟨⟨w9,hq9⟩,e9⟩
            have HX:=hid (HCx.out wq (by rw [e9];exact hq9))
            clear hq9 e9 gs gk0 gk1;go_wp2
            exact ⟨⟨t+1,by omega,by go_num,HZ2.out,HX.out⟩,by simp [intOf];omega⟩
           ·have hzl:=HZl2.out
            rw [HHit.out h0] at hzl;simp only [<-HEe.out] at hzl
            have hq:=if_yes HQ3.out (by rw [<-hzl];exact flaw_ne (.inl h0))
            rw [<-hzl] at hq;subst hq
            have hEb:(E != 0)=true:=by simpa using h0
            clear hzl HZl2 HQ3 HHit HEe HZz h0;go_wp2
            refine Qt.wp_region_cls Cls (by kernel_rfl) (by kernel_rfl) HS.out ?_
            repeat (go_big_quiet_step (fail))
            go_big_quiet_step (exact Qt.quiet_cls (HEc.out _ (Qt.In.h _)))
            repeat (go_big_quiet_step (fail))
            refine wpQuiet_nil ?_
            rintro wq ⟨⟨w9,hq9⟩,e9⟩
            have HX:=hid (HCx.out wq (by rw [e9];exact hq9))
            clear hq9 e9 gs gk0 gk1
            go_wp2_with (go_at_call 97;refine (flaw_any _ _ _ _ _).mono ?_;rintro e w5 ⟨rfl,hb⟩;have ht:=HX.out.step hb;have fR:=ht.res.frozen;have cR:=ht.res.cell;have HF:=hid (ht.fill (.int .i64 E) (.int .i64 2) (.int .i64 j) (.int .i64 t));clear hb ht)
            refine bodyPost_ret (rcheck_results HF.out.res _ rfl) rfl ?_
            exact ⟨rfl,HF.out.bel⟩
          ·obtain rfl:t=es.length:=by omega
           have hzl:=HZl2.out;rw [zErr_none hz] at hzl;simp only at hzl;rw [<-HSu.out] at hzl;have HZl3:=hid hzl;clear hzl HZl2 hz;go_wp2
           exact ⟨⟨j+1,by omega,by go_num,HZl3.out,HT.out⟩,by simp [intOf];omega⟩
      ·obtain rfl:k=s.zones.length:=by omega
       rw [List.drop_length,zonesL] at hzl;have hq:=if_no HQ3.out hzl.symm;have HQ4:=hid hq;clear hzl ht hq HQ3
       obtain ⟨⟨l0,l1,l2,l3⟩,hl⟩:∃ f,(if linksB s=noFlaw then targetsB s else linksB s)=f:=⟨_,rfl⟩
       have hq2:=HQ4.out;rw [hl] at hq2 HLk;subst hq2;simp only [Flaw.cells] at HLk;clear HQ4 hl
       go_wp2_with (go_at_call 101;refine (HLk.out _ HT.out.bel).mono ?_;rintro e w5 ⟨rfl,hb⟩;have ht:=HT.out.step hb;have fR:=ht.res.frozen;have cR:=ht.res.cell;have HF:=hid (ht.fill (.int .i64 l0) (.int .i64 l1) (.int .i64 l2) (.int .i64 l3));clear hb ht)
       refine bodyPost_ret (rcheck_results HF.out.res _ rfl) rfl ?_
       exact ⟨rfl,HF.out.bel⟩
end Snd
end
end
end Go.Proofs.YtadamccojdocbaaGreatDoor
