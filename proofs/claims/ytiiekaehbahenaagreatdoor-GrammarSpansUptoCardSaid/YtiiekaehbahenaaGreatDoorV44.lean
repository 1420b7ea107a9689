/-
  Contracts of the code that the law reaches, and plain laws. Conditions: as each says.
-/
import Derived.Test.YtiiekaehbahenaaGreatDoorV43
set_option linter.all false
set_option maxHeartbeats 40000000
set_option maxRecDepth 100000
namespace Go.Proofs.YtiiekaehbahenaaGreatDoor
open Lib (hid)
open Tryz
section
namespace Gr
open Go.RowKit Mem Atl Wid RefZ Dig
theorem big_step {l:Txt} {k:Nat} {v:Int} (hd:dgA l k=true):bigA l (l.length - k) k v=bigA l (l.length - (k+1)) (k+1) (v*10+((byA l k:Int) - 48)):=by
 have:=dg_in hd
 rw [show l.length - k=(l.length - (k+1))+1 from by omega,bigA,if_pos hd]
theorem big_end {l:Txt} {k:Nat} {v:Int} (hd:dgA l k=false):bigA l (l.length - k) k v=(v,k):=by
 cases h:l.length - k with
 |zero=>rfl
 |succ f=>rw [bigA,if_neg (by rw [hd];exact Bool.false_ne_true)]
structure RSt (w W:World):Prop where
 b:Blk W w.heap.size 32 rez8
 bel:Below w.heap.size w W
theorem RSt.below {w W Y:World} (h:RSt w W) (hb:Below W.heap.size W Y):RSt w Y:=⟨h.b.below hb h.b.lt,h.bel.trans (hb.mono h.bel.size)⟩
theorem RSt.drewN {w W:World} (h:RSt w W) (q:Nat):RSt w (W.drewN q):=⟨h.b.drewN q,below_drewN h.bel q⟩
theorem RSt.fill {w W:World} (h:RSt w W) (a b c d e f g i:Int):
  Blk ((((((((W.setCell ⟨w.heap.size,0,none⟩ (.int .i64 a)).setCell ⟨w.heap.size,1,none⟩ (.int .i64 b)).setCell ⟨w.heap.size,2,none⟩ (.int .i64 c)).setCell ⟨w.heap.size,3,none⟩ (.int .i64 d)).setCell ⟨w.heap.size,4,none⟩ (.int .i64 e)).setCell ⟨w.heap.size,5,none⟩ (.int .i64 f)).setCell ⟨w.heap.size,6,none⟩ (.int .i64 g)).setCell ⟨w.heap.size,7,none⟩ (.int .i64 i)) w.heap.size 32 #[.int .i64 a,.int .i64 b,.int .i64 c,.int .i64 d,.int .i64 e,.int .i64 f,.int .i64 g,.int .i64 i]/\
  Below w.heap.size w ((((((((W.setCell ⟨w.heap.size,0,none⟩ (.int .i64 a)).setCell ⟨w.heap.size,1,none⟩ (.int .i64 b)).setCell ⟨w.heap.size,2,none⟩ (.int .i64 c)).setCell ⟨w.heap.size,3,none⟩ (.int .i64 d)).setCell ⟨w.heap.size,4,none⟩ (.int .i64 e)).setCell ⟨w.heap.size,5,none⟩ (.int .i64 f)).setCell ⟨w.heap.size,6,none⟩ (.int .i64 g)).setCell ⟨w.heap.size,7,none⟩ (.int .i64 i)):=by
 refine ⟨?_,(((((((h.bel.setCell (p:=⟨w.heap.size,0,none⟩) (Nat.le_refl _) _).setCell (p:=⟨w.heap.size,1,none⟩) (Nat.le_refl _) _).setCell (p:=⟨w.heap.size,2,none⟩) (Nat.le_refl _) _).setCell (p:=⟨w.heap.size,3,none⟩) (Nat.le_refl _) _).setCell (p:=⟨w.heap.size,4,none⟩) (Nat.le_refl _) _).setCell (p:=⟨w.heap.size,5,none⟩) (Nat.le_refl _) _).setCell (p:=⟨w.heap.size,6,none⟩) (Nat.le_refl _) _).setCell (p:=⟨w.heap.size,7,none⟩) (Nat.le_refl _) _⟩
 have h:=(((((((h.b.set_ 0 (.int .i64 a)).set_ 1 (.int .i64 b)).set_ 2 (.int .i64 c)).set_ 3 (.int .i64 d)).set_ 4 (.int .i64 e)).set_ 5 (.int .i64 f)).set_ 6 (.int .i64 g)).set_ 7 (.int .i64 i);simp only [List.setIfInBounds_toArray,List.set_cons_succ,List.set_cons_zero] at h;exact h
structure LSt (w:World) (X:Nat) (F:List Int) (W:World):Prop where
 r:RSt w W
 l:∃ (n:Nat->Bool) (A:Nat->Option Addr) (k c:Nat->Nat),Blk W X 71 (zC n A k c)/\Arr W n A k c F 2500
 hX:w.heap.size<X
theorem LSt.below {w W Y:World} {X:Nat} {F:List Int} (h:LSt w X F W) (hb:Below W.heap.size W Y):LSt w X F Y:=by
 obtain ⟨n,A,k,c,h1,h2⟩:=h.l;exact ⟨h.r.below hb,⟨n,A,k,c,h1.below hb h1.lt,h2.below hb⟩,h.hX⟩
theorem LSt.drewN {w W:World} {X:Nat} {F:List Int} (h:LSt w X F W) (q:Nat):LSt w X F (W.drewN q):=h.below (below_drewN (Below.refl _ _) q)
theorem LSt.put {w W:World} {X P:Nat} {F:List Int} (h:LSt w X F W) {p:Bool} {q:Option Addr} {r s:Nat} (hp:Blk W P 70 #[.bool p,.slice q r s]) (hXP:X<P) (a b:Value):LSt w X F ((W.setCell ⟨P,0,none⟩ a).setCell ⟨P,1,none⟩ b):=by
 obtain ⟨n,A,k,c,h1,h2⟩:=h.l;have hX:=h.hX
 refine ⟨⟨blk_put_far h.r.b (by omega) _ _,(h.r.bel.setCell (p:=⟨P,0,none⟩) (by show w.heap.size<=P;omega) _).setCell (p:=⟨P,1,none⟩) (by show w.heap.size<=P;omega) _⟩,⟨n,A,k,c,blk_put_far h1 (by omega) _ _,fun j hj=>?_⟩,hX⟩
 obtain ⟨ds,hz⟩:=h2 j hj;exact ⟨ds,hz.put hp _ _⟩
structure DOk (l:Txt) (RES:Option DSt) (g:Nat) (d:DSt) (i:Nat):Prop where
 hg:l.length+1<=g+i
 hi:i<=l.length
 res:dspL l g d i=RES
 hF:d.f.length=8
 hp:∀ v∈d.f,0<=v
 h9:d.part<1000000000
 hun:0<d.part->d.unit=4\/d.unit=5\/d.unit=6
 hl: -1<=d.last
theorem lst_zero {w W:World} (h:RSt w W):LSt w W.heap.size z8 (W.alloc (.cells (zC (fun _=>false) (fun _=>none) (fun _=>0) (fun _=>0)) 71)):=
 ⟨h.below ((Below.refl _ _).alloc (Nat.le_refl _) _),⟨_,_,_,_,Blk.new _ _ _,fun j hj=>⟨[],by rw [z8_zero];exact ZD.zero _ _⟩⟩,h.b.lt⟩
theorem fra_end {l:Txt}:∀ (f i v:Nat),(fraA l f i v).2.2<=i+f
 |0,i,v=>Nat.le_refl _
 |f+1,i,v=>by
  rw [fraA]
  split
  ·have:=fra_end (l:=l) f (i+1) (v*10+(byA l i - 48));omega
  ·simp only;omega
theorem part_end {l:Txt} {i:Nat} {x:Int×Nat} (e:partA l i=some x):x.2<=i+10:=by
 unfold partA at e
 split at e
 ·split at e
  ·cases e
  ·cases e;have:=fra_end (l:=l) 9 (i+1) 0;simp only;omega
 ·cases e;simp only;omega
theorem whD_in {l:Txt} {tm:Bool} {k:Nat} {la:Int} (hl: -1<=la) (h:¬ whD l tm k<=la):∃ U:Nat,whD l tm k=(U:Int)/\U<7/\k+1<=l.length/\(tm=true->U=4\/U=5\/U=6):=by
 unfold whD at h ⊢
 cases tm
 ·simp only [Bool.false_eq_true,if_false] at h ⊢
  cases hw:whA l [89,77,87,68] k with
  |none=>rw [hw] at h;exact absurd hl h
  |some j=>
   have:=wh_lt hw;simp only [List.length_cons,List.length_nil] at this
   exact ⟨j,rfl,by omega,wh_in hw,fun e=>by cases e⟩
 ·simp only [if_true] at h ⊢
  cases hw:whA l [72,77,83] k with
  |none=>rw [hw] at h;exact absurd hl h
  |some j=>
   have:=wh_lt hw;simp only [List.length_cons,List.length_nil] at this
   exact ⟨j+4,by simp,by omega,wh_in hw,fun _=>by omega⟩
theorem LSt.set {w W:World} {X:Nat} {F:List Int} (h:LSt w X F W) (hF:F.length=8) {n:Nat->Bool} {A:Nat->Option Addr} {k c:Nat->Nat} (h1:Blk W X 71 (zC n A k c)) (h2:Arr W n A k c F 2500) {U:Nat} (hU:U<8) {gg:Bool} {B:Option Addr} {kk cc:Nat} {ds:List Int} {V:Int} (hz:ZD W gg B kk cc ds V 2500):
  LSt w X (F.set U V) ((W.setCell ⟨X,U*2,none⟩ (.bool gg)).setCell ⟨X,U*2+1,none⟩ (.slice B kk cc)):=by
 have hX:=h.hX
 refine ⟨⟨(h.r.b.far (p:=⟨X,U*2,none⟩) (by show w.heap.size≠X;omega) _).far (p:=⟨X,U*2+1,none⟩) (by show w.heap.size≠X;omega) _,(h.r.bel.setCell (p:=⟨X,U*2,none⟩) (by show w.heap.size<=X;omega) _).setCell (p:=⟨X,U*2+1,none⟩) (by show w.heap.size<=X;omega) _⟩,⟨_,_,_,_,zC_set h1 hU gg B kk cc,Arr.set (fun i hi=>?_) hF hU (zd_setC h1 hU gg B kk cc hz)⟩,hX⟩
 obtain ⟨ds',hz'⟩:=h2 i hi;exact ⟨ds',zd_setC h1 hU gg B kk cc hz'⟩
theorem dspan24 (s:ByteArray) (w:World) (hs:s.size<=300):
  Calls prog 12 #[.string s] w fun e w'=>e= .returned (spanV (tx s))/\Below w.heap.size w w':=by
 obtain ⟨R,hR⟩:∃ R,spanB (tx s)=R:=⟨_,rfl⟩;rw [spanV,hR];rw [<-dspan_is] at hR;have hbx:=box1 w 32 rez8;have HB:=hid hbx;clear hbx;have HS0:Hid (RSt w (w.alloc (.cells rez8 32))):=⟨HB.out.1,HB.out.2.1⟩;clear HB
 have HI:=hid (fun (of:ByteArray) (i:Nat) (z:World) (ho:of.size<=1000) (hi:i<=5000000)=>dis_any of s i z ho (by omega) hi)
 obtain ⟨PM,hPM⟩:∃ PM,oneA (tx s) [43,45] 0=PM:=⟨_,rfl⟩
 obtain ⟨I0,hI0⟩:∃ I0:Nat,(if PM=true then 1 else 0)=I0:=⟨_,rfl⟩
 obtain ⟨NEG,hNEG⟩:∃ NEG,oneA (tx s) [45] 0=NEG:=⟨_,rfl⟩
 have hI1:I0<=1:=by rw [<-hI0];split<;>omega
 have HP:Hid (∀ z,Calls prog 20 #[.string s,.int .i64 0,.string ⟨#[43,45]⟩] z fun e w'=>e= .returned (.bool PM)/\∃ n,w'=z.drewN n):=fun z=>by
  have:=HI.out ⟨#[43,45]⟩ 0 z (by decide) (by omega)
  rw [pm_lisp,hPM] at this;exact this
 rw [hNEG,dspanA,hPM,hI0] at hR;have HPM:=hid hPM;have HNEG:=hid hNEG;have HR:=hid hR;clear hPM hNEG hR;go_enter func12,ntmps12
 go_wp2_with fail
 go_at_call 20
 generalize w.alloc _=W at*
 refine (HP.out W).mono ?_
 rintro e w1 ⟨rfl,q,rfl⟩;have HS1:=hid (HS0.out.drewN q);generalize W.drewN q=W1 at*;clear HS0 HP
 go_upto_if 15 with fail
 go_cut [4,5] (fun s4 s5 wx=>s4= .int .i64 (I0:Int)/\s5= .bool NEG/\RSt w wx)
 case first=>
  cases PM
  ·have hN:NEG=false:=by rw [<-HNEG.out];exact pm_no HPM.out
   subst hN
   have h0:I0=0:=by rw [<-hI0];rfl
   subst h0
   go_wp2_with fail
   go_meet;exact ⟨rfl,rfl,HS1.out⟩
  ·have hlen:=one_len' HPM.out
   rw [tx_len] at hlen
   have h1:I0=1:=by rw [<-hI0];rfl
   subst h1
   have hs1:0<s.size:=by omega
   have hs2:(0:Int)<(s.size:Int):=by omega
   have hs3:decide ((0:Int)<(s.size:Int))=true:=decide_eq_true hs2;have hN:=HNEG.out;rw [dash_eq,by_at hs1] at hN
   go_wp2_with fail
   go_meet;exact ⟨rfl,rfl,HS1.out⟩
 case rest=>
 obtain ⟨rfl,rfl,hS2⟩:=hcut;have HS2:=hid hS2;clear hS2 HS1;obtain ⟨PP,hPP⟩:∃ PP,oneA (tx s) [80,112] I0=PP:=⟨_,rfl⟩
 have HQ:Hid (∀ z,Calls prog 20 #[.string s,.int .i64 (I0:Int),.string ⟨#[80,112]⟩] z fun e w'=>e= .returned (.bool PP)/\∃ n,w'=z.drewN n):=fun z=>by
  have:=HI.out ⟨#[80,112]⟩ I0 z (by decide) (by omega)
  rw [pp_list,hPP] at this;exact this
 have hR:=HR.out;rw [hPP] at hR;have HPP:=hid hPP;clear HR hPP
 go_wp2_with fail
 go_at_call 20
 refine (HQ.out _).mono ?_
 rintro e w2 ⟨rfl,q2,rfl⟩;have HS3:=hid (HS2.out.drewN q2);generalize wc.drewN q2=W2 at*;clear HS2 HQ
 cases PP
 ·have hRf:R=(z8,6):=by rw [<-hR];rfl
  subst hRf;clear hR;have cR:=HS3.out.b.cell;have fR:=HS3.out.b.frozen;go_wp2;have bF:=HS3.out.fill 0 0 0 0 0 0 0 0;clear cR fR HS3;generalize World.setCell _ ⟨w.heap.size,7,none⟩ _=WF at*;have cF:=bF.1.cell
  exact bodyPost_ret (v:= .tuple #[.agg #[.int .i64 0,.int .i64 0,.int .i64 0,.int .i64 0,.int .i64 0,.int .i64 0,.int .i64 0,.int .i64 0],.int .i64 6]) (by simp [results,Tryz.results12,go_sem,cF]) rfl ⟨rfl,bF.2⟩
 ·have hlen:=one_len' HPP.out
  rw [tx_len] at hlen;rw [if_pos rfl] at hR;have HR:=hid hR;clear hR;have HL0:=hid (lst_zero HS3.out);have hL1:(tx s).length=s.size:=tx_len s;obtain ⟨RES,hRES⟩:∃ RES,dspL (tx s) ((tx s).length+1) ⟨false,false,-1,-1,-1,z8⟩ (I0+1)=RES:=⟨_,rfl⟩
  have HD0:Hid (DOk (tx s) RES ((tx s).length+1) ⟨false,false,-1,-1,-1,z8⟩ (I0+1)):=⟨by omega,by omega,hRES,rfl,by decide,by decide,fun e=>absurd e (by decide),by decide⟩
  rw [hRES] at HR;clear hRES HS3 HPP HPM HNEG hI0
  go_wp2_with fail
  generalize W2.alloc _=W3 at*;generalize W2.heap.size=X at*
  go_loopw [4,7,8,9,10,11,12,13] (fun si sl st ss sp su _ _ wr=>∃ (i g:Nat) (d:DSt),si= .int .i64 (i:Int)/\sl= .int .i64 d.last/\st= .bool d.tm/\ss= .bool d.sm/\sp= .int .i64 d.part/\su= .int .i64 d.unit/\DOk (tx s) RES g d i/\LSt w X d.f wr) (fun si _ _ _ _ _ _ _ _=>s.size - (intOf si).toNat)
  case atStart=>exact ⟨I0+1,_,_,by simp,rfl,rfl,rfl,rfl,rfl,HD0.out,HL0.out⟩
  case round=>
   clear HD0 HL0;obtain ⟨i,g,d,rfl,rfl,rfl,rfl,rfl,rfl,hD,hL⟩:=hrel;have HD:=hid hD;have HL:=hid hL;have hi:=hD.hi;rw [hL1] at hi;clear hD hL;obtain ⟨tm,sm,la,pt,un,F⟩:=d
   by_cases his2:s.size<=i
   ·have his:¬ i<s.size:=by omega
    have r1:decide ((i:Int)<(s.size:Int))=false:=decide_eq_false (by omega)
    have hD:=HD.out;have hRs:=hD.res
    rw [dsp_stop (by have:=hD.hg;have:=hD.hi;omega) (by rw [hL1];exact his)] at hRs
    cases sm
    ·have hRf:R=(z8,6):=by rw [<-HR.out,<-hRs];rfl
     subst hRf;have HS:=hid HL.out.r;clear hRs HR HD HL hD;have cR:=HS.out.b.cell;have fR:=HS.out.b.frozen;go_wp2;have bF:=HS.out.fill 0 0 0 0 0 0 0 0;clear cR fR HS;generalize World.setCell _ ⟨w.heap.size,7,none⟩ _=WF at*;have cF:=bF.1.cell
     exact bodyPost_ret (v:= .tuple #[.agg #[.int .i64 0,.int .i64 0,.int .i64 0,.int .i64 0,.int .i64 0,.int .i64 0,.int .i64 0,.int .i64 0],.int .i64 6]) (by simp [results,Tryz.results12,go_sem,cF]) rfl ⟨rfl,bF.2⟩
    ·obtain ⟨B,hB⟩:∃ B,madeB NEG ⟨tm,true,la,pt,un,F⟩=B:=⟨_,rfl⟩
     have hRB:R=B:=by rw [<-HR.out,<-hRs,<-hB];rfl
     subst hRB;obtain ⟨n0,A0,k0,c0,h1,h2⟩:=HL.out.l;obtain ⟨x0,x1,x2,x3,x4,x5,x6,x7,hx⟩:∃ x0 x1 x2 x3 x4 x5 x6 x7:Int,durF (flF R.1)=#[.int .i64 x0,.int .i64 x1,.int .i64 x2,.int .i64 x3,.int .i64 x4,.int .i64 x5,.int .i64 x6,.int .i64 x7]:=⟨_,_,_,_,_,_,_,_,rfl⟩;obtain ⟨N9,hN9⟩:∃ N9:Int,((R.2:Nat):Int)=N9:=⟨_,rfl⟩
     have HMd:=hid (fun (z:World) (hz:Below wr.heap.size wr z)=>made24 n0 A0 k0 c0 F 2500 pt un NEG z (h2.below hz) (by omega) hD.hF hD.hp ((Int.lt_or_le 0 pt).elim (fun h=> .inr ⟨hD.h9,hD.hun h⟩) .inl) tm la true)
     rw [hB] at HMd
     change Hid (∀ z,Below wr.heap.size wr z->Calls prog 38 #[.agg (zC n0 A0 k0 c0),.int .i64 pt,.int .i64 un,.bool NEG] z fun r w'=>r= .returned (.tuple #[.agg (durF (flF R.1)),.int .i64 ((R.2:Nat):Int)])/\Below z.heap.size z w') at HMd
     rw [hx,hN9] at HMd;have HX:=hid (And.intro hx hN9);have c1:=h1.cell;have hXl:=h1.lt;clear hRs HR HD hD h2 hx hN9 hB h1
     go_wp2_with fail
     go_at_call 38
     refine (HMd.out wr (Below.refl _ _)).mono ?_
     rintro e w9 ⟨rfl,hb9⟩;have HS:=hid (HL.out.r.below hb9);clear HL HMd c1 hXl hb9;have cR:=HS.out.b.cell;have fR:=HS.out.b.frozen;go_wp2;have bF:=HS.out.fill x0 x1 x2 x3 x4 x5 x6 x7;clear cR fR HS;generalize World.setCell _ ⟨w.heap.size,7,none⟩ _=WF at*;have cF:=bF.1.cell
     exact bodyPost_ret (v:= .tuple #[.agg #[.int .i64 x0,.int .i64 x1,.int .i64 x2,.int .i64 x3,.int .i64 x4,.int .i64 x5,.int .i64 x6,.int .i64 x7],.int .i64 N9]) (by simp [results,Tryz.results12,go_sem,cF]) rfl ⟨by rw [HX.out.1,HX.out.2],bF.2⟩
   ·have his:i<s.size:=by omega
    have r1:decide ((i:Int)<(s.size:Int))=true:=decide_eq_true (by omega)
    obtain ⟨TT,hTT⟩:∃ TT,oneA (tx s) [84,116] i=TT:=⟨_,rfl⟩
    have HT:Hid (∀ z,Calls prog 20 #[.string s,.int .i64 (i:Int),.string ⟨#[84,116]⟩] z fun e w'=>e= .returned (.bool TT)/\∃ n,w'=z.drewN n):=fun z=>by
     have:=HI.out ⟨#[84,116]⟩ i z (by decide) (by omega)
     rw [tt_list',hTT] at this;exact this
    have HTT:=hid hTT;clear hTT
    go_upto_region 12 with fail
    obtain ⟨C,hC⟩:∃ C,(TT && !tm)=C:=⟨_,rfl⟩;have HC:=hid hC;clear hC
    go_cut [36] from 30 to 36 (fun s36 wx=>s36= .bool C/\LSt w X F wx)
    case first=>
     go_wp2_with fail
     go_at_call 20
     refine (HT.out _).mono ?_
     rintro e w2 ⟨rfl,q3,rfl⟩;have HL1:=hid (HL.out.drewN q3);generalize wr.drewN q3=W4 at*;clear HL HT
     cases TT<;>cases tm
     all_goals go_wp2_with fail
     all_goals go_meet
     all_goals exact ⟨congrArg Value.bool HC.out,HL1.out⟩
    case rest=>
    obtain ⟨rfl,hL1'⟩:=hcut;have HL1:=hid hL1';clear hL1' HT HL
    cases C
    case true=>
     have hc:TT=true/\tm=false:=by
      have:=HC.out
      revert this
      cases TT<;>cases tm<;>simp
     obtain ⟨rfl,rfl⟩:=hc;clear HC;have hD:=HD.out
     have hgs:g=(g - 1)+1:=by have:=hD.hg;omega
     have hD1:Hid (DOk (tx s) RES (g - 1) ⟨true,false,3,pt,un,F⟩ (i+1)):=by
      refine ⟨by have:=hD.hg;omega,by omega,?_,hD.hF,hD.hp,hD.h9,hD.hun,(by decide:(-1:Int)<=3)⟩
      have h:=hD.res
      rw [hgs,dspL,if_pos (by omega),if_pos ⟨HTT.out,rfl⟩] at h
      exact h
     clear hD HD HTT
     go_wp2_with fail
     exact ⟨⟨i+1,_,_,by simp,rfl,rfl,rfl,rfl,rfl,hD1.out,HL1.out⟩,by simp only [intOf];omega⟩
    case false=>
     have hc:¬ (oneA (tx s) [84,116] i=true/\tm=false):=by
      rintro ⟨h1,rfl⟩;have:=HC.out;rw [<-HTT.out,h1] at this
      exact absurd this (by decide)
     have hc2:=hid hc;clear hc HTT HC;have hb1:=box1 wc 70 (zv false none 0 0);have HL2:=hid (HL1.out.below hb1.2.1);have HV0:Hid (Var (wc.alloc (.cells (zv false none 0 0) 70)) wc.heap.size false none 0 0 [] 0 (8*(i - i))):=⟨hb1.1,ZD.zero _ _⟩
     have hXP:X<wc.heap.size:=by
      obtain ⟨n,A,k,c,h1,h2⟩:=HL1.out.l;exact h1.lt
     clear hb1 HL1
     go_wp2_with fail
     generalize wc.alloc _=W5 at*;generalize wc.heap.size=P at*;obtain ⟨BN,hBN⟩:∃ BN,bigN (tx s) i=BN:=⟨_,rfl⟩;have HBN0:Hid (bigA (tx s) ((tx s).length - i) i 0=BN):=hBN;have HBN:=hid hBN;clear hBN
     go_loopw [12] (fun sk wi=>∃ (k:Nat) (V:Int),sk= .int .i64 (k:Int)/\i<=k/\k<=s.size/\0<=V/\bigA (tx s) ((tx s).length - k) k V=BN/\(∃ (gg:Bool) (A:Option Addr) (kk cc:Nat) (ds:List Int),Var wi P gg A kk cc ds V (8*(k - i)))/\LSt w X F wi) (fun sk _=>s.size - (intOf sk).toNat)
     case atStart=>exact ⟨i,0,rfl,Nat.le_refl _,hi,Int.le_refl _,HBN0.out,⟨_,_,_,_,_,HV0.out⟩,HL2.out⟩
     case round=>
      clear HBN0 HV0 HL2;obtain ⟨k,V,rfl,hik,hks,hV0,hb,⟨gg,A,kk,cc,ds,hv⟩,hl⟩:=hrel;have HV:=hid hv;have HL3:=hid hl
      have HDd:=hid (fun z=>ddig_any s k z (by omega) (by omega))
      cases hd:dgA (tx s) k
      ·rw [hd] at HDd
       rw [big_end hd] at hb;have hD:=HD.out;have hbn:bigN (tx s) i=(V,k):=HBN.out.trans hb.symm
       have hki:dgA (tx s) i=true->(k:Int)≠(i:Int):=by
        intro h e
        have:k=i:=by omega
        subst this;rw [hd] at h
        exact absurd h (by decide)
       have hki2:dgA (tx s) i=false->k=i:=by
        intro h;have e:=hbn;unfold bigN at e;rw [big_end h] at e;exact (congrArg Prod.snd e).symm
       have hgs:g=(g - 1)+1:=by have:=hD.hg;omega
       have hRs:=hD.res
       rw [hgs,dspL,if_pos (by omega),if_neg hc2.out,hbn] at hRs
       clear hv hl hb hd hbn hgs hD
       go_wp2_with fail
       go_at_call 32
       refine (HDd.out _).mono ?_
       rintro e w6 ⟨rfl,q6,rfl⟩;have HV6:=hid (HV.out.below (below_drewN (Below.refl _ _) q6));have HL6:=hid (HL3.out.drewN q6);clear HV HL3 HDd;generalize wr.drewN q6=W6 at*
       by_cases hP:dgA (tx s) i=true/\pt<0
       case neg=>
        have HRs:RES=none:=by rw [<-hRs,if_neg hP]
        have hRf:R=(z8,6):=by rw [<-HR.out,HRs];rfl
        subst hRf;have HS:=hid HL6.out.r;clear HL6 HV6 HRs hRs HR HD HBN
        cases hdi:dgA (tx s) i
        ·have q5:((k:Int) == (i:Int))=true:=by rw [beq_iff_eq,hki2 hdi]
         clear hki hki2 hdi hP;have cR:=HS.out.b.cell;have fR:=HS.out.b.frozen;go_wp2;have bF:=HS.out.fill 0 0 0 0 0 0 0 0;clear cR fR HS;generalize World.setCell _ ⟨w.heap.size,7,none⟩ _=WF at*;have cF:=bF.1.cell
         exact bodyPost_ret (v:= .tuple #[.agg #[.int .i64 0,.int .i64 0,.int .i64 0,.int .i64 0,.int .i64 0,.int .i64 0,.int .i64 0,.int .i64 0],.int .i64 6]) (by simp [results,Tryz.results12,go_sem,cF]) rfl ⟨rfl,bF.2⟩
        ·have q5:((k:Int) == (i:Int))=false:=beq_eq_false_iff_ne.2 (hki hdi)
         have q7:decide (0<=pt)=true:=decide_eq_true (Int.not_lt.1 fun h=>hP ⟨hdi,h⟩);clear hki hki2 hdi hP;have cR:=HS.out.b.cell;have fR:=HS.out.b.frozen;go_wp2;have bF:=HS.out.fill 0 0 0 0 0 0 0 0;clear cR fR HS;generalize World.setCell _ ⟨w.heap.size,7,none⟩ _=WF at*;have cF:=bF.1.cell
         exact bodyPost_ret (v:= .tuple #[.agg #[.int .i64 0,.int .i64 0,.int .i64 0,.int .i64 0,.int .i64 0,.int .i64 0,.int .i64 0,.int .i64 0],.int .i64 6]) (by simp [results,Tryz.results12,go_sem,cF]) rfl ⟨rfl,bF.2⟩
       case pos=>
        have q5:((k:Int) == (i:Int))=false:=beq_eq_false_iff_ne.2 (hki hP.1)
        have q7:decide (0<=pt)=false:=decide_eq_false (by omega)
        rw [if_pos hP] at hRs;have HRs:=hid hRs;have hpt0:=hP.2;clear hRs hki hki2 hP
        go_upto_if 64 with fail
        go_cut [10,12] (fun s10 s12 wx=>∃ (p:Int) (k':Nat),(if tm=true then partA (tx s) k else some (pt,k))=some (p,k')/\s10= .int .i64 p/\s12= .int .i64 (k':Int)/\Var wx P gg A kk cc ds V (8*(k - i))/\LSt w X F wx)
        case first=>
         cases tm
         ·go_wp2_with fail
          go_meet;exact ⟨pt,k,rfl,rfl,rfl,HV6.out,HL6.out⟩
         ·have HPt:=hid (fun z=>dpart_any k s z (by omega) (by omega))
          rcases hpp:partA (tx s) k with _|⟨p,k'⟩
          ·rw [hpp] at HPt
           simp only [PtO] at HPt;have hn:=HRs.out;rw [hpp] at hn
           have hRf:R=(z8,6):=by rw [<-HR.out,<-hn];rfl
           subst hRf;clear hn hpp HRs HR HD HBN
           go_wp2_with fail
           go_at_call 36
           refine (HPt.out _).mono ?_
           rintro e w7 ⟨rfl,q8,rfl⟩;have HS:=hid (HL6.out.drewN q8).r;clear HL6 HV6 HPt;generalize W6.drewN q8=W7 at*;have cR:=HS.out.b.cell;have fR:=HS.out.b.frozen;go_wp2;have bF:=HS.out.fill 0 0 0 0 0 0 0 0;clear cR fR HS;generalize World.setCell _ ⟨w.heap.size,7,none⟩ _=WF at*;have cF:=bF.1.cell
           exact bodyPost_ret (v:= .tuple #[.agg #[.int .i64 0,.int .i64 0,.int .i64 0,.int .i64 0,.int .i64 0,.int .i64 0,.int .i64 0,.int .i64 0],.int .i64 6]) (by simp [results,Tryz.results12,go_sem,cF]) rfl ⟨rfl,bF.2⟩
          ·rw [hpp] at HPt
           simp only [PtO] at HPt
           have hk0:decide ((k':Int)<0)=false:=decide_eq_false (by omega)
           have Hpp:=hid hpp;clear hpp
           go_wp2_with fail
           go_at_call 36
           refine (HPt.out _).mono ?_
           rintro e w7 ⟨rfl,q8,rfl⟩;have HV7:=hid (HV6.out.below (below_drewN (Below.refl _ _) q8));have HL7:=hid (HL6.out.drewN q8);clear HL6 HV6 HPt;generalize W6.drewN q8=W7 at*
           go_wp2_with fail
           go_meet;exact ⟨p,k',Hpp.out,rfl,rfl,HV7.out,HL7.out⟩
        case rest=>
        obtain ⟨p,k',hp1,rfl,rfl,hv7,hl7⟩:=hcut;have HV7:=hid hv7;have HL7:=hid hl7;have hRs:=HRs.out;rw [hp1] at hRs
        have hkk:k<=k'/\k'<=k+10/\p<1000000000/\(tm=false->p<0):=by
         cases tm
         ·simp only [Bool.false_eq_true,if_false,Option.some.injEq,Prod.mk.injEq] at hp1
          obtain ⟨rfl,rfl⟩:=hp1
          exact ⟨Nat.le_refl _,by omega,by omega,fun _=>hpt0⟩
         ·simp only [if_true] at hp1
          exact ⟨part_from hp1,part_end hp1,(part_bd hp1).2,fun e=>by cases e⟩
        simp only [Option.bind_some] at hRs;obtain ⟨WH,hWH⟩:∃ WH,whD (tx s) tm k'=WH:=⟨_,rfl⟩
        have HWh:=hid (fun z=>which24 s k' tm z (by omega) (by omega))
        rw [hWH] at HWh hRs;clear HV6 HL6 HRs hv7 hl7 hp1
        by_cases hle:WH<=la
        ·have q8:decide (WH<=la)=true:=decide_eq_true hle
         rw [if_pos hle] at hRs
         have hRf:R=(z8,6):=by rw [<-HR.out,<-hRs];rfl
         subst hRf;clear hRs HR HD HBN hWH
         go_wp2_with fail
         go_at_call 37
         refine (HWh.out _).mono ?_
         rintro e w8 ⟨rfl,hb8⟩;have HS:=hid (HL7.out.below hb8).r;clear HL7 HV7 HWh hb8;have cR:=HS.out.b.cell;have fR:=HS.out.b.frozen;go_wp2;have bF:=HS.out.fill 0 0 0 0 0 0 0 0;clear cR fR HS;generalize World.setCell _ ⟨w.heap.size,7,none⟩ _=WF at*;have cF:=bF.1.cell
         exact bodyPost_ret (v:= .tuple #[.agg #[.int .i64 0,.int .i64 0,.int .i64 0,.int .i64 0,.int .i64 0,.int .i64 0,.int .i64 0,.int .i64 0],.int .i64 6]) (by simp [results,Tryz.results12,go_sem,cF]) rfl ⟨rfl,bF.2⟩
        ·have q8:decide (WH<=la)=false:=decide_eq_false hle
         have hwf:=whD_in HD.out.hl (hWH ▸ hle);rw [hWH] at hwf;obtain ⟨U,rfl,hU7,hkl,hUt⟩:=hwf;rw [if_neg hle] at hRs
         have hD1:Hid (DOk (tx s) RES (g - 1) ⟨tm,true,(U:Int),p,(U:Int),F.set U V⟩ (k'+1)):=by
          have hD:=HD.out
          refine ⟨by have:=hD.hg;omega,hkl,hRs,by rw [List.length_set];exact hD.hF,set_pos hD.hp hV0,hkk.2.2.1,fun e=>?_,by show (-1:Int)<=(U:Int);omega⟩
          cases tm
          ·exact absurd e (by have:=hkk.2.2.2 rfl;show ¬ 0<p;omega)
          ·have:=hUt rfl
           show (U:Int)=4\/(U:Int)=5\/(U:Int)=6
           omega
         have hF8:F.length=8:=HD.out.hF;have hk1:=hkk.1;clear hRs HR HD HBN hWH hUt hkk hle
         go_wp2_with fail
         go_at_call 37
         refine (HWh.out _).mono ?_
         rintro e w8 ⟨rfl,hb8⟩;have hv8:=HV7.out.below hb8;have HL8:=hid (HL7.out.below hb8);obtain ⟨n0,A0,k0,c0,h1,h2⟩:=HL8.out.l
         have hU8:U<8:=by omega
         have HN:=hid (LSt.set HL8.out hF8 h1 h2 hU8 (hv8.zd.more (by omega)))
         obtain ⟨v0,v1,-,-⟩:=hv8.cells;have x0:=zC_cell0 h1 hU8;have x1:=zC_cell1 h1 hU8;have y0:=h1.frozen (U*2);have y1:=h1.frozen (U*2+1);have ad:=addr_at X (U*2)
         have j0:(0:Int)<=(U:Int):=by omega
         have j1:(U:Int)<8:=by omega
         have e1:P≠X:=by omega
         have e2:X≠P:=by omega
         clear hb8 hv8 HL8 HL7 HV7 HWh h1 h2
         go_wp2_with fail
         exact ⟨⟨k'+1,_,_,by go_num,rfl,rfl,rfl,rfl,rfl,hD1.out,HN.out⟩,by simp only [intOf];omega⟩
      ·rw [hd] at HDd
       rw [big_step hd,hL1] at hb;have hlt:=dg_lt hd;have hbd:=dg_bd hd;rw [by_at hlt] at hb hbd
       have hb0:(0:Int)<=(k:Int):=by omega
       have hb1:(k:Int)<(s.size:Int):=by omega
       obtain ⟨b,hbb⟩:∃ b,s[k]'hlt=b:=⟨_,rfl⟩;rw [hbb] at hb hbd;have Hbb:=hid hbb;have hw:((b.toNat:Int) - 48)=((b.toNat - 48:Nat):Int):=cast_dig hbd.1;obtain ⟨d,hd2⟩:∃ d,b.toNat - 48=d:=⟨_,rfl⟩
       have hd9:d<=9:=by omega
       have hw2:IntKind.u8.wrap ((b.toNat:Int) - 48)=(d:Int):=by rw [hw,hd2,IntKind.wrap_u8];omega
       rw [hw,hd2] at hb;have Hb:=hid hb
       have HOf:=hid (fun (x:Int) (z:World) (hx:x=10\/x=IntKind.i64.wrap (d:Int))=>of_any x z (by rw [IntKind.wrap_i64] at hx;omega) (by rw [IntKind.wrap_i64] at hx;omega))
       clear hv hl hb hd hw hd2 hbd
       go_wp2_with fail
       go_at_call 32
       refine (HDd.out _).mono ?_
       rintro e w6 ⟨rfl,q6,rfl⟩;have HV6:=hid (HV.out.below (below_drewN (Below.refl _ _) q6));have HL6:=hid (HL3.out.drewN q6);clear HV HL3 HDd;generalize wr.drewN q6=W6 at*;have HK:Hid (∀ z,Below W6.heap.size W6 z->z.cell? ⟨P,0,none⟩=some (.bool gg)/\z.cell? ⟨P,1,none⟩=some (.slice A kk cc)):=fun z hz=>And.intro ((HV6.out.below hz).blk.cell 0) ((HV6.out.below hz).blk.cell 1);have kb0:Below W6.heap.size W6 W6.drew:=(Below.refl _ _).drew;have hm:=HK.out _ kb0;have m0:=hm.1;have m1:=hm.2;clear hm
       go_upto_region 20 with fail
       have hw3:IntKind.i64.wrap (d:Int)=(d:Int):=by rw [IntKind.wrap_i64];omega
       have HW3:=hid hw3;clear hw3
       go_cut [] from 44 to 53 (fun wx=>(∃ (gg:Bool) (A:Option Addr) (kk cc:Nat) (ds:List Int),Var wx P gg A kk cc ds (V*10+(d:Int)) (8*(k+1 - i)))/\LSt w X F wx)
       case rest=>
        obtain ⟨⟨g9,A9,k9,c9,d9,hv9⟩,hl9⟩:=hcut;have HV9:=hid hv9;have HL9:=hid hl9;clear HV6 HL6 HK hv9 hl9 m0 m1
        go_wp2_with fail
        exact ⟨⟨k+1,_,by go_num,by omega,by omega,by omega,by rw [hL1];exact Hb.out,⟨_,_,_,_,_,HV9.out⟩,HL9.out⟩,by simp only [intOf];omega⟩
       case first=>
        clear Hb HR HD HBN hc2 HI
        go_region_with (first
         |(go_at_call 35;refine (HOf.out _ _ (by with_reducible first|exact .inl rfl|exact .inr rfl)).mono ?_;rintro e wx ⟨vx,rfl,⟨nx,Ax,kx,cx,dx,rfl,hzx⟩,hbx⟩;have kbx:=bel_nx3 (W:=W6) (by go_grown) hbx;(first|(have Hz4:=hid (Hz4.out.below hbx))|skip);(with_reducible first|(have HzX:=hid (show ZD _ _ _ _ _ _ 10 6 from hzx))|(have HzY:=hid (show ZD _ _ _ _ _ _ (IntKind.i64.wrap (d:Int)) 6 from hzx)));have hm:=HK.out _ kbx;have m0:=hm.1;have m1:=hm.2;clear hbx hzx hm)
         |(go_at_call 34;refine (mul_any _ _ _ _ _ _ _ _ _ _ _ _ _ _ _ (HV6.out.zd.below (by assumption)) HzX.out (by omega) (by omega)).mono ?_;rintro e w4 ⟨v4,rfl,⟨n4,A4,k4,c4,d4,rfl,hz4⟩,hb4⟩;have kb4:=bel_nx3 (W:=W6) (by go_grown) hb4;have Hz4:=hid hz4;have hm:=HK.out _ kb4;have m0:=hm.1;have m1:=hm.2;clear hb4 hz4 hm)
         |(go_at_call 33;refine (add_any _ _ _ _ _ _ _ _ _ _ _ _ _ _ _ Hz4.out HzY.out (by omega) (by omega)).mono ?_;rintro e w5 ⟨v5,rfl,⟨n5,A5,k5,c5,d5,rfl,hz5⟩,hb5⟩;have kb5:=bel_nx3 (W:=W6) (by go_grown) hb5;have Hz5:=hid hz5;have f5:=fun i=>(HV6.out.blk.below kb5 HV6.out.blk.lt).frozen i;have hm:=HK.out _ kb5;have m0:=hm.1;have m1:=hm.2;clear hb5 hz5 hm))
        all_goals go_wp2_with fail
        all_goals go_meet
        all_goals
         have hv5:=Var.mine Hz5.out (HV6.out.blk.below kb5 HV6.out.blk.lt);rw [HW3.out] at hv5
         exact ⟨⟨_,_,_,_,_,hv5.more (by omega)⟩,(HL6.out.below kb5).put (HV6.out.blk.below kb5 HV6.out.blk.lt) hXP _ _⟩
end Gr
end
end Go.Proofs.YtiiekaehbahenaaGreatDoor
