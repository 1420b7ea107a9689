/-
  Contracts of the code that the law reaches, and plain laws. Conditions: as each says.
-/
import Derived.Test.YtiiekaehbahenaaGreatDoorV22
set_option linter.all false
set_option maxHeartbeats 40000000
set_option maxRecDepth 100000
namespace Go.Proofs.YtiiekaehbahenaaGreatDoor
open Lib (hid)
open Tryz
section
namespace Gr
open Go.RowKit Mem Atl Wid
theorem not_zero:bits .andNot .u8 0 32=0:=by kernel_rfl
theorem addr_at (F j:Nat):Addr.add ⟨F,0,none⟩ j=⟨F,j,none⟩:=by unfold Addr.add;split<;>simp_all
theorem wh_none {l:Txt} {lets low:List UInt8} (hlow:low=lets.map (·+32)) {k:Nat} (h:oneA l (lets++low) k=false):whA l lets k=none:=by
 rw [oneA] at h;rw [whA]
 cases hl:l[k]? with
 |none=>rfl
 |some c=>rw [hl] at h;simp only at h ⊢;rw [if_neg (by rw [<-hlow,h];decide)]
theorem wh_some {L:ByteArray} {low:List UInt8} {n:Nat} (hL:LetOk L low n) {s:ByteArray} {k:Nat} (h:oneA (tx s) (L.data.toList++low) k=true):
  ∃ (cb:UInt8) (j:Nat),k<s.size/\byA (tx s) k=cb.toNat/\j<n/\(∀ z,Calls prog 29 #[.string L,.int .u8 ((cb &&& 223).toNat:Int)] z fun e w'=>e= .returned (.int .i64 j)/\w'=z)/\whA (tx s) L.data.toList k=some j/\0<cb.toNat:=by
 have hk:k<s.size:=by
  by_cases hk:k<s.size
  ·exact hk
  ·rw [one_end _ hk] at h;cases h
 have hp:=one_pos hL.no0 h;rw [one_at _ hk] at h;obtain ⟨j,hj,hf,hi⟩:=hL.wh _ h
 refine ⟨s[k]'hk,j,hk,by_at hk,hj,fun z=>?_,?_,by rwa [by_at hk] at hp⟩
 ·have:=Tryz.strings_IndexByte L ((s[k]'hk &&& 223).toNat:Int) z
  have hc:(((s[k]'hk &&& 223).toNat:Int).toNat).toUInt8=(s[k]'hk &&& 223):=by simp
  rw [hc,hi] at this;exact this
 ·rw [whA,tx_at hk]
  simp only;rw [<-hL.eq,if_pos h,hf]
theorem idx0 (L:ByteArray) (z:World):Calls prog 29 #[.string L,.int .u8 0] z fun e w'=>(∃ v:Int,e= .returned (.int .i64 v))/\z=w':=
 (Tryz.strings_IndexByte L 0 z).mono fun e w' ⟨h1,h2⟩=>⟨⟨_,h1⟩,h2.symm⟩
theorem of_list (L:ByteArray) (low:List UInt8):(L++(⟨low.toArray⟩:ByteArray)).data.toList=L.data.toList++low:=by simp
theorem one_no' {L:ByteArray} {low:List UInt8} {G:Nat} {s:ByteArray} {k:Nat} {z:World} (h:Rd z G s k) (hk:k<=s.size) (hs:s.size<=2097152) (ho:oneA (tx s) (L.data.toList++low) k=false):
  Calls prog 17 #[.pointer (some ⟨G,0,none⟩),.string (L++⟨low.toArray⟩)] z fun e w'=>e= .returned (.int .u8 0)/\Rd w' G s k/\Kp (·=G) z w':=by
 obtain ⟨M,hM⟩:∃ M,L++(⟨low.toArray⟩:ByteArray)=M:=⟨_,rfl⟩;rw [hM]
 exact one_no M G s k z h hk hs (by rw [<-hM,of_list];exact ho)
theorem one_yes' {L:ByteArray} {low:List UInt8} {G:Nat} {s:ByteArray} {k:Nat} {z:World} (h:Rd z G s k) (hs:s.size<=2097152) (ho:oneA (tx s) (L.data.toList++low) k=true):
  Calls prog 17 #[.pointer (some ⟨G,0,none⟩),.string (L++⟨low.toArray⟩)] z fun e w'=>e= .returned (.int .u8 (byA (tx s) k))/\Rd w' G s (k+1)/\k+1<=s.size/\Kp (·=G) z w':=by
 obtain ⟨M,hM⟩:∃ M,L++(⟨low.toArray⟩:ByteArray)=M:=⟨_,rfl⟩;rw [hM]
 exact one_yes M G s k z h hs (by rw [<-hM,of_list];exact ho)
theorem units_any (L:ByteArray) (low:List UInt8) (n b:Nat) (tm:Bool) (hL:LetOk L low n) (htm:tm=((n:Int) == 3)) (hb:b+n<=8) (w:World) (X G A TK RM PF:Nat) (s:ByteArray) (ps:Array Value) (f:List Int) (room:Bool) (k:Nat)
  (h:US w X G A TK RM PF s ps f room k w) (d:DS X G A TK RM PF) (hf:f.length=8) (hps:∀ j,j<n->ps[j]?=some (.pointer (some ⟨X,b+j,none⟩))) (hs:s.size<=2097152):
  Calls prog 25 #[.string L,.slice (some ⟨PF,0,none⟩) n n,.pointer (some ⟨A,0,none⟩),.pointer (some ⟨TK,0,none⟩),.pointer (some ⟨RM,0,none⟩)] w (UP w X G A TK RM PF s ps (unitA (tx s) L.data.toList b tm 8 ⟨-1,-1,room,f⟩ k)):=by
 obtain ⟨R,hR⟩:∃ R,unitA (tx s) L.data.toList b tm 8 ⟨-1,-1,room,f⟩ k=R:=⟨_,rfl⟩;rw [hR];have H:=hid (And.intro h (And.intro hR (And.intro hps hf)));have HL:=hid hL;have hn4:=hL.le;have D:=hid d;clear h hR hps hL hf;go_enter func25,ntmps25
 go_wp2_with fail
 go_loopg [9,10,11,12,13,14] 8 (fun g hd pt _ _ _ _ wr=>∃ (had part:Int) (rm:Bool) (fl:List Int) (i:Nat),hd= .int .i64 had/\pt= .int .i64 part/\unitA (tx s) L.data.toList b tm g ⟨had,part,rm,fl⟩ i=R/\fl.length=8/\-1<=had/\had<n/\(n:Int)<=g+had/\US w X G A TK RM PF s ps fl rm i wr)
 case atStart=>exact ⟨-1,-1,room,f,k,rfl,rfl,H.out.2.1,H.out.2.2.2,by omega,by omega,by omega,H.out.1⟩
 case round=>
  obtain ⟨had,part,rm,fl,i,rfl,rfl,hR,hfl,hh1,hh2,hg,hst⟩:=hrel
  cases gk with
  |zero=>exact absurd hg (by omega)
  |succ g=>
  rw [unitA] at hR;have HS:=hid hst;have HD:=hid (digit_any G s i wr hst.rd hst.le hs);have cA:=hst.bA.cell;have cT:=hst.bT.cell;have cR:=hst.bR.cell;have fR:=hst.bR.frozen;clear hst
  cases hd:dgA (tx s) i
  ·rw [hd] at HD hR
   simp only [Bool.false_eq_true,false_and,if_false] at hR;subst hR;clear hd cT cR fR
   go_wp2_with (go_at_call 26;refine (HD.out).mono ?_;rintro e w1 ⟨rfl,q,rfl⟩)
   go_ret2
   exact ⟨rfl,hfl,HS.out.drw q⟩
  ·rw [hd] at HD hR
   by_cases hp:part<0
   rotate_left
   ·have qp:decide (part<0)=false:=decide_eq_false hp
    rw [if_neg (fun e=>hp e.2)] at hR;subst hR;clear hd cT cR fR
    go_wp2_with (go_at_call 26;refine (HD.out).mono ?_;rintro e w1 ⟨rfl,q,rfl⟩)
    go_ret2
    exact ⟨rfl,hfl,HS.out.drw q⟩
   have qp:decide (part<0)=true:=decide_eq_true hp;rw [if_pos ⟨rfl,hp⟩] at hR
   obtain ⟨nn,ok,k2,hcn⟩:∃ nn ok k2,countA (tx s) i=some ((nn,ok),k2):=⟨_,_,_,by rw [countA,if_pos hd]⟩
   have HCt:=hid (fun z (hz:US w X G A TK RM PF s ps fl rm i z)=>(by have:=count_any G s i z hz.rd hz.le hs;rwa [hcn] at this:Calls prog 24 #[.pointer (some ⟨G,0,none⟩)] z (RP cntV G s z (some ((nn,ok),k2)))))
   rw [hcn] at hR;simp only [Option.bind_some] at hR;clear hd hcn hp
   cases tm
   ·have q3:((n:Int) == 3)=false:=htm.symm
    clear htm
    cases rm
    ·simp only [Bool.false_and] at hR
     have HR1:=hid hR;clear hR
     go_wp2_with (first
      |(go_at_call 26;refine (HD.out).mono ?_;rintro e w1 ⟨rfl,q,rfl⟩;have h1:=HS.out.drw q;have H1:=hid h1;clear cA cT cR fR HS;generalize wr.drewN q=W1 at *;have cA:=h1.bA.cell;have cT:=h1.bT.cell;have cR:=h1.bR.cell;have fR:=h1.bR.frozen;clear h1)
      |(go_at_call 24;refine (HCt.out _ H1.out).mono ?_;rintro e w2 hr;obtain ⟨rfl,hrd,hk2,hg⟩:=hr.ok;have h2:=H1.out.step D.out hrd hk2 hg;have h2r:=h2.room_ D.out false;have H2:=hid h2;have H2r:=hid h2r;clear cA cT cR fR H1 hr hrd hk2 hg h2r;have cA:=h2.bA.cell;have cR:=h2.bR.cell;have fR:=h2.bR.frozen;have xA:=D.out.ar;have yA:=D.out.ar.symm;clear h2))
     have hR:=HR1.out;generalize World.setCell _ ⟨RM,0,none⟩ _=W4 at*;clear cA cR fR xA yA H2;simp only [Bool.false_eq_true,if_false,Option.bind_some] at hR;obtain ⟨Cls,hCls⟩:∃ C:World->Prop,C=fun z=>US w X G A TK RM PF s ps fl false k2 z:=⟨_,rfl⟩
     have hC:∀ z,Cls z->US w X G A TK RM PF s ps fl false k2 z:=fun z h=>by rw [hCls] at h;exact h
     have hstart:Cls W4.drew:=by rw [hCls];exact H2r.out.drw 1
     have inst:Nonempty (Qt.In Cls):=⟨⟨_,hstart⟩⟩;have gA:∀ z:Qt.In Cls,z.w.cell? ⟨A,0,none⟩=some (.pointer (some ⟨G,0,none⟩)):=fun z=>(hC z.w z.h).bA.cell 0
     have HTl:Hid (∀ z,Cls z->Calls prog 28 #[.string L] z fun e z'=>e= .returned (.string ⟨low.toArray⟩)/\Cls z'):=fun z hz=>(HL.out.lo_ z).mono fun e z' ⟨he,hb⟩=>⟨he,by rw [hCls];exact (hC z hz).bel hb⟩
     have HC:=hid hC;have HSt:=hid hstart;clear hC hstart hCls;have hz1:=HL.out.len
     have hz2:low.length=n:=by rw [HL.out.eq];simp [HL.out.len]
     refine Qt.wp_region_cls_tail Cls 5 (by kernel_rfl) (by kernel_rfl) HSt.out ?_
     simp only [List.take_succ_cons,List.take_zero,List.drop_succ_cons,List.drop_zero]
     repeat (go_big_quiet_step ((go_at_call 28;exact Qt.quiet_cls (HTl.out _ (Qt.In.h _)))))
     refine wpQuiet_nil ?_
     rintro wq ⟨⟨w9,hq⟩,e9⟩
     have HX:=hid (HC.out wq (by rw [e9];exact hq))
     clear hz1 hz2 hq e9 gA HC HSt HTl inst H2r
     cases ho:oneA (tx s) (L.data.toList++low) k2
     ·rw [wh_none HL.out.eq ho] at hR
      have hR:none=R:=hR;have Ho:=hid ho;clear ho
      go_wp2_with (first
       |(go_at_call 17;refine (one_no' HX.out.rd HX.out.le hs Ho.out).mono ?_;rintro e w6 ⟨rfl,hrd,hg⟩;have HY:=hid (HX.out.step D.out hrd HX.out.le hg);have cA:=HY.out.bA.cell;clear HX hrd hg)
       |(go_at_call 29;refine (idx0 L _).mono ?_;rintro e w7 ⟨⟨v,rfl⟩,rfl⟩)
       |(go_at_call 23;refine (wrong_any G _).mono ?_;rintro e w8 ⟨rfl,rfl⟩))
      exact ⟨rfl,UP.fail hR.symm HY.out⟩
     ·obtain ⟨cb,j,hk3,hcb,hj,hjx,hwh,hc0⟩:=wh_some HL.out ho
      rw [hwh] at hR;simp only [Option.bind_some] at hR;have Ho:=hid ho;have HIx:=hid hjx;have hnb:=not_byte cb
      have hcz:((cb.toNat:Int) == 0)=false:=by rw [beq_eq_false_iff_ne];omega
      have Hcb:=hid hcb;clear ho hjx hwh hcb
      by_cases hjh:(j:Int)<=had
      ·rw [if_pos hjh] at hR
       have qj:decide ((j:Int)<=had)=true:=decide_eq_true hjh
       go_wp2_with (first
        |(go_at_call 17;refine (one_yes' HX.out.rd hs Ho.out).mono ?_;rintro e w6 ⟨rfl,hrd,hk4,hg⟩;rw [Hcb.out];have HY:=hid (HX.out.step D.out hrd hk4 hg);have cA:=HY.out.bA.cell;clear HX hrd hg)
        |(go_at_call 29;refine (HIx.out _).mono ?_;rintro e w7 ⟨rfl,rfl⟩)
        |(go_at_call 23;refine (wrong_any G _).mono ?_;rintro e w8 ⟨rfl,rfl⟩))
       exact ⟨rfl,UP.fail hR.symm HY.out⟩
      ·rw [if_neg hjh] at hR
       have qj:decide ((j:Int)<=had)=false:=decide_eq_false hjh;have HR:=hid hR;have Hjh:=hid hjh;clear hR hjh;have pj:=H.out.2.2.1 j hj
       have i0:(0:Int)<=(j:Int):=by omega
       have i1:(j:Int)<(n:Int):=by omega
       have ad:=addr_at PF j
       go_wp2_with (first
        |(go_at_call 17;refine (one_yes' HX.out.rd hs Ho.out).mono ?_;rintro e w6 ⟨rfl,hrd,hk4,hg⟩;rw [Hcb.out];have HY:=hid (HX.out.step D.out hrd hk4 hg);have cP:=HY.out.bP.cell j;rw [pj] at cP;have fX:=HY.out.bX.frozen (b+j);have cX:=durF_cell HY.out.bX (show b+j<8 from by omega);clear HX hrd hg)
        |(go_at_call 29;refine (HIx.out _).mono ?_;rintro e w7 ⟨rfl,rfl⟩))
       go_roundg g
       case rel=>
        have hlt:=Hjh.out
        exact ⟨j,_,_,_,k2+1,rfl,rfl,HR.out,by simpa using hfl,by omega,by omega,by omega,HY.out.field D.out (by omega) hfl nn⟩
       case measure=>omega
    ·simp only [Bool.true_and] at hR
     have HR1:=hid hR;clear hR
     go_wp2_with (first
      |(go_at_call 26;refine (HD.out).mono ?_;rintro e w1 ⟨rfl,q,rfl⟩;have h1:=HS.out.drw q;have H1:=hid h1;clear cA cT cR fR HS;generalize wr.drewN q=W1 at *;have cA:=h1.bA.cell;have cT:=h1.bT.cell;have cR:=h1.bR.cell;have fR:=h1.bR.frozen;clear h1)
      |(go_at_call 24;refine (HCt.out _ H1.out).mono ?_;rintro e w2 hr;obtain ⟨rfl,hrd,hk2,hg⟩:=hr.ok;have h2:=H1.out.step D.out hrd hk2 hg;have h2r:=h2.room_ D.out ok;have H2:=hid h2;have H2r:=hid h2r;clear cA cT cR fR H1 hr hrd hk2 hg h2r;have cA:=h2.bA.cell;have cR:=h2.bR.cell;have fR:=h2.bR.frozen;have xA:=D.out.ar;have yA:=D.out.ar.symm;clear h2))
     have hR:=HR1.out;generalize World.setCell _ ⟨RM,0,none⟩ _=W4 at*;clear cA cR fR xA yA H2;simp only [Bool.false_eq_true,if_false,Option.bind_some] at hR;obtain ⟨Cls,hCls⟩:∃ C:World->Prop,C=fun z=>US w X G A TK RM PF s ps fl ok k2 z:=⟨_,rfl⟩
     have hC:∀ z,Cls z->US w X G A TK RM PF s ps fl ok k2 z:=fun z h=>by rw [hCls] at h;exact h
     have hstart:Cls W4.drew:=by rw [hCls];exact H2r.out.drw 1
     have inst:Nonempty (Qt.In Cls):=⟨⟨_,hstart⟩⟩;have gA:∀ z:Qt.In Cls,z.w.cell? ⟨A,0,none⟩=some (.pointer (some ⟨G,0,none⟩)):=fun z=>(hC z.w z.h).bA.cell 0
     have HTl:Hid (∀ z,Cls z->Calls prog 28 #[.string L] z fun e z'=>e= .returned (.string ⟨low.toArray⟩)/\Cls z'):=fun z hz=>(HL.out.lo_ z).mono fun e z' ⟨he,hb⟩=>⟨he,by rw [hCls];exact (hC z hz).bel hb⟩
     have HC:=hid hC;have HSt:=hid hstart;clear hC hstart hCls;have hz1:=HL.out.len
     have hz2:low.length=n:=by rw [HL.out.eq];simp [HL.out.len]
     refine Qt.wp_region_cls_tail Cls 5 (by kernel_rfl) (by kernel_rfl) HSt.out ?_
     simp only [List.take_succ_cons,List.take_zero,List.drop_succ_cons,List.drop_zero]
     repeat (go_big_quiet_step ((go_at_call 28;exact Qt.quiet_cls (HTl.out _ (Qt.In.h _)))))
     refine wpQuiet_nil ?_
     rintro wq ⟨⟨w9,hq⟩,e9⟩
     have HX:=hid (HC.out wq (by rw [e9];exact hq))
     clear hz1 hz2 hq e9 gA HC HSt HTl inst H2r
     cases ho:oneA (tx s) (L.data.toList++low) k2
     ·rw [wh_none HL.out.eq ho] at hR
      have hR:none=R:=hR;have Ho:=hid ho;clear ho
      go_wp2_with (first
       |(go_at_call 17;refine (one_no' HX.out.rd HX.out.le hs Ho.out).mono ?_;rintro e w6 ⟨rfl,hrd,hg⟩;have HY:=hid (HX.out.step D.out hrd HX.out.le hg);have cA:=HY.out.bA.cell;clear HX hrd hg)
       |(go_at_call 29;refine (idx0 L _).mono ?_;rintro e w7 ⟨⟨v,rfl⟩,rfl⟩)
       |(go_at_call 23;refine (wrong_any G _).mono ?_;rintro e w8 ⟨rfl,rfl⟩))
      exact ⟨rfl,UP.fail hR.symm HY.out⟩
     ·obtain ⟨cb,j,hk3,hcb,hj,hjx,hwh,hc0⟩:=wh_some HL.out ho
      rw [hwh] at hR;simp only [Option.bind_some] at hR;have Ho:=hid ho;have HIx:=hid hjx;have hnb:=not_byte cb
      have hcz:((cb.toNat:Int) == 0)=false:=by rw [beq_eq_false_iff_ne];omega
      have Hcb:=hid hcb;clear ho hjx hwh hcb
      by_cases hjh:(j:Int)<=had
      ·rw [if_pos hjh] at hR
       have qj:decide ((j:Int)<=had)=true:=decide_eq_true hjh
       go_wp2_with (first
        |(go_at_call 17;refine (one_yes' HX.out.rd hs Ho.out).mono ?_;rintro e w6 ⟨rfl,hrd,hk4,hg⟩;rw [Hcb.out];have HY:=hid (HX.out.step D.out hrd hk4 hg);have cA:=HY.out.bA.cell;clear HX hrd hg)
        |(go_at_call 29;refine (HIx.out _).mono ?_;rintro e w7 ⟨rfl,rfl⟩)
        |(go_at_call 23;refine (wrong_any G _).mono ?_;rintro e w8 ⟨rfl,rfl⟩))
       exact ⟨rfl,UP.fail hR.symm HY.out⟩
      ·rw [if_neg hjh] at hR
       have qj:decide ((j:Int)<=had)=false:=decide_eq_false hjh;have HR:=hid hR;have Hjh:=hid hjh;clear hR hjh;have pj:=H.out.2.2.1 j hj
       have i0:(0:Int)<=(j:Int):=by omega
       have i1:(j:Int)<(n:Int):=by omega
       have ad:=addr_at PF j
       go_wp2_with (first
        |(go_at_call 17;refine (one_yes' HX.out.rd hs Ho.out).mono ?_;rintro e w6 ⟨rfl,hrd,hk4,hg⟩;rw [Hcb.out];have HY:=hid (HX.out.step D.out hrd hk4 hg);have cP:=HY.out.bP.cell j;rw [pj] at cP;have fX:=HY.out.bX.frozen (b+j);have cX:=durF_cell HY.out.bX (show b+j<8 from by omega);clear HX hrd hg)
        |(go_at_call 29;refine (HIx.out _).mono ?_;rintro e w7 ⟨rfl,rfl⟩))
       go_roundg g
       case rel=>
        have hlt:=Hjh.out
        exact ⟨j,_,_,_,k2+1,rfl,rfl,HR.out,by simpa using hfl,by omega,by omega,by omega,HY.out.field D.out (by omega) hfl nn⟩
       case measure=>omega
   ·have q3:((n:Int) == 3)=true:=htm.symm
    clear htm
    cases rm
    ·simp only [Bool.false_and] at hR
     have HPt:=hid (fun z (hz:US w X G A TK RM PF s ps fl false k2 z)=>part_any G s k2 z hz.rd hz.le hs);simp only [if_true] at hR
     rcases hpt:partA (tx s) k2 with _|⟨p,k3⟩
     ·rw [hpt] at hR HPt
      have hR:none=R:=hR;have HR1:=hid hR;clear hR hpt
      go_wp2_with (first
       |(go_at_call 26;refine (HD.out).mono ?_;rintro e w1 ⟨rfl,q,rfl⟩;have h1:=HS.out.drw q;have H1:=hid h1;clear cA cT cR fR HS;generalize wr.drewN q=W1 at *;have cA:=h1.bA.cell;have cT:=h1.bT.cell;have cR:=h1.bR.cell;have fR:=h1.bR.frozen;clear h1)
       |(go_at_call 24;refine (HCt.out _ H1.out).mono ?_;rintro e w2 hr;obtain ⟨rfl,hrd,hk2,hg⟩:=hr.ok;have h2:=H1.out.step D.out hrd hk2 hg;have h2r:=h2.room_ D.out false;have H2:=hid h2;have H2r:=hid h2r;clear cA cT cR fR H1 hr hrd hk2 hg h2r;have cA:=h2.bA.cell;have cR:=h2.bR.cell;have fR:=h2.bR.frozen;have xA:=D.out.ar;have yA:=D.out.ar.symm;clear h2)
       |(go_at_call 27;clear cA cR fR xA yA H2;generalize World.setCell _ ⟨RM,0,none⟩ _=W4 at *;refine (HPt.out W4 H2r.out).mono ?_;rintro e w5 hr;obtain ⟨rfl,hg5⟩:=hr.bad;clear hr))
      exact ⟨rfl,UP.failk HR1.out.symm H2r.out D.out hg5⟩
     ·rw [hpt] at hR HPt
      simp only [Option.bind_some] at hR;have HR1:=hid hR;clear hR hpt
      go_wp2_with (first
       |(go_at_call 26;refine (HD.out).mono ?_;rintro e w1 ⟨rfl,q,rfl⟩;have h1:=HS.out.drw q;have H1:=hid h1;clear cA cT cR fR HS;generalize wr.drewN q=W1 at *;have cA:=h1.bA.cell;have cT:=h1.bT.cell;have cR:=h1.bR.cell;have fR:=h1.bR.frozen;clear h1)
       |(go_at_call 24;refine (HCt.out _ H1.out).mono ?_;rintro e w2 hr;obtain ⟨rfl,hrd,hk2,hg⟩:=hr.ok;have h2:=H1.out.step D.out hrd hk2 hg;have h2r:=h2.room_ D.out false;have H2:=hid h2;have H2r:=hid h2r;clear cA cT cR fR H1 hr hrd hk2 hg h2r;have cA:=h2.bA.cell;have cR:=h2.bR.cell;have fR:=h2.bR.frozen;have xA:=D.out.ar;have yA:=D.out.ar.symm;clear h2)
       |(go_at_call 27;clear cA cR fR xA yA H2;generalize World.setCell _ ⟨RM,0,none⟩ _=W4 at *;refine (HPt.out W4 H2r.out).mono ?_;rintro e w5 hr;obtain ⟨rfl,hrd5,hk5,hg5⟩:=hr.ok;have H5:=hid (H2r.out.step D.out hrd5 hk5 hg5);clear hr hrd5 hk5 hg5 H2r))
      have hR:=HR1.out;obtain ⟨Cls,hCls⟩:∃ C:World->Prop,C=fun z=>US w X G A TK RM PF s ps fl false k3 z:=⟨_,rfl⟩
      have hC:∀ z,Cls z->US w X G A TK RM PF s ps fl false k3 z:=fun z h=>by rw [hCls] at h;exact h
      have hstart:Cls w5.drew:=by rw [hCls];exact H5.out.drw 1
      have inst:Nonempty (Qt.In Cls):=⟨⟨_,hstart⟩⟩;have gA:∀ z:Qt.In Cls,z.w.cell? ⟨A,0,none⟩=some (.pointer (some ⟨G,0,none⟩)):=fun z=>(hC z.w z.h).bA.cell 0
      have HTl:Hid (∀ z,Cls z->Calls prog 28 #[.string L] z fun e z'=>e= .returned (.string ⟨low.toArray⟩)/\Cls z'):=fun z hz=>(HL.out.lo_ z).mono fun e z' ⟨he,hb⟩=>⟨he,by rw [hCls];exact (hC z hz).bel hb⟩
      have HC:=hid hC;have HSt:=hid hstart;clear hC hstart hCls;have hz1:=HL.out.len
      have hz2:low.length=n:=by rw [HL.out.eq];simp [HL.out.len]
      refine Qt.wp_region_cls_tail Cls 5 (by kernel_rfl) (by kernel_rfl) HSt.out ?_
      simp only [List.take_succ_cons,List.take_zero,List.drop_succ_cons,List.drop_zero]
      repeat (go_big_quiet_step ((go_at_call 28;exact Qt.quiet_cls (HTl.out _ (Qt.In.h _)))))
      refine wpQuiet_nil ?_
      rintro wq ⟨⟨w9,hq⟩,e9⟩
      have HX:=hid (HC.out wq (by rw [e9];exact hq))
      clear hz1 hz2 hq e9 gA HC HSt HTl inst H5
      cases ho:oneA (tx s) (L.data.toList++low) k3
      ·rw [wh_none HL.out.eq ho] at hR
       have hR:none=R:=hR;have Ho:=hid ho;clear ho
       go_wp2_with (first
        |(go_at_call 17;refine (one_no' HX.out.rd HX.out.le hs Ho.out).mono ?_;rintro e w6 ⟨rfl,hrd,hg⟩;have HY:=hid (HX.out.step D.out hrd HX.out.le hg);have cA:=HY.out.bA.cell;clear HX hrd hg)
        |(go_at_call 29;refine (idx0 L _).mono ?_;rintro e w7 ⟨⟨v,rfl⟩,rfl⟩)
        |(go_at_call 23;refine (wrong_any G _).mono ?_;rintro e w8 ⟨rfl,rfl⟩))
       exact ⟨rfl,UP.fail hR.symm HY.out⟩
      ·obtain ⟨cb,j,hk3,hcb,hj,hjx,hwh,hc0⟩:=wh_some HL.out ho
       rw [hwh] at hR;simp only [Option.bind_some] at hR;have Ho:=hid ho;have HIx:=hid hjx;have hnb:=not_byte cb
       have hcz:((cb.toNat:Int) == 0)=false:=by rw [beq_eq_false_iff_ne];omega
       have Hcb:=hid hcb;clear ho hjx hwh hcb
       by_cases hjh:(j:Int)<=had
       ·rw [if_pos hjh] at hR
        have qj:decide ((j:Int)<=had)=true:=decide_eq_true hjh
        go_wp2_with (first
         |(go_at_call 17;refine (one_yes' HX.out.rd hs Ho.out).mono ?_;rintro e w6 ⟨rfl,hrd,hk4,hg⟩;rw [Hcb.out];have HY:=hid (HX.out.step D.out hrd hk4 hg);have cA:=HY.out.bA.cell;clear HX hrd hg)
         |(go_at_call 29;refine (HIx.out _).mono ?_;rintro e w7 ⟨rfl,rfl⟩)
         |(go_at_call 23;refine (wrong_any G _).mono ?_;rintro e w8 ⟨rfl,rfl⟩))
        exact ⟨rfl,UP.fail hR.symm HY.out⟩
       ·rw [if_neg hjh] at hR
        have qj:decide ((j:Int)<=had)=false:=decide_eq_false hjh;have HR:=hid hR;have Hjh:=hid hjh;clear hR hjh;have pj:=H.out.2.2.1 j hj
        have i0:(0:Int)<=(j:Int):=by omega
        have i1:(j:Int)<(n:Int):=by omega
        have ad:=addr_at PF j
        go_wp2_with (first
         |(go_at_call 17;refine (one_yes' HX.out.rd hs Ho.out).mono ?_;rintro e w6 ⟨rfl,hrd,hk4,hg⟩;rw [Hcb.out];have HY:=hid (HX.out.step D.out hrd hk4 hg);have cP:=HY.out.bP.cell j;rw [pj] at cP;have fX:=HY.out.bX.frozen (b+j);have cX:=durF_cell HY.out.bX (show b+j<8 from by omega);clear HX hrd hg)
         |(go_at_call 29;refine (HIx.out _).mono ?_;rintro e w7 ⟨rfl,rfl⟩))
        go_roundg g
        case rel=>
         have hlt:=Hjh.out
         exact ⟨j,_,_,_,k3+1,rfl,rfl,HR.out,by simpa using hfl,by omega,by omega,by omega,HY.out.field D.out (by omega) hfl nn⟩
        case measure=>omega
    ·simp only [Bool.true_and] at hR
     have HPt:=hid (fun z (hz:US w X G A TK RM PF s ps fl ok k2 z)=>part_any G s k2 z hz.rd hz.le hs);simp only [if_true] at hR
     rcases hpt:partA (tx s) k2 with _|⟨p,k3⟩
     ·rw [hpt] at hR HPt
      have hR:none=R:=hR;have HR1:=hid hR;clear hR hpt
      go_wp2_with (first
       |(go_at_call 26;refine (HD.out).mono ?_;rintro e w1 ⟨rfl,q,rfl⟩;have h1:=HS.out.drw q;have H1:=hid h1;clear cA cT cR fR HS;generalize wr.drewN q=W1 at *;have cA:=h1.bA.cell;have cT:=h1.bT.cell;have cR:=h1.bR.cell;have fR:=h1.bR.frozen;clear h1)
       |(go_at_call 24;refine (HCt.out _ H1.out).mono ?_;rintro e w2 hr;obtain ⟨rfl,hrd,hk2,hg⟩:=hr.ok;have h2:=H1.out.step D.out hrd hk2 hg;have h2r:=h2.room_ D.out ok;have H2:=hid h2;have H2r:=hid h2r;clear cA cT cR fR H1 hr hrd hk2 hg h2r;have cA:=h2.bA.cell;have cR:=h2.bR.cell;have fR:=h2.bR.frozen;have xA:=D.out.ar;have yA:=D.out.ar.symm;clear h2)
       |(go_at_call 27;clear cA cR fR xA yA H2;generalize World.setCell _ ⟨RM,0,none⟩ _=W4 at *;refine (HPt.out W4 H2r.out).mono ?_;rintro e w5 hr;obtain ⟨rfl,hg5⟩:=hr.bad;clear hr))
      exact ⟨rfl,UP.failk HR1.out.symm H2r.out D.out hg5⟩
     ·rw [hpt] at hR HPt
      simp only [Option.bind_some] at hR;have HR1:=hid hR;clear hR hpt
      go_wp2_with (first
       |(go_at_call 26;refine (HD.out).mono ?_;rintro e w1 ⟨rfl,q,rfl⟩;have h1:=HS.out.drw q;have H1:=hid h1;clear cA cT cR fR HS;generalize wr.drewN q=W1 at *;have cA:=h1.bA.cell;have cT:=h1.bT.cell;have cR:=h1.bR.cell;have fR:=h1.bR.frozen;clear h1)
       |(go_at_call 24;refine (HCt.out _ H1.out).mono ?_;rintro e w2 hr;obtain ⟨rfl,hrd,hk2,hg⟩:=hr.ok;have h2:=H1.out.step D.out hrd hk2 hg;have h2r:=h2.room_ D.out ok;have H2:=hid h2;have H2r:=hid h2r;clear cA cT cR fR H1 hr hrd hk2 hg h2r;have cA:=h2.bA.cell;have cR:=h2.bR.cell;have fR:=h2.bR.frozen;have xA:=D.out.ar;have yA:=D.out.ar.symm;clear h2)
       |(go_at_call 27;clear cA cR fR xA yA H2;generalize World.setCell _ ⟨RM,0,none⟩ _=W4 at *;refine (HPt.out W4 H2r.out).mono ?_;rintro e w5 hr;obtain ⟨rfl,hrd5,hk5,hg5⟩:=hr.ok;have H5:=hid (H2r.out.step D.out hrd5 hk5 hg5);clear hr hrd5 hk5 hg5 H2r))
      have hR:=HR1.out;obtain ⟨Cls,hCls⟩:∃ C:World->Prop,C=fun z=>US w X G A TK RM PF s ps fl ok k3 z:=⟨_,rfl⟩
      have hC:∀ z,Cls z->US w X G A TK RM PF s ps fl ok k3 z:=fun z h=>by rw [hCls] at h;exact h
      have hstart:Cls w5.drew:=by rw [hCls];exact H5.out.drw 1
      have inst:Nonempty (Qt.In Cls):=⟨⟨_,hstart⟩⟩;have gA:∀ z:Qt.In Cls,z.w.cell? ⟨A,0,none⟩=some (.pointer (some ⟨G,0,none⟩)):=fun z=>(hC z.w z.h).bA.cell 0
      have HTl:Hid (∀ z,Cls z->Calls prog 28 #[.string L] z fun e z'=>e= .returned (.string ⟨low.toArray⟩)/\Cls z'):=fun z hz=>(HL.out.lo_ z).mono fun e z' ⟨he,hb⟩=>⟨he,by rw [hCls];exact (hC z hz).bel hb⟩
      have HC:=hid hC;have HSt:=hid hstart;clear hC hstart hCls;have hz1:=HL.out.len
      have hz2:low.length=n:=by rw [HL.out.eq];simp [HL.out.len]
      refine Qt.wp_region_cls_tail Cls 5 (by kernel_rfl) (by kernel_rfl) HSt.out ?_
      simp only [List.take_succ_cons,List.take_zero,List.drop_succ_cons,List.drop_zero]
      repeat (go_big_quiet_step ((go_at_call 28;exact Qt.quiet_cls (HTl.out _ (Qt.In.h _)))))
      refine wpQuiet_nil ?_
      rintro wq ⟨⟨w9,hq⟩,e9⟩
      have HX:=hid (HC.out wq (by rw [e9];exact hq))
      clear hz1 hz2 hq e9 gA HC HSt HTl inst H5
      cases ho:oneA (tx s) (L.data.toList++low) k3
      ·rw [wh_none HL.out.eq ho] at hR
       have hR:none=R:=hR;have Ho:=hid ho;clear ho
       go_wp2_with (first
        |(go_at_call 17;refine (one_no' HX.out.rd HX.out.le hs Ho.out).mono ?_;rintro e w6 ⟨rfl,hrd,hg⟩;have HY:=hid (HX.out.step D.out hrd HX.out.le hg);have cA:=HY.out.bA.cell;clear HX hrd hg)
        |(go_at_call 29;refine (idx0 L _).mono ?_;rintro e w7 ⟨⟨v,rfl⟩,rfl⟩)
        |(go_at_call 23;refine (wrong_any G _).mono ?_;rintro e w8 ⟨rfl,rfl⟩))
       exact ⟨rfl,UP.fail hR.symm HY.out⟩
      ·obtain ⟨cb,j,hk3,hcb,hj,hjx,hwh,hc0⟩:=wh_some HL.out ho
       rw [hwh] at hR;simp only [Option.bind_some] at hR;have Ho:=hid ho;have HIx:=hid hjx;have hnb:=not_byte cb
       have hcz:((cb.toNat:Int) == 0)=false:=by rw [beq_eq_false_iff_ne];omega
       have Hcb:=hid hcb;clear ho hjx hwh hcb
       by_cases hjh:(j:Int)<=had
       ·rw [if_pos hjh] at hR
        have qj:decide ((j:Int)<=had)=true:=decide_eq_true hjh
        go_wp2_with (first
         |(go_at_call 17;refine (one_yes' HX.out.rd hs Ho.out).mono ?_;rintro e w6 ⟨rfl,hrd,hk4,hg⟩;rw [Hcb.out];have HY:=hid (HX.out.step D.out hrd hk4 hg);have cA:=HY.out.bA.cell;clear HX hrd hg)
         |(go_at_call 29;refine (HIx.out _).mono ?_;rintro e w7 ⟨rfl,rfl⟩)
         |(go_at_call 23;refine (wrong_any G _).mono ?_;rintro e w8 ⟨rfl,rfl⟩))
        exact ⟨rfl,UP.fail hR.symm HY.out⟩
       ·rw [if_neg hjh] at hR
        have qj:decide ((j:Int)<=had)=false:=decide_eq_false hjh;have HR:=hid hR;have Hjh:=hid hjh;clear hR hjh;have pj:=H.out.2.2.1 j hj
        have i0:(0:Int)<=(j:Int):=by omega
        have i1:(j:Int)<(n:Int):=by omega
        have ad:=addr_at PF j
        go_wp2_with (first
         |(go_at_call 17;refine (one_yes' HX.out.rd hs Ho.out).mono ?_;rintro e w6 ⟨rfl,hrd,hk4,hg⟩;rw [Hcb.out];have HY:=hid (HX.out.step D.out hrd hk4 hg);have cP:=HY.out.bP.cell j;rw [pj] at cP;have fX:=HY.out.bX.frozen (b+j);have cX:=durF_cell HY.out.bX (show b+j<8 from by omega);clear HX hrd hg)
         |(go_at_call 29;refine (HIx.out _).mono ?_;rintro e w7 ⟨rfl,rfl⟩))
        go_roundg g
        case rel=>
         have hlt:=Hjh.out
         exact ⟨j,_,_,_,k3+1,rfl,rfl,HR.out,by simpa using hfl,by omega,by omega,by omega,HY.out.field D.out (by omega) hfl nn⟩
        case measure=>omega
end Gr
end
end Go.Proofs.YtiiekaehbahenaaGreatDoor
