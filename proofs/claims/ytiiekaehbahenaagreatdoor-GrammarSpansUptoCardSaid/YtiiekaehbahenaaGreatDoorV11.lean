/-
  Contracts of the code that the law reaches, and plain laws. Conditions: as each says.
-/
import Derived.Test.YtiiekaehbahenaaGreatDoorV07
set_option linter.all false
set_option maxHeartbeats 40000000
set_option maxRecDepth 100000
namespace Go.Proofs.YtiiekaehbahenaaGreatDoor
open Lib (hid)
open Tryz
section
namespace Gr
open Go.RowKit Mem Atl
abbrev datV (v:DateT):Value:= .agg #[.int .i64 v.y,.int .i64 v.m,.int .i64 v.d]
theorem one_sign {l:Txt} {k:Nat} (h:oneA l [43,45] k=true):(oneA l [43] k=true/\byA l k=43)\/(oneA l [43] k=false/\oneA l [45] k=true/\byA l k=45):=by
 rw [oneA] at h;rw [oneA,oneA,byA]
 cases hl:l[k]? with
 |none=>rw [hl] at h;cases h
 |some c=>
  rw [hl] at h;simp only [List.contains_cons,List.contains_nil,Bool.or_false,Bool.or_eq_true,beq_iff_eq] at h ⊢
  rcases h with rfl|rfl
  ·exact .inl ⟨rfl,rfl⟩
  ·exact .inr ⟨by decide,rfl,rfl⟩
theorem one_none {l:Txt} {k:Nat} (h:oneA l [43,45] k=false):oneA l [43] k=false/\oneA l [45] k=false:=by
 rw [oneA] at h;rw [oneA,oneA]
 cases hl:l[k]? with
 |none=>exact ⟨rfl,rfl⟩
 |some c=>
  rw [hl] at h;simp only [List.contains_cons,List.contains_nil,Bool.or_false,Bool.or_eq_false_iff] at h ⊢;exact h
theorem pm_list:(⟨#[43,45]⟩:ByteArray).data.toList=[43,45]:=rfl
theorem mi_list:(⟨#[45]⟩:ByteArray).data.toList=[45]:=rfl
theorem dig_bd {l:Txt} {n i:Nat} {x:Nat×Nat} (h:digA l n i=some x) (hn:n<=9):x.1<1000000000:=by
 have:=(num_le h).2;rw [Nat.zero_add,Nat.one_mul] at this
 exact Nat.lt_of_lt_of_le this (Nat.pow_le_pow_right (by omega) hn)
theorem set3 {W:World} {b:Nat} {T:TypeId} {a0 a1 a2 x0 x1 x2:Value} (h:Blk W b T #[a0,a1,a2]):Blk (((W.setCell ⟨b,0,none⟩ x0).setCell ⟨b,1,none⟩ x1).setCell ⟨b,2,none⟩ x2) b T #[x0,x1,x2]:=by
 simpa using ((h.set_ 0 x0).set_ 1 x1).set_ 2 x2
theorem far3 {W:World} {b g:Nat} {T:TypeId} {cs:Array Value} {x0 x1 x2:Value} (h:Blk W g T cs) (hne:g≠b):Blk (((W.setCell ⟨b,0,none⟩ x0).setCell ⟨b,1,none⟩ x1).setCell ⟨b,2,none⟩ x2) g T cs:=
 ((h.far (p:=⟨b,0,none⟩) hne x0).far (p:=⟨b,1,none⟩) hne x1).far (p:=⟨b,2,none⟩) hne x2
theorem kpn3 {P:Nat->Prop} {w W:World} {b:Nat} {x0 x1 x2:Value} (h:Kp P w W) (hb:w.heap.size<=b):Kp P w (((W.setCell ⟨b,0,none⟩ x0).setCell ⟨b,1,none⟩ x1).setCell ⟨b,2,none⟩ x2):=
 Kp.new_ (Kp.new_ (Kp.new_ h (p:=⟨b,0,none⟩) hb x0) (p:=⟨b,1,none⟩) hb x1) (p:=⟨b,2,none⟩) hb x2
structure DtS (w:World) (g:Nat) (s:ByteArray) (y m d:Int) (i:Nat) (W:World):Prop where
 rd:Rd W g s i
 le:i<=s.size
 kp:Kp (·=g) w W
 b0:Blk W w.heap.size 38 #[.int .i64 0,.int .i64 0,.int .i64 0]
 b1:Blk W (w.heap.size+1) 38 #[.int .i64 y,.int .i64 m,.int .i64 d]
theorem DtS.step {w W X:World} {g i k:Nat} {s:ByteArray} {y m d:Int} (h:DtS w g s y m d i W) (hg:g<w.heap.size) (hr:Rd X g s k) (hk:k<=s.size) (hX:Kp (·=g) W X):DtS w g s y m d k X:=
 ⟨hr,hk,h.kp.trans hX,hX.blk h.b0 (by show w.heap.size≠g;omega),hX.blk h.b1 (by show w.heap.size+1≠g;omega)⟩
theorem DtS.y_ {w W:World} {g i:Nat} {s:ByteArray} {y m d:Int} (h:DtS w g s y m d i W) (hg:g<w.heap.size) (x:Int):DtS w g s x m d i (W.setCell ⟨w.heap.size+1,0,none⟩ (.int .i64 x)):=
 ⟨Blk.far h.rd (by show g≠w.heap.size+1;omega) _,h.le,Kp.new_ h.kp (by show w.heap.size<=w.heap.size+1;omega) _,h.b0.far (by show w.heap.size≠w.heap.size+1;omega) _,by simpa using h.b1.set_ 0 (.int .i64 x)⟩
theorem DtS.m_ {w W:World} {g i:Nat} {s:ByteArray} {y m d:Int} (h:DtS w g s y m d i W) (hg:g<w.heap.size) (x:Int):DtS w g s y x d i (W.setCell ⟨w.heap.size+1,1,none⟩ (.int .i64 x)):=
 ⟨Blk.far h.rd (by show g≠w.heap.size+1;omega) _,h.le,Kp.new_ h.kp (by show w.heap.size<=w.heap.size+1;omega) _,h.b0.far (by show w.heap.size≠w.heap.size+1;omega) _,by simpa using h.b1.set_ 1 (.int .i64 x)⟩
theorem DtS.d_ {w W:World} {g i:Nat} {s:ByteArray} {y m d:Int} (h:DtS w g s y m d i W) (hg:g<w.heap.size) (x:Int):DtS w g s y m x i (W.setCell ⟨w.heap.size+1,2,none⟩ (.int .i64 x)):=
 ⟨Blk.far h.rd (by show g≠w.heap.size+1;omega) _,h.le,Kp.new_ h.kp (by show w.heap.size<=w.heap.size+1;omega) _,h.b0.far (by show w.heap.size≠w.heap.size+1;omega) _,by simpa using h.b1.set_ 2 (.int .i64 x)⟩
theorem date_end {w W:World} {g i:Nat} {s:ByteArray} {y:Int} {m d:Nat} {z:Int} {a:Act} {R:Option (DateT×Nat)} (hglt:g<w.heap.size) (h:DtS w g s y m z i W) (hR:some (DateT.mk y m d,i)=R)
  (h2:a.tmps[2]?=some (.pointer (some ⟨w.heap.size,0,none⟩))) (hd:a.defers=[]):
  bodyPost prog Tryz.f40 (RP datV g s w R) .ret a ((((W.setCell ⟨w.heap.size+1,2,none⟩ (.int .i64 d)).setCell ⟨w.heap.size,0,none⟩ (.int .i64 y)).setCell ⟨w.heap.size,1,none⟩ (.int .i64 m)).setCell ⟨w.heap.size,2,none⟩ (.int .i64 d)):=by
 have h1:=h.d_ hglt d;have bF:=set3 (x0:= .int .i64 y) (x1:= .int .i64 m) (x2:= .int .i64 d) h1.b0
 have rF:=far3 (x0:= .int .i64 y) (x1:= .int .i64 m) (x2:= .int .i64 d) h1.rd (b:=w.heap.size) (by omega)
 have kF:=kpn3 (x0:= .int .i64 y) (x1:= .int .i64 m) (x2:= .int .i64 d) (b:=w.heap.size) h1.kp (Nat.le_refl _);have hl:=h1.le;clear h h1;generalize World.setCell _ ⟨w.heap.size,2,none⟩ _=X at*;have cF:=bF.cell
 refine bodyPost_ret (v:=datV ⟨y,m,d⟩) (by simp [results,Tryz.results40,go_sem,cF,h2]) hd ?_
 exact RP.done (enc:=datV) (v:=DateT.mk y m d) hR.symm kF rF hl
theorem date_any (g:Nat) (s:ByteArray) (k:Nat) (w:World) (h:Rd w g s k) (hk0:k<=s.size) (hs:s.size<=2097152):
  Calls prog 40 #[.pointer (some ⟨g,0,none⟩)] w (RP datV g s w (dateA (tx s) k)):=by
 obtain ⟨R,hR⟩:∃ R,dateA (tx s) k=R:=⟨_,rfl⟩;rw [hR];unfold dateA at hR;have hglt:=h.lt;have hb:=box2 w 38 38 #[.int .i64 0,.int .i64 0,.int .i64 0] #[.int .i64 0,.int .i64 0,.int .i64 0]
 have h1:DtS w g s 0 0 0 k ((w.alloc (.cells #[.int .i64 0,.int .i64 0,.int .i64 0] 38)).alloc (.cells #[.int .i64 0,.int .i64 0,.int .i64 0] 38)):=
  ⟨(Blk.alloc h _).alloc _,hk0,((Kp.refl _ w).alloc _).alloc _,hb.1,hb.2.1⟩
 have HR:=hid hR;have HS:=hid h1;clear hR h hb h1;go_enter func40,ntmps40
 go_wp2_with fail
 generalize (w.alloc (.cells #[.int .i64 0,.int .i64 0,.int .i64 0] 38)).alloc (.cells #[.int .i64 0,.int .i64 0,.int .i64 0] 38)=W at*
 have HO:=hid (one_any ⟨#[43,45]⟩ (by decide) g s k W HS.out.rd hk0 hs)
 rw [pm_list] at HO
 go_at_call 17
 refine HO.out.mono ?_
 rintro e w1 ⟨⟨ho,c,hc,hc0,rfl,hr,hk⟩|⟨ho,rfl,hr⟩,hg⟩
 ·have h1:=HS.out.step hglt hr hk hg
  clear hr hg HO HS hk0 hc0
  rcases one_sign ho with ⟨o1,hby⟩|⟨o1,o2,hby⟩
  ·rw [hby] at hc
   subst hc;have hR:=HR.out;rw [if_pos o1] at hR;clear HR ho hby o1;have HR:=hid hR;have H1:=hid h1
   have HD:=hid (digits_any 6 g s (k+1) w1 h1.rd hk hs (by omega))
   clear h1 hR
   go_wp2_with fail
   go_at_call 50
   refine HD.out.mono ?_
   rintro e w2 hr
   rcases hr.cases with ⟨hm,rfl,hg⟩|⟨n,i,hm,rfl,hrd,hi,hg⟩
   ·exact ⟨rfl,RP.fail (by rw [<-HR.out,hm];rfl) (H1.out.kp.trans hg)⟩
   have hn9:=dig_bd hm (by omega)
   simp only at hn9;have hR:=HR.out;rw [hm] at hR;simp only [Option.bind_some] at hR;have h2:=H1.out.step hglt hrd hi hg;have HR2:=hid hR;have H2:=hid h2;have cB:=h2.b1.cell;have fB:=h2.b1.frozen;clear HR H1 HD hm hr hrd hg hR h2
   go_wp2_with fail
   have hS:=H2.out.y_ hglt n;clear cB fB H2;generalize World.setCell _ ⟨w.heap.size+1,0,none⟩ _=W' at*;have HS:=hid hS;have HR:=HR2;clear hS HR2;obtain ⟨y,hy⟩:∃ y:Int,(n:Int)=y:=⟨_,rfl⟩;rw [hy] at HS HR;clear hy hn9
   have HO:=hid (one_any ⟨#[45]⟩ (by decide) g s i W' HS.out.rd HS.out.le hs)
   rw [mi_list] at HO;have hR:=HR.out;unfold dayA at hR;obtain ⟨long,hl⟩:∃ b,oneA (tx s) [45] i=b:=⟨_,rfl⟩;rw [hl] at HO hR;have HR3:=hid hR;clear HR hl hR
   go_at_call 17
   refine HO.out.mono ?_
   rintro e w3 ⟨⟨rfl,c,hc,hc0,rfl,hr,hk5⟩|⟨rfl,rfl,hr⟩,hg⟩
   ·have h3:=HS.out.step hglt hr hk5 hg
    have hR:=HR3.out;simp only [if_true,Bool.true_and] at hR;have HT:=hid (two_any 1 12 g s (i+1) w3 h3.rd hk5 hs);have H3:=hid h3;have HR:=hid hR;clear hr hg HO HS h3 hR HR3 hc
    go_wp2_with fail
    go_at_call 81
    refine HT.out.mono ?_
    rintro e w4 hr
    rcases hr.cases with ⟨hm,rfl,hg⟩|⟨m,i2,hm,rfl,hrd,hi2,hg⟩
    ·exact ⟨rfl,RP.fail (by rw [<-HR.out,hm];rfl) (H3.out.kp.trans hg)⟩
    have hR:=HR.out;rw [hm] at hR;simp only [Option.bind_some] at hR;have h4:=H3.out.step hglt hrd hi2 hg;have H4:=hid h4;have cB:=h4.b1.cell;have fB:=h4.b1.frozen;obtain ⟨dash,hl⟩:∃ b,oneA (tx s) [45] i2=b:=⟨_,rfl⟩;rw [hl] at hR;have HR2:=hid hR;have HL:=hid hl;clear HR HT hm hr hrd hg hR h4 H3 hl
    go_wp2_with fail
    have h5:=H4.out.m_ hglt m;clear cB fB H4;generalize World.setCell _ ⟨w.heap.size+1,1,none⟩ _=W5 at*
    have HO:=hid (one_any ⟨#[45]⟩ (by decide) g s i2 W5 h5.rd h5.le hs)
    rw [mi_list,HL.out] at HO;have H5:=hid h5;clear h5 HL
    go_at_call 17
    refine HO.out.mono ?_
    rintro e w6 ⟨⟨rfl,c2,hc2,hc20,rfl,hr,hk6⟩|⟨rfl,rfl,hr⟩,hg⟩
    ·have hz:((c2:Int) == 0)=false:=by rw [beq_eq_false_iff_ne];omega
     have h6:=H5.out.step hglt hr hk6 hg;have hR:=HR2.out;simp only [Bool.not_true,Bool.false_eq_true,if_false] at hR;have HT:=hid (two_any 1 31 g s (i2+1) w6 h6.rd hk6 hs);have H6:=hid h6;have HR:=hid hR;clear hr hg HO H5 h6 hR HR2 hc2
     go_wp2_with fail
     go_at_call 81
     refine HT.out.mono ?_
     rintro e w7 hr
     rcases hr.cases with ⟨hm,rfl,hg⟩|⟨d,i3,hm,rfl,hrd,hi3,hg⟩
     ·exact ⟨rfl,RP.fail (by rw [<-HR.out,hm];rfl) (H6.out.kp.trans hg)⟩
     have hR:=HR.out;rw [hm] at hR;simp only [Option.bind_some] at hR;have h7:=H6.out.step hglt hrd hi3 hg;have H7:=hid h7;have HR2:=hid hR;have cB:=h7.b1.cell;have fB:=h7.b1.frozen;have cC:=h7.b0.cell;have fC:=h7.b0.frozen;clear HR HT hm hr hrd hg hR h7 H6;go_wp2;exact date_end hglt H7.out HR2.out rfl rfl
    ·have hR:=HR2.out
     simp only [Bool.not_false,if_true] at hR;subst hR;have h6:=H5.out.step hglt hr hi2 hg;have H6:=hid h6.kp;clear hr hg HO H5 h6 HR2
     go_wp2_with (go_at_call 23;refine (wrong_any g _).mono ?_;rintro e w2 ⟨rfl,rfl⟩)
     exact ⟨rfl,RP.fail rfl H6.out⟩
   ·have h3:=HS.out.step hglt hr HS.out.le hg
    have hR:=HR3.out;simp only [Bool.false_eq_true,if_false,Bool.false_and] at hR;have HT:=hid (two_any 1 12 g s i w3 h3.rd h3.le hs);have H3:=hid h3;have HR:=hid hR;clear hr hg HO HS h3 hR HR3
    go_wp2_with fail
    go_at_call 81
    refine HT.out.mono ?_
    rintro e w4 hr
    rcases hr.cases with ⟨hm,rfl,hg⟩|⟨m,i2,hm,rfl,hrd,hi2,hg⟩
    ·exact ⟨rfl,RP.fail (by rw [<-HR.out,hm];rfl) (H3.out.kp.trans hg)⟩
    have hR:=HR.out;rw [hm] at hR;simp only [Option.bind_some] at hR;have h4:=H3.out.step hglt hrd hi2 hg;have H4:=hid h4;have cB:=h4.b1.cell;have fB:=h4.b1.frozen;have HR2:=hid hR;clear HR HT hm hr hrd hg hR h4 H3
    go_wp2_with fail
    have h5:=H4.out.m_ hglt m;clear cB fB H4;generalize World.setCell _ ⟨w.heap.size+1,1,none⟩ _=W5 at*;have HT:=hid (two_any 1 31 g s i2 W5 h5.rd h5.le hs);have H6:=hid h5;clear h5
    go_at_call 81
    refine HT.out.mono ?_
    rintro e w7 hr
    rcases hr.cases with ⟨hm,rfl,hg⟩|⟨d,i3,hm,rfl,hrd,hi3,hg⟩
    ·exact ⟨rfl,RP.fail (by rw [<-HR2.out,hm];rfl) (H6.out.kp.trans hg)⟩
    have hR:=HR2.out;rw [hm] at hR;simp only [Option.bind_some] at hR;have h7:=H6.out.step hglt hrd hi3 hg;have H7:=hid h7;have HR:=hid hR;have cB:=h7.b1.cell;have fB:=h7.b1.frozen;have cC:=h7.b0.cell;have fC:=h7.b0.frozen;clear HR2 HT hm hr hrd hg hR h7 H6;go_wp2;exact date_end hglt H7.out HR.out rfl rfl
  ·rw [hby] at hc
   subst hc;have hR:=HR.out
   rw [if_neg (by rw [o1];decide),if_pos o2] at hR
   clear HR ho hby o1 o2;have HR:=hid hR;have H1:=hid h1
   have HD:=hid (digits_any 6 g s (k+1) w1 h1.rd hk hs (by omega))
   clear h1 hR
   go_wp2_with fail
   go_at_call 50
   refine HD.out.mono ?_
   rintro e w2 hr
   rcases hr.cases with ⟨hm,rfl,hg⟩|⟨n,i,hm,rfl,hrd,hi,hg⟩
   ·exact ⟨rfl,RP.fail (by rw [<-HR.out,hm];rfl) (H1.out.kp.trans hg)⟩
   have hn9:=dig_bd hm (by omega)
   simp only at hn9;have hR:=HR.out;rw [hm] at hR;simp only [Option.bind_some] at hR;have h2:=H1.out.step hglt hrd hi hg;have HR2:=hid hR;have H2:=hid h2;have cB:=h2.b1.cell;have fB:=h2.b1.frozen;clear HR H1 HD hm hr hrd hg hR h2
   have hneg:wrap64 (-(n:Int))= -(n:Int):=by unfold wrap64;omega
   have hR:=HR2.out
   by_cases hn0:n=0
   ·subst hn0
    rw [if_pos rfl] at hR;subst hR;clear HR2 hneg
    go_wp2_with (go_at_call 23;refine (wrong_any g _).mono ?_;rintro e w2 ⟨rfl,rfl⟩)
    exact ⟨rfl,RP.fail rfl (Kp.new_ H2.out.kp (by show w.heap.size<=w.heap.size+1;omega) _)⟩
   ·rw [if_neg hn0] at hR
    have hz:((-(n:Int)) == 0)=false:=by rw [beq_eq_false_iff_ne];omega
    clear HR2;have HR:=hid hR;clear hR
    go_wp2_with fail
    have hS:=H2.out.y_ hglt (-(n:Int));clear cB fB H2 hz hneg;generalize World.setCell _ ⟨w.heap.size+1,0,none⟩ _=W' at*;have HS:=hid hS;clear hS;obtain ⟨y,hy⟩:∃ y:Int,(-(n:Int))=y:=⟨_,rfl⟩;rw [hy] at HS HR;clear hy hn9
    have HO:=hid (one_any ⟨#[45]⟩ (by decide) g s i W' HS.out.rd HS.out.le hs)
    rw [mi_list] at HO;have hR:=HR.out;unfold dayA at hR;obtain ⟨long,hl⟩:∃ b,oneA (tx s) [45] i=b:=⟨_,rfl⟩;rw [hl] at HO hR;have HR3:=hid hR;clear HR hl hR
    go_at_call 17
    refine HO.out.mono ?_
    rintro e w3 ⟨⟨rfl,c,hc,hc0,rfl,hr,hk5⟩|⟨rfl,rfl,hr⟩,hg⟩
    ·have h3:=HS.out.step hglt hr hk5 hg
     have hR:=HR3.out;simp only [if_true,Bool.true_and] at hR;have HT:=hid (two_any 1 12 g s (i+1) w3 h3.rd hk5 hs);have H3:=hid h3;have HR:=hid hR;clear hr hg HO HS h3 hR HR3 hc
     go_wp2_with fail
     go_at_call 81
     refine HT.out.mono ?_
     rintro e w4 hr
     rcases hr.cases with ⟨hm,rfl,hg⟩|⟨m,i2,hm,rfl,hrd,hi2,hg⟩
     ·exact ⟨rfl,RP.fail (by rw [<-HR.out,hm];rfl) (H3.out.kp.trans hg)⟩
     have hR:=HR.out;rw [hm] at hR;simp only [Option.bind_some] at hR;have h4:=H3.out.step hglt hrd hi2 hg;have H4:=hid h4;have cB:=h4.b1.cell;have fB:=h4.b1.frozen;obtain ⟨dash,hl⟩:∃ b,oneA (tx s) [45] i2=b:=⟨_,rfl⟩;rw [hl] at hR;have HR2:=hid hR;have HL:=hid hl;clear HR HT hm hr hrd hg hR h4 H3 hl
     go_wp2_with fail
     have h5:=H4.out.m_ hglt m;clear cB fB H4;generalize World.setCell _ ⟨w.heap.size+1,1,none⟩ _=W5 at*
     have HO:=hid (one_any ⟨#[45]⟩ (by decide) g s i2 W5 h5.rd h5.le hs)
     rw [mi_list,HL.out] at HO;have H5:=hid h5;clear h5 HL
     go_at_call 17
     refine HO.out.mono ?_
     rintro e w6 ⟨⟨rfl,c2,hc2,hc20,rfl,hr,hk6⟩|⟨rfl,rfl,hr⟩,hg⟩
     ·have hz:((c2:Int) == 0)=false:=by rw [beq_eq_false_iff_ne];omega
      have h6:=H5.out.step hglt hr hk6 hg;have hR:=HR2.out;simp only [Bool.not_true,Bool.false_eq_true,if_false] at hR;have HT:=hid (two_any 1 31 g s (i2+1) w6 h6.rd hk6 hs);have H6:=hid h6;have HR:=hid hR;clear hr hg HO H5 h6 hR HR2 hc2
      go_wp2_with fail
      go_at_call 81
      refine HT.out.mono ?_
      rintro e w7 hr
      rcases hr.cases with ⟨hm,rfl,hg⟩|⟨d,i3,hm,rfl,hrd,hi3,hg⟩
      ·exact ⟨rfl,RP.fail (by rw [<-HR.out,hm];rfl) (H6.out.kp.trans hg)⟩
      have hR:=HR.out;rw [hm] at hR;simp only [Option.bind_some] at hR;have h7:=H6.out.step hglt hrd hi3 hg;have H7:=hid h7;have HR2:=hid hR;have cB:=h7.b1.cell;have fB:=h7.b1.frozen;have cC:=h7.b0.cell;have fC:=h7.b0.frozen;clear HR HT hm hr hrd hg hR h7 H6;go_wp2;exact date_end hglt H7.out HR2.out rfl rfl
     ·have hR:=HR2.out
      simp only [Bool.not_false,if_true] at hR;subst hR;have h6:=H5.out.step hglt hr hi2 hg;have H6:=hid h6.kp;clear hr hg HO H5 h6 HR2
      go_wp2_with (go_at_call 23;refine (wrong_any g _).mono ?_;rintro e w2 ⟨rfl,rfl⟩)
      exact ⟨rfl,RP.fail rfl H6.out⟩
    ·have h3:=HS.out.step hglt hr HS.out.le hg
     have hR:=HR3.out;simp only [Bool.false_eq_true,if_false,Bool.false_and] at hR;have HT:=hid (two_any 1 12 g s i w3 h3.rd h3.le hs);have H3:=hid h3;have HR:=hid hR;clear hr hg HO HS h3 hR HR3
     go_wp2_with fail
     go_at_call 81
     refine HT.out.mono ?_
     rintro e w4 hr
     rcases hr.cases with ⟨hm,rfl,hg⟩|⟨m,i2,hm,rfl,hrd,hi2,hg⟩
     ·exact ⟨rfl,RP.fail (by rw [<-HR.out,hm];rfl) (H3.out.kp.trans hg)⟩
     have hR:=HR.out;rw [hm] at hR;simp only [Option.bind_some] at hR;have h4:=H3.out.step hglt hrd hi2 hg;have H4:=hid h4;have cB:=h4.b1.cell;have fB:=h4.b1.frozen;have HR2:=hid hR;clear HR HT hm hr hrd hg hR h4 H3
     go_wp2_with fail
     have h5:=H4.out.m_ hglt m;clear cB fB H4;generalize World.setCell _ ⟨w.heap.size+1,1,none⟩ _=W5 at*;have HT:=hid (two_any 1 31 g s i2 W5 h5.rd h5.le hs);have H6:=hid h5;clear h5
     go_at_call 81
     refine HT.out.mono ?_
     rintro e w7 hr
     rcases hr.cases with ⟨hm,rfl,hg⟩|⟨d,i3,hm,rfl,hrd,hi3,hg⟩
     ·exact ⟨rfl,RP.fail (by rw [<-HR2.out,hm];rfl) (H6.out.kp.trans hg)⟩
     have hR:=HR2.out;rw [hm] at hR;simp only [Option.bind_some] at hR;have h7:=H6.out.step hglt hrd hi3 hg;have H7:=hid h7;have HR:=hid hR;have cB:=h7.b1.cell;have fB:=h7.b1.frozen;have cC:=h7.b0.cell;have fC:=h7.b0.frozen;clear HR2 HT hm hr hrd hg hR h7 H6;go_wp2;exact date_end hglt H7.out HR.out rfl rfl
 ·have h1:=HS.out.step hglt hr hk0 hg
  clear hr hg HO HS;obtain ⟨o1,o2⟩:=one_none ho;have hR:=HR.out
  rw [if_neg (by rw [o1];decide),if_neg (by rw [o2];decide)] at hR
  clear HR ho o1 o2;have HR:=hid hR;have H1:=hid h1
  have HD:=hid (digits_any 4 g s k w1 h1.rd hk0 hs (by omega))
  clear h1 hR
  go_wp2_with fail
  go_at_call 50
  refine HD.out.mono ?_
  rintro e w2 hr
  rcases hr.cases with ⟨hm,rfl,hg⟩|⟨n,i,hm,rfl,hrd,hi,hg⟩
  ·exact ⟨rfl,RP.fail (by rw [<-HR.out,hm];rfl) (H1.out.kp.trans hg)⟩
  have hn9:=dig_bd hm (by omega)
  simp only at hn9;have hR:=HR.out;rw [hm] at hR;simp only [Option.bind_some] at hR;have h2:=H1.out.step hglt hrd hi hg;have HR2:=hid hR;have H2:=hid h2;have cB:=h2.b1.cell;have fB:=h2.b1.frozen;clear HR H1 HD hm hr hrd hg hR h2
  go_wp2_with fail
  have hS:=H2.out.y_ hglt n;clear cB fB H2;generalize World.setCell _ ⟨w.heap.size+1,0,none⟩ _=W' at*;have HS:=hid hS;have HR:=HR2;clear hS HR2;obtain ⟨y,hy⟩:∃ y:Int,(n:Int)=y:=⟨_,rfl⟩;rw [hy] at HS HR;clear hy hn9
  have HO:=hid (one_any ⟨#[45]⟩ (by decide) g s i W' HS.out.rd HS.out.le hs)
  rw [mi_list] at HO;have hR:=HR.out;unfold dayA at hR;obtain ⟨long,hl⟩:∃ b,oneA (tx s) [45] i=b:=⟨_,rfl⟩;rw [hl] at HO hR;have HR3:=hid hR;clear HR hl hR
  go_at_call 17
  refine HO.out.mono ?_
  rintro e w3 ⟨⟨rfl,c,hc,hc0,rfl,hr,hk5⟩|⟨rfl,rfl,hr⟩,hg⟩
  ·have h3:=HS.out.step hglt hr hk5 hg
   have hR:=HR3.out;simp only [if_true,Bool.true_and] at hR;have HT:=hid (two_any 1 12 g s (i+1) w3 h3.rd hk5 hs);have H3:=hid h3;have HR:=hid hR;clear hr hg HO HS h3 hR HR3 hc
   go_wp2_with fail
   go_at_call 81
   refine HT.out.mono ?_
   rintro e w4 hr
   rcases hr.cases with ⟨hm,rfl,hg⟩|⟨m,i2,hm,rfl,hrd,hi2,hg⟩
   ·exact ⟨rfl,RP.fail (by rw [<-HR.out,hm];rfl) (H3.out.kp.trans hg)⟩
   have hR:=HR.out;rw [hm] at hR;simp only [Option.bind_some] at hR;have h4:=H3.out.step hglt hrd hi2 hg;have H4:=hid h4;have cB:=h4.b1.cell;have fB:=h4.b1.frozen;obtain ⟨dash,hl⟩:∃ b,oneA (tx s) [45] i2=b:=⟨_,rfl⟩;rw [hl] at hR;have HR2:=hid hR;have HL:=hid hl;clear HR HT hm hr hrd hg hR h4 H3 hl
   go_wp2_with fail
   have h5:=H4.out.m_ hglt m;clear cB fB H4;generalize World.setCell _ ⟨w.heap.size+1,1,none⟩ _=W5 at*
   have HO:=hid (one_any ⟨#[45]⟩ (by decide) g s i2 W5 h5.rd h5.le hs)
   rw [mi_list,HL.out] at HO;have H5:=hid h5;clear h5 HL
   go_at_call 17
   refine HO.out.mono ?_
   rintro e w6 ⟨⟨rfl,c2,hc2,hc20,rfl,hr,hk6⟩|⟨rfl,rfl,hr⟩,hg⟩
   ·have hz:((c2:Int) == 0)=false:=by rw [beq_eq_false_iff_ne];omega
    have h6:=H5.out.step hglt hr hk6 hg;have hR:=HR2.out;simp only [Bool.not_true,Bool.false_eq_true,if_false] at hR;have HT:=hid (two_any 1 31 g s (i2+1) w6 h6.rd hk6 hs);have H6:=hid h6;have HR:=hid hR;clear hr hg HO H5 h6 hR HR2 hc2
    go_wp2_with fail
    go_at_call 81
    refine HT.out.mono ?_
    rintro e w7 hr
    rcases hr.cases with ⟨hm,rfl,hg⟩|⟨d,i3,hm,rfl,hrd,hi3,hg⟩
    ·exact ⟨rfl,RP.fail (by rw [<-HR.out,hm];rfl) (H6.out.kp.trans hg)⟩
    have hR:=HR.out;rw [hm] at hR;simp only [Option.bind_some] at hR;have h7:=H6.out.step hglt hrd hi3 hg;have H7:=hid h7;have HR2:=hid hR;have cB:=h7.b1.cell;have fB:=h7.b1.frozen;have cC:=h7.b0.cell;have fC:=h7.b0.frozen;clear HR HT hm hr hrd hg hR h7 H6;go_wp2;exact date_end hglt H7.out HR2.out rfl rfl
   ·have hR:=HR2.out
    simp only [Bool.not_false,if_true] at hR;subst hR;have h6:=H5.out.step hglt hr hi2 hg;have H6:=hid h6.kp;clear hr hg HO H5 h6 HR2
    go_wp2_with (go_at_call 23;refine (wrong_any g _).mono ?_;rintro e w2 ⟨rfl,rfl⟩)
    exact ⟨rfl,RP.fail rfl H6.out⟩
  ·have h3:=HS.out.step hglt hr HS.out.le hg
   have hR:=HR3.out;simp only [Bool.false_eq_true,if_false,Bool.false_and] at hR;have HT:=hid (two_any 1 12 g s i w3 h3.rd h3.le hs);have H3:=hid h3;have HR:=hid hR;clear hr hg HO HS h3 hR HR3
   go_wp2_with fail
   go_at_call 81
   refine HT.out.mono ?_
   rintro e w4 hr
   rcases hr.cases with ⟨hm,rfl,hg⟩|⟨m,i2,hm,rfl,hrd,hi2,hg⟩
   ·exact ⟨rfl,RP.fail (by rw [<-HR.out,hm];rfl) (H3.out.kp.trans hg)⟩
   have hR:=HR.out;rw [hm] at hR;simp only [Option.bind_some] at hR;have h4:=H3.out.step hglt hrd hi2 hg;have H4:=hid h4;have cB:=h4.b1.cell;have fB:=h4.b1.frozen;have HR2:=hid hR;clear HR HT hm hr hrd hg hR h4 H3
   go_wp2_with fail
   have h5:=H4.out.m_ hglt m;clear cB fB H4;generalize World.setCell _ ⟨w.heap.size+1,1,none⟩ _=W5 at*;have HT:=hid (two_any 1 31 g s i2 W5 h5.rd h5.le hs);have H6:=hid h5;clear h5
   go_at_call 81
   refine HT.out.mono ?_
   rintro e w7 hr
   rcases hr.cases with ⟨hm,rfl,hg⟩|⟨d,i3,hm,rfl,hrd,hi3,hg⟩
   ·exact ⟨rfl,RP.fail (by rw [<-HR2.out,hm];rfl) (H6.out.kp.trans hg)⟩
   have hR:=HR2.out;rw [hm] at hR;simp only [Option.bind_some] at hR;have h7:=H6.out.step hglt hrd hi3 hg;have H7:=hid h7;have HR:=hid hR;have cB:=h7.b1.cell;have fB:=h7.b1.frozen;have cC:=h7.b0.cell;have fC:=h7.b0.frozen;clear HR2 HT hm hr hrd hg hR h7 H6;go_wp2;exact date_end hglt H7.out HR.out rfl rfl
end Gr
end
end Go.Proofs.YtiiekaehbahenaaGreatDoor
