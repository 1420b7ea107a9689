/-
  Contracts of the code that the law reaches, and plain laws. Conditions: as each says.
-/
import Derived.Test.YtmlejgdohcpmjaaGreatDoorV29
import Derived.Test.YtmlejgdohcpmjaaGreatDoorV31
import Derived.Sort.CutIn
import Derived.WalkMore
set_option linter.all false
set_option maxHeartbeats 40000000
set_option maxRecDepth 100000
namespace Go.Proofs.YtmlejgdohcpmjaaGreatDoor
open Lib (hid)
open Tryz
section
section
namespace Zon
open Go.RowKit Mem Civ Mom Img Plc Rul Ahd Trn Src Snd Att Rgt Abr Sch Cmq Rng
attribute [local go_sem] Oper.semAt_some
theorem stretches_any (cs:Array Value) (t:Int) (w:World):
  Calls prog 75 #[.agg cs,.int .i64 t] w fun e w'=>e= .returned (.func (.func 106) #[] #[.pointer (some ⟨w.heap.size+1,0,none⟩),.pointer (some ⟨w.heap.size,0,none⟩)])/\
   w'=(w.alloc (.cells cs 61)).alloc (.cells #[.int .i64 t] 2):=by
 go_enter func75,ntmps75;go_wp2;go_ret;exact ⟨rfl,rfl⟩
theorem bel_n3 {W W' W'':World} (h:Below W.heap.size W W') (hb:Below W'.heap.size W' W''):Below W.heap.size W W'':=h.trans (hb.mono h.size)
def clsS (Bt:Nat) (r:Nat) (o:Obj):Prop:=(∃ c t fz,o= .cells c t fz)/\(r=Bt\/(Bt<=r/\∃ c fz,o= .cells c 112 fz))
theorem clsS_not (Bt:Nat) (k:Nat) (o:Obj) (h:clsS Bt k o):(∀ r,o≠.loop r)/\∀ d,o≠.deferred d:=by
 obtain ⟨⟨c,t,fz,rfl⟩,_⟩:=h
 exact ⟨fun r e=>(by cases e),fun d e=>(by cases e)⟩
structure Ks (B0 Bv:Nat) (W W':World):Prop where
 size:W.heap.size<=W'.heap.size
 old:∀ k,k<B0->W'.heap[k]?=W.heap[k]?
 vw:W'.heap[Bv]?=W.heap[Bv]?
structure Kb (B0 Bv Bt:Nat) (W W':World):Prop where
 ks:Ks B0 Bv W W'
 tt:W'.heap[Bt]?=W.heap[Bt]?
 ss:∀ (k:Nat) cs fz,W.heap[k]?=some (.cells cs 112 fz)->W'.heap[k]?=some (.cells cs 112 fz)
theorem Ks.refl (B0 Bv:Nat) (W:World):Ks B0 Bv W W:=⟨Nat.le_refl _,fun _ _=>rfl,rfl⟩
theorem Ks.trans {B0 Bv:Nat} {A B C:World} (h:Ks B0 Bv A B) (k:Ks B0 Bv B C):Ks B0 Bv A C:=⟨Nat.le_trans h.size k.size,fun i hi=>(k.old i hi).trans (h.old i hi),k.vw.trans h.vw⟩
theorem Ks.below {B0 Bv:Nat} {A B:World} (h:Below A.heap.size A B) (hB:B0<=A.heap.size) (hv:Bv<A.heap.size):Ks B0 Bv A B:=⟨h.size,fun i hi=>h.block i (Nat.lt_of_lt_of_le hi hB),h.block Bv hv⟩
theorem Ks.set {B0 Bv:Nat} {A:World} {p:Addr} (h1:B0<=p.block) (h2:p.block≠Bv) (u:Value):Ks B0 Bv A (A.setCell p u):=
 ⟨by simp,fun i hi=>Below.heap_setCell A p u i (by omega),Below.heap_setCell A p u Bv (fun e=>h2 e.symm)⟩
theorem Kb.trans {B0 Bv Bt:Nat} {A B C:World} (h:Kb B0 Bv Bt A B) (k:Kb B0 Bv Bt B C):Kb B0 Bv Bt A C:=⟨h.ks.trans k.ks,k.tt.trans h.tt,fun i cs fz hi=>k.ss i cs fz (h.ss i cs fz hi)⟩
theorem Blk.of_ss {B0 Bv Bt g:Nat} {W W':World} {cs:Array Value} (h:Kb B0 Bv Bt W W') (hb:Blk W g 112 cs):Blk W' g 112 cs:=h.ss _ _ _ hb
theorem field_off (a b:Int) (c:ByteArray) (w:World):(Instr.field 23 (.agg #[.int .i64 a,.int .i64 b,.string c]) 0).run prog w= .ok (.int .i64 a) w:=by kernel_rfl
def encS (s:Str):Array Value:=#[.agg #[.int .i64 s.frm,.int .i64 s.upto,.bool s.ends,.int .i64 s.off]]
def SpS (x:Table) (t0 hi:Int) (l:List Str):Prop:=∃ pre s,l=pre++[s]/\Chain x t0 hi pre s.frm/\StrOk x s
def SfS (x:Table) (t0 hi:Int) (l:List Str):Prop:=∃ pre s,l=pre++[s]/\Chain x t0 hi pre s.frm/\StrOk x s/\s.ends=false
theorem chain_bd {x:Table} {t0 hi t:Int} {l:List Str} (h:Chain x t0 hi l t):t0<=t/\(t=t0\/t<=hi):=by
 induction h with
 |nil=>exact ⟨Int.le_refl _,.inl rfl⟩
 |@snoc l t s hc e ho he hle ih=>
  obtain ⟨_,o,⟨n1,_⟩,u1,u2⟩:=ho
  cases o with
  |none=>rw [u2] at he;cases he
  |some v=>
   simp only [Option.getD_some] at u1;have:=(n1 v rfl).1
   exact ⟨by omega,.inr hle⟩
theorem gr_set (A:World) (p:Addr) (u:Value):A.grownBy (A.setCell p u) (some p.block):=⟨rfl,rfl,rfl,by simp,fun j _ hne=>Below.heap_setCell A p u j (fun e=>hne (by rw [e]))⟩
def cellI (w:World) (b:Nat):Int:=match w.cell? ⟨b,0,none⟩ with
 |some (.int _ n)=>n
 |_=>0
theorem cellI_blk {w:World} {b:Nat} {t:TypeId} {n:Int} (h:Blk w b t #[.int .i64 n]):cellI w b=n:=by
 unfold cellI;rw [h.cell 0]
 rfl
theorem str1_in (x:Table) (A A2:Option Addr) (c c2:Nat) (m t0 hi:Int) (n l Bt Bv B0:Nat) (J Jx:List Str->World->Prop) (W:World)
  (hJ:AbidesK (clsS Bt) J) (hG:∀ pre s W1,J (pre++[s]) W1->s.ends=true->s.upto<=hi)
  (hY:∀ pre s W1,J pre W1->SpS x t0 hi (pre++[s])->YieldAt Fence.wide (n - 1) prog l (encS s) W1 fun e W'=>
   (e= .returned (.bool true)/\J (pre++[s]) W'/\Kb B0 Bv Bt W1 W')\/(e= .returned (.bool false)/\Jx (pre++[s]) W'))
  (hv:Blk W Bv 61 (tabCells x A c A2 c2)) (ht:Blk W Bt 2 #[.int .i64 t0]) (hB0:B0<=Bv) (hB1:B0<=Bt)
  (hR:∀ z,Ks B0 Bv W z->Rt x A A2 m z) (h1: -9200000000000<=t0) (h2:t0<=9200000000000) (h3:hi<=9200000000000) (h0:J [] W):
  CallsIn Fence.wide n prog 106 #[.func (.yield l) #[] #[],.pointer (some ⟨Bt,0,none⟩),.pointer (some ⟨Bv,0,none⟩)] W fun e W'=>(∃ v,e= .returned v)/\
   ((∃ ys,SfS x t0 hi ys/\J ys W')\/(∃ pre,SpS x t0 hi pre/\Jx pre W')):=by
 have hne:Bt≠Bv:=fun e=>by
  have:=hv.ne_ ht (by decide)
  exact this e.symm
 have hvl:=hv.lt
 have HJb:Hid (∀ pre A C,J pre A->Below A.heap.size A C->J pre C):=fun pre A C h hb=>hJ pre A C none h (gr_of_below hb) (fun r e=>by cases e)
 have HJs:Hid (∀ pre A (p:Addr) u,J pre A->(∃ o,A.heap[p.block]?=some o/\clsS Bt p.block o)->J pre (A.setCell p u)):=fun pre A p u h ho=>hJ pre A _ (some p.block) h (gr_set A p u) (fun r e=>by cases e;exact ho)
 have HV:=hid (fun t (a1: -9300000000000<=t) (a2:t<=9300000000000) z (hz:Ks B0 Bv W z)=>vat_any x A A2 c c2 m t z (hR z hz) (by omega) (by omega))
 have HN:=hid (fun t (a1: -9300000000000<=t) (a2:t<=9300000000000) z (hz:Ks B0 Bv W z)=>next_any x A A2 c c2 m t z (hR z hz) (by omega) (by omega))
 have HY:=hid hY;have HG:=hid hG;have HVb:=hid hv;have HTb:=hid ht;have H0:=hid h0;clear hJ hY hG hv ht hR h0;simp only [tabCells] at*
 refine callsIn_of_wp func106 rfl trivial ?_ rfl
 simp only [ntmps106,List.size_toArray,List.length_cons,List.length_nil,Nat.reduceAdd,Nat.reduceSub,Array.replicate_succ,Array.replicate_zero,List.push_toArray,List.append_toArray,List.nil_append,List.cons_append]
 gi_wp2
 gi_loopw [] (fun wr=>∃ (cur:Int) (pre:List Str),J pre wr/\Chain x t0 hi pre cur/\Blk wr Bt 2 #[.int .i64 cur]/\Ks B0 Bv W wr) (fun (wr:World)=>(hi+1 - cellI wr Bt).toNat)
 case atStart=>exact ⟨t0,[],H0.out,.nil,HTb.out,Ks.refl _ _ _⟩
 case round=>
  obtain ⟨cur,pre,hj,hch,htb,hks⟩:=hrel;have hcb:=chain_bd hch
  have hc1: -9300000000000<=cur:=by omega
  have hc2:cur<=9300000000000:=by omega
  have hVr:=HV.out cur hc1 hc2;have hNr:=HN.out cur hc1 hc2
  have hvb:Blk wr Bv 61 #[.string x.name,.int .i64 x.first.off,.int .i64 x.first.save,.string x.first.abbr,.slice A x.shifts.length c,.int .i64 x.till,.slice A2 x.tail.length c2,.int .i64 x.off,.string x.format]:=hks.vw.trans HVb.out
  have hBs:B0<=wr.heap.size:=by have:=hks.size;omega
  obtain ⟨P,hP⟩:∃ P,tellD x cur=P:=⟨_,rfl⟩
  have hPo:offT x cur=P.off:=by unfold offT;rw [hP]
  rw [hP] at hVr;obtain ⟨p0,p1,p2⟩:=P;simp only at hVr hPo
  have hS:∀ w',Below wr.heap.size wr w'->w'.cell? ⟨Bt,0,none⟩=some (.int .i64 cur)/\w'.cell? ⟨Bv,0,none⟩=some (.string x.name)/\w'.cell? ⟨Bv,1,none⟩=some (.int .i64 x.first.off)/\w'.cell? ⟨Bv,2,none⟩=some (.int .i64 x.first.save)/\w'.cell? ⟨Bv,3,none⟩=some (.string x.first.abbr)/\w'.cell? ⟨Bv,4,none⟩=some (.slice A x.shifts.length c)/\w'.cell? ⟨Bv,5,none⟩=some (.int .i64 x.till)/\w'.cell? ⟨Bv,6,none⟩=some (.slice A2 x.tail.length c2)/\w'.cell? ⟨Bv,7,none⟩=some (.int .i64 x.off)/\w'.cell? ⟨Bv,8,none⟩=some (.string x.format)/\Below wr.heap.size wr w':=fun w' h=>⟨(htb.below h htb.lt).cell 0,(hvb.below h hvb.lt).cell 0,(hvb.below h hvb.lt).cell 1,(hvb.below h hvb.lt).cell 2,(hvb.below h hvb.lt).cell 3,(hvb.below h hvb.lt).cell 4,(hvb.below h hvb.lt).cell 5,(hvb.below h hvb.lt).cell 6,(hvb.below h hvb.lt).cell 7,(hvb.below h hvb.lt).cell 8,h⟩
  have hVc:∀ w',Below wr.heap.size wr w'->Ks B0 Bv W w':=fun w' h=>hks.trans (Ks.below h hBs hvb.lt);have hfo:=fun z=>field_off p0 p1 p2 z;have kb0:=below_drew wr;have HS:=hid hS;have HKw:=hid hVc;have HNr:=hid hNr;have HVr:=hid hVr;have HCh:=hid hch;have HPo:=hid hPo;have Hcb:=hid hcb;have HJ0:=hid hj;have HT0:=hid htb;have HV0:=hid hvb;have htc:=htb.cell 0;have hvc:=hvb.cell;clear hS hVc hj htb hks hvb hVr hNr hch hP hPo hcb
  gi_wp2
  refine wpIn_wide.2 ?_
  go_cut [4] from 5 (fun s4 wx=>∃ g,s4= .pointer (some ⟨g,0,none⟩)/\wr.heap.size<=g/\Blk wx g 112 #[.int .i64 cur,.int .i64 0,.bool false,.int .i64 p0]/\Below wr.heap.size wr wx)
  case first=>
   go_region_held3 (fun w'=>w'.cell? ⟨Bt,0,none⟩=some (.int .i64 cur)/\w'.cell? ⟨Bv,0,none⟩=some (.string x.name)/\w'.cell? ⟨Bv,1,none⟩=some (.int .i64 x.first.off)/\w'.cell? ⟨Bv,2,none⟩=some (.int .i64 x.first.save)/\w'.cell? ⟨Bv,3,none⟩=some (.string x.first.abbr)/\w'.cell? ⟨Bv,4,none⟩=some (.slice A x.shifts.length c)/\w'.cell? ⟨Bv,5,none⟩=some (.int .i64 x.till)/\w'.cell? ⟨Bv,6,none⟩=some (.slice A2 x.tail.length c2)/\w'.cell? ⟨Bv,7,none⟩=some (.int .i64 x.off)/\w'.cell? ⟨Bv,8,none⟩=some (.string x.format)/\Below wr.heap.size wr w') (exact HS.out _ (by go_grown)) ((go_at_call 87;refine (HVr.out _ (HKw.out _ (by go_grown))).mono ?_;rintro e w5 ⟨rfl,hb⟩;have kb5:=bel_n3 (W:=wr) (by go_grown) hb;have ks5:=kb5.size;first|(have hz:Blk w5 wr.heap.size 112 #[.int .i64 0,.int .i64 0,.bool false,.int .i64 0]:=(Blk.new wr.drew 112 #[.int .i64 0,.int .i64 0,.bool false,.int .i64 0]).below hb (Blk.new wr.drew 112 #[.int .i64 0,.int .i64 0,.bool false,.int .i64 0]).lt;have c5:=hz.cell;have f5:=hz.frozen;have HZ5:=hid hz;clear hz)|skip))
   all_goals go_wp2_with fail
   all_goals go_meet
   all_goals first
    |exact ⟨_,rfl,ks5,Blk.new _ _ _,kb5.alloc ks5 _⟩
    |exact ⟨_,rfl,Nat.le_refl _,by have hz:=(((HZ5.out.set_ 0 (.int .i64 cur)).set_ 1 (.int .i64 0)).set_ 2 (.bool false)).set_ 3 (.int .i64 p0);simpa using hz,(((kb5.setCell (by simp) _).setCell (by simp) _).setCell (by simp) _).setCell (by simp) _⟩
  case rest=>
   obtain ⟨g,rfl,hg,hx,hwc⟩:=hcut;have htc2:=(HT0.out.below hwc HT0.out.lt).cell 0;have hvc2:=fun i=>(HV0.out.below hwc HV0.out.lt).cell i;have HX:=hid hx;clear htc hvc hx kb0 HS HVr
   gi_wp2_with (refine ⟨trivial,fun h=>(by cases h),?_⟩;gi_at_call 32;refine (callsIn_wide.2 (HNr.out _ (HKw.out _ hwc))).mono ?_;rintro e w2 ⟨o,he,hnr,hb⟩;simp only [optV] at he;subst he;have HNR:=hid hnr;have HB:=hid hb;have xc:=fun i=>(HX.out.below hb HX.out.lt).cell i;have xf:=fun i=>(HX.out.below hb HX.out.lt).frozen i;clear hnr hb htc2 hvc2)
   have hv2:Blk w2 Bv 61 #[.string x.name,.int .i64 x.first.off,.int .i64 x.first.save,.string x.first.abbr,.slice A x.shifts.length c,.int .i64 x.till,.slice A2 x.tail.length c2,.int .i64 x.off,.string x.format]:=(HV0.out.below hwc HV0.out.lt).below HB.out (HV0.out.below hwc HV0.out.lt).lt
   have ht2:=(HT0.out.below hwc HT0.out.lt).below HB.out (HT0.out.below hwc HT0.out.lt).lt;have hx2:=HX.out.below HB.out HX.out.lt
   have hgb:Bt<=g:=by have:=HT0.out.lt;omega
   have hcl:clsS Bt g (.cells #[.int .i64 cur,.int .i64 0,.bool false,.int .i64 p0] 112 (0,0)):=⟨⟨_,_,_,rfl⟩,.inr ⟨hgb,_,_,rfl⟩⟩;have hj2:J pre w2:=HJb.out _ _ _ (HJb.out _ _ _ HJ0.out hwc) HB.out
   have hgt:g≠Bt:=fun e=>by
    rw [e] at hx2
    exact absurd rfl (ht2.ne_ hx2 (by decide))
   have hgv:g≠Bv:=fun e=>by
    rw [e] at hx2
    exact absurd rfl (hv2.ne_ hx2 (by decide))
   have hw2:∀ u1 u2,J pre ((w2.setCell ⟨g,1,none⟩ u1).setCell ⟨g,2,none⟩ u2):=fun u1 u2=>HJs.out _ _ _ _ (HJs.out _ _ _ _ hj2 ⟨_,hx2,hcl⟩) ⟨_,hx2.set_ 1 u1,⟨⟨_,_,_,rfl⟩,.inr ⟨hgb,_,_,rfl⟩⟩⟩
   have hk2:∀ u1 u2,Ks B0 Bv W ((w2.setCell ⟨g,1,none⟩ u1).setCell ⟨g,2,none⟩ u2):=fun u1 u2=>(((HKw.out _ hwc).trans (Ks.below HB.out (by have:=(HKw.out _ hwc).size;omega) (HV0.out.below hwc HV0.out.lt).lt)).trans (Ks.set (by dsimp only;omega) hgv u1)).trans (Ks.set (by dsimp only;omega) hgv u2)
   have hx3:=fun u1 u2=>(hx2.set_ 1 u1).set_ 2 u2;have ht3:∀ u1 u2,Blk ((w2.setCell ⟨g,1,none⟩ u1).setCell ⟨g,2,none⟩ u2) Bt 2 #[.int .i64 cur]:=fun u1 u2=>(ht2.far (p:=⟨g,1,none⟩) hgt.symm u1).far (p:=⟨g,2,none⟩) hgt.symm u2;have hJV:=hw2 (.int .i64 (o.getD 0)) (.bool o.isSome);have hKV:=hk2 (.int .i64 (o.getD 0)) (.bool o.isSome);have hXV:=hx3 (.int .i64 (o.getD 0)) (.bool o.isSome);have hTV:=ht3 (.int .i64 (o.getD 0)) (.bool o.isSome);simp only [List.setIfInBounds_toArray,List.set_cons_zero,List.set_cons_succ] at hXV;clear hw2 hk2 hx3 ht3 xc xf hcl hj2 hv2 ht2 hx2 HB HX HNr;generalize hV:(w2.setCell ⟨g,1,none⟩ (.int .i64 (o.getD 0))).setCell ⟨g,2,none⟩ (.bool o.isSome)=V at*;have hsp:SpS x t0 hi (pre++[⟨cur,o.getD 0,o.isSome,p0⟩]):=⟨pre,_,rfl,HCh.out,HPo.out.symm,o,HNR.out,rfl,rfl⟩;obtain ⟨fn,tmps,assign,body,hy,hRr⟩:=HY.out pre _ V hJV hsp;simp only [encS] at hy;have HRr:=hid hRr;have HTV:=hid hTV;have HXV:=hid hXV;have HKV:=hid hKV;clear hRr hV hTV hXV hKV hJV;rw [hy];clear hy
   cases o with
   |none=>
    simp only [Option.getD_none,Option.isSome_none] at HXV
    gi_wp2
    refine ⟨fun h=>(by cases h),HRr.out.mono ?_⟩
    rintro e W3 (⟨rfl,hJ3,hk3⟩|⟨rfl,hJx3⟩)
    ·have xb:=Blk.of_ss hk3 HXV.out
     have xc:=xb.cell;have HJ3:=hid hJ3;clear hJ3 hk3;clear xb
     gi_wp2
     refine bodyPost_ret (results_none rfl _ _ _) rfl ?_
     exact ⟨⟨_,rfl⟩,.inl ⟨_,⟨_,_,rfl,HCh.out,⟨HPo.out.symm,none,HNR.out,rfl,rfl⟩,rfl⟩,HJ3.out⟩⟩
    ·gi_wp2
     refine bodyPost_ret (results_none rfl _ _ _) rfl ?_
     exact ⟨⟨_,rfl⟩,.inr ⟨_,hsp,hJx3⟩⟩
   |some v=>
    simp only [Option.getD_some,Option.isSome_some] at HXV
    gi_wp2
    refine ⟨fun h=>(by cases h),HRr.out.mono ?_⟩
    rintro e W3 (⟨rfl,hJ3,hk3⟩|⟨rfl,hJx3⟩)
    ·have xb:=Blk.of_ss hk3 HXV.out
     have xc:=xb.cell;have hup:v<=hi:=HG.out _ _ _ hJ3 rfl;have hcv:cur<v:=(HNR.out.1 v rfl).1;have ht3:Blk W3 Bt 2 #[.int .i64 cur]:=hk3.tt.trans HTV.out;have tc:=ht3.cell 0;have tf:=ht3.frozen 0;have HJ3:=hid hJ3;have HK3:=hid (HKV.out.trans hk3.ks);have HT3:=hid ht3;clear hJ3 hk3 ht3;clear xb
     gi_wp2
     go_roundw
     case rel=>
      refine ⟨v,_,HJs.out _ _ ⟨Bt,0,none⟩ _ HJ3.out ⟨_,HT3.out,⟨_,_,_,rfl⟩,.inl rfl⟩,.snoc HCh.out rfl ⟨HPo.out.symm,some v,HNR.out,rfl,rfl⟩ rfl hup,HT3.out.set_ 0 (.int .i64 v),HK3.out.trans (Ks.set hB1 hne (.int .i64 v))⟩
     case measure=>
      rw [cellI_blk HT0.out,cellI_blk (HT3.out.set_ 0 (.int .i64 v))];have:=Hcb.out;omega
    ·gi_wp2
     refine bodyPost_ret (results_none rfl _ _ _) rfl ?_
     exact ⟨⟨_,rfl⟩,.inr ⟨_,hsp,hJx3⟩⟩
def goS (hi:Int) (s:Str):Prop:=s.ends=true->s.upto<=hi
theorem str_seq (x:Table) (A A2:Option Addr) (c c2:Nat) (m t0 hi:Int) (n Bt Bv B0:Nat) (w:World)
  (hv:Blk w Bv 61 (tabCells x A c A2 c2)) (ht:Blk w Bt 2 #[.int .i64 t0]) (hB0:B0<=Bv) (hB1:B0<=Bt)
  (hR:∀ z,Ks B0 Bv w z->Rt x A A2 m z) (h1: -9200000000000<=t0) (h2:t0<=9200000000000) (h3:hi<=9200000000000):
  SeqS (clsS Bt) Fence.wide n prog 106 #[.pointer (some ⟨Bt,0,none⟩),.pointer (some ⟨Bv,0,none⟩)] encS (Kb B0 Bv Bt) (goS hi) (SfS x t0 hi) (SpS x t0 hi) w:=by
 intro l J Jx W hb hJ _ hG hY h0
 have hk:Ks B0 Bv w W:=Ks.below hb (by have:=hv.lt;omega) hv.lt
 exact str1_in x A A2 c c2 m t0 hi n l Bt Bv B0 J Jx W hJ hG hY (hv.below hb hv.lt) (ht.below hb ht.lt) hB0 hB1 (fun z hz=>hR z (hk.trans hz)) h1 h2 h3 h0
end Zon
end
end
section
section
namespace Zon
open Go.RowKit Mem Civ Mom Img Plc Rul Ahd Trn Src Snd Att Rgt Abr Sch Cmq Rng
attribute [local go_sem] Oper.semAt_some
theorem wpIn_scope_wide {n:Nat} {P:Program} {c:Code} {Q:Exit->Act->World->Prop} {a:Act} {w:World} (h:c.wpIn Fence.wide n P (Exit.noGoto Q) a w):(Code.scope c).wpIn Fence.wide n P Q a w:=wpIn_wide.2 (wp_scope_straight (wpIn_wide.1 h))
structure Ar (h:Nat) (loc:Int) (out:List Int) (gap:Shp) (ahead:Int) (first:Bool) (V W:World):Prop where
 box:Blk W (h+1) 2 #[.int .i64 loc]
 res:Blk W (h+2) 35 #[.int .i64 0,.int .i64 0,.int .i64 0,.int .i64 0]
 out:∃ v,Blk W (h+3) 30 #[v]/\W.ownsRow (h+9) 2 1 v out.length (ints out)
 gap:Blk W (h+4) 35 #[.int .i64 gap.kind,.int .i64 gap.at_,.int .i64 gap.ahead,.int .i64 gap.behind]
 ahd:Blk W (h+5) 3 #[.int .i64 ahead]
 fst:Blk W (h+6) 4 #[.bool first]
 bel:Below h V W
 sz:h+9<=W.heap.size
theorem blk_at {W:World} {k:Nat} (h:W.heap.size=k) (t:TypeId) (cs:Array Value):Blk (W.alloc (.cells cs t)) k t cs:=h ▸ Blk.new W t cs
theorem size_at {W:World} {k:Nat} (h:W.heap.size=k) (o:Obj):(W.alloc o).heap.size=k+1:=by rw [World.size_alloc,h]
structure ArV (h:Nat) (cs:Array Value) (loc t:Int) (w V0:World):Prop where
 vw:Blk V0 h 61 cs
 box:Blk V0 (h+1) 2 #[.int .i64 loc]
 sz:V0.heap.size=h+7
 ar:Ar h loc [] noShp 0 true w ((V0.alloc (.cells cs 61)).alloc (.cells #[.int .i64 t] 2))
 bv:Blk ((V0.alloc (.cells cs 61)).alloc (.cells #[.int .i64 t] 2)) (h+7) 61 cs
 bt:Blk ((V0.alloc (.cells cs 61)).alloc (.cells #[.int .i64 t] 2)) (h+8) 2 #[.int .i64 t]
 sz2:((V0.alloc (.cells cs 61)).alloc (.cells #[.int .i64 t] 2)).heap.size=h+9
theorem ar_start (w:World) (cs:Array Value) (loc t:Int):ArV w.heap.size cs loc t w
  (((((((w.alloc (.cells cs 61)).alloc (.cells #[.int .i64 loc] 2)).alloc (.cells #[.int .i64 0,.int .i64 0,.int .i64 0,.int .i64 0] 35)).alloc (.cells #[.slice none 0 0] 30)).alloc
   (.cells #[.int .i64 0,.int .i64 0,.int .i64 0,.int .i64 0] 35)).alloc (.cells #[.int .i64 0] 3)).alloc (.cells #[.bool true] 4)):=by
 have b0:=Blk.new w 61 cs;have z0:=size_at rfl (W:=w) (.cells cs 61);have b1:=blk_at z0 2 #[.int .i64 loc];have z1:=size_at z0 (.cells #[.int .i64 loc] 2);have b2:=blk_at z1 35 #[.int .i64 0,.int .i64 0,.int .i64 0,.int .i64 0];have z2:=size_at z1 (.cells #[.int .i64 0,.int .i64 0,.int .i64 0,.int .i64 0] 35);have b3:=blk_at z2 30 #[.slice none 0 0];have z3:=size_at z2 (.cells #[.slice none 0 0] 30);have b4:=blk_at z3 35 #[.int .i64 0,.int .i64 0,.int .i64 0,.int .i64 0];have z4:=size_at z3 (.cells #[.int .i64 0,.int .i64 0,.int .i64 0,.int .i64 0] 35);have b5:=blk_at z4 3 #[.int .i64 0];have z5:=size_at z4 (.cells #[.int .i64 0] 3);have b6:=blk_at z5 4 #[.bool true];have z6:=size_at z5 (.cells #[.bool true] 4);have b7:=blk_at z6 61 cs;have z7:=size_at z6 (.cells cs 61);have b8:=blk_at z7 2 #[.int .i64 t];have z8:=size_at z7 (.cells #[.int .i64 t] 2);simp only [Nat.add_assoc,Nat.reduceAdd] at b1 b2 b3 b4 b5 b6 b7 b8 z1 z2 z3 z4 z5 z6 z7 z8
 have hb:=(((((((((Below.refl w.heap.size w).alloc (Nat.le_refl _) (.cells cs 61)).alloc (by simp) (.cells #[.int .i64 loc] 2)).alloc (by simp;omega) (.cells #[.int .i64 0,.int .i64 0,.int .i64 0,.int .i64 0] 35)).alloc (by simp;omega) (.cells #[.slice none 0 0] 30)).alloc (by simp;omega)
   (.cells #[.int .i64 0,.int .i64 0,.int .i64 0,.int .i64 0] 35)).alloc (by simp;omega) (.cells #[.int .i64 0] 3)).alloc (by simp;omega) (.cells #[.bool true] 4)).alloc (by simp;omega) (.cells cs 61)).alloc (by simp;omega) (.cells #[.int .i64 t] 2)
 refine ⟨(((((b0.alloc _).alloc _).alloc _).alloc _).alloc _).alloc _,((((b1.alloc _).alloc _).alloc _).alloc _).alloc _,z6,⟨((((((b1.alloc _).alloc _).alloc _).alloc _).alloc _).alloc _).alloc _,(((((b2.alloc _).alloc _).alloc _).alloc _).alloc _).alloc _,⟨_,((((b3.alloc _).alloc _).alloc _).alloc _).alloc _,World.ownsRow_nil _ _ _ _⟩,(((b4.alloc _).alloc _).alloc _).alloc _,((b5.alloc _).alloc _).alloc _,(b6.alloc _).alloc _,hb,by omega⟩,b7.alloc _,b8,z8⟩
def RowOk (h r:Nat) (o:Obj):Prop:=(h+9<=r/\o.isCells=false)\/clsS (h+8) r o
theorem RowOk.ge {h r:Nat} {o:Obj} (k:RowOk h r o):h+8<=r:=by
 rcases k with ⟨a,_⟩|⟨_,rfl|⟨a,_⟩⟩<;>omega
theorem own_gr {h:Nat} {W W':World} {row:Option Nat} {n:Nat} {v:Value} {xs:List Value} (ho:W.ownsRow (h+9) 2 1 v n xs) (hg:W.grownBy W' row) (hr:∀ r,row=some r->∃ o:Obj,W.heap[r]?=some o/\RowOk h r o):W'.ownsRow (h+9) 2 1 v n xs:=by
 refine ho.kept hg ?_
 cases hb:v.ownBlock with
 |none=>exact .inl rfl
 |some b=>
  refine .inr fun e=>?_
  obtain ⟨o,h1,h2⟩:=hr b e.symm
  rcases ho.2 with ⟨rfl,_⟩|⟨g,cap,cur,rfl,hge,hh,_⟩
  ·simp [Value.ownBlock] at hb
  ·have hbg:g=b:=by simpa [Value.ownBlock] using hb
   subst hbg;rw [hh] at h1
   injection h1 with h1
   subst h1
   rcases h2 with ⟨_,a⟩|⟨_,rfl|⟨_,c,fz,a⟩⟩
   ·cases a
   ·omega
   ·injection a with _ a2 _
    exact absurd a2 (by decide)
theorem Ar.gr {h:Nat} {loc:Int} {out:List Int} {gap:Shp} {ahead:Int} {first:Bool} {V W W':World} {row:Option Nat} (k:Ar h loc out gap ahead first V W) (hg:W.grownBy W' row) (hr:∀ r,row=some r->∃ o:Obj,W.heap[r]?=some o/\RowOk h r o):Ar h loc out gap ahead first V W':=by
 have hr8:∀ r,row=some r->h+8<=r:=fun r e=>by obtain ⟨o,_,h2⟩:=hr r e;exact h2.ge
 obtain ⟨v,o1,o2⟩:=k.out
 exact ⟨k.box.grown hg (fun e=>by have:=hr8 _ e.symm;omega),k.res.grown hg (fun e=>by have:=hr8 _ e.symm;omega),⟨v,o1.grown hg (fun e=>by have:=hr8 _ e.symm;omega),own_gr o2 hg hr⟩,
  k.gap.grown hg (fun e=>by have:=hr8 _ e.symm;omega),k.ahd.grown hg (fun e=>by have:=hr8 _ e.symm;omega),k.fst.grown hg (fun e=>by have:=hr8 _ e.symm;omega),
  k.bel.grown hg (by have:=k.sz;omega) (fun r e=>by have:=hr8 r e;omega),Nat.le_trans k.sz hg.size⟩
theorem Ar.below {h:Nat} {loc:Int} {out:List Int} {gap:Shp} {ahead:Int} {first:Bool} {V W W':World} (k:Ar h loc out gap ahead first V W) (hb:Below W.heap.size W W'):Ar h loc out gap ahead first V W':=k.gr (gr_of_below hb) (fun r e=>by cases e)
def Rb (h:Nat) (W W':World):Prop:=KeepsFrom (h+9) W W'/\Kb h (h+7) (h+8) W W'
theorem Rb.trans {h:Nat} {A B C:World} (k:Rb h A B) (j:Rb h B C):Rb h A C:=⟨k.1.trans j.1,k.2.trans j.2⟩
theorem Rb.refl (h:Nat) (A:World):Rb h A A:=⟨KeepsFrom.refl _ _,Ks.refl _ _ _,rfl,fun _ _ _ h=>h⟩
theorem Rb.gr {h:Nat} {A C:World} {row:Option Nat} (hg:A.grownBy C row) (hr:∀ r,row=some r->h<=r/\r≠h+7/\r≠h+8/\∃ c t fz,A.heap[r]?=some (.cells c t fz)/\t≠112) (hz:h+9<=A.heap.size):Rb h A C:=by
 refine ⟨(KeepsOthers.of_grownBy hg fun j o e ho=>?_).from _,⟨hg.size,fun k hk=>hg.block k (by omega) fun e=>?_,hg.block _ (by omega) fun e=>(hr _ e.symm).2.1 rfl⟩,hg.block _ (by omega) fun e=>(hr _ e.symm).2.2.1 rfl,fun k cs fz hk=>?_⟩
 ·obtain ⟨_,_,_,c,t,fz,h1,_⟩:=hr j e
  rw [ho] at h1
  injection h1 with h1
  rw [h1];rfl
 ·have:=(hr k e.symm).1
  omega
 ·refine (hg.block k (Array.getElem?_eq_some_iff.1 hk).1 fun e=>?_).trans hk
  obtain ⟨_,_,_,c,t,fz2,h1,h2⟩:=hr k e.symm;rw [hk] at h1
  injection h1 with h1
  injection h1 with _ h1 _
  exact h2 h1.symm
theorem Rb.set {h b:Nat} {A:World} {t:TypeId} {cs:Array Value} (hb:Blk A b t cs) (ht:t≠112) (h1:h<=b) (h2:b<h+7) (hz:h+9<=A.heap.size) (i:Nat) (u:Value):Rb h A (A.setCell ⟨b,i,none⟩ u):=
 Rb.gr (gr_set A ⟨b,i,none⟩ u) (fun r e=>by injection e with e;subst e;exact ⟨h1,by dsimp only;omega,by dsimp only;omega,_,_,_,hb,ht⟩) hz
theorem Rb.bel {h:Nat} {A C:World} (hb:Below A.heap.size A C) (hz:h+9<=A.heap.size):Rb h A C:=Rb.gr (gr_of_below hb) (fun r e=>by cases e) hz
theorem Kb.put {h l:Nat} {W:World} {r:Loop} (o':Obj) (hl:h+9<=l) (hh:W.heap[l]?=some (.loop r)):Kb h (h+7) (h+8) W (W.putObj l o'):=
 ⟨⟨by simp,fun k hk=>World.putObj_heap_other (by omega),World.putObj_heap_other (by omega)⟩,World.putObj_heap_other (by omega),fun k cs fz hk=>(World.putObj_heap_other (fun e=>by rw [<-e,hk] at hh;cases hh)).trans hk⟩
theorem Ar.setGap {h:Nat} {loc:Int} {out:List Int} {gap:Shp} {ahead:Int} {first:Bool} {V W:World} (k:Ar h loc out gap ahead first V W) (a b c d:Int):
  Ar h loc out ⟨a,b,c,d⟩ ahead first V ((((W.setCell ⟨h+4,0,none⟩ (.int .i64 a)).setCell ⟨h+4,1,none⟩ (.int .i64 b)).setCell ⟨h+4,2,none⟩ (.int .i64 c)).setCell ⟨h+4,3,none⟩ (.int .i64 d)):=by
 obtain ⟨v,o1,o2⟩:=k.out;have hg:=(((k.gap.set_ 0 (.int .i64 a)).set_ 1 (.int .i64 b)).set_ 2 (.int .i64 c)).set_ 3 (.int .i64 d)
 have hno:∀ {A:World} (i:Nat) (u:Value),A.ownsRow (h+9) 2 1 v out.length (ints out)->(A.setCell ⟨h+4,i,none⟩ u).ownsRow (h+9) 2 1 v out.length (ints out):=fun i u ho=>ho.kept (gr_set _ ⟨h+4,i,none⟩ u) (by
  cases hb:v.ownBlock with
  |none=>exact .inl rfl
  |some b=>exact .inr fun e=>by injection e with e;have:=(ho.lt b hb).1;subst e;dsimp only at this;omega)
 have fr:∀ {A:World} {g:Nat} {t:TypeId} {cs:Array Value} (i:Nat) (u:Value),g≠h+4->Blk A g t cs->Blk (A.setCell ⟨h+4,i,none⟩ u) g t cs:=fun i u hne hb=>hb.far hne u
 exact ⟨fr _ _ (by omega) (fr _ _ (by omega) (fr _ _ (by omega) (fr _ _ (by omega) k.box))),fr _ _ (by omega) (fr _ _ (by omega) (fr _ _ (by omega) (fr _ _ (by omega) k.res))),⟨v,fr _ _ (by omega) (fr _ _ (by omega) (fr _ _ (by omega) (fr _ _ (by omega) o1))),hno _ _ (hno _ _ (hno _ _ (hno _ _ o2)))⟩,
  by simpa using hg,fr _ _ (by omega) (fr _ _ (by omega) (fr _ _ (by omega) (fr _ _ (by omega) k.ahd))),fr _ _ (by omega) (fr _ _ (by omega) (fr _ _ (by omega) (fr _ _ (by omega) k.fst))),
  (((k.bel.setCell (by dsimp only;omega) _).setCell (by dsimp only;omega) _).setCell (by dsimp only;omega) _).setCell (by dsimp only;omega) _,by simpa using k.sz⟩
theorem Ar.setAhd {h:Nat} {loc:Int} {out:List Int} {gap:Shp} {ahead:Int} {first:Bool} {V W:World} (k:Ar h loc out gap ahead first V W) (a:Int) (b:Bool):
  Ar h loc out gap a b V ((W.setCell ⟨h+5,0,none⟩ (.int .i64 a)).setCell ⟨h+6,0,none⟩ (.bool b)):=by
 obtain ⟨v,o1,o2⟩:=k.out
 have hno:∀ {A:World} (p:Addr) (u:Value),p.block<h+9->A.ownsRow (h+9) 2 1 v out.length (ints out)->(A.setCell p u).ownsRow (h+9) 2 1 v out.length (ints out):=fun p u hp ho=>ho.kept (gr_set _ p u) (by
  cases hb:v.ownBlock with
  |none=>exact .inl rfl
  |some b=>exact .inr fun e=>by injection e with e;have:=(ho.lt b hb).1;omega)
 have fr:∀ {A:World} {g:Nat} {t:TypeId} {cs:Array Value} (p:Addr) (u:Value),g≠p.block->Blk A g t cs->Blk (A.setCell p u) g t cs:=fun p u hne hb=>hb.far hne u;have ha:=k.ahd.set_ 0 (.int .i64 a)
 have hf:=(fr ⟨h+5,0,none⟩ (.int .i64 a) (by dsimp only;omega) k.fst).set_ 0 (.bool b)
 exact ⟨fr _ _ (by dsimp only;omega) (fr _ _ (by dsimp only;omega) k.box),fr _ _ (by dsimp only;omega) (fr _ _ (by dsimp only;omega) k.res),⟨v,fr _ _ (by dsimp only;omega) (fr _ _ (by dsimp only;omega) o1),hno _ _ (by dsimp only;omega) (hno _ _ (by dsimp only;omega) o2)⟩,
  fr _ _ (by dsimp only;omega) (fr _ _ (by dsimp only;omega) k.gap),fr _ _ (by dsimp only;omega) (by simpa using ha),by simpa using hf,
  (k.bel.setCell (by dsimp only;omega) _).setCell (by dsimp only;omega) _,by simpa using k.sz⟩
theorem Ar.setOut {h:Nat} {loc:Int} {out out':List Int} {gap:Shp} {ahead:Int} {first:Bool} {V W W':World} {v':Value} {row:Option Nat} (k:Ar h loc out gap ahead first V W) (hg:W.grownBy W' row) (hr:∀ r,row=some r->h+9<=r) (ho:W'.ownsRow (h+9) 2 1 v' out'.length (ints out')):
  Ar h loc out' gap ahead first V (W'.setCell ⟨h+3,0,none⟩ v'):=by
 obtain ⟨v,o1,o2⟩:=k.out
 have fr:∀ {g:Nat} {t:TypeId} {cs:Array Value},g<h+9->g≠h+3->Blk W g t cs->Blk (W'.setCell ⟨h+3,0,none⟩ v') g t cs:=fun h1 h2 hb=>(hb.grown hg (fun e=>by have:=hr _ e.symm;omega)).far h2 _
 have h3:=(o1.grown hg (fun e=>by have:=hr _ e.symm;omega)).set_ 0 v'
 exact ⟨fr (by omega) (by omega) k.box,fr (by omega) (by omega) k.res,⟨v',by simpa using h3,ho.kept (gr_set _ ⟨h+3,0,none⟩ v') (by
  cases hb:v'.ownBlock with
  |none=>exact .inl rfl
  |some b=>exact .inr fun e=>by injection e with e;have:=(ho.lt b hb).1;subst e;dsimp only at this;omega)⟩,fr (by omega) (by omega) k.gap,fr (by omega) (by omega) k.ahd,fr (by omega) (by omega) k.fst,
  (k.bel.grown hg (by have:=k.sz;omega) (fun r e=>by have:=hr r e;omega)).setCell (by dsimp only;omega) _,by have:=k.sz;have:=hg.size;simp;omega⟩
theorem own_kind {w:World} {B:Nat} {e:TypeId} {size:Nat} {v:Value} {n:Nat} {xs:List Value} (h:w.ownsRow B e size v n xs):∀ g,v.ownBlock=some g->∃ c fz,w.heap[g]?=some (.cells c e fz):=by
 intro g hg
 rcases h.2 with ⟨rfl,_⟩|⟨g',cap,cur,rfl,_,hh,_⟩
 ·simp [Value.ownBlock] at hg
 ·have:g'=g:=by simpa [Value.ownBlock] using hg
  subst this;exact ⟨_,_,hh⟩
theorem leaves_mark1 {F:Fence} {n:Nat} {fn:Func} {tmps:Array Value} {R:Ending->World->Prop} {D:Nat} {W:World} (hD:W.heap[D]?=some (.deferred (some []))) (h:∀ o',LeavesInM F n prog fn tmps R [] .returning (W.putObj D o')):
  LeavesInM F n prog fn tmps R [markD D] .returning W:=⟨by simp,.inl ⟨D,_,rfl,run_takeDeferred hD,h _⟩⟩
theorem around_results {w:World} {R0:Nat} {v a0 a1 a2 a3:Value} (h:Blk w R0 35 #[a0,a1,a2,a3]) (tmps:Array Value) (ht:tmps[5]?=some (.pointer (some ⟨R0,0,none⟩))) (h4:tmps[4]?=some v):(results Tryz.f46 tmps).run prog w= .ok (.tuple #[v,.agg #[a0,a1,a2,a3]]) w:=by
 have hc:=h.cell;simp [results,Tryz.results46,go_sem,hc,ht,h4]
theorem Rt.old {x:Table} {A A2:Option Addr} {m:Int} {w z:World} (h:Rt x A A2 m w) (hk:∀ k,k<w.heap.size->z.heap[k]?=w.heap[k]?) (hs:w.heap.size<=z.heap.size):Rt x A A2 m z:=by
 have hc:∀ p:Addr,p.block<w.heap.size->z.cell? p=w.cell? p:=fun p hp=>by unfold World.cell?;rw [hk _ hp]
 exact ⟨⟨(h.tab.rs.keep hc).more hs,(h.tab.rt.keep hc).more hs,h.tab.ns,h.tab.nt,h.tab.name,h.tab.format,h.tab.first,h.tab.shifts,h.tab.rules⟩,(hc _ (World.block_lt_of_cell? w _ h.max)).trans h.max,h.till,h.sec,h.right⟩
theorem rise_len:∀ {l:List Int} {a b:Int},l.Pairwise (·<·)->(∀ t∈l,a<=t/\t<b)->l.length<=(b - a).toNat
 |[],_,_,_,_=>Nat.zero_le _
 |x :: l,a,b,h,hm=>by
  rw [List.pairwise_cons] at h;have hx:=hm x List.mem_cons_self
  have:=rise_len (a:=x+1) (b:=b) h.2 fun t ht=>⟨by have:=h.1 t ht;omega,(hm t (List.mem_cons_of_mem _ ht)).2⟩
  rw [List.length_cons];omega
theorem wpListIn_append1g {F:Fence} {nn:Nat} {P:Program} {ops:Array Oper} {rest:List Oper} {o:Oper} {a:Act} {Q:Exit->Act->World->Prop} {cs:Array Value} {w:World} (hgd:o.guard=none) (s x:Operand) (t:TypeId)
  (ho:o.op= .call { callee:= .builtin .append,args:=#[s,x],argTypes:=#[t,t] })
  (base:Nat) (e:TypeId) (i:TypeInfo) (z:Value) (size bytes:Nat) (ht:P.underlying t=some (.slice e)) (hi:P.info? e=some i) (hz:i.zero=some z)
  (hsize:i.size=size) (hby:i.bytes=bytes) (hzs:z.cells.size=size) (hsz:0<size)
  (v:Value) (n:Nat) (xs:List Value) (hs:a.eval s=v) (hown:w.ownsRow base e size v n xs)
  (hx:a.eval x= .slice (some ⟨w.heap.size,0,none⟩) 1 1) (hcs:cs.size=size) (h1:∀ u∈cs.toList,u.oneCell'=true)
  (h63:n+1<=maxLen) (hbytes:(n+1)*bytes<=140737488355328) (hbase:base<=w.heap.size)
  (h:∀ v' w',w'.ownsRow base e size v' (n+1) (xs++cs.toList)->(w.alloc (.cells cs e)).grownBy w' v.ownBlock->wpListIn F nn P ops Q rest (a.put o.dst v') w'):wpListIn F nn P ops Q (o :: rest) a (w.alloc (.cells cs e)):=by
 refine wpListIn_append_own (w.alloc (.cells cs e)) hgd s x t ho base e i z size bytes ht hi hz hsize hby hzs hsz v n xs hs (hown.alloc _) ⟨w.heap.size,0,none⟩ 1 1 cs.toList hx (by simp [hcs]) ?_ h1 h63 hbytes (by simp;omega) ?_
 ·intro j u hu
  have e1:(⟨w.heap.size,0,none⟩:Addr).add j=⟨w.heap.size,j,none⟩:=by unfold Addr.add;split<;>simp_all
  rw [e1,(Blk.new w e cs).cell j]
  simpa using hu
 ·intro v' w' h2 h3 _
  exact h v' w' h2 h3
structure Rd (x:Table) (loc:Int) (st:St) (s:Str):Prop where
 frm:loc - 86400<=s.frm/\s.frm<=loc+86400
 off: -86400<s.off/\s.off<86400
 ahd:st.first=false->-86400<st.ahead/\st.ahead<86400
 len:st.out.length<=172800
theorem rd_of {x:Table} (hr:rightB x (tailB x)=true) {loc:Int} {pre:List Str} {s:Str} (h:SpS x (loc - 86400) (loc+86400) (pre++[s])):Rd x loc (pre.foldl (stepS loc) st0) s:=by
 obtain ⟨p2,s2,e,hc,ho⟩:=h;obtain ⟨rfl,e2⟩:=List.append_inj' e rfl
 injection e2 with e2
 subst e2;obtain ⟨i1,i2,hi⟩:=chain_inv hr hc;have hob:=off_bd hr s.frm;rw [<-ho.1] at hob
 refine ⟨⟨i1,i2⟩,hob,fun hf=>?_,?_⟩
 ·have hne:s.frm≠loc - 86400:=fun e=>by
   have:=hi.fst;rw [hf,e] at this;simp at this
  rw [hi.ahd hne];exact off_bd hr _
 ·have:=rise_len (a:=loc - 86400) (b:=s.frm) hi.srt fun t ht=>by have:=(hi.mem t).1 ht;exact ⟨this.1,this.2.1⟩
  omega
theorem own_ne3 {w:World} {h n:Nat} {v:Value} {xs:List Value} (ho:w.ownsRow (h+9) 2 1 v n xs):some (h+3)≠v.ownBlock:=fun e=>by
 have:=(ho.lt _ e.symm).1;omega
theorem out_step {h:Nat} {loc:Int} {out out':List Int} {gap:Shp} {ahead:Int} {first:Bool} {V W A B:World} {v v' u:Value} (hr:Rb h W A) (ha:Ar h loc out gap ahead first V A) (ho:A.ownsRow (h+9) 2 1 v out.length (ints out)) (hc:Blk A (h+3) 30 #[v])
  (hg:(A.alloc (.cells #[u] 2)).grownBy B v.ownBlock) (ho':B.ownsRow (h+9) 2 1 v' out'.length (ints out')):Rb h W (B.setCell ⟨h+3,0,none⟩ v')/\Ar h loc out' gap ahead first V (B.setCell ⟨h+3,0,none⟩ v'):=by
 have hb:Below A.heap.size A (A.alloc (.cells #[u] 2)):=(Below.refl _ _).alloc (Nat.le_refl _) _;have hr1:=hr.trans (Rb.bel hb ha.sz);have ha1:=ha.below hb;have hlt:=ho.lt
 have hr2:Rb h W B:=hr1.trans (Rb.gr hg (fun r e=>by
  have h9:=(hlt r e).1;obtain ⟨c,fz,hk⟩:=own_kind (ho.alloc (.cells #[u] 2)) r e
  exact ⟨by omega,by omega,by omega,c,_,fz,hk,by decide⟩) ha1.sz)
 have hc2:Blk B (h+3) 30 #[v]:=(hc.alloc _).grown hg (own_ne3 ho)
 exact ⟨hr2.trans (Rb.set hc2 (by decide) (by omega) (by omega) (Nat.le_trans ha1.sz hg.size) _ _),ha1.setOut hg (fun r e=>(hlt r e).1) ho'⟩
theorem around_any (x:Table) (A A2:Option Addr) (c c2:Nat) (m loc:Int) (w:World) (h:Rt x A A2 m w) (h1: -9100000000000<=loc) (h2:loc<=9100000000000):
  Calls prog 46 #[.agg (tabCells x A c A2 c2),.int .i64 loc] w fun e w'=>∃ (A':Option Addr) (c':Nat) (l:List Int) (g:Shp),e= .returned (.tuple #[.slice A' l.length c',.agg #[.int .i64 g.kind,.int .i64 g.at_,.int .i64 g.ahead,.int .i64 g.behind]])/\
   w'.ownsRow w.heap.size 2 1 (.slice A' l.length c') l.length (ints l)/\AroundR x loc l g/\Below w.heap.size w w':=by
 have HST:=hid (fun t z=>stretches_any (tabCells x A c A2 c2) t z);have hst:=ar_start w (tabCells x A c A2 c2) loc (loc - 86400);have HRt:=hid h;have hright:=h.right;clear h;simp only [tabCells] at*
 refine (callsIn_wide (n:=3)).1 ?_
 refine callsIn_of_wp_marks func46 rfl trivial ?_ rfl
 simp only [ntmps46,List.size_toArray,List.length_cons,List.length_nil,Nat.reduceAdd,Nat.reduceSub,Array.replicate_succ,Array.replicate_zero,List.push_toArray,List.append_toArray,List.nil_append,List.cons_append]
 gi_wp2
 refine wpIn_scope_wide ?_
 gi_wp2
 refine wpIn_label ?_
 simp only [Nat.add_assoc,Nat.reduceAdd]
 obtain ⟨V0,hV0⟩:∃ V0,(((((((w.alloc (.cells #[.string x.name,.int .i64 x.first.off,.int .i64 x.first.save,.string x.first.abbr,.slice A x.shifts.length c,.int .i64 x.till,.slice A2 x.tail.length c2,.int .i64 x.off,.string x.format] 61)).alloc (.cells #[.int .i64 loc] 2)).alloc (.cells #[.int .i64 0,.int .i64 0,.int .i64 0,.int .i64 0] 35)).alloc (.cells #[.slice none 0 0] 30)).alloc
   (.cells #[.int .i64 0,.int .i64 0,.int .i64 0,.int .i64 0] 35)).alloc (.cells #[.int .i64 0] 3)).alloc (.cells #[.bool true] 4))=V0:=⟨_,rfl⟩
 rw [hV0] at hst ⊢;have HV:=hid hst;have vc:=hst.vw.cell;have bc:=hst.box.cell 0;have hz:=hst.sz;clear hst hV0
 gi_wp2_with (refine ⟨trivial,?_⟩;refine (callsIn_wide.2 (HST.out _ _)).mono ?_;rintro e w2 ⟨rfl,hw2⟩;simp only [hz] at hw2 ⊢)
 rename_i K hK
 simp only [Nat.add_assoc,Nat.reduceAdd] at hw2 ⊢;have ha:=HV.out.ar;have hbv:=HV.out.bv;have hbt:=HV.out.bt;have hz2:=HV.out.sz2;rw [<-hw2] at ha hbv hbt hz2;clear hw2 vc bc hz HV HST
 have hrt:∀ z,Ks w.heap.size (w.heap.size+7) w2 z->Rt x A A2 m z:=fun z hz=>HRt.out.old (fun k hk=>(hz.old k hk).trans (ha.bel.block k hk)) (by have:=hz.size;omega)
 have fin:∀ (D:Nat) (W:World) (st:St),w.heap.size+9<=D->Ar w.heap.size loc st.out st.gap st.ahead st.first w W->AroundR x loc st.out st.gap->W.heap[D]?=some (.deferred (some []))->
   K { tmps:=#[.agg #[.string x.name,.int .i64 x.first.off,.int .i64 x.first.save,.string x.first.abbr,.slice A x.shifts.length c,.int .i64 x.till,.slice A2 x.tail.length c2,.int .i64 x.off,.string x.format],.int .i64 loc,.pointer (some ⟨w.heap.size,0,none⟩),.pointer (some ⟨w.heap.size+1,0,none⟩),.slice none 0 0,.pointer (some ⟨w.heap.size+2,0,none⟩),.pointer (some ⟨w.heap.size+3,0,none⟩),.pointer (some ⟨w.heap.size+4,0,none⟩),.pointer (some ⟨w.heap.size+5,0,none⟩),.pointer (some ⟨w.heap.size+6,0,none⟩),undef,undef,.agg #[.string x.name,.int .i64 x.first.off,.int .i64 x.first.save,.string x.first.abbr,.slice A x.shifts.length c,.int .i64 x.till,.slice A2 x.tail.length c2,.int .i64 x.off,.string x.format],.int .i64 loc,.int .i64 (loc - 86400),.func (.func 106) #[] #[.pointer (some ⟨w.heap.size+8,0,none⟩),.pointer (some ⟨w.heap.size+7,0,none⟩)],undef,undef,undef,undef,undef,undef,undef,undef,undef,undef,undef,undef,undef,undef,undef,undef,undef,undef,undef,undef,undef,undef,undef,undef,undef,undef,undef,undef,undef,undef,undef,undef,undef,undef,undef,undef,undef,undef,undef,undef,undef,undef,undef,undef,undef,undef,undef,undef,undef,undef,undef,undef,undef,undef,undef,undef,undef,undef,undef,undef,undef,undef,undef,undef,undef,undef,undef],defers:=[{ target:= .collected D,args:=#[] }] } W:=by
  intro D W st hD har hres hdd;obtain ⟨v,o1,o2⟩:=har.out;obtain ⟨A3,c3,rfl⟩:=own_slice o2;have co:=o1.cell 0;have cg:=har.gap.cell;have cr:=har.res.cell;have fr:=har.res.frozen;have HA:=hid har;have HR:=hid hres;have HO:=hid o2;have HD:=hid hdd;clear har hres hdd o1 o2 ha hbv hbt
  refine hK _ _ ?_
  clear hK
  gi_wp2
  refine wpIn_wide.2 ?_
  go_region
  gi_wp2
  rw [Exit.noGoto_ret]
  gi_wp2
  have hf:=((((HA.out.res.set_ 0 (.int .i64 st.gap.kind)).set_ 1 (.int .i64 st.gap.at_)).set_ 2 (.int .i64 st.gap.ahead)).set_ 3 (.int .i64 st.gap.behind)).drew
  have hbe:=((((HA.out.bel.setCell (p:=⟨w.heap.size+2,0,none⟩) (by dsimp only;omega) (.int .i64 st.gap.kind)).setCell (p:=⟨w.heap.size+2,1,none⟩) (by dsimp only;omega) (.int .i64 st.gap.at_)).setCell (p:=⟨w.heap.size+2,2,none⟩) (by dsimp only;omega) (.int .i64 st.gap.ahead)).setCell (p:=⟨w.heap.size+2,3,none⟩) (by dsimp only;omega) (.int .i64 st.gap.behind)).drew
  have hno:∀ {X:World} (i:Nat) (u:Value),X.ownsRow (w.heap.size+9) 2 1 (.slice A3 st.out.length c3) st.out.length (ints st.out)->(X.setCell ⟨w.heap.size+2,i,none⟩ u).ownsRow (w.heap.size+9) 2 1 (.slice A3 st.out.length c3) st.out.length (ints st.out):=fun i u ho=>ho.kept (gr_set _ ⟨w.heap.size+2,i,none⟩ u) (by
   cases hb:(Value.slice A3 st.out.length c3).ownBlock with
   |none=>exact .inl rfl
   |some b=>exact .inr fun e=>by injection e with e;have:=(ho.lt b hb).1;subst e;dsimp only at this;omega)
  have ho9:=(hno 3 (.int .i64 st.gap.behind) (hno 2 (.int .i64 st.gap.ahead) (hno 1 (.int .i64 st.gap.at_) (hno 0 (.int .i64 st.gap.kind) HO.out)))).drew
  have hd9:(World.drew ((((W.setCell ⟨w.heap.size+2,0,none⟩ (.int .i64 st.gap.kind)).setCell ⟨w.heap.size+2,1,none⟩ (.int .i64 st.gap.at_)).setCell ⟨w.heap.size+2,2,none⟩ (.int .i64 st.gap.ahead)).setCell ⟨w.heap.size+2,3,none⟩ (.int .i64 st.gap.behind))).heap[D]?=some (.deferred (some [])):=by
   have e:∀ (X:World) (i:Nat) (u:Value),(X.setCell ⟨w.heap.size+2,i,none⟩ u).heap[D]?=X.heap[D]?:=fun X i u=>Below.heap_setCell X _ u D (by dsimp only;omega)
   show (World.setCell _ _ _).heap[D]?=_
   rw [e,e,e,e];exact HD.out
  simp only [List.setIfInBounds_toArray,List.set_cons_succ,List.set_cons_zero] at hf;clear hno HA HO HD cr fr co cg;generalize World.drew _=W9 at*
  refine leaves_mark1 hd9 fun o'=>?_
  refine ⟨_,around_results (hf.grown (grownBy_putObj' W9 D o') (fun e=>by injection e with e;omega)) _ rfl rfl,A3,c3,st.out,st.gap,rfl,?_,HR.out,hbe.grown (grownBy_putObj' W9 D o') hbe.size (fun k e=>by injection e with e;omega)⟩
  refine (own_base ho9 (by omega)).kept (grownBy_putObj' W9 D o') ?_
  cases hb:(Value.slice A3 st.out.length c3).ownBlock with
  |none=>exact .inl rfl
  |some b=>
   refine .inr fun e=>?_
   injection e with e
   subst e;obtain ⟨cc,fz,hk⟩:=own_kind ho9 b hb;rw [hd9] at hk
   cases hk
 refine wpIn_rangeS (F:=Fence.wide) (n:=3) (α:=Str) (clsS_not (w.heap.size+8)) rfl (by decide) (gf:=106) (lb:=#[.pointer (some ⟨w.heap.size+8,0,none⟩),.pointer (some ⟨w.heap.size+7,0,none⟩)]) rfl trivial (enters_of func106 (by kernel_rfl) rfl)
  (str_seq x A A2 c c2 m (loc - 86400) (loc+86400) (3 - 1) (w.heap.size+8) (w.heap.size+7) w.heap.size w2 hbv hbt (by omega) (by omega) hrt (by omega) (by omega) (by omega)) (fun h k=>h.trans k) (fun W l r o' hl hh=>Kb.put o' (by omega) hh) (Below.refl _ _) (fun _=>rfl)
  (fun pre W=>Ar w.heap.size loc (pre.foldl (stepS loc) st0).out (pre.foldl (stepS loc) st0).gap (pre.foldl (stepS loc) st0).ahead (pre.foldl (stepS loc) st0).first w W/\∀ s∈pre,goS (loc+86400) s)
  (fun cd pre W=>cd= .exit 0/\(∃ (q:List Str) (s:Str),pre=q++[s]/\s.ends=true/\loc+86400<s.upto)/\Ar w.heap.size loc (pre.foldl (stepS loc) st0).out (pre.foldl (stepS loc) st0).gap (pre.foldl (stepS loc) st0).ahead (pre.foldl (stepS loc) st0).first w W)
  (fun s X Y row hs hg hr=>⟨hs.1.gr hg ?gr1,hs.2⟩) (fun cd s X Y row hs hg hr=>⟨hs.1,hs.2.1,hs.2.2.gr hg ?gr2⟩) (fun pre s W h=>h.2 s (by simp)) ⟨ha,fun s hs=>by cases hs⟩
  (fun s a' W=>∃ Bx,w2.heap.size<=Bx/\Blk W Bx 112 #[.int .i64 s.frm,.int .i64 s.upto,.bool s.ends,.int .i64 s.off]/\a'={ tmps:=#[.agg #[.string x.name,.int .i64 x.first.off,.int .i64 x.first.save,.string x.first.abbr,.slice A x.shifts.length c,.int .i64 x.till,.slice A2 x.tail.length c2,.int .i64 x.off,.string x.format],.int .i64 loc,.pointer (some ⟨w.heap.size,0,none⟩),.pointer (some ⟨w.heap.size+1,0,none⟩),.slice none 0 0,.pointer (some ⟨w.heap.size+2,0,none⟩),.pointer (some ⟨w.heap.size+3,0,none⟩),.pointer (some ⟨w.heap.size+4,0,none⟩),.pointer (some ⟨w.heap.size+5,0,none⟩),.pointer (some ⟨w.heap.size+6,0,none⟩),.pointer (some ⟨Bx,0,none⟩),undef,.agg #[.string x.name,.int .i64 x.first.off,.int .i64 x.first.save,.string x.first.abbr,.slice A x.shifts.length c,.int .i64 x.till,.slice A2 x.tail.length c2,.int .i64 x.off,.string x.format],.int .i64 loc,.int .i64 (loc - 86400),.func (.func 106) #[] #[.pointer (some ⟨w.heap.size+8,0,none⟩),.pointer (some ⟨w.heap.size+7,0,none⟩)],.agg #[.int .i64 s.frm,.int .i64 s.upto,.bool s.ends,.int .i64 s.off],undef,undef,undef,undef,undef,undef,undef,undef,undef,undef,undef,undef,undef,undef,undef,undef,undef,undef,undef,undef,undef,undef,undef,undef,undef,undef,undef,undef,undef,undef,undef,undef,undef,undef,undef,undef,undef,undef,undef,undef,undef,undef,undef,undef,undef,undef,undef,undef,undef,undef,undef,undef,undef,undef,undef,undef,undef,undef,undef,undef,undef,undef,undef,undef,undef,undef],defers:=[] })
  (fun s a' W l r o' hs hl hh=>?ax) ?assign ?body ?done ?stop
 case gr1=>
  intro r e;obtain ⟨o,h3,h4⟩:=hr r e
  exact ⟨o,h3,by rcases h4 with ⟨h5,h6⟩|h5
                 ·exact .inl ⟨by omega,h6⟩
                 ·exact .inr h5⟩
 case gr2=>
  intro r e;obtain ⟨o,h3,h4⟩:=hr r e
  exact ⟨o,h3,by rcases h4 with ⟨h5,h6⟩|h5
                 ·exact .inl ⟨by omega,h6⟩
                 ·exact .inr h5⟩
 case ax=>
  obtain ⟨Bx,h3,h4,h5⟩:=hs
  exact ⟨Bx,h3,(World.putObj_heap_other (fun e=>by rw [<-e,show W.heap[Bx]?=_ from h4] at hh;cases hh)).trans h4,h5⟩
 case done=>
  intro D xs W hD hS hI hdd;obtain ⟨q,s,rfl,hc,ho,he⟩:=hS
  exact fin D W _ (by omega) hI.1 (around_is hright hc ho (.inl he)) hdd
 case stop=>
  rintro D cd pre W hD hS ⟨rfl,⟨q,s,rfl,he,hlt⟩,hI⟩ hdd;obtain ⟨q2,s2,e,hc,ho⟩:=hS;obtain ⟨rfl,e2⟩:=List.append_inj' e rfl
  injection e2 with e2
  subst e2
  have:=fin D W _ (by omega) hI (around_is hright hc ho (.inr hlt)) hdd
  clear fin hK
  refine wpIn_exit ?_
  simpa [Exit.inBlock,Exit.then] using this
 case assign=>
  rintro l pre ⟨f,u,en,o⟩ W K2 ⟨har,hgo⟩ hKK;simp only [encS];clear fin hK
  gi_wp2
  have hsz:=har.sz;have hb:Below W.heap.size W (W.alloc (.cells #[.int .i64 f,.int .i64 u,.bool en,.int .i64 o] 112)):=(Below.refl _ _).alloc (Nat.le_refl _) _;have hrb:=Rb.bel hb hsz
  exact hKK _ _ (by rw [hz2];exact hrb.1) hrb.2 ⟨har.below hb,hgo⟩ ⟨W.heap.size,by rw [hz2];exact hsz,Blk.new _ _ _,rfl⟩
 case body=>
  rintro l pre ⟨f,u,en,o⟩ a' W ⟨har,hgo⟩ ⟨Bx,hBx,hbx,rfl⟩ hsp;have hrd:=rd_of hright hsp
  have hfold:(pre++[Str.mk f u en o]).foldl (stepS loc) st0=stepS loc (pre.foldl (stepS loc) st0) (Str.mk f u en o):=by rw [List.foldl_append];rfl
  obtain ⟨st,hst⟩:∃ st,pre.foldl (stepS loc) st0=st:=⟨_,rfl⟩;rw [hst] at hfold har hrd;have HF:=hid hfold;have HG:=hid hgo;clear fin hK hfold hgo hsp ha hbv hbt hrt HRt hst
  dsimp only at hbx hrd ⊢
  refine wpIn_block ?_
  refine wpIn_seq_k fun K1 hK1=>?_
  gi_cut [] from 11 (fun wx=>Rb w.heap.size W wx/\Ar w.heap.size loc st.out (gapS loc st (Str.mk f u en o)) st.ahead st.first w wx)
  case first=>
   clear hK1;obtain ⟨sout,⟨gk,ga,gh,gb⟩,sah,sf⟩:=st
   dsimp only at har hrd HF ⊢
   have cf:=har.fst.cell 0;have cg:=har.gap.cell;have fg:=har.gap.frozen;have ca:=har.ahd.cell 0;have cb:=har.box.cell 0;have cx:=hbx.cell;have ho:=hrd.off;have hfr:=hrd.frm;have hah:=hrd.ahd
   dsimp only at ho hfr hah cf cg ca
   have HAr:=hid har;have hsz:=har.sz;clear har hbx HF HG hrd hz2 hright
   cases sf with
   |true=>
    clear hah
    gi_wp2
    gi_meet
    case rel=>exact ⟨Rb.refl _ _,by simpa [gapS] using HAr.out⟩
   |false=>
    have hah:=hah rfl
    by_cases hk:gk=0
    ·subst hk
     by_cases hle:f+sah<=loc
     ·have hleb:decide (f+sah<=loc)=true:=decide_eq_true hle
      by_cases hlt:loc<f+o
      ·have hltb:decide (loc<f+o)=true:=decide_eq_true hlt
       gi_wp2
       gi_meet
       case rel=>
        have e:gapS loc ⟨sout,⟨0,ga,gh,gb⟩,sah,false⟩ (Str.mk f u en o)=⟨1,f,sah,o⟩:=if_pos ⟨rfl,rfl,hle,hlt⟩;rw [e]
        refine ⟨?_,HAr.out.setGap 1 f sah o⟩
        have b0:=HAr.out.gap;have b1:=b0.set_ 0 (.int .i64 1);have b2:=b1.set_ 1 (.int .i64 f);have b3:=b2.set_ 2 (.int .i64 sah)
        exact (((Rb.set b0 (by decide) (by omega) (by omega) hsz _ _).trans (Rb.set b1 (by decide) (by omega) (by omega) (by simpa using hsz) _ _)).trans (Rb.set b2 (by decide) (by omega) (by omega) (by simpa using hsz) _ _)).trans (Rb.set b3 (by decide) (by omega) (by omega) (by simpa using hsz) _ _)
      ·have hltb:decide (loc<f+o)=false:=decide_eq_false hlt
       gi_wp2
       gi_meet
       case rel=>exact ⟨Rb.refl _ _,by
        have e:gapS loc ⟨sout,⟨0,ga,gh,gb⟩,sah,false⟩ (Str.mk f u en o)=⟨0,ga,gh,gb⟩:=if_neg fun h=>by have:=h.2.2.2;dsimp only at this;omega
        rw [e];exact HAr.out⟩
     ·have hleb:decide (f+sah<=loc)=false:=decide_eq_false hle
      gi_wp2
      gi_meet
      case rel=>exact ⟨Rb.refl _ _,by
       have e:gapS loc ⟨sout,⟨0,ga,gh,gb⟩,sah,false⟩ (Str.mk f u en o)=⟨0,ga,gh,gb⟩:=if_neg fun h=>by have:=h.2.2.1;dsimp only at this;omega
       rw [e];exact HAr.out⟩
    ·have hkb:(gk == 0)=false:=by simpa using hk
     have hkd:decide (gk=0)=false:=decide_eq_false hk
     gi_wp2
     gi_meet
     case rel=>exact ⟨Rb.refl _ _,by simpa [gapS,hk] using HAr.out⟩
  case rest=>
   obtain ⟨hr1,ha1⟩:=hcut;obtain ⟨g1,hg1⟩:∃ g,gapS loc st (Str.mk f u en o)=g:=⟨_,rfl⟩;rw [hg1] at ha1;have hx1:Blk wc Bx 112 #[.int .i64 f,.int .i64 u,.bool en,.int .i64 o]:=Blk.of_ss hr1.2 hbx
   refine hK1 _ _ ?_
   clear hK1 har
   refine wpIn_seq_k fun K2 hK2=>?_
   gi_cut [] from 11 (fun wx=>Rb w.heap.size W wx/\Ar w.heap.size loc st.out g1 o false w wx)
   case first=>
    have cf:=ha1.fst.cell 0;have ff:=ha1.fst.frozen 0;have ca:=ha1.ahd.cell 0;have fa:=ha1.ahd.frozen 0;have cx:=hx1.cell;have HA1:=hid ha1;have HR1:=hid hr1;clear hK2 ha1 hr1 HF HG hright
    gi_wp2
    gi_meet
    case rel=>
     have b0:=HA1.out.ahd;have hsz:=HA1.out.sz
     have b1:Blk (wc.setCell ⟨w.heap.size+5,0,none⟩ (.int .i64 o)) (w.heap.size+6) 4 #[.bool st.first]:=HA1.out.fst.far (by dsimp only;omega) _
     exact ⟨(HR1.out.trans (Rb.set b0 (by decide) (by omega) (by omega) hsz _ _)).trans (Rb.set b1 (by decide) (by omega) (by omega) (by simpa using hsz) _ _),HA1.out.setAhd o false⟩
   case rest=>
    obtain ⟨hr2,ha2⟩:=hcut;have hx2:Blk wc Bx 112 #[.int .i64 f,.int .i64 u,.bool en,.int .i64 o]:=Blk.of_ss hr2.2 hbx;clear hx1 ha1 hr1
    refine hK2 _ _ ?_
    clear hK2
    refine wpIn_seq_k fun K3 hK3=>?_
    gi_cut [] from 11 (fun wx=>Rb w.heap.size W wx/\Ar w.heap.size loc (outS loc st (Str.mk f u en o)) g1 o false w wx)
    case first=>
     obtain ⟨v,o1,o2⟩:=ha2.out;have cb:=ha2.box.cell 0;have co:=o1.cell 0;have fo:=o1.frozen 0;have cx:=hx2.cell;have hsz:=ha2.sz;have HA2:=hid ha2;have HR2:=hid hr2;have HO:=hid o2;have HO1:=hid o1;have hof:=hrd.off;have hfr:=hrd.frm;have hln:=hrd.len
     dsimp only at hof hfr hln
     clear hK3 ha2 hr2 HF HG hright hrd hx2 hbx o1 o2 hg1;obtain ⟨i0,hi0,hz0,hz1,hz2⟩:=info_parts info_int64
     have hm1:st.out.length+1<=maxLen:=by unfold maxLen;omega
     have hm2:(st.out.length+1)*8<=140737488355328:=by omega
     by_cases hc1:f<=loc - o
     ·have hc1b:decide (f<=loc - o)=true:=decide_eq_true hc1
      cases en with
      |false=>
       gi_wp2_with (gi_at_builtin;refine wpListIn_append1g rfl (.tmp 68) (.tmp 70) 30 rfl (w.heap.size+9) 2 i0 _ 1 8 underlying30 hi0 hz0 hz1 hz2 rfl (by decide) v st.out.length _ rfl HO.out (by simp [Act.eval]) rfl one_int hm1 hm2 hsz ?_;intro v' w3 ho3 hg3;obtain ⟨A4,c4,rfl⟩:=own_slice ho3;have HO3:=hid ho3;have HG3:=hid hg3;have c3:=(HO1.out.alloc _).grown hg3 (own_ne3 HO.out) |>.cell 0;have f3:=(HO1.out.alloc _).grown hg3 (own_ne3 HO.out) |>.frozen 0;clear ho3 hg3)
       gi_meet
       case rel=>
        have e:outS loc st (Str.mk f u false o)=st.out++[loc - o]:=if_pos ⟨hc1,.inl rfl⟩;rw [e]
        have ho4:w3.ownsRow (w.heap.size+9) 2 1 (.slice A4 (st.out.length+1) c4) (st.out++[loc - o]).length (ints (st.out++[loc - o])):=by rw [<-ints_snoc,List.length_append];exact HO3.out
        exact out_step HR2.out HA2.out HO.out HO1.out HG3.out ho4
      |true=>
       by_cases hc2:loc - o<u
       ·have hc2b:decide (loc - o<u)=true:=decide_eq_true hc2
        gi_wp2_with (gi_at_builtin;refine wpListIn_append1g rfl (.tmp 68) (.tmp 70) 30 rfl (w.heap.size+9) 2 i0 _ 1 8 underlying30 hi0 hz0 hz1 hz2 rfl (by decide) v st.out.length _ rfl HO.out (by simp [Act.eval]) rfl one_int hm1 hm2 hsz ?_;intro v' w3 ho3 hg3;obtain ⟨A4,c4,rfl⟩:=own_slice ho3;have HO3:=hid ho3;have HG3:=hid hg3;have c3:=(HO1.out.alloc _).grown hg3 (own_ne3 HO.out) |>.cell 0;have f3:=(HO1.out.alloc _).grown hg3 (own_ne3 HO.out) |>.frozen 0;clear ho3 hg3)
        gi_meet
        case rel=>
         have e:outS loc st (Str.mk f u true o)=st.out++[loc - o]:=if_pos ⟨hc1,.inr hc2⟩;rw [e]
         have ho4:w3.ownsRow (w.heap.size+9) 2 1 (.slice A4 (st.out.length+1) c4) (st.out++[loc - o]).length (ints (st.out++[loc - o])):=by rw [<-ints_snoc,List.length_append];exact HO3.out
         exact out_step HR2.out HA2.out HO.out HO1.out HG3.out ho4
       ·have hc2b:decide (loc - o<u)=false:=decide_eq_false hc2
        gi_wp2
        gi_meet
        case rel=>
         have e:outS loc st (Str.mk f u true o)=st.out:=if_neg fun h=>by have:=h.2;dsimp only at this;simp at this;omega
         rw [e];exact ⟨HR2.out,HA2.out⟩
     ·have hc1b:decide (f<=loc - o)=false:=decide_eq_false hc1
      gi_wp2
      gi_meet
      case rel=>
       have e:outS loc st (Str.mk f u en o)=st.out:=if_neg fun h=>by have:=h.1;dsimp only at this;omega
       rw [e];exact ⟨HR2.out,HA2.out⟩
    case rest=>
     obtain ⟨hr3,ha3⟩:=hcut;have hx3:Blk wc Bx 112 #[.int .i64 f,.int .i64 u,.bool en,.int .i64 o]:=Blk.of_ss hr3.2 hbx;have cx:=hx3.cell;have cb:=ha3.box.cell 0;have HA3:=hid ha3;have HR3:=hid hr3;have Hg:=hid hg1;have Hz:=hid hz2
     refine hK3 _ _ ?_
     clear hK3 hx2 ha2 hr2 hx3 ha3 hr3 hbx hrd hright hg1 hz2
     have hend:Ar w.heap.size loc ((pre++[Str.mk f u en o]).foldl (stepS loc) st0).out ((pre++[Str.mk f u en o]).foldl (stepS loc) st0).gap ((pre++[Str.mk f u en o]).foldl (stepS loc) st0).ahead ((pre++[Str.mk f u en o]).foldl (stepS loc) st0).first w wc:=by
      rw [HF.out]
      show Ar w.heap.size loc (outS loc st _) (gapS loc st _) o false w wc
      rw [Hg.out];exact HA3.out
     have Hend:=hid hend;clear hend HF Hg HA3
     cases en with
     |false=>
      gi_wp2
      refine ⟨by rw [Hz.out];exact HR3.out.1,HR3.out.2,Hend.out,fun s hs=>?_⟩
      rcases List.mem_append.1 hs with hs|hs
      ·exact HG.out s hs
      ·rw [List.mem_singleton.1 hs]
       exact fun e=>by cases e
     |true=>
      by_cases hu:loc+86400<u
      ·have hub:decide (u > loc+86400)=true:=decide_eq_true hu
       gi_wp2
       exact ⟨by rw [Hz.out];exact HR3.out.1,rfl,⟨pre,_,rfl,rfl,hu⟩,Hend.out⟩
      ·have hub:decide (u > loc+86400)=false:=decide_eq_false hu
       gi_wp2
       refine ⟨by rw [Hz.out];exact HR3.out.1,HR3.out.2,Hend.out,fun s hs=>?_⟩
       rcases List.mem_append.1 hs with hs|hs
       ·exact HG.out s hs
       ·rw [List.mem_singleton.1 hs]
        intro _
        show u<=loc+86400
        omega
end Zon
end
end
end Go.Proofs.YtmlejgdohcpmjaaGreatDoor
