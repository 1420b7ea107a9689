/-
  Contracts of the code that the law reaches, and plain laws. Conditions: as each says.
-/
import Derived.Test.YtmlejgdohcpmjaaGreatDoorV36
import Derived.Test.YtmlejgdohcpmjaaGreatDoorV39
set_option linter.all false
set_option maxHeartbeats 40000000
set_option maxRecDepth 100000
namespace Go.Proofs.YtmlejgdohcpmjaaGreatDoor
open Lib (hid)
open Tryz
section
section
namespace Zon
open Go.RowKit Mem Civ Mom Img Plc Rul Ahd Trn Src Snd Att Rgt Abr Sch Cmq
theorem refAt_off (x:Table) (A A2:Option Addr) (c c2:Nat) (m t:Int) (w:World) (h:Rt x A A2 m w) (h1: -9223372036854775808<=t) (h2:t<=9223372036854775807):
  Calls prog 28 #[.agg (tabCells x A c A2 c2),.int .i64 t] w fun e w'=>e= .returned (.agg #[.int .i64 (tellD x t).off,.int .i64 (tellD x t).save,.string (tellD x t).abbr])/\Below w.heap.size w w':=refAt14_any x A A2 c c2 t w h.tab h.right h1 h2
def possL (x:Table) (loc:Int) (k:Nat):List Int:=((offsD x).take k).foldl (possS x loc) []
theorem possL_succ {x:Table} {loc:Int} {k:Nat} (hk:k<(offsD x).length):possL x loc (k+1)=possS x loc (possL x loc k) (offsD x)[k]:=by
 unfold possL;rw [List.take_succ_eq_append_getElem hk,List.foldl_append]
 rfl
theorem possS_len (x:Table) (loc:Int) (l:List Int) (o:Int):(possS x loc l o).length<=l.length+1:=by
 unfold possS
 split
 ·exact put_len _ l
 ·omega
theorem possL_len {x:Table} {loc:Int}:∀ k,k<=(offsD x).length->(possL x loc k).length<=k
 |0,_=>by simp [possL]
 |k+1,hk=>by
  rw [possL_succ hk]
  have:=possL_len (x:=x) (loc:=loc) k (by omega)
  have:=possS_len x loc (possL x loc k) (offsD x)[k];omega
theorem offsD_len (x:Table):(offsD x).length<=x.shifts.length+x.tail.length+2:=by
 rw [<-offs3_all];have:=offs3_len x x.tail.length;omega
theorem poss_len (x:Table) (loc:Int):(possD x loc).length<=x.shifts.length+x.tail.length+2:=by
 have h1:=possL_len (x:=x) (loc:=loc) (offsD x).length (Nat.le_refl _);have h2:=offsD_len x;unfold possL at h1;rw [List.take_length] at h1
 show ((offsD x).foldl (possS x loc) []).length<=_
 omega
theorem refPossible_any (x:Table) (A A2:Option Addr) (c c2:Nat) (m loc:Int) (w:World) (h:Rt x A A2 m w) (h1: -9000000000000<=loc) (h2:loc<=9000000000000) (hsm:x.shifts.length+x.tail.length<=4000):
  Calls prog 14 #[.agg (tabCells x A c A2 c2),.int .i64 loc] w (SecsP (possD x loc) w):=by
 obtain ⟨b0,hbw,hsz⟩:=box1 w 27 (tabCells x A c A2 c2);have hOf:=fun z (hb:Below w.heap.size w z)=>offs_any x A A2 c c2 m z (h.below hb);have hAt:=fun t z (hb:Below w.heap.size w z) (a1: -9223372036854775808<=t) (a2:t<=9223372036854775807)=>refAt_off x A A2 c c2 m t z (h.below hb) a1 a2;have hbd:=offs_bd h.right;have hpl:=fun k (hk:k<=(offsD x).length)=>possL_len (x:=x) (loc:=loc) k hk;have hol:=offsD_len x;simp only [tabCells] at*
 obtain ⟨W,hW⟩:∃ W,w.alloc (.cells #[.string x.name,.int .i64 x.first.off,.int .i64 x.first.save,.string x.first.abbr,.slice A x.shifts.length c,.int .i64 x.till,.slice A2 x.tail.length c2,.int .i64 x.off,.string x.format] 27)=W:=⟨_,rfl⟩
 rw [hW] at b0 hbw hsz;have k0:=b0.cell;have H0:=hid b0;have HB:=hid hbw;have HOf:=hid (hOf W hbw);have HAt:=hid hAt;have HBd:=hid hbd;have HPl:=hid hpl;clear h b0 hbw hOf hAt hbd hpl;have hD:(offsD x).foldl (possS x loc) []=possD x loc:=rfl
 have hps:possL x loc (offsD x).length=possD x loc:=by unfold possL;rw [List.take_length];rfl
 have hpc:=fun k (hk:k<(offsD x).length)=>possL_succ (x:=x) (loc:=loc) hk;have HPs:=hid hps;have HPc:=hid hpc;clear hD hps hpc;generalize offsD x=L at*;go_enter func14,ntmps14
 go_wp2_with (go_at_call 27;refine HOf.out.mono ?_;rintro e w2 ⟨A3,c3,rfl,ho,hb⟩;have HO:=hid ho;have HB2:=hid hb;clear ho hb k0)
 have HRd:Hid (Reads w2 w2.heap.size 1 A3 L.length (ints L)):=Reads.of_own HO.out;clear HOf HO
 go_loopw [5,7] (fun v i wr=>∃ (k:Nat) (A1:Option Addr) (c1:Nat),k<=L.length/\i= .int .i64 k/\v= .slice A1 (possL x loc k).length c1/\Reads wr wr.heap.size 1 A1 (possL x loc k).length (ints (possL x loc k))/\wr.ownsRow w2.heap.size 2 1 (.slice A1 (possL x loc k).length c1) (possL x loc k).length (ints (possL x loc k))/\Below w2.heap.size w2 wr) (fun _ i _=>L.length - (intOf i).toNat)
 case atStart=>exact ⟨0,none,0,Nat.zero_le _,rfl,rfl,Reads.none_,World.ownsRow_nil _ _ _ _,Below.refl _ _⟩
 case round=>
  obtain ⟨k,A1,c1,hk,rfl,rfl,hrd,hown,hb⟩:=hrel;have hb0:=(H0.out.below HB2.out H0.out.lt).below hb (H0.out.below HB2.out H0.out.lt).lt;have HO:=hid hown;have HBr:=hid hb;have HRo:=hid hrd;have HB0:=hid hb0;clear hown hb hrd hb0
  by_cases hkn:k<L.length
  ·have hrr:=fun z (hz:Below w2.heap.size w2 z)=>ints_at (HRd.out.below hz) hkn
   obtain ⟨ad,hA,hadb,a0⟩:=hrr wr HBr.out
   have hmv:∀ V,Below w2.heap.size w2 V->V.cell? (ad.add k)=some (.int .i64 L[k]):=fun V hV=>by
    obtain ⟨ad2,e2,_,h2⟩:=hrr V hV;rw [hA] at e2
    injection e2 with e2
    rw [e2];exact h2
   have Hmv:=hid hmv;subst hA;have hob:=HBd.out _ (List.getElem_mem hkn);have hpc:=HPc.out k hkn
   have hpl:=HPl.out k (by omega)
   generalize L[k]=o at*;obtain ⟨t,ht⟩:∃ t,loc - o=t:=⟨_,rfl⟩
   have htb: -9000000100000<=t/\t<=9000000100000:=by omega
   have hAt:=HAt.out t
   have hpt:possS x loc (possL x loc k) o=if (tellD x t).off=o then putI (possL x loc k) t else possL x loc k:=by unfold possS offT;rw [ht]
   rw [hpt] at hpc;have Hpc:=hid hpc;obtain ⟨q,hq⟩:∃ q,tellD x t=q:=⟨_,rfl⟩;rw [hq] at hAt Hpc;obtain ⟨q0,q1,q2⟩:=q;simp only at hAt Hpc;obtain ⟨Cls,hCls⟩:∃ C:World->Prop,C=fun z=>Below wr.heap.size wr z:=⟨_,rfl⟩
   have hC:∀ z,Cls z->Below wr.heap.size wr z:=fun z h=>by rw [hCls] at h;exact h
   have hall:∀ z,Cls z->Below w2.heap.size w2 z:=fun z hz=>HBr.out.trans ((hC z hz).mono HBr.out.size)
   have hst:Cls wr.drew:=by rw [hCls];exact (Below.refl _ _).drew
   have HSt:=hid hst;have inst:Nonempty (Qt.In Cls):=⟨⟨_,hst⟩⟩
   have gx:∀ (z:Qt.In Cls) (i:Nat),z.w.cell? ⟨w.heap.size,i,none⟩=#[.string x.name,.int .i64 x.first.off,.int .i64 x.first.save,.string x.first.abbr,.slice A x.shifts.length c,.int .i64 x.till,.slice A2 x.tail.length c2,.int .i64 x.off,.string x.format][i]?:=fun z i=>(HB0.out.below (hC z.w z.h) HB0.out.lt).cell i
   have gl:∀ z:Qt.In Cls,z.w.cell? (ad.add k)=some (.int .i64 o):=fun z=>Hmv.out _ (hall z.w z.h)
   have HDc:Hid (∀ z,Cls z->Calls prog 28 #[.agg #[.string x.name,.int .i64 x.first.off,.int .i64 x.first.save,.string x.first.abbr,.slice A x.shifts.length c,.int .i64 x.till,.slice A2 x.tail.length c2,.int .i64 x.off,.string x.format],.int .i64 t] z fun e z'=>e= .returned (.agg #[.int .i64 q0,.int .i64 q1,.string q2])/\Cls z'):=fun z hz=>(hAt z (HB.out.trans ((HB2.out.trans ((hall z hz).mono HB2.out.size)).mono HB.out.size)) (by omega) (by omega)).mono fun e z' ⟨he,hb⟩=>⟨he,by rw [hCls];exact (hC z hz).trans (hb.mono (hC z hz).size)⟩
   have hfo:=fun z=>field_off q0 q1 q2 z;have HC:=hid hC
   have M0:=hid (show (possL x loc k).length<=1000000 by omega)
   clear hCls hC hall hst hAt hpt hpl hrr hmv hadb hq hpc HPl HPc HBd HRd
   by_cases hqo:q0=o
   ·have hqb:(q0 == o)=true:=beq_iff_eq.2 hqo
    have hPc:=Hpc.out;rw [if_pos hqo] at hPc;have HPc2:=hid hPc;clear hqo hPc Hpc
    go_wp2_with fail
    refine Qt.wp_region_cls Cls (by kernel_rfl) (by kernel_rfl) HSt.out ?_
    repeat (go_big_quiet_step ((go_at_call 28;exact Qt.quiet_cls (HDc.out _ (Qt.In.h _)))))
    refine wpQuiet_nil ?_
    rintro wq ⟨⟨w9,hq⟩,e9⟩;obtain rfl:wq=w9:=e9;have hbq:=HC.out wq hq;have HRq:=hid ((HRo.out.below hbq).more hbq.size);have HPut:=hid (put_any (possL x loc k) A1 c1 t wq HRq.out M0.out);have HBq:=hid hbq;clear hq gx gl inst HDc HC hbq HSt
    go_wp2_with (go_at_call 29;refine HPut.out.mono ?_;rintro e w5 ⟨A5,c5,rfl,ho5,hb5⟩;have HO5:=hid ho5;have HB5:=hid hb5;clear ho5 hb5)
    have hzq:w2.heap.size<=wq.heap.size:=by have:=HBr.out.size;have:=HBq.out.size;omega
    refine ⟨⟨k+1,A5,c5,by omega,by go_num,by rw [HPc2.out],by rw [HPc2.out];exact Reads.of_own HO5.out,by rw [HPc2.out];exact own_base HO5.out hzq,?_⟩,by simp [intOf];omega⟩
    exact HBr.out.trans ((HBq.out.trans (HB5.out.mono HBq.out.size)).mono HBr.out.size)
   ·have hqb:(q0 == o)=false:=beq_eq_false_iff_ne.2 hqo
    have hPc:=Hpc.out;rw [if_neg hqo] at hPc;have HPc2:=hid hPc;clear hqo hPc Hpc
    go_wp2_with fail
    refine Qt.wp_region_cls Cls (by kernel_rfl) (by kernel_rfl) HSt.out ?_
    repeat (go_big_quiet_step ((go_at_call 28;exact Qt.quiet_cls (HDc.out _ (Qt.In.h _)))))
    refine wpQuiet_nil ?_
    rintro wq ⟨⟨w9,hq⟩,e9⟩;obtain rfl:wq=w9:=e9;have hbq:=HC.out wq hq;have HBq:=hid hbq;clear hq gx gl inst HDc HC hbq HSt
    go_wp2_with fail
    refine ⟨⟨k+1,A1,c1,by omega,by go_num,by rw [HPc2.out],by rw [HPc2.out];exact (HRo.out.below HBq.out).more HBq.out.size,by rw [HPc2.out];exact HO.out.kept (gr_of_below HBq.out) (by cases (Value.slice A1 (possL x loc k).length c1).ownBlock<;>simp),HBr.out.trans (HBq.out.mono HBr.out.size)⟩,by simp [intOf];omega⟩
  ·obtain rfl:k=L.length:=by omega
   have e:=HPs.out;go_wp2;go_ret;rw [<-e]
   have hz:w.heap.size<=w2.heap.size:=by have:=HB2.out.size;have:=HB.out.size;omega
   exact ⟨A1,c1,rfl,own_base HO.out hz,HB.out.trans ((HB2.out.trans (HBr.out.mono HB2.out.size)).mono HB.out.size)⟩
end Zon
end
end
section
section
namespace Zon
open Go.RowKit Mem Civ Mom Img Plc Rul Ahd Trn Src Snd Att Rgt Abr Sch Cmq
def secs1 (x:Table) (k:Nat):List Int:=putAll [] ((x.shifts.take k).map (·.sec))
theorem secs1_succ {x:Table} {k:Nat} (hk:k<x.shifts.length):secs1 x (k+1)=putI (secs1 x k) x.shifts[k].sec:=by
 unfold secs1;rw [List.take_succ_eq_append_getElem hk,List.map_append];exact all_snoc _ _ _
theorem secs1_len (x:Table) (k:Nat):(secs1 x k).length<=x.shifts.length:=by
 have:=all_len ((x.shifts.take k).map (·.sec)) [];rw [List.length_map,List.length_take,List.length_nil] at this;unfold secs1;omega
def secs2 (x:Table):List Int:=putI (secs1 x x.shifts.length) x.till
theorem secs2_is (x:Table):secs2 x=putAll [] (x.shifts.map (·.sec)++[x.till]):=by
 unfold secs2 secs1;rw [List.take_length,all_snoc]
theorem secs2_len (x:Table):(secs2 x).length<=x.shifts.length+1:=by
 have h1:=put_len x.till (secs1 x x.shifts.length);have h2:=secs1_len x x.shifts.length;unfold secs2;omega
def years2 (x:Table) (t:Int) (k:Nat):List Int:=[yearJ t,yearJ x.till]++(x.tail.take k).map (·.lo)
theorem years2_succ {x:Table} {t:Int} {k:Nat} (hk:k<x.tail.length):years2 x t (k+1)=years2 x t k++[x.tail[k].lo]:=by
 unfold years2;rw [List.take_succ_eq_append_getElem hk,List.map_append,List.append_assoc]
 rfl
theorem years2_len (x:Table) (t:Int) (k:Nat):(years2 x t k).length<=k+2:=by
 unfold years2;rw [List.length_append,List.length_map,List.length_take];simp;omega
theorem years2_all (x:Table) (t:Int):years2 x t x.tail.length=yearsD x t:=by
 unfold years2 yearsD;rw [List.take_length]
 rfl
theorem turnsD_len (x:Table) (y:Int):(turnsD x y).length<=x.tail.length:=by
 unfold turnsD;rw [List.length_map];exact R11.yearR_le _ _
def about4 (x:Table) (yr:Int) (j:Nat):List Int:=(List.range j).flatMap fun (i:Nat)=>turnsD x (yr - 4+(i:Int))
theorem about4_succ (x:Table) (yr:Int) (j:Nat):about4 x yr (j+1)=about4 x yr j++turnsD x (yr - 4+(j:Int)):=by
 unfold about4;rw [List.range_succ,List.flatMap_append];simp
theorem about4_len (x:Table) (yr:Int):∀ j:Nat,(about4 x yr j).length<=j*x.tail.length
 |0=>by simp [about4]
 |j+1=>by
  rw [about4_succ,List.length_append];have:=about4_len x yr j;have:=turnsD_len x (yr - 4+(j:Int));have e:(j+1)*x.tail.length=j*x.tail.length+x.tail.length:=Nat.succ_mul _ _;omega
theorem about4_all (x:Table) (yr:Int):about4 x yr 9=aboutD x yr:=rfl
def secs3 (x:Table) (ys:List Int) (k:Nat):List Int:=putAll (secs2 x) ((ys.take k).flatMap (aboutD x))
theorem secs3_succ {x:Table} {ys:List Int} {k:Nat} (hk:k<ys.length):secs3 x ys (k+1)=putAll (secs3 x ys k) (about4 x ys[k] 9):=by
 unfold secs3;rw [List.take_succ_eq_append_getElem hk,List.flatMap_append,all_append];simp [about4_all]
theorem aboutAll_len (x:Table):∀ ys:List Int,(ys.flatMap (aboutD x)).length<=ys.length*(9*x.tail.length)
 |[]=>by simp
 |y :: ys=>by
  rw [List.flatMap_cons,List.length_append,List.length_cons,Nat.succ_mul];have:=aboutAll_len x ys;have:=about4_len x y 9;rw [about4_all] at this;omega
theorem secs3_len (x:Table) (ys:List Int) (k:Nat):(secs3 x ys k).length<=x.shifts.length+1+ys.length*(9*x.tail.length):=by
 unfold secs3;have h1:=all_len ((ys.take k).flatMap (aboutD x)) (secs2 x);have h2:=secs2_len x;have h3:=aboutAll_len x (ys.take k)
 have h4:(ys.take k).length*(9*x.tail.length)<=ys.length*(9*x.tail.length):=Nat.mul_le_mul_right _ (by rw [List.length_take];omega)
 omega
theorem secs3_all (x:Table) (t:Int):secs3 x (yearsD x t) (yearsD x t).length=secsD x t:=by
 unfold secs3 secsD;rw [List.take_length,secs2_is,<-all_append]
theorem own_bel {w w':World} {base size n:Nat} {e:TypeId} {v:Value} {xs:List Value} (h:w.ownsRow base e size v n xs) (hb:Below w.heap.size w w'):w'.ownsRow base e size v n xs:=
 h.kept (gr_of_below hb) (by cases v.ownBlock<;>simp)
structure Sl (B:Nat) (v:Value) (P:List Int) (W z:World):Prop where
 own:∃ (A1:Option Addr) (c1:Nat),v= .slice A1 P.length c1/\z.ownsRow B 2 1 (.slice A1 P.length c1) P.length (ints P)
 bel:Below W.heap.size W z
theorem Sl.put {B:Nat} {v:Value} {P:List Int} {W z:World} (k:Sl B v P W z) (hB:B<=z.heap.size) (hn:P.length<=1000000):∃ (A1:Option Addr) (c1:Nat),v= .slice A1 P.length c1/\∀ n,Calls prog 29 #[.slice A1 P.length c1,.int .i64 n] z fun e z'=>∃ (A2:Option Addr) (c2:Nat),e= .returned (.slice A2 (putI P n).length c2)/\Sl B (.slice A2 (putI P n).length c2) (putI P n) W z'/\Below z.heap.size z z':=by
 obtain ⟨A1,c1,rfl,ho⟩:=k.own
 refine ⟨A1,c1,rfl,fun n=>(put_any P A1 c1 n z (Reads.of_own ho) hn).mono ?_⟩
 rintro e z' ⟨A2,c2,rfl,ho2,hb2⟩;exact ⟨A2,c2,rfl,⟨⟨A2,c2,rfl,own_base ho2 hB⟩,k.bel.trans (hb2.mono k.bel.size)⟩,hb2⟩
theorem Sl.more {B:Nat} {v:Value} {P:List Int} {W z z':World} (k:Sl B v P W z) (hb:Below z.heap.size z z'):Sl B v P W z':=by
 obtain ⟨A1,c1,rfl,ho⟩:=k.own;exact ⟨⟨A1,c1,rfl,own_bel ho hb⟩,k.bel.trans (hb.mono k.bel.size)⟩
theorem Sl.from {B:Nat} {v:Value} {P:List Int} {W z:World} (k:Sl B v P W z):Sl B v P z z:=⟨k.own,Below.refl _ _⟩
theorem years_bd {x:Table} {t:Int} (h:∀ r∈x.tail,1<=r.lo/\r.lo<=9999):∀ y∈yearsD x t,-271821<=y/\y<=275760:=by
 intro y hy;unfold yearsD at hy
 rcases List.mem_cons.1 hy with e|hy
 ·rw [e];exact yearJ_bd t
 ·rcases List.mem_cons.1 hy with e|hy
  ·rw [e];exact yearJ_bd _
  ·obtain ⟨r,hr,rfl⟩:=List.mem_map.1 hy
   have:=h r hr;omega
theorem secs3_cap {x:Table} {t:Int} (h1:x.shifts.length<=3000) (h2:x.tail.length<=2) (k:Nat):(secs3 x (yearsD x t) k).length<=3100:=by
 have h3:=secs3_len x (yearsD x t) k
 have h4:(yearsD x t).length<=4:=by unfold yearsD;simp;omega
 have h5:(yearsD x t).length*(9*x.tail.length)<=4*(9*x.tail.length):=Nat.mul_le_mul_right _ h4;omega
theorem putAll_cap (P:List Int) (x:Table) (yr:Int) {j:Nat} (h2:x.tail.length<=2) (h1:P.length<=3100) (hj:j<=9):(putAll P (about4 x yr j)).length<=3200:=by
 have h3:=all_len (about4 x yr j) P;have h4:=about4_len x yr j;have h5:j*x.tail.length<=9*x.tail.length:=Nat.mul_le_mul_right _ hj;omega
def loopsOf:Code->List Code
 | .loop c=> .loop c :: loopsOf c
 | .seq a b=>loopsOf a++loopsOf b
 | .block _ c=>loopsOf c
 | .scope c=>loopsOf c
 | .cond _ a b=>loopsOf a++loopsOf b
 |_=>[]
noncomputable def loop5:Code:=((Tryz.f30.body.map loopsOf).bind (·[4]?)).getD .skip
theorem secs_loop5 (x:Table) (A A2 A6:Option Addr) (c c2 c6 b0:Nat) (W w6:World) (ts:List Turn) (P4:List Int) (v5 u78 u79 u80 u81 u82 u83 u84 u85 u86 u87 u88 u89 u90 u91 u92 u93 u94 c_0 c_1 c_3 c_4 c_6 c_7 c_8 c_9 c_10 c_13 c_14 c_15 c_16 c_17 c_18 c_19 c_20 c_21 c_22 c_23 c_24 c_25 c_26 c_27 c_28 c_29 c_30 c_31 c_32 c_33 c_34 c_35 c_36 c_37 c_38 c_39 c_40 c_41 c_42 c_43 c_44 c_45 c_46 c_47 c_48 c_49 c_50 c_51 c_52 c_53 c_54 c_55 c_56 c_57 c_58 c_59 c_60 c_61 c_62 c_63 c_64 c_65 c_66 c_67 c_68 c_69 c_70 c_71 c_72 c_73 c_74 c_75 c_76 c_77 c_95:Value) (Q:Exit->Act->World->Prop)
  (hb:Blk w6 b0 27 #[.string x.name,.int .i64 x.first.off,.int .i64 x.first.save,.string x.first.abbr,.slice A x.shifts.length c,.int .i64 x.till,.slice A2 x.tail.length c2,.int .i64 x.off,.string x.format]) (hr:Reads w6 w6.heap.size 4 A6 ts.length (ts.flatMap Turn.cells)) (hl:P4.length<=3200) (hn:ts.length<=2)
  (hty:∀ (k:Nat) (hk:k<ts.length),(-9000000000000<=ts[k].at_/\ts[k].at_<=9000000000000)/\0<=ts[k].ref/\ts[k].ref<=2)
  (hun:0<ts.length->∀ (v:Turn) z,Below w6.heap.size w6 z->-9223372036854775808<=v.at_->v.at_<=9223372036854775807->0<=v.ref/\v.ref<=2->Calls prog 51 #[.slice A2 x.tail.length c2,.int .i64 x.off,.agg #[.int .i64 v.at_,.int .i64 v.ref,.int .i64 v.save,.string v.letter]] z fun e z'=>e= .returned (.int .i64 (uniT x.tail x.off v))/\Below z.heap.size z z')
  (hs:Sl W.heap.size v5 P4 W w6)
  (hQ:∀ (u5 u12 u78 u79 u80 u81 u82 u83 u84 u85 u86 u87 u88 u89 u90 u91 u92 u93 u94:Value) (z:World),Sl W.heap.size u5 (putAll P4 (ts.map (uniT x.tail x.off))) W z->Below w6.heap.size w6 z->Q (.exit 8) { tmps:=#[c_0,c_1,.pointer (some ⟨b0,0,none⟩),c_3,c_4,u5,c_6,c_7,c_8,c_9,c_10,.slice A6 ts.length c6,u12,c_13,c_14,c_15,c_16,c_17,c_18,c_19,c_20,c_21,c_22,c_23,c_24,c_25,c_26,c_27,c_28,c_29,c_30,c_31,c_32,c_33,c_34,c_35,c_36,c_37,c_38,c_39,c_40,c_41,c_42,c_43,c_44,c_45,c_46,c_47,c_48,c_49,c_50,c_51,c_52,c_53,c_54,c_55,c_56,c_57,c_58,c_59,c_60,c_61,c_62,c_63,c_64,c_65,c_66,c_67,c_68,c_69,c_70,c_71,c_72,c_73,c_74,c_75,c_76,c_77,u78,u79,u80,u81,u82,u83,u84,u85,u86,u87,u88,u89,u90,u91,u92,u93,u94,c_95],defers:=[] } z):
  Code.wp prog loop5 Q { tmps:=#[c_0,c_1,.pointer (some ⟨b0,0,none⟩),c_3,c_4,v5,c_6,c_7,c_8,c_9,c_10,.slice A6 ts.length c6,.int .i64 0,c_13,c_14,c_15,c_16,c_17,c_18,c_19,c_20,c_21,c_22,c_23,c_24,c_25,c_26,c_27,c_28,c_29,c_30,c_31,c_32,c_33,c_34,c_35,c_36,c_37,c_38,c_39,c_40,c_41,c_42,c_43,c_44,c_45,c_46,c_47,c_48,c_49,c_50,c_51,c_52,c_53,c_54,c_55,c_56,c_57,c_58,c_59,c_60,c_61,c_62,c_63,c_64,c_65,c_66,c_67,c_68,c_69,c_70,c_71,c_72,c_73,c_74,c_75,c_76,c_77,u78,u79,u80,u81,u82,u83,u84,u85,u86,u87,u88,u89,u90,u91,u92,u93,u94,c_95],defers:=[] } w6:=by
 conv=>arg 2;whnf
 dsimp only at hQ ⊢
 have HS6:=hid hs;have HB7:=hid hb;have HR6:=hid hr;have HTyy:=hid hty;have HUn:=hid hun;have HQ:=hid hQ;clear hs hb hr hty hun hQ
 go_loopw [5,12] (fun v i wv=>∃ q:Nat,q<=ts.length/\i= .int .i64 q/\Sl W.heap.size v (putAll P4 ((ts.take q).map (uniT x.tail x.off))) W wv/\Below w6.heap.size w6 wv) (fun _ i _=>ts.length - (intOf i).toNat)
 case atStart=>exact ⟨0,Nat.zero_le _,rfl,HS6.out,Below.refl _ _⟩
 case round=>
  rename World=>wv
  clear HS6;obtain ⟨q,hq,rfl,hsl,hbv⟩:=hrel
  have hlq:(putAll P4 ((ts.take q).map (uniT x.tail x.off))).length<=1000000:=by
   have h5:=all_len ((ts.take q).map (uniT x.tail x.off)) P4;have h6:=hn;rw [List.length_map,List.length_take] at h5;omega
  have HSl:=hid hsl;have HBv:=hid hbv;clear hsl hbv
  by_cases hqn:q<ts.length
  ·have Hqn:=hid hqn
   have hsq:putAll P4 ((ts.take (q+1)).map (uniT x.tail x.off))=putI (putAll P4 ((ts.take q).map (uniT x.tail x.off))) (uniT x.tail x.off ts[q]):=by
    rw [List.take_succ_eq_append_getElem hqn,List.map_append];exact all_snoc _ _ _
   have Hsq:=hid hsq;have hty:=HTyy.out q hqn
   have hun:=HUn.out (by omega) ts[q]
   have hrt:=fun z (hz:Below w6.heap.size w6 z)=>turn_cells (HR6.out.below hz) hqn rfl;obtain ⟨ad6,hA6,_⟩:=hrt wv HBv.out
   have hmt:∀ V,Below w6.heap.size w6 V->V.cell? (ad6.add (q*4))=some (.int .i64 ts[q].at_)/\V.cell? ⟨(ad6.add (q*4)).block,(ad6.add (q*4)).off+1,none⟩=some (.int .i64 ts[q].ref)/\
     V.cell? ⟨(ad6.add (q*4)).block,(ad6.add (q*4)).off+2,none⟩=some (.int .i64 ts[q].save)/\V.cell? ⟨(ad6.add (q*4)).block,(ad6.add (q*4)).off+3,none⟩=some (.string ts[q].letter):=fun V hV=>by
    obtain ⟨ad2,e2,_,h2⟩:=hrt V hV;rw [hA6] at e2
    injection e2 with e2
    rw [e2];exact h2
   subst hA6;clear hsq hrt;obtain ⟨U,hU⟩:∃ U,uniT x.tail x.off ts[q]=U:=⟨_,rfl⟩;rw [hU] at hun Hsq;generalize ts[q]=v at*;obtain ⟨v0,v1,v2,v3⟩:=v;simp only at hun hmt hty;generalize putAll P4 ((ts.take q).map (uniT x.tail x.off))=P5 at*;obtain ⟨Cls,hCls⟩:∃ C:World->Prop,C=fun z=>Below wv.heap.size wv z:=⟨_,rfl⟩
   have hC:∀ z,Cls z->Below wv.heap.size wv z:=fun z h=>by rw [hCls] at h;exact h
   have hst:Cls wv.drew:=by rw [hCls];exact (Below.refl _ _).drew
   have HSt:=hid hst;have inst:Nonempty (Qt.In Cls):=⟨⟨_,hst⟩⟩;have hin6:∀ z,Cls z->Below w6.heap.size w6 z:=fun z hz=>HBv.out.trans ((hC z hz).mono HBv.out.size)
   have gx:∀ (z:Qt.In Cls) (i:Nat),z.w.cell? ⟨b0,i,none⟩=#[.string x.name,.int .i64 x.first.off,.int .i64 x.first.save,.string x.first.abbr,.slice A x.shifts.length c,.int .i64 x.till,.slice A2 x.tail.length c2,.int .i64 x.off,.string x.format][i]?:=fun z i=>(HB7.out.below (hin6 z.w z.h) HB7.out.lt).cell i
   have g0:∀ z:Qt.In Cls,z.w.cell? (ad6.add (q*4))=some (.int .i64 v0):=fun z=>(hmt _ (hin6 z.w z.h)).1;have g1:∀ z:Qt.In Cls,z.w.cell? ⟨(ad6.add (q*4)).block,(ad6.add (q*4)).off+1,none⟩=some (.int .i64 v1):=fun z=>(hmt _ (hin6 z.w z.h)).2.1;have g2:∀ z:Qt.In Cls,z.w.cell? ⟨(ad6.add (q*4)).block,(ad6.add (q*4)).off+2,none⟩=some (.int .i64 v2):=fun z=>(hmt _ (hin6 z.w z.h)).2.2.1;have g3:∀ z:Qt.In Cls,z.w.cell? ⟨(ad6.add (q*4)).block,(ad6.add (q*4)).off+3,none⟩=some (.string v3):=fun z=>(hmt _ (hin6 z.w z.h)).2.2.2
   have HUc:Hid (∀ z,Cls z->Calls prog 51 #[.slice A2 x.tail.length c2,.int .i64 x.off,.agg #[.int .i64 v0,.int .i64 v1,.int .i64 v2,.string v3]] z fun e z'=>e= .returned (.int .i64 U)/\Cls z'):=fun z hz=>(hun z (hin6 z hz) (by omega) (by omega) hty.2).mono fun e z' ⟨he,hb⟩=>⟨he,by rw [hCls];exact (hC z hz).trans (hb.mono (hC z hz).size)⟩
   have HC:=hid hC;obtain ⟨A9,c9,e9,_⟩:=HSl.out.own;subst e9;clear hCls hC hst hin6 hun hty hmt hU
   go_wp2_with fail
   refine Qt.wp_region_cls_tail Cls 10 (by kernel_rfl) (by kernel_rfl) HSt.out ?_
   simp only [List.take_succ_cons,List.take_zero,List.drop_succ_cons,List.drop_zero]
   repeat (go_big_quiet_step ((go_at_call 51;exact Qt.quiet_cls (HUc.out _ (Qt.In.h _)))))
   refine wpQuiet_nil ?_
   rintro wq ⟨⟨w9,hq9⟩,e9⟩;obtain rfl:wq=w9:=e9;have hbq:=HC.out wq hq9;have HSq:=hid (HSl.out.more hbq);have HBq:=hid hbq;clear gx g0 g1 g2 g3 inst HUc HC hbq hq9 HSt;have hzq:W.heap.size<=wq.heap.size:=HSq.out.bel.size;obtain ⟨Ap,cp,ep,hput⟩:=HSq.out.put hzq hlq
   injection ep with ep1 _ ep2
   subst ep1 ep2;have HPut:=hid hput;clear hput
   go_wp2_with (go_at_call 29;refine (HPut.out _).mono ?_;rintro e w8 ⟨A8,c8,rfl,hsl,hb8⟩;have HSl8:=hid hsl;have HB8:=hid hb8;clear hsl hb8)
   have hqn:=Hqn.out
   exact ⟨⟨q+1,by omega,by go_num,by rw [Hsq.out];exact HSl8.out,HBv.out.trans ((HBq.out.trans (HB8.out.mono HBq.out.size)).mono HBv.out.size)⟩,by simp [intOf];omega⟩
  ·obtain rfl:q=ts.length:=by omega
   rw [List.take_length] at HSl
   go_wp2_with fail
   exact HQ.out _ _ _ _ _ _ _ _ _ _ _ _ _ _ _ _ _ _ _ _ HSl.out HBv.out
theorem secs_any (x:Table) (A A2:Option Addr) (c c2:Nat) (m t:Int) (w:World) (h:Rt x A A2 m w) (h1: -9223372036854775808<=t) (h2:t<=9223372036854775807) (hsm:x.shifts.length<=3000):
  Calls prog 30 #[.agg (tabCells x A c A2 c2),.int .i64 t] w (SecsP (secsD x t) w):=by
 obtain ⟨i0,hi0,hz0,hz1,hz2⟩:=info_parts info_int;obtain ⟨b0,hbw,hsz⟩:=box1 w 27 (tabCells x A c A2 c2);have hnt:=h.tab.nt;have htil:=h.till;have hsec:=h.sec
 have htl:x.tail.length<=2:=by
  by_cases h0:x.tail.length=0
  ·omega
  ·exact (tailT_of h.right h0).len
 have hlo:∀ r∈x.tail,1<=r.lo/\r.lo<=9999:=fun r hr=>by
  have hTT:=tailT_of h.right (fun e=>by rw [List.length_eq_zero_iff.1 e] at hr;cases hr)
  have:=ruleB_bd (List.all_eq_true.1 hTT.right r hr);exact ⟨this.1,this.2.1⟩
 have hty:∀ y (k:Nat) (hk:k<(R11.yearR x.tail y).length),(-9000000000000<=(R11.yearR x.tail y)[k].at_/\(R11.yearR x.tail y)[k].at_<=9000000000000)/\0<=(R11.yearR x.tail y)[k].ref/\(R11.yearR x.tail y)[k].ref<=2:=fun y k hk=>by
  have hm:=List.getElem_mem hk;unfold R11.yearR at hm;rw [sortT_mem] at hm;obtain ⟨r,hr,hv⟩:=List.mem_filterMap.1 hm
  have hTT:=tailT_of h.right (fun e=>by rw [List.length_eq_zero_iff.1 e] at hr;cases hr)
  have h2:=rule_save hTT.right hr;have hv2:turnL y r=some (R11.yearR x.tail y)[k]:=hv;obtain ⟨_,e1,_,e2⟩:=turnL_at hv2
  exact ⟨turn_bd hv2,by omega,by omega⟩
 have hRr:x.tail.length≠0->rulesB x.tail=true:=fun h0=>(tailT_of h.right h0).right;have hTu:=fun y z (hb:Below w.heap.size w z)=>R11.turns_any x.tail A2 c2 y z (h.below hb).tab.rt h.tab.nt;have hUn:=fun (h0:x.tail.length≠0) (v:Turn) z (hb:Below w.heap.size w z)=>univ_any x.tail A2 c2 x.off v z (h.below hb).tab.rt h.tab.nt (hRr h0);simp only [tabCells] at*
 obtain ⟨W,hW⟩:∃ W,w.alloc (.cells #[.string x.name,.int .i64 x.first.off,.int .i64 x.first.save,.string x.first.abbr,.slice A x.shifts.length c,.int .i64 x.till,.slice A2 x.tail.length c2,.int .i64 x.off,.string x.format] 27)=W:=⟨_,rfl⟩
 rw [hW] at b0 hbw hsz;have hSh:=fun z (hb:Below W.heap.size W z) (j:Nat) (hj:j<x.shifts.length)=>shift_at (h.below (hbw.trans (hb.mono hbw.size))).tab.rs hj;have hRu:=fun z (hb:Below W.heap.size W z) (j:Nat) (hj:j<x.tail.length)=>rule_cells (h.below (hbw.trans (hb.mono hbw.size))).tab.rt hj;have k0:=b0.cell;have H0:=hid b0;have HB:=hid hbw;have HSh:=hid hSh;have HRu:=hid hRu;have HLo:=hid hlo;have HTy:=hid hty;have HTu:=hid hTu;have HUn:=hid hUn;have HSec:=hid hsec;have HYj:=hid (fun s z (a1: -9223372036854775808<=s) (a2:s<=9223372036854775807)=>yearJ_any s z a1 a2);clear h b0 hbw hSh hRu hlo hty hTu hUn hRr hsec;go_enter func30,ntmps30;go_wp2;clear k0
 go_loopw [5,6] (fun v i wr=>∃ (k:Nat),k<=x.shifts.length/\i= .int .i64 k/\Sl W.heap.size v (secs1 x k) W wr) (fun _ i _=>x.shifts.length - (intOf i).toNat)
 case atStart=>exact ⟨0,Nat.zero_le _,rfl,⟨none,0,rfl,World.ownsRow_nil _ _ _ _⟩,Below.refl _ _⟩
 case round=>
  obtain ⟨k,hk,rfl,hsl⟩:=hrel;have hb0:=H0.out.below hsl.bel H0.out.lt;have k0:=hb0.cell;clear hb0;have hl:=secs1_len x k
  obtain ⟨A1,c1,rfl,hput⟩:=hsl.put hsl.bel.size (by omega)
  have HSl:=hid hsl;have HPut:=hid hput;clear hsl hput
  by_cases hkn:k<x.shifts.length
  ·obtain ⟨ad,hA,hadb,a0,_⟩:=HSh.out _ HSl.out.bel k hkn
   subst hA;have Hs:=hid (secs1_succ hkn);generalize x.shifts[k].sec=o at*;clear hadb
   go_wp2_with (go_at_call 29;refine (HPut.out _).mono ?_;rintro e w2 ⟨A3,c3,rfl,hsl,_⟩;have HSl2:=hid hsl;clear hsl)
   exact ⟨⟨k+1,by omega,by go_num,by rw [Hs.out];exact HSl2.out⟩,by simp [intOf];omega⟩
  ·obtain rfl:k=x.shifts.length:=by omega
   go_wp2_with (go_at_call 29;refine (HPut.out _).mono ?_;rintro e w2 ⟨A3,c3,rfl,hsl,hb2⟩;have HSl2:=hid hsl;have HB2:=hid hb2;clear hsl hb2 k0)
   clear HSh HPut HSl;have hbw2:Below W.heap.size W w2:=HSl2.out.bel;have hb2:=H0.out.below hbw2 H0.out.lt;have HB0:=hid hb2;obtain ⟨Cls,hCls⟩:∃ C:World->Prop,C=fun z=>Below w2.heap.size w2 z:=⟨_,rfl⟩
   have hC:∀ z,Cls z->Below w2.heap.size w2 z:=fun z h=>by rw [hCls] at h;exact h
   have hst:Cls w2.drew:=by rw [hCls];exact (Below.refl _ _).drew
   have HSt:=hid hst;have inst:Nonempty (Qt.In Cls):=⟨⟨_,hst⟩⟩
   have gx:∀ (z:Qt.In Cls) (i:Nat),z.w.cell? ⟨w.heap.size,i,none⟩=#[.string x.name,.int .i64 x.first.off,.int .i64 x.first.save,.string x.first.abbr,.slice A x.shifts.length c,.int .i64 x.till,.slice A2 x.tail.length c2,.int .i64 x.off,.string x.format][i]?:=fun z i=>(HB0.out.below (hC z.w z.h) HB0.out.lt).cell i
   have HYc:Hid (∀ s,s=t\/s=x.till->∀ z,Cls z->Calls prog 49 #[.int .i64 s] z fun e z'=>e= .returned (.int .i64 (yearJ s))/\Cls z'):=fun s hs z hz=>(HYj.out s z (by rcases hs with rfl|rfl<;>omega) (by rcases hs with rfl|rfl<;>omega)).mono fun e z' ⟨he,hb⟩=>⟨he,by rw [hCls];exact (hC z hz).trans (hb.mono (hC z hz).size)⟩
   have HC:=hid hC;clear hCls hC hst hb2 HYj
   refine Qt.wp_region_cls_tail Cls 5 (by kernel_rfl) (by kernel_rfl) HSt.out ?_
   simp only [List.take_succ_cons,List.take_zero,List.drop_succ_cons,List.drop_zero]
   repeat (go_big_quiet_step ((go_at_call 49;exact Qt.quiet_cls (HYc.out _ (by first|exact .inl rfl|exact .inr rfl) _ (Qt.In.h _)))))
   refine wpQuiet_nil ?_
   rintro wq ⟨⟨w9,hq⟩,e9⟩;obtain rfl:wq=w9:=e9;have hbq:=HC.out wq hq;have HSq:=hid (HSl2.out.more hbq);have HBq:=hid hbq;clear gx inst HYc HC hbq hq HSt;go_wp2;obtain ⟨P2,hP2⟩:∃ P2,putI (secs1 x x.shifts.length) x.till=P2:=⟨_,rfl⟩;have hP2s:secs2 x=P2:=hP2;rw [hP2] at HSq;obtain ⟨V5,hV5⟩:∃ V5,Value.slice A3 P2.length c3=V5:=⟨_,rfl⟩;rw [hV5] at HSq
   have hsz2:W.heap.size<=wq.heap.size:=by have:=HSl2.out.bel.size;have:=HBq.out.size;omega
   have HBw:=hid (HSl2.out.bel.trans (HBq.out.mono HSl2.out.bel.size));have Hsz:=hid hsz2;have HP2s:=hid hP2s;clear HB0 HB2 HBq HSl2 hP2s hsz2;rw [hP2,hV5];clear hP2 hV5 hl hk hkn hbw2
   go_loopw [7,8] (fun v i wr=>∃ (k:Nat) (A1:Option Addr) (c1:Nat),k<=x.tail.length/\i= .int .i64 k/\v= .slice A1 (years2 x t k).length c1/\wr.ownsRow wq.heap.size 3 1 (.slice A1 (years2 x t k).length c1) (years2 x t k).length (ints (years2 x t k))/\Below wq.heap.size wq wr) (fun _ i _=>x.tail.length - (intOf i).toNat)
   case atStart=>
    refine ⟨0,_,_,Nat.zero_le _,rfl,rfl,?_,(Below.refl _ _).alloc (Nat.le_refl _) _⟩
    exact own_of_blk (Blk.new wq 3 #[.int .i64 (yearJ t),.int .i64 (yearJ x.till)]) (Nat.le_refl _) rfl (by show 2<=maxLen;decide)
   case round=>
    rename World=>wy
    obtain ⟨k,A1,c1,hk,rfl,rfl,hown,hb⟩:=hrel;have hb0:=(H0.out.below HBw.out H0.out.lt).below hb (H0.out.below HBw.out H0.out.lt).lt;have k0:=hb0.cell;have HO:=hid hown;have HBr:=hid hb;have HB0:=hid hb0;clear hown hb hb0;have hl:=years2_len x t k
    by_cases hkn:k<x.tail.length
    ·obtain ⟨ad,hA,hadb,_,a1,_⟩:=HRu.out _ (HBw.out.trans (HBr.out.mono HBw.out.size)) k hkn
     subst hA;have Hs:=hid (years2_succ (t:=t) hkn);generalize years2 x t k=P at*;generalize x.tail[k].lo=o at*
     have M1:=hid (show P.length+1<=maxLen by unfold maxLen;omega)
     have M2:=hid (show (P.length+1)*8<=140737488355328 by omega)
     have M3:=hid HBr.out.size;clear hadb
     go_wp2_with (at_builtin;refine wpList_append1g wy rfl (.tmp 45) (.tmp 52) 56 rfl wq.heap.size 3 i0 _ 1 8 underlying56 hi0 hz0 hz1 hz2 rfl (by decide) _ P.length _ rfl HO.out (by simp [Act.eval]) rfl one_int M1.out M2.out M3.out ?_;intro v' w3 ho3 hg3;obtain ⟨A5,c5,rfl⟩:=own_slice ho3;have HO3:=hid ho3;have HG3:=hid hg3;clear ho3 hg3)
     refine ⟨⟨k+1,A5,c5,by omega,by go_num,by rw [Hs.out,List.length_append];rfl,by rw [Hs.out,<-ints_snoc,List.length_append];exact HO3.out,bel_gr HBr.out _ HG3.out fun j e=>(HO.out.lt j e).1⟩,by simp [intOf];omega⟩
    ·obtain rfl:k=x.tail.length:=by omega
     have hyb:=years_bd (x:=x) (t:=t) HLo.out;have hya:=years2_all x t;have h3a:=secs3_all x t;rw [hya] at HO hl;rw [hya];have hl3:=fun k=>secs3_cap (x:=x) (t:=t) hsm htl k;have hs3:=fun k (hk:k<(yearsD x t).length)=>secs3_succ (x:=x) hk
     have hs0:secs3 x (yearsD x t) 0=P2:=by unfold secs3;rw [HP2s.out];rfl
     have HYr:Hid (Reads wy wy.heap.size 1 A1 (yearsD x t).length (ints (yearsD x t))):=Reads.of_own HO.out;have HSr:=hid (HSq.out.more HBr.out);have HBz:=hid (HBw.out.trans (HBr.out.mono HBw.out.size));have Hs3:=hid hs3;have Hs0:=hid hs0;have Hl3:=hid hl3;have Hyb:=hid hyb;have H3a:=hid h3a;clear HO HSq HBr hya h3a hl3 hs3 hs0 hyb HB0 HP2s HRu HLo hk;generalize yearsD x t=ys at*
     go_wp2_with fail
     clear k0
     go_loopw [5,9] (fun v i wt=>∃ k:Nat,k<=ys.length/\i= .int .i64 k/\Sl W.heap.size v (secs3 x ys k) W wt/\Below wy.heap.size wy wt) (fun _ i _=>ys.length - (intOf i).toNat)
     case atStart=>exact ⟨0,Nat.zero_le _,rfl,by rw [Hs0.out];exact HSr.out,Below.refl _ _⟩
     case round=>
      rename World=>wt
      clear HSr Hs0;obtain ⟨k,hk,rfl,hsl,hbt⟩:=hrel;have HSl:=hid hsl;have HBt:=hid hbt;clear hsl hbt
      by_cases hkn:k<ys.length
      ·have hrr:=fun z (hz:Below wy.heap.size wy z)=>ints_at (HYr.out.below hz) hkn
       obtain ⟨ad,hA,hadb,a0⟩:=hrr wt HBt.out
       have hmv:∀ V,Below wy.heap.size wy V->V.cell? (ad.add k)=some (.int .i64 ys[k]):=fun V hV=>by
        obtain ⟨ad2,e2,_,h2⟩:=hrr V hV;rw [hA] at e2
        injection e2 with e2
        rw [e2];exact h2
       have Hmv:=hid hmv;subst hA;have hyk:=Hyb.out _ (List.getElem_mem hkn);have hsk:=Hs3.out k hkn;have hlk:=Hl3.out k;generalize secs3 x ys k=P3 at*;generalize ys[k]=yr at*;have Hsk:=hid hsk;clear hrr hmv hadb hsk
       go_wp2_with fail
       go_loopw [5,10] (fun v y wu=>∃ j:Nat,j<=9/\y= .int .i64 (yr - 4+j)/\Sl W.heap.size v (putAll P3 (about4 x yr j)) W wu/\Below wt.heap.size wt wu) (fun _ y _=>(yr+5 - intOf y).toNat)
       case atStart=>exact ⟨0,Nat.zero_le _,by simp,HSl.out,Below.refl _ _⟩
       case round=>
        rename World=>wu
        clear HSl a0;obtain ⟨j,hj,rfl,hsl,hbu⟩:=hrel;have a0:=Hmv.out _ (HBt.out.trans (hbu.mono HBt.out.size));have HSl:=hid hsl;have HBu:=hid hbu;have HBW:=hid hsl.bel;have hb0:=H0.out.below hsl.bel H0.out.lt;have k0:=hb0.cell;have HB0:=hid hb0;clear hsl hbu hb0
        by_cases hjn:j<9
        ·have hjb:decide (yr - 4+(j:Int)<=yr+4)=true:=decide_eq_true (by omega)
         have hlj:=putAll_cap P3 x yr (j:=j) htl hlk hj;have hsj:=about4_succ x yr j;obtain ⟨y,hy⟩:∃ y,yr - 4+(j:Int)=y:=⟨_,rfl⟩;rw [hy] at hjb hsj
         have hyB: -300000<=y/\y<=300000:=by omega
         have hTu:=HTu.out y wu (HB.out.trans (HBW.out.mono HB.out.size));have hTy:=HTy.out y;have htd:turnsD x y=(R11.yearR x.tail y).map (uniT x.tail x.off):=rfl;have hty:sortT (x.tail.filterMap (turnL y))=R11.yearR x.tail y:=rfl;rw [hty] at hTu;rw [htd] at hsj
         have htn:(R11.yearR x.tail y).length<=2/\(0<(R11.yearR x.tail y).length->x.tail.length≠0):=by have:=R11.yearR_le x.tail y;omega
         have HTn:=hid htn;clear htd hty htn;generalize R11.yearR x.tail y=ts at*;obtain ⟨P4,hP4⟩:∃ P4,putAll P3 (about4 x yr j)=P4:=⟨_,rfl⟩;rw [hP4] at HSl hlj
         have hP5:putAll P3 (about4 x yr (j+1))=putAll P4 (ts.map (uniT x.tail x.off)):=by rw [hsj,all_append,hP4]
         have HP5:=hid hP5;have HTv:=hid hTu;have HTyy:=hid hTy;clear hP4 hP5 hsj hTu hTy
         go_wp2_with (go_at_call 50;refine HTv.out.mono ?_;rintro e w6 ⟨A6,c6,rfl,ho6,hb6⟩;have HR6:=hid (Reads.of_own ho6);have HB6:=hid hb6;clear ho6 hb6 k0 a0)
         have HBs:=hid (HBW.out.trans (HB6.out.mono HBW.out.size));have HB7:=hid (H0.out.below HBs.out H0.out.lt);have HS6:=hid (HSl.out.more HB6.out);have HBb:=hid (HBu.out.trans (HB6.out.mono HBu.out.size));clear HB6 HSl HB0 HTv HBu;have hun6:0<ts.length->∀ (v:Turn) z,Below w6.heap.size w6 z->-9223372036854775808<=v.at_->v.at_<=9223372036854775807->0<=v.ref/\v.ref<=2->Calls prog 51 #[.slice A2 x.tail.length c2,.int .i64 x.off,.agg #[.int .i64 v.at_,.int .i64 v.ref,.int .i64 v.save,.string v.letter]] z fun e z'=>e= .returned (.int .i64 (uniT x.tail x.off v))/\Below z.heap.size z z':=fun h0 v z hz b1 b2 b3=>HUn.out (HTn.out.2 h0) v z (HB.out.trans ((HBs.out.trans (hz.mono HBs.out.size)).mono HB.out.size)) b1 b2 b3
         refine secs_loop5 x A A2 A6 c c2 c6 w.heap.size W w6 ts P4 _ _ _ _ _ _ _ _ _ _ _ _ _ _ _ _ _ _ _ _ _ _ _ _ _ _ _ _ _ _ _ _ _ _ _ _ _ _ _ _ _ _ _ _ _ _ _ _ _ _ _ _ _ _ _ _ _ _ _ _ _ _ _ _ _ _ _ _ _ _ _ _ _ _ _ _ _ _ _ _ _ _ _ _ _ _ _ _ _ _ _ _ _  _ HB7.out HR6.out hlj HTn.out.1 HTyy.out hun6 HS6.out ?_
         intro u5' u12' v78 v79 v80 v81 v82 v83 v84 v85 v86 v87 v88 v89 v90 v91 v92 v93 v94 z hsz hbz;have HSl:=hid hsz;have HBv:=hid hbz;have e:=HP5.out;clear hsz hbz hun6
         go_wp2_with fail
         refine ⟨⟨j+1,by omega,?_,by rw [e];exact HSl.out,HBb.out.trans (HBv.out.mono HBb.out.size)⟩,by simp [intOf];omega⟩
         rw [<-hy]
         congr 1
         rw [Int.natCast_add];omega
        ·obtain rfl:j=9:=by omega
         have hjb:decide (yr - 4+((9:Nat):Int)<=yr+4)=false:=decide_eq_false (by omega)
         go_wp2_with fail
         exact ⟨⟨k+1,by omega,by go_num,by rw [Hsk.out];exact HSl.out,HBt.out.trans (HBu.out.mono HBt.out.size)⟩,by simp [intOf];omega⟩
      ·obtain rfl:k=ys.length:=by omega
       go_wp2_with fail
       go_ret;obtain ⟨A7,c7,e7,ho7⟩:=HSl.out.own;subst e7;rw [<-H3a.out]
       exact ⟨A7,c7,rfl,own_base ho7 (by have:=HB.out.size;omega),HB.out.trans (HSl.out.bel.mono HB.out.size)⟩
end Zon
end
end
section
section
namespace Zon
open Go.RowKit Mem Civ Mom Img Plc Rul Ahd Trn Src Snd Att Rgt Abr Sch Cmq
theorem find_at {l:List Int} {p:Int->Bool} {k:Nat} (hk:k<l.length) (h:(l.take k).find? p=none) (hp:p l[k]=true):l.find? p=some l[k]:=by
 have e:l=l.take k++l[k] :: l.drop (k+1):=by rw [<-List.drop_eq_getElem_cons hk,List.take_append_drop]
 have e2:(l.take k++l[k] :: l.drop (k+1)).find? p=some l[k]:=by
  rw [List.find?_append,h,Option.none_or,List.find?_cons_of_pos hp]
 rwa [<-e] at e2
theorem find_next {l:List Int} {p:Int->Bool} {k:Nat} (hk:k<l.length) (h:(l.take k).find? p=none) (hp:p l[k]=false):(l.take (k+1)).find? p=none:=by
 rw [List.take_succ_eq_append_getElem hk,List.find?_append,h,Option.none_or]
 simp [hp]
theorem raround_results {w:World} {R0:Nat} {a0 a1 a2 a3:Value} (h:Blk w R0 35 #[a0,a1,a2,a3]) (tmps:Array Value) (ht:tmps[4]?=some (.pointer (some ⟨R0,0,none⟩))):(results Tryz.f16 tmps).run prog w= .ok (.agg #[a0,a1,a2,a3]) w:=by
 have hc:=h.cell;simp [results,Tryz.results16,go_sem,hc,ht]
theorem secs_len2 {x:Table} {t:Int} (h1:x.shifts.length<=3000) (h2:x.tail.length<=2):(secsD x t).length<=3100:=by
 rw [<-secs3_all];exact secs3_cap h1 h2 _
def ShpP (g:Shp) (w:World) (e:Ending) (w':World):Prop:=e= .returned (.agg #[.int .i64 g.kind,.int .i64 g.at_,.int .i64 g.ahead,.int .i64 g.behind])/\Below w.heap.size w w'
theorem shp_end {w W:World} {g:Shp} {u0 u1 u2 u3:Value} {tmps:Array Value} (hb:Blk W (w.heap.size+1) 35 #[u0,u1,u2,u3]) (hw:Below w.heap.size w W) (ht:tmps[4]?=some (.pointer (some ⟨w.heap.size+1,0,none⟩))) (a b c d:Int) (hg:g=⟨a,b,c,d⟩):
  bodyPost prog Tryz.f16 (ShpP g w) .ret { tmps:=tmps,defers:=[] } ((((W.setCell ⟨w.heap.size+1,0,none⟩ (.int .i64 a)).setCell ⟨w.heap.size+1,1,none⟩ (.int .i64 b)).setCell ⟨w.heap.size+1,2,none⟩ (.int .i64 c)).setCell ⟨w.heap.size+1,3,none⟩ (.int .i64 d)):=by
 have hf:=(((hb.set_ 0 (.int .i64 a)).set_ 1 (.int .i64 b)).set_ 2 (.int .i64 c)).set_ 3 (.int .i64 d);simp only [List.setIfInBounds_toArray,List.set_cons_succ,List.set_cons_zero] at hf
 have hbe:=(((hw.setCell (p:=⟨w.heap.size+1,0,none⟩) (by simp) (.int .i64 a)).setCell (p:=⟨w.heap.size+1,1,none⟩) (by simp) (.int .i64 b)).setCell (p:=⟨w.heap.size+1,2,none⟩) (by simp) (.int .i64 c)).setCell (p:=⟨w.heap.size+1,3,none⟩) (by simp) (.int .i64 d)
 subst hg;exact bodyPost_ret (raround_results hf tmps ht) rfl ⟨rfl,hbe⟩
theorem refAround_any (x:Table) (A A2:Option Addr) (c c2:Nat) (m loc:Int) (w:World) (h:Rt x A A2 m w) (h1: -9000000000000<=loc) (h2:loc<=9000000000000) (hsm:x.shifts.length<=3000):
  Calls prog 16 #[.agg (tabCells x A c A2 c2),.int .i64 loc] w (ShpP (shapeD x loc) w):=by
 have htl:x.tail.length<=2:=by
  by_cases h0:x.tail.length=0
  ·omega
  ·exact (tailT_of h.right h0).len
 have hsl:=secs_len2 (t:=loc) hsm htl;obtain ⟨b0,b1,hbw,hsz⟩:=box2 w 27 35 (tabCells x A c A2 c2) #[.int .i64 0,.int .i64 0,.int .i64 0,.int .i64 0]
 have hPo:=fun z (hb:Below w.heap.size w z)=>refPossible_any x A A2 c c2 m loc z (h.below hb) h1 h2 (by omega)
 have hSe:=fun z (hb:Below w.heap.size w z)=>secs_any x A A2 c c2 m loc z (h.below hb) (by omega) (by omega) hsm
 have hAt:=fun t z (hb:Below w.heap.size w z) (a1: -9223372036854775808<=t) (a2:t<=9223372036854775807)=>refAt_off x A A2 c c2 m t z (h.below hb) a1 a2;have hob:=fun t=>off_bd h.right t;simp only [tabCells] at*
 obtain ⟨W,hW⟩:∃ W,(w.alloc (.cells #[.string x.name,.int .i64 x.first.off,.int .i64 x.first.save,.string x.first.abbr,.slice A x.shifts.length c,.int .i64 x.till,.slice A2 x.tail.length c2,.int .i64 x.off,.string x.format] 27)).alloc (.cells #[.int .i64 0,.int .i64 0,.int .i64 0,.int .i64 0] 35)=W:=⟨_,rfl⟩
 rw [hW] at b0 b1 hbw hsz;have k0:=b0.cell;have H0:=hid b0;have H1:=hid b1;have HB:=hid hbw;have HPo:=hid (hPo W hbw);have HSe:=hid hSe;have HAt:=hid hAt;have HOb:=hid hob;clear h b0 b1 hbw hPo hSe hAt hob;obtain ⟨S,hS⟩:∃ S,shapeD x loc=S:=⟨_,rfl⟩;have hS2:=hS;unfold shapeD at hS2;rw [hS];unfold SecsP at HPo;obtain ⟨N,hN⟩:∃ N,(possD x loc).length=N:=⟨_,rfl⟩
 have hNl:N<=4000:=by rw [<-hN];have:=poss_len x loc;omega
 rw [hN] at HPo hS2;have HS:=hid hS2;clear hS hS2 hN;generalize possD x loc=PL at*
 by_cases hn1:N=1
 ·subst hn1
  go_enter func16,ntmps16
  go_wp2_with (go_at_call 14;refine HPo.out.mono ?_;rintro e w2 ⟨A3,c3,rfl,_,hb⟩;have HB2:=hid hb;have k1:=fun i=>(H1.out.below hb H1.out.lt).cell i;have f1:=fun i=>(H1.out.below hb H1.out.lt).frozen i;clear hb k0)
  exact shp_end (H1.out.below HB2.out H1.out.lt) (HB.out.trans (HB2.out.mono HB.out.size)) rfl 0 0 0 0 (by rw [<-HS.out];rfl)
 ·by_cases hn2:1<N
  ·have hb1:(((N:Nat):Int) == 1)=false:=beq_eq_false_iff_ne.2 (by omega)
   have hb2:decide ((1:Int)<(N:Int))=true:=decide_eq_true (by omega)
   have hS3:=HS.out;rw [if_neg hn1,if_pos hn2] at hS3;have HS3:=hid hS3;clear hS3 hn1 hn2;go_enter func16,ntmps16
   go_wp2_with (go_at_call 14;refine HPo.out.mono ?_;rintro e w2 ⟨A3,c3,rfl,_,hb⟩;have HB2:=hid hb;have k1:=fun i=>(H1.out.below hb H1.out.lt).cell i;have f1:=fun i=>(H1.out.below hb H1.out.lt).frozen i;clear hb k0)
   exact shp_end (H1.out.below HB2.out H1.out.lt) (HB.out.trans (HB2.out.mono HB.out.size)) rfl 2 0 0 0 HS3.out.symm
  ·obtain rfl:N=0:=by omega
   have hS3:=HS.out;rw [if_neg hn1,if_neg hn2] at hS3;unfold gapD at hS3;have HS3:=hid hS3;clear hS3 HS hn1 hn2;obtain ⟨L,hL⟩:∃ L,secsD x loc=L:=⟨_,rfl⟩;rw [hL] at HSe HS3 hsl;clear hL;go_enter func16,ntmps16
   go_wp2_with (first
    |(go_at_call 14;refine HPo.out.mono ?_;rintro e w2 ⟨A3,c3,rfl,_,hb⟩;have HB2:=hid hb;have k2:=fun i=>(H0.out.below hb H0.out.lt).cell i;clear hb k0)
    |(go_at_call 30;refine (HSe.out _ (HB.out.trans (HB2.out.mono HB.out.size))).mono ?_;rintro e w3 ⟨A4,c4,rfl,ho,hb⟩;have HR:=hid (Reads.of_own ho);have HB3:=hid (HB2.out.trans (hb.mono HB2.out.size));clear hb k2 ho))
   have HB5:=hid (H0.out.below HB3.out H0.out.lt);have HB6:=hid (H1.out.below HB3.out H1.out.lt);have HBw:=hid (HB.out.trans (HB3.out.mono HB.out.size));clear H0 H1 HPo HSe HB HB2 HB3
   go_loopw [7] (fun i wr=>∃ k:Nat,k<=L.length/\i= .int .i64 k/\(L.take k).find? (gapOk x loc)=none/\Below w3.heap.size w3 wr) (fun i _=>L.length - (intOf i).toNat)
   case atStart=>exact ⟨0,Nat.zero_le _,rfl,rfl,Below.refl _ _⟩
   case round=>
    obtain ⟨k,hk,rfl,hfn,hb⟩:=hrel;have HFn:=hid hfn;have HBr:=hid hb;clear hfn hb
    by_cases hkn:k<L.length
    ·have hrr:=fun z (hz:Below w3.heap.size w3 z)=>ints_at (HR.out.below hz) hkn
     obtain ⟨ad,hA,hadb,a0⟩:=hrr wr HBr.out
     have hmv:∀ V,Below w3.heap.size w3 V->V.cell? (ad.add k)=some (.int .i64 L[k]):=fun V hV=>by
      obtain ⟨ad2,e2,_,h2⟩:=hrr V hV;rw [hA] at e2
      injection e2 with e2
      rw [e2];exact h2
     have Hmv:=hid hmv;subst hA;have HFt:=hid (fun hp=>find_at (p:=gapOk x loc) hkn HFn.out hp);have HFx:=hid (fun hp=>find_next (p:=gapOk x loc) hkn HFn.out hp);have Hkn:=hid hkn;clear hrr hmv hadb HFn;generalize L[k]=a at*
     have hout:∀ (_:a > 9000000100000\/a< -9000000100000),gapOk x loc a=false:=fun hc=>by
      unfold gapOk
      rcases hc with hc|hc
      ·rw [decide_eq_false (by omega:¬ a<=9000000100000)];rfl
      ·rw [decide_eq_false (by omega:¬ -9000000100000<=a)];simp
     by_cases hc0:a= -9223372036854775808
     ·have hF:=HFx.out (hout (.inr (by omega)))
      have HF:=hid hF;clear hF hout;subst hc0
      go_wp2_with fail
      have hkn:=Hkn.out
      exact ⟨⟨k+1,by omega,by go_num,HF.out,HBr.out⟩,by simp [intOf];omega⟩
     ·have hc0b:(a == -9223372036854775808)=false:=beq_eq_false_iff_ne.2 hc0
      by_cases hc1:a > 9000000100000
      ·have hc1b:decide (a > 9000000100000)=true:=decide_eq_true hc1
       have hF:=HFx.out (hout (.inl hc1));have HF:=hid hF;clear hF hout hc0
       go_wp2_with fail
       have hkn:=Hkn.out
       exact ⟨⟨k+1,by omega,by go_num,HF.out,HBr.out⟩,by simp [intOf];omega⟩
      ·have hc1b:decide (a > 9000000100000)=false:=decide_eq_false hc1
       by_cases hc2:a< -9000000100000
       ·have hc2b:decide (a< -9000000100000)=true:=decide_eq_true hc2
        have hF:=HFx.out (hout (.inr hc2));have HF:=hid hF;clear hF hout hc0 hc1
        go_wp2_with fail
        have hkn:=Hkn.out
        exact ⟨⟨k+1,by omega,by go_num,HF.out,HBr.out⟩,by simp [intOf];omega⟩
       ·have hc2b:decide (a< -9000000100000)=false:=decide_eq_false hc2
        have hge:gapOk x loc a=decide (GapAt x loc a):=by unfold gapOk;rw [decide_eq_true (by omega:a<=9000000100000),decide_eq_true (by omega: -9000000100000<=a)];rfl
        have ho1:=HOb.out (a - 1);have ho2:=HOb.out a;have hgd:GapAt x loc a↔(a+offT x (a - 1)<=loc/\loc<a+offT x a):=Iff.rfl;obtain ⟨q1,hq1⟩:∃ q,offT x (a - 1)=q:=⟨_,rfl⟩;obtain ⟨q2,hq2⟩:∃ q,offT x a=q:=⟨_,rfl⟩;rw [hq1,hq2] at hgd;rw [hq1] at ho1;rw [hq2] at ho2;have hS4:=HS3.out;obtain ⟨Cls,hCls⟩:∃ C:World->Prop,C=fun z=>Below wr.heap.size wr z:=⟨_,rfl⟩
        have hC:∀ z,Cls z->Below wr.heap.size wr z:=fun z h=>by rw [hCls] at h;exact h
        have hst:Cls wr.drew:=by rw [hCls];exact (Below.refl _ _).drew
        have HSt:=hid hst;have inst:Nonempty (Qt.In Cls):=⟨⟨_,hst⟩⟩;have hin:∀ z,Cls z->Below w3.heap.size w3 z:=fun z hz=>HBr.out.trans ((hC z hz).mono HBr.out.size)
        have gx:∀ (z:Qt.In Cls) (i:Nat),z.w.cell? ⟨w.heap.size,i,none⟩=#[.string x.name,.int .i64 x.first.off,.int .i64 x.first.save,.string x.first.abbr,.slice A x.shifts.length c,.int .i64 x.till,.slice A2 x.tail.length c2,.int .i64 x.off,.string x.format][i]?:=fun z i=>(HB5.out.below (hin z.w z.h) HB5.out.lt).cell i
        have ga:∀ z:Qt.In Cls,z.w.cell? (ad.add k)=some (.int .i64 a):=fun z=>Hmv.out _ (hin z.w z.h)
        have HAc:Hid (∀ s,s=a - 1\/s=a->∀ z,Cls z->Calls prog 28 #[.agg #[.string x.name,.int .i64 x.first.off,.int .i64 x.first.save,.string x.first.abbr,.slice A x.shifts.length c,.int .i64 x.till,.slice A2 x.tail.length c2,.int .i64 x.off,.string x.format],.int .i64 s] z fun e z'=>e= .returned (.agg #[.int .i64 (tellD x s).off,.int .i64 (tellD x s).save,.string (tellD x s).abbr])/\Cls z'):=fun s hs z hz=>(HAt.out s z (HBw.out.trans ((hin z hz).mono HBw.out.size)) (by rcases hs with rfl|rfl<;>omega) (by rcases hs with rfl|rfl<;>omega)).mono fun e z' ⟨he,hb⟩=>⟨he,by rw [hCls];exact (hC z hz).trans (hb.mono (hC z hz).size)⟩
        have hfo:=fun a b c z=>field_off a b c z;have He1:Hid ((tellD x (a - 1)).off=q1):=hq1;have He2:Hid ((tellD x a).off=q2):=hq2;have HC:=hid hC;have Hgd:=hid hgd;have Hge:=hid hge;have HS4:=hid hS4;have Hq1:=hid hq1;have Hq2:=hid hq2;clear hCls hC hst hin hout hc0 hge hgd hS4 hq1 hq2 HS3
        go_wp2_with fail
        refine Qt.wp_region_cls Cls (by kernel_rfl) (by kernel_rfl) HSt.out ?_
        repeat (go_big_quiet_step ((go_at_call 28;exact Qt.quiet_cls (HAc.out _ (by first|exact .inl rfl|exact .inr rfl) _ (Qt.In.h _)))))
        refine wpQuiet_nil ?_
        rintro wq ⟨⟨w9,hq⟩,e9⟩;obtain rfl:wq=w9:=e9;have hbq:=HC.out wq hq;have HBq:=hid (HBr.out.trans (hbq.mono HBr.out.size));clear gx ga inst HAc HC hbq hq HSt a0;simp only [He1.out,He2.out];have a1:=Hmv.out _ HBq.out;have hlt:=Hkn.out;clear hfo
        by_cases hg1:a+q1<=loc
        ·have hg1b:decide (a+q1<=loc)=true:=decide_eq_true hg1
         by_cases hg2:loc<a+q2
         ·have hg2b:decide (loc<a+q2)=true:=decide_eq_true hg2
          have hF:=HFt.out (by rw [Hge.out];exact decide_eq_true (Hgd.out.2 ⟨hg1,hg2⟩))
          have hS5:=HS4.out;rw [hF] at hS5;simp only at hS5;rw [Hq1.out,Hq2.out] at hS5;have HS5:=hid hS5;have HB7:=hid (HB6.out.below HBq.out HB6.out.lt);have k7:=HB7.out.cell;have f7:=HB7.out.frozen;clear hF hS5 HS4 HFt HFx Hge Hgd hg1 hg2
          go_wp2_with fail
          exact shp_end HB7.out (HBw.out.trans (HBq.out.mono HBw.out.size)) rfl 1 a q1 q2 HS5.out.symm
         ·have hg2b:decide (loc<a+q2)=false:=decide_eq_false hg2
          have hF:=HFx.out (by rw [Hge.out];exact decide_eq_false fun hg=>hg2 (Hgd.out.1 hg).2)
          have HF:=hid hF;clear hF HS4 HFt HFx Hge Hgd hg1 hg2
          go_wp2_with fail
          have hkn:=Hkn.out
          exact ⟨⟨k+1,by omega,by go_num,HF.out,HBq.out⟩,by simp [intOf];omega⟩
        ·have hg1b:decide (a+q1<=loc)=false:=decide_eq_false hg1
         have hF:=HFx.out (by rw [Hge.out];exact decide_eq_false fun hg=>hg1 (Hgd.out.1 hg).1)
         have HF:=hid hF;clear hF HS4 HFt HFx Hge Hgd hg1
         go_wp2_with fail
         have hkn:=Hkn.out
         exact ⟨⟨k+1,by omega,by go_num,HF.out,HBq.out⟩,by simp [intOf];omega⟩
    ·obtain rfl:k=L.length:=by omega
     rw [List.take_length] at HFn;have hS4:=HS3.out;rw [HFn.out] at hS4;have HB7:=hid (HB6.out.below HBr.out HB6.out.lt);have k7:=HB7.out.cell;have f7:=HB7.out.frozen;have HS4:=hid hS4;clear hS4 HS3
     go_wp2_with fail
     exact shp_end HB7.out (HBw.out.trans (HBr.out.mono HBw.out.size)) rfl 9 0 0 0 HS4.out.symm
def chooseR (x:Table) (loc how:Int):Int×Int:=if how<1\/how > 4 then (0,1) else chooseL (possD x loc) (shapeD x loc) loc how
theorem refChoose_any (x:Table) (A A2:Option Addr) (c c2:Nat) (m loc how:Int) (w:World) (h:Rt x A A2 m w) (l1: -9000000000000<=loc) (l2:loc<=9000000000000) (hsm:x.shifts.length<=3000):
  Calls prog 18 #[.agg (tabCells x A c A2 c2),.int .i64 loc,.int .i64 how] w fun e w'=>e= .returned (.tuple #[.int .i64 (chooseR x loc how).1,.int .i64 (chooseR x loc how).2])/\Below w.heap.size w w':=by
 have htl:x.tail.length<=2:=by
  by_cases h0:x.tail.length=0
  ·omega
  ·exact (tailT_of h.right h0).len
 have hPo:=fun z (hb:Below w.heap.size w z)=>refPossible_any x A A2 c c2 m loc z (h.below hb) l1 l2 (by omega)
 have hAr:=fun z (hb:Below w.heap.size w z)=>refAround_any x A A2 c c2 m loc z (h.below hb) l1 l2 hsm;have hsb:=shape_bd h.right loc;obtain ⟨b0,hbw,hsz⟩:=box1 w 27 (tabCells x A c A2 c2);simp only [tabCells] at*
 obtain ⟨W,hW⟩:∃ W,w.alloc (.cells #[.string x.name,.int .i64 x.first.off,.int .i64 x.first.save,.string x.first.abbr,.slice A x.shifts.length c,.int .i64 x.till,.slice A2 x.tail.length c2,.int .i64 x.off,.string x.format] 27)=W:=⟨_,rfl⟩
 rw [hW] at b0 hbw hsz;have k0:=b0.cell;have H0:=hid b0;have HB:=hid hbw;have HPo:=hid (hPo W hbw);have HAr:=hid hAr;clear h hPo hAr hbw b0;unfold SecsP at HPo;unfold ShpP at HAr
 have hC:chooseR x loc how=if how<1\/how > 4 then (0,1) else chooseL (possD x loc) (shapeD x loc) loc how:=rfl
 have HC:=hid hC;clear hC;generalize possD x loc=L at*;generalize shapeD x loc=S at*;obtain ⟨g0,g1,g2,g3⟩:=S;simp only at HAr hsb
 by_cases h1:how<1
 ·have h1b:decide (how<1)=true:=decide_eq_true h1
  go_enter func18,ntmps18
  go_wp2_with fail
  go_ret2
  rw [HC.out,if_pos (.inl h1)];exact ⟨rfl,HB.out⟩
 ·have h1b:decide (how<1)=false:=decide_eq_false h1
  by_cases h2:how > 4
  ·have h2b:decide (how > 4)=true:=decide_eq_true h2
   go_enter func18,ntmps18
   go_wp2_with fail
   go_ret2
   rw [HC.out,if_pos (.inr h2)];exact ⟨rfl,HB.out⟩
  ·have h2b:decide (how > 4)=false:=decide_eq_false h2
   have hC2:=HC.out
   rw [if_neg (by omega)] at hC2
   have hhow:how=1\/how=2\/how=3\/how=4:=by omega
   clear HC h1 h2 h1b h2b;have HC2:=hid hC2;clear hC2
   have hA':∀ (A':Option Addr) (c':Nat) (w2:World),w2.ownsRow W.heap.size 2 1 (.slice A' L.length c') L.length (ints L)->1<=L.length->∃ b,A'=some ⟨b,0,none⟩/\w2.cell? ⟨b,0,none⟩=some (.int .i64 (L.headD 0))/\w2.cell? ⟨b,L.length - 1,none⟩=some (.int .i64 (L.getLastD 0)):=fun A' c' w2 ho hn=>by
    obtain ⟨b,e,hc⟩:=own_int_cell ho (k:=0) (by omega)
    obtain ⟨b2,e2,hc2⟩:=own_int_cell ho (k:=L.length - 1) (by omega)
    rw [e] at e2
    injection e2 with e2
    injection e2 with e2
    subst e2
    refine ⟨b,e,?_,?_⟩
    ·rw [hc]
     cases L with
     |nil=>simp at hn
     |cons a l=>rfl
    ·rw [hc2,List.getLastD_eq_getLast?,List.getLast?_eq_getElem?,List.getElem?_eq_getElem (by omega:L.length - 1<L.length)]
     rfl
   have HA':=hid hA';clear hA';obtain ⟨N,hN⟩:∃ N,L.length=N:=⟨_,rfl⟩;unfold chooseL at HC2;rw [hN] at HPo HC2 HA';clear hN;generalize L.headD 0=va at*;generalize L.getLastD 0=vz at*
   rcases (by omega:N=0\/N=1\/2<=N) with rfl|rfl|hn
   ·clear HA'
    rw [if_neg (by omega),if_neg (by omega)] at HC2
    rcases hhow with rfl|rfl|rfl|rfl
    all_goals
     go_enter func18,ntmps18
     go_wp2_with (first
      |(go_at_call 14;refine HPo.out.mono ?_;rintro e w2 ⟨A',c',rfl,_,hb⟩;have HB2:=hid hb;have k2:=fun i=>(H0.out.below hb H0.out.lt).cell i;clear hb k0)
      |(go_at_call 16;refine (HAr.out _ (HB.out.trans (HB2.out.mono HB.out.size))).mono ?_;rintro e w3 ⟨rfl,hb⟩;have HB3:=hid (HB2.out.trans (hb.mono HB2.out.size));have k5:=fun i=>(Blk.new w3 35 #[.int .i64 g0,.int .i64 g1,.int .i64 g2,.int .i64 g3]).cell i;clear hb k2))
     go_ret2
     rw [HC2.out]
     exact ⟨rfl,(HB.out.trans (HB3.out.mono HB.out.size)).alloc (by have:=HB3.out.size;omega) _⟩
   ·rw [if_pos rfl] at HC2
    go_enter func18,ntmps18
    go_wp2_with (go_at_call 14;refine HPo.out.mono ?_;rintro e w2 ⟨A',c',rfl,ho,hb⟩;have HB2:=hid hb;obtain ⟨b,e1,d0,d1⟩:=HA'.out A' c' w2 ho (by omega);subst e1;clear ho hb k0)
    go_ret2
    rw [HC2.out];exact ⟨rfl,HB.out.trans (HB2.out.mono HB.out.size)⟩
   ·rw [if_neg (by omega),if_pos (by omega)] at HC2
    have hq1:(((N:Nat):Int) == 1)=false:=beq_eq_false_iff_ne.2 (by omega)
    have hq2:decide (1<N)=true:=decide_eq_true (by omega)
    have hidx:((N:Int) - 1).toNat=N - 1:=by omega
    rcases hhow with rfl|rfl|rfl|rfl
    all_goals
     go_enter func18,ntmps18
     go_wp2_with (go_at_call 14;refine HPo.out.mono ?_;rintro e w2 ⟨A',c',rfl,ho,hb⟩;have HB2:=hid hb;obtain ⟨b,e1,d0,d1⟩:=HA'.out A' c' w2 ho (by omega);subst e1;have hNl:=own_len ho;clear ho hb k0)
     go_ret2
     rw [HC2.out];exact ⟨rfl,HB.out.trans (HB2.out.mono HB.out.size)⟩
theorem same_any (l:List Int) (A A2:Option Addr) (c c2:Nat) (w:World) (h:Reads w w.heap.size 1 A l.length (ints l)) (h2:Reads w w.heap.size 1 A2 l.length (ints l)) (hn:l.length<=1000000):
  Calls prog 13 #[.slice A l.length c,.slice A2 l.length c2] w fun e w'=>e= .returned (.bool true)/\Below w.heap.size w w':=by
 have HR:=hid h;have HR2:=hid h2;clear h h2;go_enter func13,ntmps13;go_wp2
 go_loopw [5] (fun i wr=>∃ k:Nat,k<=l.length/\i= .int .i64 k/\Below w.heap.size w wr) (fun i _=>l.length - (intOf i).toNat)
 case atStart=>exact ⟨0,Nat.zero_le _,rfl,Below.refl _ _⟩
 case round=>
  obtain ⟨k,hk,rfl,hb⟩:=hrel;have HB:=hid hb;clear hb
  by_cases hkn:k<l.length
  ·obtain ⟨ad,hA,_,a0⟩:=ints_at (HR.out.below HB.out) hkn
   obtain ⟨ad2,hA2,_,a2⟩:=ints_at (HR2.out.below HB.out) hkn;subst hA hA2;have Hkn:=hid hkn;generalize l[k]=a at*;go_wp2
   go_region
   go_wp2;have hkn:=Hkn.out
   exact ⟨⟨k+1,by omega,by go_num,HB.out.drew⟩,by simp [intOf];omega⟩
  ·obtain rfl:k=l.length:=by omega
   go_wp2;go_ret;exact ⟨rfl,HB.out⟩
end Zon
end
end
end Go.Proofs.YtmlejgdohcpmjaaGreatDoor
