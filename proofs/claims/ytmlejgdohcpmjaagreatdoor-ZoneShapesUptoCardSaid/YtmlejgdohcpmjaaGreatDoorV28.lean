/-
  Contracts of the code that the law reaches, and plain laws. Conditions: as each says.
-/
import Derived.Test.YtmlejgdohcpmjaaGreatDoorV27
import Derived.Sort.OwnSortedInts
set_option linter.all false
set_option maxHeartbeats 40000000
set_option maxRecDepth 100000
namespace Go.Proofs.YtmlejgdohcpmjaaGreatDoor
open Lib (hid)
open Tryz
section
section
namespace Zon
open Go.RowKit Mem Civ Mom Img Plc Rul Ahd Trn Src Snd Att Rgt Abr Sch Cmq Go.Sort
def ints (o:List Int):List Value:=o.map (Value.int .i64)
theorem ints_snoc (o:List Int) (e:Int):ints o++[Value.int .i64 e]=ints (o++[e]):=by unfold ints;rw [List.map_append];rfl
theorem one_int {n:Int}:∀ u∈(#[Value.int .i64 n]:Array Value).toList,u.oneCell'=true:=by intro u hu;simp at hu;subst hu;rfl
theorem one_ints (l:List Int):∀ u∈ints l,u.oneCell'=true:=by
 intro u hu;obtain ⟨n,_,rfl⟩:=List.mem_map.1 hu
 rfl
theorem info_int:(prog.info? 3).map (fun i=>(i.zero,i.size,i.bytes))=some (some (.int .i64 0),1,8):=by kernel_rfl
theorem info_int64:(prog.info? 2).map (fun i=>(i.zero,i.size,i.bytes))=some (some (.int .i64 0),1,8):=by kernel_rfl
def FromsP (w:World) (e:Ending) (w':World):Prop:=
 ∃ (A:Option Addr) (c:Nat) (l:List Int),e= .returned (.slice A l.length c)/\w'.ownsRow w.heap.size 3 1 (.slice A l.length c) l.length (ints l)/\l.length<=2/\(∀ y∈l,1<=y/\y<=9999)/\Below w.heap.size w w'
theorem sortInt_any (l:List Int) (A:Option Addr) (c base:Nat) (w:World) (h:w.ownsRow base 3 1 (.slice A l.length c) l.length (ints l)) (hn:l.length<=1000):
  Calls prog 89 #[.slice A l.length c] w fun e w'=>e= .returned (.tuple #[])/\∃ m:List Int,m.Perm l/\w'.ownsRow base 3 1 (.slice A l.length c) l.length (ints m)/\w.grownBy w' (Value.slice A l.length c).ownBlock:=by
 rcases h.2 with ⟨hv,hz⟩|⟨g,cap,cur,hv,hbase,hb,h1,h2,h3,h4⟩
 ·obtain rfl:l=[]:=List.length_eq_zero_iff.1 hz
  simp only [List.length_nil] at*
  refine (Tryz.slices_Sort_int_none A c w).mono ?_
  rintro e w' ⟨rfl,rfl⟩;exact ⟨rfl,[],.nil,h,World.grownBy.refl _ _⟩
 ·injection hv with e1 e2 e3
  subst e1 e3
  have hH:Holds (Value.int .i64) w g 0 l.toArray:=holds_of_blockI hb (by simpa [ints] using h4)
  have hgl:g<w.heap.size:=(Array.getElem?_eq_some_iff.1 hb).1
  refine (Tryz.slices_Sort_int g 0 c l w hH hgl (by omega)).mono ?_
  rintro e w' ⟨rfl,n,os,rfl⟩
  exact ⟨rfl,_,List.mergeSort_perm _ _,ownsRow_sortedI (List.length_mergeSort _) hbase hb h1 h2 (by simpa using h3),grownBy_sortedI _⟩
theorem froms_any (x:Table) (A A2:Option Addr) (c c2:Nat) (m:Int) (w:World) (h:Rt x A A2 m w) (hT:x.tail.length≠0):
  Calls prog 58 #[.agg (tabCells x A c A2 c2)] w (FromsP w):=by
 obtain ⟨i0,hi0,hz0,hz1,hz2⟩:=info_parts info_int;have hTT:=tailT_of h.right hT;obtain ⟨b0,hbw,hsz⟩:=box1 w 61 (tabCells x A c A2 c2);simp only [tabCells] at*
 obtain ⟨W,hW⟩:∃ W,w.alloc (.cells #[.string x.name,.int .i64 x.first.off,.int .i64 x.first.save,.string x.first.abbr,.slice A x.shifts.length c,.int .i64 x.till,.slice A2 x.tail.length c2,.int .i64 x.off,.string x.format] 61)=W:=⟨_,rfl⟩
 rw [hW] at b0 hbw hsz
 have hyr:∀ k (hk:k<x.tail.length),1<=(x.tail[k]).lo/\(x.tail[k]).lo<=9999:=fun k hk=>by
  have:=ruleB_bd (List.all_eq_true.1 hTT.right x.tail[k] (List.getElem_mem hk));exact ⟨this.1,this.2.1⟩
 have hR:=fun z (hb:Below w.heap.size w z) k (hk:k<x.tail.length)=>rule_cells (h.tab.below hb).rt hk;have hl2:=hTT.len;have hw:=hbw.size;have k0:=b0.cell;have HB:=hid hbw;have HR:=hid hR;have HY:=hid hyr;have HL2:=hid hl2;have HW:=hid hw;clear h hTT hbw hR hyr b0;generalize x.tail=rs at*;go_enter func58,ntmps58;go_wp2;clear k0 hW
 go_loopw [3,10] (fun v i wr=>∃ k:Nat,k<=rs.length/\i= .int .i64 k/\wr.ownsRow W.heap.size 3 1 v k (ints ((rs.take k).map (·.lo)))/\Below w.heap.size w wr/\W.heap.size<=wr.heap.size) (fun _ i _=>rs.length - (intOf i).toNat)
 case atStart=>exact ⟨0,Nat.zero_le _,rfl,World.ownsRow_nil _ _ _ _,HB.out,Nat.le_refl _⟩
 case round=>
  obtain ⟨k,hk,rfl,hown,hb,hs⟩:=hrel;have HO:=hid hown;have HBr:=hid hb;have HS:=hid hs;clear hown hb hs HB
  by_cases hkn:k<rs.length
  ·obtain ⟨ad,hA,hadb,a0,a1,a2,a3,a4,a5,a6,a7,a8,a9,a10⟩:=HR.out _ HBr.out k hkn
   subst hA
   have hst:(rs.take (k+1)).map (·.lo)=(rs.take k).map (·.lo)++[rs[k].lo]:=by rw [List.take_succ_eq_append_getElem hkn,List.map_append];rfl
   have Hst:=hid hst;clear hst;generalize rs[k]=r at*;obtain ⟨x0,x1,x2,x3,x4,x5,x6,x7,x8,x9,x10⟩:=r;simp only at a0 a1 a2 a3 a4 a5 a6 a7 a8 a9 a10 Hst;have hn:=Blk.new wr 69 #[.string x0,.int .i64 x1,.int .i64 x2,.int .i64 x3,.int .i64 x4,.int .i64 x5,.int .i64 x6,.int .i64 x7,.int .i64 x8,.int .i64 x9,.string x10];have k1:=hn.cell
   have M1:=hid (show k+1<=maxLen by have:=HL2.out;unfold maxLen;omega)
   have M2:=hid (show (k+1)*8<=140737488355328 by have:=HL2.out;omega)
   have M3:=hid (show W.heap.size<=(wr.alloc (.cells #[.string x0,.int .i64 x1,.int .i64 x2,.int .i64 x3,.int .i64 x4,.int .i64 x5,.int .i64 x6,.int .i64 x7,.int .i64 x8,.int .i64 x9,.string x10] 69)).heap.size by have:=HS.out;simp;omega)
   have HOX:=hid (HO.out.alloc (.cells #[.string x0,.int .i64 x1,.int .i64 x2,.int .i64 x3,.int .i64 x4,.int .i64 x5,.int .i64 x6,.int .i64 x7,.int .i64 x8,.int .i64 x9,.string x10] 69));have HBX:=hid (HBr.out.alloc HBr.out.size (.cells #[.string x0,.int .i64 x1,.int .i64 x2,.int .i64 x3,.int .i64 x4,.int .i64 x5,.int .i64 x6,.int .i64 x7,.int .i64 x8,.int .i64 x9,.string x10] 69));clear hn
   go_wp2_with (at_builtin;refine wpList_append1g (wr.alloc (.cells #[.string x0,.int .i64 x1,.int .i64 x2,.int .i64 x3,.int .i64 x4,.int .i64 x5,.int .i64 x6,.int .i64 x7,.int .i64 x8,.int .i64 x9,.string x10] 69)) rfl (.tmp 14) (.tmp 17) 56 rfl W.heap.size 3 i0 _ 1 8 underlying56 hi0 hz0 hz1 hz2 rfl (by decide) _ k _ rfl HOX.out (by simp [Act.eval]) rfl one_int M1.out M2.out M3.out ?_;intro v' w3 ho3 hg3;have HO3:=hid ho3;have HG3:=hid hg3;clear ho3 hg3)
   refine ⟨⟨k+1,by omega,by go_num,?_,?_,?_⟩,by simp [intOf];omega⟩
   ·rw [Hst.out,<-ints_snoc];exact HO3.out
   ·exact (HBX.out.alloc HBX.out.size _).grown HG3.out (by have:=HBX.out.size;simp at *;omega) (fun j hj=>by have:=(HOX.out.lt j hj).1;have:=HW.out;omega)
   ·have:=HG3.out.size;have:=M3.out;simp at *;omega
  ·obtain rfl:k=rs.length:=by omega
   rw [List.take_length] at HO;have hlen:(rs.map (·.lo)).length=rs.length:=List.length_map _
   have HYl:Hid (∀ y∈rs.map (·.lo),1<=y/\y<=9999):=fun y hy=>by
    obtain ⟨r,hr,rfl⟩:=List.mem_map.1 hy;obtain ⟨k,hk,rfl⟩:=List.mem_iff_getElem.1 hr;exact HY.out k hk
   have Hlen:=hid hlen;clear hlen HY HR;generalize rs.map (·.lo)=l at*;obtain ⟨A3,c3,hv⟩:=own_slice HO.out;subst hv;have hll:=Hlen.out
   have HO':Hid (wr.ownsRow W.heap.size 3 1 (.slice A3 l.length c3) l.length (ints l)):=by have:=HO.out;rw [<-hll] at this;exact this
   have HSo:=hid (sortInt_any l A3 c3 _ wr HO'.out (by have:=HL2.out;omega))
   rw [hll] at HSo;clear hll
   go_wp2_with (go_at_call 89;refine HSo.out.mono ?_;rintro e w2 ⟨rfl,m2,hp,ho,hg⟩;have HP:=hid hp;have HO2:=hid ho;have HG2:=hid hg;clear hp ho hg)
   go_ret;have hpl:=HP.out.length_eq
   refine ⟨A3,c3,m2,by rw [hpl,Hlen.out];rfl,?_,by rw [hpl,Hlen.out];exact HL2.out,fun y hy=>HYl.out y (HP.out.mem_iff.1 hy),?_⟩
   ·rw [hpl,Hlen.out];exact own_base HO2.out HW.out
   ·exact HBr.out.grown HG2.out HBr.out.size fun j hj=>Nat.le_trans HW.out (HO.out.lt j hj).1
end Zon
end
end
section
section
namespace Zon
open Go.RowKit Mem Civ Mom Img Plc Rul Ahd Trn Src Snd Att Rgt Abr Sch Cmq
theorem shift_any (x:Table) (A A2:Option Addr) (c c2:Nat) (m t:Int) (w:World) (h:Rt x A A2 m w) (h1: -9223372036854775808<t) (h2:t<=9223372036854775807):
  Calls prog 56 #[.agg (tabCells x A c A2 c2),.int .i64 t] w fun e w'=>e= .returned (.bool (decide (Sh x t)))/\Below w.heap.size w w':=by
 obtain ⟨u,hu⟩:∃ u,t - 1=u:=⟨_,rfl⟩
 have hV1:=fun z (hb:Below w.heap.size w z)=>vat_any x A A2 c c2 m t z (h.below hb) (by omega) h2
 have hV2:=fun z (hb:Below w.heap.size w z)=>vat_any x A A2 c c2 m u z (h.below hb) (by omega) (by omega)
 have hq:decide (Sh x t)= !decide (tellD x t=tellD x u):=by rw [Bool.eq_iff_iff,decide_eq_true_iff,Bool.not_eq_true',decide_eq_false_iff_not];unfold Sh;rw [hu]
 rw [hq];obtain ⟨P,hP⟩:∃ P,tellD x t=P:=⟨_,rfl⟩;obtain ⟨Q,hQ⟩:∃ Q,tellD x u=Q:=⟨_,rfl⟩;rw [hP] at hV1 ⊢;rw [hQ] at hV2 ⊢;have heq:=fun z=>Sam.eq_phase P Q z
 have hw1:IntKind.i64.wrap (t - 1)=u:=by rw [<-hu];exact IntWalk.i64_in _ (by omega)
 have hgt:decide (-9223372036854775808<t)=true:=decide_eq_true h1;obtain ⟨b0,hbw,hsz⟩:=box1 w 61 (tabCells x A c A2 c2);clear hq hP hQ h h1 h2 hu;obtain ⟨B,hB⟩:∃ B,decide (P=Q)=B:=⟨_,rfl⟩;rw [hB] at heq ⊢;clear hB;obtain ⟨p0,p1,p2⟩:=P;obtain ⟨q0,q1,q2⟩:=Q;simp only [tabCells,Phase.cells] at*
 obtain ⟨W,hW⟩:∃ W,w.alloc (.cells #[.string x.name,.int .i64 x.first.off,.int .i64 x.first.save,.string x.first.abbr,.slice A x.shifts.length c,.int .i64 x.till,.slice A2 x.tail.length c2,.int .i64 x.off,.string x.format] 61)=W:=⟨_,rfl⟩
 rw [hW] at b0 hbw hsz
 obtain ⟨Cls,hCls⟩:∃ C:World->Prop,C=fun z=>Blk z w.heap.size 61 #[.string x.name,.int .i64 x.first.off,.int .i64 x.first.save,.string x.first.abbr,.slice A x.shifts.length c,.int .i64 x.till,.slice A2 x.tail.length c2,.int .i64 x.off,.string x.format]/\Below w.heap.size w z:=⟨_,rfl⟩
 have hC:∀ z,Cls z->Blk z w.heap.size 61 #[.string x.name,.int .i64 x.first.off,.int .i64 x.first.save,.string x.first.abbr,.slice A x.shifts.length c,.int .i64 x.till,.slice A2 x.tail.length c2,.int .i64 x.off,.string x.format]/\Below w.heap.size w z:=fun z h=>by rw [hCls] at h;exact h
 have hstart:Cls W.drew:=by rw [hCls];exact ⟨b0.drew,hbw.drew⟩
 have inst:Nonempty (Qt.In Cls):=⟨⟨_,hstart⟩⟩
 have gx:∀ (z:Qt.In Cls) (i:Nat),z.w.cell? ⟨w.heap.size,i,none⟩=#[.string x.name,.int .i64 x.first.off,.int .i64 x.first.save,.string x.first.abbr,.slice A x.shifts.length c,.int .i64 x.till,.slice A2 x.tail.length c2,.int .i64 x.off,.string x.format][i]?:=fun z i=>(hC z.w z.h).1.cell i
 have HD1:Hid (∀ z,Cls z->Calls prog 87 #[.agg #[.string x.name,.int .i64 x.first.off,.int .i64 x.first.save,.string x.first.abbr,.slice A x.shifts.length c,.int .i64 x.till,.slice A2 x.tail.length c2,.int .i64 x.off,.string x.format],.int .i64 t] z fun e z'=>e= .returned (.agg #[.int .i64 p0,.int .i64 p1,.string p2])/\Cls z'):=fun z h=>(hV1 z (hC z h).2).mono fun e z' ⟨he,hb⟩=>⟨he,by rw [hCls];exact ⟨(hC z h).1.below hb (hC z h).1.lt,(hC z h).2.trans (hb.mono (hC z h).2.size)⟩⟩
 have HD2:Hid (∀ z,Cls z->Calls prog 87 #[.agg #[.string x.name,.int .i64 x.first.off,.int .i64 x.first.save,.string x.first.abbr,.slice A x.shifts.length c,.int .i64 x.till,.slice A2 x.tail.length c2,.int .i64 x.off,.string x.format],.int .i64 u] z fun e z'=>e= .returned (.agg #[.int .i64 q0,.int .i64 q1,.string q2])/\Cls z'):=fun z h=>(hV2 z (hC z h).2).mono fun e z' ⟨he,hb⟩=>⟨he,by rw [hCls];exact ⟨(hC z h).1.below hb (hC z h).1.lt,(hC z h).2.trans (hb.mono (hC z h).2.size)⟩⟩
 have HCx:=hid hC;have HSt:=hid hstart;clear hC hstart hCls hV1 hV2 b0 hbw;go_enter func56,ntmps56
 go_wp2_with fail
 refine Qt.wp_region_cls Cls (by kernel_rfl) (by kernel_rfl) HSt.out ?_
 repeat (go_big_quiet_step (fail))
 go_big_quiet_step ((go_at_call 87;exact Qt.quiet_cls (HD1.out _ (Qt.In.h _))))
 repeat (go_big_quiet_step (fail))
 go_big_quiet_step ((go_at_call 87;exact Qt.quiet_cls (HD2.out _ (Qt.In.h _))))
 repeat (go_big_quiet_step (fail))
 refine wpQuiet_nil ?_
 rintro wq ⟨⟨w9,hq⟩,e9⟩
 have HX:=hid (HCx.out wq (by rw [e9];exact hq))
 clear hq e9 gx inst HD1 HD2;go_wp2;go_ret;exact ⟨rfl,HX.out.2⟩
def keepS (x:Table) (a:Int):Bool:=decide (x.till<a) && decide (Sh x a)
def turnAts (x:Table) (y:Int):List Int:=((turnsL x.tail y).map (uniT x.tail x.off)).filter (keepS x)
def turnO' (x:Table) (fr:Int) (j:Nat):List Int:=(List.range j).flatMap fun i=>turnAts x (fr+(i:Nat))
theorem turnO_succ (x:Table) (fr:Int) (j:Nat):turnO' x fr (j+1)=turnO' x fr j++turnAts x (fr+j):=by
 unfold turnO';rw [List.range_succ,List.flatMap_append];simp
theorem turnsL_two {x:Table} (h:TailT x) (y:Int):(turnsL x.tail y).length<=2:=by
 unfold turnsL;rw [if_pos h.right,sortT_length];exact Nat.le_trans (List.length_filterMap_le _ _) h.len
theorem turnO_len {x:Table} (h:TailT x) (fr:Int):∀ j,(turnO' x fr j).length<=2*j
 |0=>by simp [turnO']
 |j+1=>by
  have:=turnO_len h fr j;rw [turnO_succ,List.length_append]
  have h2:(turnAts x (fr+j)).length<=2:=by
   unfold turnAts
   exact Nat.le_trans (List.length_filter_le _ _) (by rw [List.length_map];exact turnsL_two h _)
  omega
theorem turnsL_gt {x:Table} (h:TailT x) {y:Int} {t:Turn} (ht:t∈turnsL x.tail y):∃ r∈x.tail,turnL y r=some t:=by
 unfold turnsL at ht;rw [if_pos h.right] at ht;obtain ⟨r,hr,he⟩:=List.mem_filterMap.1 (mem_sortT ht);exact ⟨r,hr,he⟩
theorem turn_in {x:Table} (h:TailT x) {z a:Int} (ht:TurnAt x z a) (hk:keepS x a=true) {fr:Int} {n:Nat} (h1:fr<=z) (h2:z<fr+n):a∈turnO' x fr n:=by
 obtain ⟨r,hm,u,hu,e⟩:=ht;unfold turnO'
 refine List.mem_flatMap.2 ⟨(z - fr).toNat,List.mem_range.2 (by omega),?_⟩
 rw [show fr+((z - fr).toNat:Int)=z from by omega]
 unfold turnAts turnsL;rw [if_pos h.right];exact List.mem_filter.2 ⟨List.mem_map.2 ⟨u,(sortT_perm _).mem_iff.2 (List.mem_filterMap.2 ⟨r,hm,hu⟩),e⟩,hk⟩
theorem turnO_ok {x:Table} (h:TailT x) {fr a:Int} {n:Nat} (ha:a∈turnO' x fr n):keepS x a=true/\-9100000000000<=a/\a<=9100000000000:=by
 unfold turnO' at ha;obtain ⟨i,_,hi⟩:=List.mem_flatMap.1 ha;unfold turnAts at hi;obtain ⟨h1,h2⟩:=List.mem_filter.1 hi;obtain ⟨t,ht,e⟩:=List.mem_map.1 h1;obtain ⟨r,hr,he⟩:=turnsL_gt h ht;have hb:=turn_bd he;have hu:=uni_near h.right h.off.1 h.off.2 hb
 exact ⟨h2,by omega,by omega⟩
def TurnsR (x:Table) (fr:Int) (w:World) (e:Ending) (w':World):Prop:=
 ∃ (A:Option Addr) (c:Nat) (l:List Int),e= .returned (.slice A l.length c)/\w'.ownsRow w.heap.size 2 1 (.slice A l.length c) l.length (ints l)/\l.Pairwise (·<=·)/\(∀ a,a∈l↔a∈turnO' x fr 6)/\Below w.heap.size w w'
theorem reads_map {w:World} {B:Nat} {A:Option Addr} {n:Nat} {l:List Int} (h:Reads w B 1 A n (ints l)) (hl:l.length=n) {k:Nat} (hk:k<n):∃ ad,A=some ad/\ad.block<B/\w.cell? (ad.add k)=some (.int .i64 (l[k]'(by omega))):=by
 obtain ⟨ad,u,h1,h2,h3,h4⟩:=h.at_ hk
 refine ⟨ad,h1,h2,?_⟩
 rw [h4,<-h3];unfold ints
 rw [List.getElem?_map,List.getElem?_eq_getElem (by omega)]
 rfl
end Zon
end
end
end Go.Proofs.YtmlejgdohcpmjaaGreatDoor
