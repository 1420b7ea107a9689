/-
  Contracts of the code that the law reaches, and plain laws. Conditions: as each says.
-/
import Derived.Test.YtadamccojdocbaaGreatDoorV16
set_option linter.all false
set_option maxHeartbeats 40000000
set_option maxRecDepth 100000
namespace Go.Proofs.YtadamccojdocbaaGreatDoor
open Lib (hid)
open Tryz
section
section
namespace Snd
open Go.RowKit Mem Civ Mom Img Plc Rul Src Go.Maps
theorem rset_any (s:Src) (A A2 A3:Option Addr) (c c2 c3:Nat) (nm:ByteArray) (w:World) (h:SrcOk s A A2 A3 w):
  Calls prog 49 #[.agg #[.slice A s.rules.length c,.slice A2 s.zones.length c2,.slice A3 s.links.length c3],.string nm] w fun e w'=>∃ v,e= .returned v/\w'.ownsRow w.heap.size 69 11 v (setL s.rules nm).length ((setL s.rules nm).flatMap Rule.cells)/\Below w.heap.size w w':=by
 obtain ⟨i1,hi1,hy0,hy1,hy2⟩:=info_parts info_rule;have hrr:=h.rr;have nr:=h.nr;clear h;obtain ⟨rs,zs,ls⟩:=s;simp only at hrr nr ⊢;have hone:=One.new w 26 #[.slice A rs.length c,.slice A2 zs.length c2,.slice A3 ls.length c3];obtain ⟨W,hW⟩:∃ W,w.alloc (.cells #[.slice A rs.length c,.slice A2 zs.length c2,.slice A3 ls.length c3] 26)=W:=⟨_,rfl⟩;rw [hW] at hone
 have hsz:W.heap.size=w.heap.size+1:=by rw [<-hW];simp
 have HO:=hid hone;have HR:=hid hrr;have HSz:=hid hsz;clear hone hrr hsz;go_enter func49,ntmps49
 go_wp2_with fail
 go_loopw [5,6] (fun v i wr=>∃ k:Nat,k<=rs.length/\i= .int .i64 k/\wr.ownsRow W.heap.size 69 11 v (setL (rs.take k) nm).length ((setL (rs.take k) nm).flatMap Rule.cells)/\Below W.heap.size W wr) (fun _ i _=>rs.length - (intOf i).toNat)
 case atStart=>exact ⟨0,Nat.zero_le _,rfl,World.ownsRow_nil _ _ _ _,Below.refl _ _⟩
 case round=>
  obtain ⟨k,hk,rfl,hown,hb⟩:=hrel;have hsl:=setL_len (rs.take k) nm;rw [List.length_take] at hsl;have ho:=HO.out.step hb;have c0:=ho.1.cell;have HOw:=hid hown;have HB:=hid hb;have Hsz:=hid hb.size;have HOr:=hid ho;clear hown hb ho
  by_cases hkn:k<rs.length
  ·obtain ⟨ad,hA,hadb,a0,a1,a2,a3,a4,a5,a6,a7,a8,a9,a10⟩:=rule_cells (HR.out.below HOr.out.2) hkn
   subst hA;have hst:=setL_step (nm:=nm) hkn;have hbq:=tl_beq rs[k].name nm;have HSt:=hid hst;clear hst;generalize rs[k]=x at*;obtain ⟨x0,x1,x2,x3,x4,x5,x6,x7,x8,x9,x10⟩:=x;simp only at a0 a1 a2 a3 a4 a5 a6 a7 a8 a9 a10 HSt hbq
   have m1:(setL (rs.take k) nm).length+1<=maxLen:=by unfold maxLen;omega
   have m2:((setL (rs.take k) nm).length+1)*104<=140737488355328:=by omega
   have M1:=hid m1;have M2:=hid m2;clear m1 m2 hsl
   cases hd:decide (x0=nm)
   ·rw [hd] at HSt hbq
    go_wp2_with fail
    refine ⟨⟨k+1,by omega,by go_num,?_,HB.out⟩,by simp [intOf];omega⟩
    rw [HSt.out];simp only [Bool.false_eq_true,if_false];exact HOw.out
   ·rw [hd] at HSt hbq
    generalize setL (rs.take k) nm=l1 at*
    go_wp2_with ((at_builtin;refine wpList_append1g wr rfl (.tmp 22) (.tmp 28) 22 rfl W.heap.size 69 i1 _ 11 104 underlying22 hi1 hy0 hy1 hy2 rfl (by decide) _ l1.length (l1.flatMap Rule.cells) rfl HOw.out (by simp [Act.eval]) rfl one_rule M1.out M2.out Hsz.out ?_;intro v' wB hown8 hg8;have HO2:=hid hown8;have HB2:=hid ((HB.out.alloc Hsz.out _).grown hg8 (by have:=Hsz.out;simp;omega) (fun j hj=>(HOw.out.lt j hj).1));clear hown8 hg8))
    refine ⟨⟨k+1,by omega,by go_num,?_,HB2.out⟩,by simp [intOf];omega⟩
    rw [HSt.out];simp only [if_true,List.length_append,List.flatMap_append,List.length_cons,List.length_nil,List.flatMap_cons,List.flatMap_nil,List.append_nil];exact HO2.out
  ·obtain rfl:k=rs.length:=by omega
   have hb:=HOr.out.2;have ho2:=HOw.out;rw [List.take_length] at ho2
   have HO2:=hid (own_base ho2 (by have:=HSz.out;omega:w.heap.size<=W.heap.size))
   clear ho2
   go_wp2_with fail
   go_ret;exact ⟨_,rfl,HO2.out,HOr.out.2⟩
theorem set_right {rs:List Rule} (h:rulesB rs=true) (nm:ByteArray):rulesB (setL rs nm)=true:=by
 unfold rulesB at h ⊢;rw [List.all_eq_true] at h ⊢;exact fun r hr=>h r (List.mem_filter.1 hr).1
theorem rahead_c (s:Src) (x:Era) (hk:x.kind=2) (hn:s.rules.length<=1000000) (hs:rulesB s.rules=true) (Ae:Option Addr) (ce:Nat) (z:World) (hr:Reads z z.heap.size 11 Ae (setL s.rules x.rules).length ((setL s.rules x.rules).flatMap Rule.cells)):
  Calls prog 166 #[.slice Ae (setL s.rules x.rules).length ce,.int .i64 (endT x)] z fun e w'=>∃ (a0 a1:Int) (a3:ByteArray) (b:Bool),e= .returned (.tuple #[.agg #[.int .i64 a0,.int .i64 a1,.int .i64 (svF s x),.string a3],.bool b])/\Below z.heap.size z w':=by
 refine (Ahd.refAhead_any (setL s.rules x.rules) Ae ce (endT x) z hr (Nat.le_trans (setL_len _ _) hn) (set_right hs _) (endT_bd x).1 (endT_bd x).2).mono ?_
 rintro e w' ⟨rfl,hb2⟩;unfold svF setOf;rw [if_pos hk,Ahd.aheadD_is (set_right hs _)];generalize (Ahd.aheadO (setL s.rules x.rules) (endT x)).isSome=b;obtain ⟨t0,t1,t2,t3⟩:Turn:=(Ahd.aheadO (setL s.rules x.rules) (endT x)).getD Ahd.noTurn;exact ⟨_,_,_,_,rfl,hb2⟩
theorem rend_any (s:Src) (A A2 A3:Option Addr) (c c2 c3:Nat) (x:Era) (w:World) (h:SrcOk s A A2 A3 w) (hs:rulesB s.rules=true) (hr:0<=x.spot.ref/\x.spot.ref<=2):
  Calls prog 104 #[.agg #[.slice A s.rules.length c,.slice A2 s.zones.length c2,.slice A3 s.links.length c3],.agg x.cells.toArray] w fun e w'=>e= .returned (.int .i64 (endI x (svF s x)))/\Below w.heap.size w w':=by
 have hb2:=box2 w 26 84 #[.slice A s.rules.length c,.slice A2 s.zones.length c2,.slice A3 s.links.length c3] x.cells.toArray;have HL:=hid (fun z=>R09.local_any x.spot x.year z);have HS:=hid (fun z (hb:Below w.heap.size w z)=>rset_any s A A2 A3 c c2 c3 x.rules z (h.below hb));have HA:=hid (fun hk=>rahead_c s x hk h.nr hs);have nr:=h.nr;clear h hs;obtain ⟨T,hT⟩:∃ T,endT x=T:=⟨_,rfl⟩;obtain ⟨S,hS⟩:∃ S,svF s x=S:=⟨_,rfl⟩;unfold endI endA savI;rw [hT,hS] at HA;rw [hT,hS];obtain ⟨q,hq⟩:∃ q,(localO x.spot x.year).isSome=q:=⟨_,rfl⟩
 have hd:dayV (localO x.spot x.year)= .tuple #[.int .i64 T,.bool q]:=by
  rw [<-hT,<-hq];unfold endT
  cases localO x.spot x.year<;>rfl
 rw [hd] at HL;clear hd hq hT hS;obtain ⟨rs,zs,ls⟩:=s;obtain ⟨x0,x1,x2,x3,x4,x5,x6,⟨y0,y1,y2,y3,y4,y5⟩⟩:=x;simp only [Era.cells,Spot.cells] at hb2 HL HS HA nr hr ⊢;obtain ⟨W,hW⟩:∃ W,(w.alloc (.cells #[.slice A rs.length c,.slice A2 zs.length c2,.slice A3 ls.length c3] 26)).alloc (.cells #[.int .i64 x0,.int .i64 x1,.int .i64 x2,.string x3,.string x4,.bool x5,.int .i64 x6,.int .i64 y0,.int .i64 y1,.int .i64 y2,.int .i64 y3,.int .i64 y4,.int .i64 y5] 84)=W:=⟨_,rfl⟩;rw [hW] at hb2;obtain ⟨b0,b1,hbw,hsz⟩:=hb2;have HB0:=hid b0;have HB1:=hid b1;have HBw:=hid hbw;have c1:=b1.cell;clear b0 b1 hbw;go_enter func104,ntmps104
 rcases (by omega:y5=2\/y5=1\/y5=0) with rfl|rfl|rfl
 ·clear HA HS
  go_wp2_with (go_at_call 165;refine (HL.out _).mono ?_;rintro e w1 ⟨rfl,hb⟩;have hx1:=HB1.out.below hb HB1.out.lt;have c2:=hx1.cell;have HBx:=hid (HBw.out.trans (hb.mono HBw.out.size));clear hb hx1)
  go_ret;exact ⟨rfl,HBx.out⟩
 ·clear HA HS
  go_wp2_with (go_at_call 165;refine (HL.out _).mono ?_;rintro e w1 ⟨rfl,hb⟩;have hx1:=HB1.out.below hb HB1.out.lt;have c2:=hx1.cell;have HBx:=hid (HBw.out.trans (hb.mono HBw.out.size));clear hb hx1)
  go_ret;exact ⟨rfl,HBx.out⟩
 ·by_cases hk:x1=2
  ·subst hk
   have HA2:=hid (HA.out rfl);clear HA
   go_wp2_with (first
    |(go_at_call 165;refine (HL.out _).mono ?_;rintro e w1 ⟨rfl,hb⟩;have hx0:=HB0.out.below hb HB0.out.lt;have hx1:=HB1.out.below hb HB1.out.lt;have c2:=hx1.cell;have d2:=hx0.cell;have HX0:=hid hx0;have HX1:=hid hx1;have HBx:=hid (HBw.out.trans (hb.mono HBw.out.size));clear hb hx0 hx1)
    |(go_at_call 49;refine (HS.out _ HBx.out).mono ?_;rintro e w2 ⟨v,rfl,hown,hb⟩;obtain ⟨Av,cv,rfl⟩:=own_slice hown;have hx1:=HX1.out.below hb HX1.out.lt;have HRv:=hid (Reads.of_own hown);have HY1:=hid hx1;have HBy:=hid (HBx.out.trans (hb.mono HBx.out.size));clear hb hx1 hown)
    |(go_at_call 166;refine (HA2.out _ _ _ HRv.out).mono ?_;rintro e w3 ⟨a0,a1,a3,b,rfl,hb⟩;have hx1:=HY1.out.below hb HY1.out.lt;have c3:=fun o i=>(hx1.alloc o).cell i;have HBz:=hid (HBy.out.trans (hb.mono HBy.out.size));clear hb hx1))
   go_ret;exact ⟨rfl,HBz.out.alloc HBz.out.size _⟩
  ·have hkb:(x1 == 2)=false:=by simp [hk]
   simp only [if_neg hk];clear HA HS hk
   go_wp2_with (go_at_call 165;refine (HL.out _).mono ?_;rintro e w1 ⟨rfl,hb⟩;have hx1:=HB1.out.below hb HB1.out.lt;have c2:=hx1.cell;have HBx:=hid (HBw.out.trans (hb.mono HBw.out.size));clear hb hx1)
   go_ret;exact ⟨rfl,HBx.out⟩
end Snd
end
end
section
section
namespace Snd
open Go.RowKit Mem Civ Mom Img Plc Rul Src Go.Maps
def mostL (all:List Rule) (l:List Rule):Nat:=l.foldl (fun m x=>if m<crowdAt all x then crowdAt all x else m) 0
theorem mostL_succ (all:List Rule) {l:List Rule} {k:Nat} (hk:k<l.length):mostL all (l.take (k+1))=if mostL all (l.take k)<crowdAt all l[k] then crowdAt all l[k] else mostL all (l.take k):=by
 rw [List.take_succ_eq_append_getElem hk,mostL,mostL,List.foldl_append];rfl
theorem mostL_le (all l:List Rule):mostL all l<=all.length:=by
 suffices h:∀ (l:List Rule) (m:Nat),m<=all.length->l.foldl (fun m x=>if m<crowdAt all x then crowdAt all x else m) m<=all.length from h l 0 (Nat.zero_le _)
 intro l
 induction l with
 |nil=>intro m h;exact h
 |cons a t ih=>
  intro m h;rw [List.foldl_cons]
  refine ih _ ?_
  split
  ·exact List.length_filter_le _ _
  ·exact h
theorem mostL_any (all l:List Rule) (c:Nat):decide (c<mostL all l)=l.any fun x=>decide (c<crowdAt all x):=by
 suffices h:∀ (l:List Rule) (m:Nat),decide (c<l.foldl (fun m x=>if m<crowdAt all x then crowdAt all x else m) m)=(decide (c<m) || l.any fun x=>decide (c<crowdAt all x)) by
  have:=h l 0;unfold mostL;rw [this,decide_eq_false (Nat.not_lt_zero c),Bool.false_or]
 intro l
 induction l with
 |nil=>intro m;rw [List.any_nil,Bool.or_false];rfl
 |cons a t ih=>
  intro m;rw [List.foldl_cons,ih,List.any_cons,<-Bool.or_assoc]
  congr 1
  rw [Bool.eq_iff_iff];simp only [Bool.or_eq_true,decide_eq_true_eq]
  split<;>omega
theorem most_any (rs:List Rule) (A:Option Addr) (c:Nat) (w:World) (h:Reads w w.heap.size 11 A rs.length (rs.flatMap Rule.cells)) (hn:rs.length<=1000000):
  Calls prog 157 #[.slice A rs.length c] w fun e w'=>e= .returned (.int .i64 (mostL rs rs:Nat))/\Below w.heap.size w w':=by
 have H:=hid h;clear h;obtain ⟨G,hG⟩:∃ G:Nat->Nat,G=fun k=>mostL rs (rs.take k):=⟨_,rfl⟩
 have hG0:G 0=0:=by rw [hG];rfl
 have hGs:∀ k (hk:k<rs.length),G (k+1)=if G k<crowdAt rs rs[k] then crowdAt rs rs[k] else G k:=fun k hk=>by rw [hG];exact mostL_succ rs hk
 have hGl:∀ k,G k<=rs.length:=fun k=>by rw [hG];exact mostL_le rs (rs.take k)
 have hGe:G rs.length=mostL rs rs:=by rw [hG];simp only [List.take_length]
 have HG0:=hid hG0;have HGs:=hid hGs;have HGl:=hid hGl;have HGe:=hid hGe;clear hG hG0 hGs hGl hGe;go_enter func157,ntmps157;go_wp2
 go_loopw [3,4] (fun m i wr=>∃ (k nd:Nat),k<=rs.length/\i= .int .i64 k/\m= .int .i64 (G k:Nat)/\wr=w.drewN nd) (fun _ i _=>rs.length - (intOf i).toNat)
 case atStart=>exact ⟨0,0,Nat.zero_le _,rfl,by rw [HG0.out];rfl,rfl⟩
 case round=>
  obtain ⟨k,nd,hk,rfl,rfl,rfl⟩:=hrel;have hgk:=HGl.out k
  by_cases hkn:k<rs.length
  ·obtain ⟨ad,hA,hadb,a0,a1,a2,a3,a4,a5,a6,a7,a8,a9,a10⟩:=rule_cells H.out hkn
   subst hA;have hms:=HGs.out k hkn;have hcl:crowdAt rs rs[k]<=rs.length:=List.length_filter_le _ _;obtain ⟨F,hF⟩:∃ F:Nat->Nat,F=fun j=>((rs.take j).filter fun y=>decide (rs[k].lo<=rs[k].hi) && forceB y rs[k].lo).length:=⟨_,rfl⟩
   have hF0:F 0=0:=by rw [hF];rfl
   have hFs:∀ j (hj:j<rs.length),F (j+1)=F j+if (decide (rs[k].lo<=rs[k].hi) && (decide (rs[j].lo<=rs[k].lo) && decide (rs[k].lo<=rs[j].hi)))=true then 1 else 0:=fun j hj=>by
    have hfo:forceB rs[j] rs[k].lo=(decide (rs[j].lo<=rs[k].lo) && decide (rs[k].lo<=rs[j].hi)):=by
     unfold forceB;rw [Bool.eq_iff_iff];simp
    rw [hF,<-hfo];exact filter_succ (fun y=>decide (rs[k].lo<=rs[k].hi) && forceB y rs[k].lo) rs j hj
   have hFl:∀ j,F j<=j:=fun j=>by rw [hF];exact Nat.le_trans (List.length_filter_le _ _) (List.length_take_le _ _)
   have hFe:F rs.length=crowdAt rs rs[k]:=by rw [hF];simp only [List.take_length];rfl
   have HF0:=hid hF0;have HFs:=hid hFs;have HFl:=hid hFl;have HFe:=hid hFe;have HMs:=hid hms;generalize crowdAt rs rs[k]=C at*;have A1:=hid a1;have A2:=hid a2;clear a0 a1 a2 a3 a4 a5 a6 a7 a8 a9 a10 hms hF hF0 hFs hFl hFe;generalize rs[k].lo=xl at*;generalize rs[k].hi=xh at*;go_wp2
   go_loopw [5,6] (fun n i wz=>∃ (j nd:Nat),j<=rs.length/\i= .int .i64 j/\n= .int .i64 (F j:Nat)/\wz=w.drewN nd) (fun _ i _=>rs.length - (intOf i).toNat)
   case atStart=>exact ⟨0,nd,Nat.zero_le _,rfl,by rw [HF0.out];rfl,rfl⟩
   case round=>
    obtain ⟨j,nd2,hj,rfl,rfl,rfl⟩:=hrel;have hlen:=HFl.out j
    by_cases hjn:j<rs.length
    ·obtain ⟨ad',hA',_,b0,b1,b2,b3,b4,b5,b6,b7,b8,b9,b10⟩:=rule_cells H.out hjn
     obtain rfl:ad=ad':=by injection hA'
     have Hfs:=hid (HFs.out j hjn);obtain ⟨Cls,hCls⟩:∃ C:World->Prop,C=fun z=>∃ nd,z=w.drewN nd:=⟨_,rfl⟩
     have hst:Cls (w.drewN nd2).drew:=by rw [hCls];exact ⟨nd2+1,rfl⟩
     have hC:∀ z,Cls z->∃ nd,z=w.drewN nd:=fun z h=>by rw [hCls] at h;exact h
     have inst:Nonempty (Qt.In Cls):=⟨⟨_,hst⟩⟩
     have z1:∀ z:Qt.In Cls,z.w.cell? ⟨(ad.add (k*11)).block,(ad.add (k*11)).off+1,none⟩=some (.int .i64 xl):=fun z=>by
      obtain ⟨n,e⟩:=hC z.w z.h;rw [e];exact A1.out
     have z2:∀ z:Qt.In Cls,z.w.cell? ⟨(ad.add (k*11)).block,(ad.add (k*11)).off+2,none⟩=some (.int .i64 xh):=fun z=>by
      obtain ⟨n,e⟩:=hC z.w z.h;rw [e];exact A2.out
     have y1:∀ z:Qt.In Cls,z.w.cell? ⟨(ad.add (j*11)).block,(ad.add (j*11)).off+1,none⟩=some (.int .i64 rs[j].lo):=fun z=>by
      obtain ⟨n,e⟩:=hC z.w z.h;rw [e];exact b1
     have y2:∀ z:Qt.In Cls,z.w.cell? ⟨(ad.add (j*11)).block,(ad.add (j*11)).off+2,none⟩=some (.int .i64 rs[j].hi):=fun z=>by
      obtain ⟨n,e⟩:=hC z.w z.h;rw [e];exact b2
     have HC:=hid hC;clear hC hCls b0 b1 b2 b3 b4 b5 b6 b7 b8 b9 b10 hA';generalize rs[j].lo=l at*;generalize rs[j].hi=u at*
     cases g1:decide (l<=xl)
     case false=>
      go_wp2
      refine Qt.wp_region_cls Cls (by kernel_rfl) (by kernel_rfl) hst ?_
      repeat (go_big_quiet_step (fail))
      refine wpQuiet_nil ?_
      rintro wq ⟨⟨w9,hq⟩,e9⟩
      obtain ⟨nq,hnq⟩:=HC.out wq (by rw [e9];exact hq)
      clear hq e9 z1 z2 y1 y2;subst hnq
      have hn:F (j+1)=F j:=by rw [Hfs.out,g1];simp
      have HN:=hid hn;clear hn;go_wp2
      exact ⟨⟨j+1,nq,by omega,by go_num,by rw [HN.out],rfl⟩,by simp [intOf];omega⟩
     case true=>
     cases g2:decide (xl<=u)
     case false=>
      go_wp2
      refine Qt.wp_region_cls Cls (by kernel_rfl) (by kernel_rfl) hst ?_
      repeat (go_big_quiet_step (fail))
      refine wpQuiet_nil ?_
      rintro wq ⟨⟨w9,hq⟩,e9⟩
      obtain ⟨nq,hnq⟩:=HC.out wq (by rw [e9];exact hq)
      clear hq e9 z1 z2 y1 y2;subst hnq
      have hn:F (j+1)=F j:=by rw [Hfs.out,g2];simp
      have HN:=hid hn;clear hn;go_wp2
      exact ⟨⟨j+1,nq,by omega,by go_num,by rw [HN.out],rfl⟩,by simp [intOf];omega⟩
     case true=>
     cases g3:decide (xl<=xh)
     case false=>
      go_wp2
      refine Qt.wp_region_cls Cls (by kernel_rfl) (by kernel_rfl) hst ?_
      repeat (go_big_quiet_step (fail))
      refine wpQuiet_nil ?_
      rintro wq ⟨⟨w9,hq⟩,e9⟩
      obtain ⟨nq,hnq⟩:=HC.out wq (by rw [e9];exact hq)
      clear hq e9 z1 z2 y1 y2;subst hnq
      have hn:F (j+1)=F j:=by rw [Hfs.out,g3];simp
      have HN:=hid hn;clear hn;go_wp2
      exact ⟨⟨j+1,nq,by omega,by go_num,by rw [HN.out],rfl⟩,by simp [intOf];omega⟩
     case true=>
      go_wp2
      refine Qt.wp_region_cls Cls (by kernel_rfl) (by kernel_rfl) hst ?_
      repeat (go_big_quiet_step (fail))
      refine wpQuiet_nil ?_
      rintro wq ⟨⟨w9,hq⟩,e9⟩
      obtain ⟨nq,hnq⟩:=HC.out wq (by rw [e9];exact hq)
      clear hq e9 z1 z2 y1 y2;subst hnq
      have hn:F (j+1)=F j+1:=by rw [Hfs.out,g1,g2,g3];simp
      have HN:=hid hn;clear hn;go_wp2
      exact ⟨⟨j+1,nq,by omega,by go_num,by rw [HN.out];go_num,rfl⟩,by simp [intOf];omega⟩
    ·obtain rfl:j=rs.length:=by omega
     rw [HFe.out];have hms:=HMs.out
     by_cases hgt:G k<C
     ·rw [if_pos hgt] at hms
      have hgb:decide (((G k:Nat):Int)<(C:Nat))=true:=decide_eq_true (by omega)
      have HMs2:=hid hms;clear HMs HFe hms;go_wp2
      exact ⟨⟨k+1,nd2,by omega,by go_num,by rw [HMs2.out],rfl⟩,by simp [intOf];omega⟩
     ·rw [if_neg hgt] at hms
      have hgb:decide (((G k:Nat):Int)<(C:Nat))=false:=decide_eq_false (by omega)
      have HMs2:=hid hms;clear HMs HFe hms;go_wp2
      exact ⟨⟨k+1,nd2,by omega,by go_num,by rw [HMs2.out],rfl⟩,by simp [intOf];omega⟩
  ·obtain rfl:k=rs.length:=by omega
   rw [HGe.out];go_wp2;go_ret;exact ⟨rfl,below_dr (Below.refl _ _)⟩
theorem beyond_any (n:Int) (w:World):Calls prog 158 #[.int .i64 n] w fun e w'=>e= .returned (.bool (!Rgt.dayB n))/\w=w':=by
 by_cases h1:n<=-86400
 ·have hr:Rgt.dayB n=false:=by unfold Rgt.dayB;rw [decide_eq_false (by omega)];rfl
  have hb:decide (n<=-86400)=true:=decide_eq_true h1;rw [hr];clear hr h1;go_enter func158,ntmps158;go_wp2;go_ret;exact ⟨rfl,rfl⟩
 ·have hb:decide (n<=-86400)=false:=decide_eq_false h1
  by_cases h2:86400<=n
  ·have hr:Rgt.dayB n=false:=by unfold Rgt.dayB;rw [decide_eq_false (by omega:¬ n<86400),Bool.and_false]
   have hb2:decide (86400<=n)=true:=decide_eq_true h2;rw [hr];clear hr h1 h2;go_enter func158,ntmps158;go_wp2;go_ret;exact ⟨rfl,rfl⟩
  ·have hr:Rgt.dayB n=true:=by unfold Rgt.dayB;rw [decide_eq_true (by omega),decide_eq_true (by omega)];rfl
   have hb2:decide (86400<=n)=false:=decide_eq_false h2;rw [hr];clear hr h1 h2;go_enter func158,ntmps158;go_wp2;go_ret;exact ⟨rfl,rfl⟩
theorem set_any (rs:List Rule) (A:Option Addr) (c:Nat) (w:World) (h:Reads w w.heap.size 11 A rs.length (rs.flatMap Rule.cells)) (hn:rs.length<=1000) (hr:rulesB rs=true) (hne:rs≠[]):
  Calls prog 99 #[.slice A rs.length c] w fun e w'=>e= .returned (.int .i64 (setErr rs))/\Below w.heap.size w w':=by
 have HM:=hid (most_any rs A c w h (by omega))
 have HN:=hid (fun z (hb:Below w.heap.size w z)=>R11.near_any rs A c z ((h.below hb).more hb.size) hn hr);have hml:=mostL_le rs rs
 have hma:decide (10<mostL rs rs)=crowdB rs:=by
  unfold crowdB;rw [hr,Bool.true_and,mostL_any]
 have hns:crowdB rs=false->R11.nearR rs=nearB rs:=fun hc=>R11.near_same hr hc hne;have H:=hid h;obtain ⟨Q,hQ⟩:∃ Q,setErr rs=Q:=⟨_,rfl⟩;rw [hQ];unfold setErr at hQ;clear h hr hne;generalize mostL rs rs=M at*;generalize crowdB rs=cr at*;generalize R11.nearR rs=nr at*;generalize nearB rs=nb at*;go_enter func99,ntmps99
 cases cr
 ·have hns2:=hns rfl
  subst hns2
  have hb:decide ((10:Int)<(M:Nat))=false:=decide_eq_false (by have:=of_decide_eq_false hma;omega)
  rw [if_neg (by decide)] at hQ
  have HQ:=hid hQ;clear hns hma hQ
  go_wp2_with (go_at_call 157;refine HM.out.mono ?_;rintro e w1 ⟨rfl,hb⟩;have HB:=hid hb;clear hb)
  go_loopw [3,4] (fun n i wr=>∃ k:Nat,k<=rs.length/\i= .int .i64 k/\n= .int .i64 (everN (rs.take k):Nat)/\Below w.heap.size w wr) (fun _ i _=>rs.length - (intOf i).toNat)
  case atStart=>exact ⟨0,Nat.zero_le _,rfl,rfl,HB.out⟩
  case round=>
   clear HB;obtain ⟨k,hk,rfl,rfl,hb1⟩:=hrel;have HB:=hid hb1;clear hb1
   by_cases hkn:k<rs.length
   ·obtain ⟨ad,hA,hadb,a0,a1,a2,a3,a4,a5,a6,a7,a8,a9,a10⟩:=rule_cells (H.out.below HB.out) hkn
    subst hA;have hev:=ever_step hkn;have hle:=ever_le rs k
    have e4:(rs[k].hi == 1000000)=decide (rs[k].hi=1000000):=by rw [Bool.eq_iff_iff];simp
    have HEv:=hid hev;clear hev;generalize decide (rs[k].hi=1000000)=d at*;generalize rs[k]=x at*;generalize everN (rs.take k)=n at*
    cases d
    ·go_wp2_with fail
     exact ⟨⟨k+1,by omega,by go_num,by rw [HEv.out];rfl,HB.out⟩,by simp [intOf];omega⟩
    ·go_wp2_with fail
     exact ⟨⟨k+1,by omega,by go_num,by rw [HEv.out];go_num,HB.out⟩,by simp [intOf];omega⟩
   ·obtain rfl:k=rs.length:=by omega
    rw [List.take_length];have hle:=ever_le rs rs.length;rw [List.take_length] at hle;have hq:=HQ.out;generalize everN rs=n at*
    by_cases hg:2<n
    ·rw [if_pos hg] at hq
     subst hq
     have hgb:decide ((2:Int)<(n:Nat))=true:=decide_eq_true (by omega)
     clear hg HQ
     go_wp2_with fail
     go_ret;exact ⟨rfl,HB.out⟩
    ·rw [if_neg hg] at hq
     have hgb:decide ((2:Int)<(n:Nat))=false:=decide_eq_false (by omega)
     clear HQ
     cases nr
     ·rw [if_neg (by decide)] at hq
      subst hq
      go_wp2_with (go_at_call 64;refine (HN.out _ HB.out).mono ?_;rintro e w2 ⟨rfl,hb⟩;have HB2:=hid (HB.out.trans (hb.mono HB.out.size));clear hb)
      go_ret;exact ⟨rfl,HB2.out⟩
     ·rw [if_pos rfl] at hq
      subst hq
      go_wp2_with (go_at_call 64;refine (HN.out _ HB.out).mono ?_;rintro e w2 ⟨rfl,hb⟩;have HB2:=hid (HB.out.trans (hb.mono HB.out.size));clear hb)
      go_ret;exact ⟨rfl,HB2.out⟩
 ·have hb:decide ((10:Int)<(M:Nat))=true:=decide_eq_true (by have:=of_decide_eq_true hma;omega)
  rw [if_pos rfl] at hQ;subst hQ;clear hns hma
  go_wp2_with (go_at_call 157;refine HM.out.mono ?_;rintro e w1 ⟨rfl,hb⟩;have HB:=hid hb;clear hb)
  go_ret;exact ⟨rfl,HB.out⟩
end Snd
end
end
end Go.Proofs.YtadamccojdocbaaGreatDoor
