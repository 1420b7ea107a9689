/-
  Contracts of the code that the law reaches, and plain laws. Conditions: as each says.
-/
import Derived.Test.YtmlejgdohcpmjaaGreatDoorV10
import Derived.Lib.RabinKarpLaws
set_option linter.all false
set_option maxHeartbeats 40000000
set_option maxRecDepth 100000
namespace Go.Proofs.YtmlejgdohcpmjaaGreatDoor
open Lib (hid)
open Tryz
section
section
namespace Ahd
open Go.RowKit Mem Civ Mom Img Rul
theorem univ_any (rs:List Rule) (A:Option Addr) (c:Nat) (off:Int) (x:Turn) (w:World) (h:Reads w w.heap.size 11 A rs.length (rs.flatMap Rule.cells)) (hn:rs.length<=1000000) (hr:rulesB rs=true) (h1: -9223372036854775808<=x.at_) (h2:x.at_<=9223372036854775807) (hf:0<=x.ref/\x.ref<=2):
  Calls prog 51 #[.slice A rs.length c,.int .i64 off,.agg #[.int .i64 x.at_,.int .i64 x.ref,.int .i64 x.save,.string x.letter]] w fun e w'=>e= .returned (.int .i64 (uniT rs off x))/\Below w.heap.size w w':=by
 have HAh:=hid (fun z (hb:Below w.heap.size w z)=>refAhead_any rs A c x.at_ z ((h.below hb).more hb.size) hn hr h1 h2);rw [aheadD_is hr] at HAh;obtain ⟨x0,x1,x2,x3⟩:=x;simp only at h1 h2 hf HAh ⊢;have hone:=One.new w 90 #[.int .i64 x0,.int .i64 x1,.int .i64 x2,.string x3];obtain ⟨W,hW⟩:∃ W,w.alloc (.cells #[.int .i64 x0,.int .i64 x1,.int .i64 x2,.string x3] 90)=W:=⟨_,rfl⟩;rw [hW] at hone;have HO:=hid hone;have cx:=hone.1.cell;obtain ⟨R,hR⟩:∃ R,uniT rs off ⟨x0,x1,x2,x3⟩=R:=⟨_,rfl⟩;rw [hR];unfold uniT at hR;simp only at hR;clear h hone;obtain ⟨y,hy⟩:∃ y,(aheadO rs x0).getD noTurn=y:=⟨_,rfl⟩;rw [hy] at hR HAh;obtain ⟨y0,y1,y2,y3⟩:=y;simp only [Turn.cells] at HAh hR;generalize (aheadO rs x0).isSome=ok at*;clear hy
 rcases (by omega:x1=0\/x1=1\/x1=2) with rfl|rfl|rfl
 ·rw [if_pos rfl,if_neg (by decide)] at hR
  subst hR;go_enter func51,ntmps51
  go_wp2_with (go_at_call 81;refine (HAh.out _ HO.out.2).mono ?_;rintro e w1 ⟨rfl,hb⟩;have hx1:=HO.out.step hb;have dx:=fun o i=>(hx1.1.alloc o).cell i;have HB:=hid hx1.2;clear hb hx1)
  go_ret;exact ⟨rfl,HB.out.alloc HB.out.size _⟩
 ·rw [if_neg (by decide),if_neg (by decide)] at hR
  subst hR;go_enter func51,ntmps51
  go_wp2_with fail
  go_ret;exact ⟨rfl,HO.out.2⟩
 ·rw [if_neg (by decide),if_pos rfl] at hR
  subst hR;go_enter func51,ntmps51
  go_wp2_with fail
  go_ret;exact ⟨rfl,HO.out.2⟩
theorem reflast_results {w:World} {R0:Nat} {b:Bool} {a0 a1 a2 a3:Value} (h:Blk w R0 90 #[a0,a1,a2,a3]) (tmps:Array Value) (ht:tmps[6]?=some (.pointer (some ⟨R0,0,none⟩))) (h7:tmps[7]?=some (.bool b)):(results Tryz.f107 tmps).run prog w= .ok (.tuple #[.agg #[a0,a1,a2,a3],.bool b]) w:=by
 have hc:=h.cell;simp [results,Tryz.results107,go_sem,hc,ht,h7]
theorem refLast_any (rs:List Rule) (A:Option Addr) (c:Nat) (off at_:Int) (w:World) (h:Reads w w.heap.size 11 A rs.length (rs.flatMap Rule.cells)) (hn:rs.length<=1000000) (hr:rulesB rs=true) (h1: -9223372036854775808<=at_) (h2:at_<=9223372036854775807):
  Calls prog 107 #[.slice A rs.length c,.int .i64 off,.int .i64 at_] w fun e w'=>e= .returned (.tuple #[.agg ((lastD rs off at_).getD noTurn).cells.toArray,.bool (lastD rs off at_).isSome])/\Below w.heap.size w w':=by
 have hY:=fun z=>yearJ_any at_ z h1 h2;have HU:=hid (fun t (ht: -9223372036854775808<=t.at_/\t.at_<=9223372036854775807) (hf:0<=t.ref/\t.ref<=2) z (hb:Below w.heap.size w z)=>univ_any rs A c off t z ((h.below hb).more hb.size) hn hr ht.1 ht.2 hf);obtain ⟨hy1,hy2⟩:=yearJ_bd at_;obtain ⟨Q,hQ⟩:∃ Q,lastD rs off at_=Q:=⟨_,rfl⟩;rw [hQ];unfold lastD docL at hQ;obtain ⟨so,hso⟩:∃ so:Turn->Bool,so=fun x=>decide (uniT rs off x<=at_):=⟨_,rfl⟩;rw [<-hso] at hQ;generalize yearJ at_=Y at*;have hst:=Da.start w;obtain ⟨W,hW⟩:∃ W,(w.alloc (.cells #[.int .i64 0,.int .i64 0,.int .i64 0,.string ⟨#[]⟩] 90)).alloc (.cells #[.int .i64 0,.int .i64 0,.int .i64 0,.string ⟨#[]⟩] 90)=W:=⟨_,rfl⟩;rw [hW] at hst;have HD:=hid hst;have HQ:=hid hQ;have H:=hid h;have HY:=hid hY;have HSo:=hid hso;have HR:=hid hr;have cs:=hst.bst.cell;have fs:=hst.bst.frozen;simp only [Turn.cells,noTurn,Option.getD_none] at cs;have hzero:=hst.set noTurn;simp only [noTurn] at hzero;have HZ:Hid (Da w none _):=⟨hzero.res,hzero.bst,hzero.bel⟩;clear hst hQ h hY hso hr hzero
 have hw2:wrap64 (Y+2)=Y+2:=by unfold wrap64;omega
 have HW2:=hid hw2;clear hw2;go_enter func107,ntmps107
 go_wp2_with fail
 clear cs fs
 go_loopw [9,10] (fun f i wr=>∃ (k:Nat) (best:Option Turn),k<=rs.length/\i= .int .i64 k/\f= .bool best.isSome/\(rs.drop k).foldl (fun b x=>joinT b (docF so x Y)) best=Q/\Da w best wr) (fun _ i _=>rs.length - (intOf i).toNat)
 case atStart=>exact ⟨0,none,Nat.zero_le _,rfl,rfl,by rw [List.drop_zero];exact HQ.out,HZ.out⟩
 case round=>
  clear HD HQ HZ;obtain ⟨k,best,hk,rfl,rfl,hq,hda⟩:=hrel;have HD:=hid hda;clear hda
  by_cases hkn:k<rs.length
  ·obtain ⟨ad,hA,hadb,a0,a1,a2,a3,a4,a5,a6,a7,a8,a9,a10⟩:=rule_cells H.out hkn
   subst hA;have hdr:rs.drop k=rs[k] :: rs.drop (k+1):=List.drop_eq_getElem_cons hkn;rw [hdr,List.foldl_cons] at hq;have hrk:ruleB rs[k]=true:=List.all_eq_true.1 HR.out _ (List.getElem_mem hkn);have hp:ruleP rs[k]:=of_decide_eq_true hrk;have hlo1:1<=rs[k].lo:=hp.1.1
   have hhi1:rs[k].hi<=1000000:=hp.2.1.elim (fun h5=>Int.le_trans h5.2 (by omega)) (fun h5=>by omega)
   have hhi0:1<=rs[k].hi:=hp.2.1.elim (fun h5=>h5.1) (fun h5=>by omega)
   have href:0<=rs[k].ref/\rs[k].ref<=2:=⟨(rule_save HR.out (List.getElem_mem hkn)).2.2.1,(rule_save HR.out (List.getElem_mem hkn)).2.2.2⟩;have hCk:=fun z (hb:Below w.heap.size w z)=>rule_cells (H.out.below hb) hkn;have HCk:=hid hCk;have HT:=hid (fun y z=>R11.turn_any rs[k] y z);have HE:=hid (fun j=>@docF_end so rs[k] Y j);have HH:=hid (fun j t=>@docF_hit so rs[k] Y j t);have HN:=hid (fun j=>@docF_next so rs[k] Y j)
   have htop:(if rs[k].hi<Y+2 then rs[k].hi else Y+2)=docLast rs[k] Y:=rfl
   have htb:docLast rs[k] Y<=1000000/\-300000<=docLast rs[k] Y:=by unfold docLast;split<;>omega
   clear hCk hrk hp hdr;generalize rs[k]=r at*;have HL:=hid (fun z=>lesser_any r.hi (Y+2) z);rw [htop] at HL;clear htop;obtain ⟨D,hD⟩:∃ D,docF so r Y=D:=⟨_,rfl⟩;rw [hD] at HE HH hq;obtain ⟨top,htp⟩:∃ top,docLast r Y=top:=⟨_,rfl⟩;rw [htp] at HE HH HN HL htb;have HQ:=hid hq;clear hD htp hq;obtain ⟨htb1,htb2⟩:=htb;obtain ⟨Cls,hCls⟩:∃ C:World->Prop,C=Da w best:=⟨_,rfl⟩
   have hC:∀ z,Cls z->Da w best z:=fun z h=>by rw [hCls] at h;exact h
   have hstart:Cls wr.drew:=by rw [hCls];exact HD.out.drew
   have inst:Nonempty (Qt.In Cls):=⟨⟨_,hstart⟩⟩
   have z2:∀ z:Qt.In Cls,z.w.cell? ⟨(ad.add (k*11)).block,(ad.add (k*11)).off+2,none⟩=some (.int .i64 r.hi):=fun z=>by
    obtain ⟨ad',e,_,_,_,q2,_⟩:=HCk.out z.w (hC z.w z.h).bel
    obtain rfl:ad=ad':=by injection e
    exact q2
   have HYc:Hid (∀ z,Cls z->Calls prog 49 #[.int .i64 at_] z fun e z'=>e= .returned (.int .i64 Y)/\Cls z'):=fun z h=>(HY.out z).mono fun e z' ⟨he,hb⟩=>⟨he,by rw [hCls];exact (hC z h).step hb⟩
   have HLc:Hid (∀ z,Cls z->Calls prog 114 #[.int .i64 r.hi,.int .i64 (Y+2)] z fun e z'=>e= .returned (.int .i64 top)/\Cls z'):=fun z h=>(HL.out z).mono fun e z' ⟨he,hb⟩=>⟨he,by subst hb;exact h⟩
   have HC:=hid hC;have HS:=hid hstart;clear hC hCls hstart a0 a1 a2 a3 a4 a5 a6 a7 a8 a9 a10 HY HL;go_wp2
   refine Qt.wp_region_cls Cls (by kernel_rfl) (by kernel_rfl) HS.out ?_
   repeat (go_big_quiet_step (first|(go_at_call 49;exact Qt.quiet_cls (HYc.out _ (Qt.In.h _)))|(go_at_call 114;exact Qt.quiet_cls (HLc.out _ (Qt.In.h _)))))
   refine wpQuiet_nil ?_
   rintro wq ⟨⟨w9,hq9⟩,e9⟩
   have HD9:=hid (HC.out wq (by rw [e9];exact hq9))
   clear hq9 e9 z2 HYc HLc HC HS inst HD;go_wp2
   go_loopw [9,11] (fun f y wz=>∃ j:Nat,f= .bool best.isSome/\y= .int .i64 (top - j)/\descF (soL so r) top j=none/\((j:Int)<=top+1 - r.lo\/j=0)/\Da w best wz) (fun _ y _=>(intOf y+1 - r.lo).toNat)
   case atStart=>exact ⟨0,rfl,by simp,rfl,.inr rfl,HD9.out⟩
   case round=>
    clear HD9;obtain ⟨j,rfl,rfl,hdn,hj,hda⟩:=hrel;have HD:=hid hda;have HDn:=hid hdn;obtain ⟨ad',hA,_,a0,a1,a2,a3,a4,a5,a6,a7,a8,a9,a10⟩:=HCk.out _ hda.bel
    obtain rfl:ad=ad':=by injection hA
    clear hda hdn hA
    by_cases hlo:r.lo<=top - j
    ·have hlb:decide (r.lo<=top - j)=true:=decide_eq_true hlo
     have HTj:=hid (HT.out (top - j));have HHj:=hid (fun t=>HH.out j t HDn.out hlo);have HNj:=hid (HN.out j HDn.out)
     cases htl:turnL (top - j) r with
     |none=>
      have hnx:=HNj.out fun t e=>by rw [htl] at e;cases e
      have HNx:=hid hnx;rw [htl] at HTj;simp only [R11.turnV,Rule.cells] at HTj;clear htl hnx HHj HNj
      go_wp2_with (go_at_call 80;refine (HTj.out _).mono ?_;rintro e w5 ⟨rfl,hb⟩;have HD5:=hid (HD.out.step hb);clear hb)
      exact ⟨⟨j+1,rfl,by congr 1;omega,HNx.out,.inl (by omega),HD5.out.alloc _⟩,by simp [intOf];omega⟩
     |some t=>
      rw [htl] at HTj
      have hut:=HU.out t (by have:=turn_bd htl;omega) (by rw [(turnL_at htl).2.2.2];exact href)
      obtain ⟨u,hu⟩:∃ u,uniT rs off t=u:=⟨_,rfl⟩;rw [hu] at hut
      by_cases hs:u<=at_
      ·have hhit:=HHj.out t htl (by rw [HSo.out];exact decide_eq_true (by rw [hu];exact hs))
       have hq:=HQ.out;rw [hhit] at hq
       have hsb:decide (at_<u)=false:=decide_eq_false (by omega)
       obtain ⟨t0,t1,t2,t3⟩:=t;simp only [R11.turnV,Rule.cells,Turn.cells] at HTj hut hq;have HUt:=hid hut;clear htl hs hhit HHj HNj hu hut
       cases best with
       |none=>
        have HQ2:Hid ((rs.drop (k+1)).foldl (fun b x=>joinT b (docF so x Y)) (some ⟨t0,t1,t2,t3⟩)=Q):=hq;clear hq HQ
        go_wp2_with (first
         |(go_at_call 80;refine (HTj.out _).mono ?_;rintro e w5 ⟨rfl,hb⟩;have hx5:=Blk.new w5 90 #[.int .i64 t0,.int .i64 t1,.int .i64 t2,.string t3];have HX5:=hid hx5;have cx5:=hx5.cell;have HD5:=hid ((HD.out.step hb).alloc (.cells #[.int .i64 t0,.int .i64 t1,.int .i64 t2,.string t3] 90));clear hb hx5)
         |(go_at_call 51;refine (HUt.out _ HD5.out.bel).mono ?_;rintro e w6 ⟨rfl,hb⟩;have hx6:=HX5.out.below hb HX5.out.lt;have cx:=hx6.cell;have hd6:=HD5.out.step hb;have cb:=hd6.bst.cell;have fb:=hd6.bst.frozen;simp only [Turn.cells,noTurn,Option.getD_none] at cb;have HD6:=hid hd6;clear hb hx6 hd6 cx5))
        exact ⟨⟨k+1,some ⟨t0,t1,t2,t3⟩,by omega,by go_num,rfl,HQ2.out,HD6.out.set ⟨t0,t1,t2,t3⟩⟩,by simp [intOf];omega⟩
       |some b=>
        obtain ⟨b0,b1,b2,b3⟩:=b
        by_cases hle:b0<=t0
        ·rw [join_le (b:=⟨b0,b1,b2,b3⟩) (t:=⟨t0,t1,t2,t3⟩) hle] at hq
         have HQ2:=hid hq;have hleb:decide (b0<=t0)=true:=decide_eq_true hle;clear hq HQ hle
         go_wp2_with (first
          |(go_at_call 80;refine (HTj.out _).mono ?_;rintro e w5 ⟨rfl,hb⟩;have hx5:=Blk.new w5 90 #[.int .i64 t0,.int .i64 t1,.int .i64 t2,.string t3];have HX5:=hid hx5;have cx5:=hx5.cell;have HD5:=hid ((HD.out.step hb).alloc (.cells #[.int .i64 t0,.int .i64 t1,.int .i64 t2,.string t3] 90));clear hb hx5)
          |(go_at_call 51;refine (HUt.out _ HD5.out.bel).mono ?_;rintro e w6 ⟨rfl,hb⟩;have hx6:=HX5.out.below hb HX5.out.lt;have cx:=hx6.cell;have hd6:=HD5.out.step hb;have cb:=hd6.bst.cell;have fb:=hd6.bst.frozen;simp only [Turn.cells,Option.getD_some] at cb;have HD6:=hid hd6;clear hb hx6 hd6 cx5))
         exact ⟨⟨k+1,some ⟨t0,t1,t2,t3⟩,by omega,by go_num,rfl,HQ2.out,HD6.out.set ⟨t0,t1,t2,t3⟩⟩,by simp [intOf];omega⟩
        ·rw [join_gt (b:=⟨b0,b1,b2,b3⟩) (t:=⟨t0,t1,t2,t3⟩) hle] at hq
         have HQ2:=hid hq;have hleb:decide (b0<=t0)=false:=decide_eq_false hle;clear hq HQ hle
         go_wp2_with (first
          |(go_at_call 80;refine (HTj.out _).mono ?_;rintro e w5 ⟨rfl,hb⟩;have hx5:=Blk.new w5 90 #[.int .i64 t0,.int .i64 t1,.int .i64 t2,.string t3];have HX5:=hid hx5;have cx5:=hx5.cell;have HD5:=hid ((HD.out.step hb).alloc (.cells #[.int .i64 t0,.int .i64 t1,.int .i64 t2,.string t3] 90));clear hb hx5)
          |(go_at_call 51;refine (HUt.out _ HD5.out.bel).mono ?_;rintro e w6 ⟨rfl,hb⟩;have hx6:=HX5.out.below hb HX5.out.lt;have cx:=hx6.cell;have hd6:=HD5.out.step hb;have cb:=hd6.bst.cell;have fb:=hd6.bst.frozen;simp only [Turn.cells,Option.getD_some] at cb;have HD6:=hid hd6;clear hb hx6 hd6 cx5))
         exact ⟨⟨k+1,some ⟨b0,b1,b2,b3⟩,by omega,by go_num,rfl,HQ2.out,HD6.out⟩,by simp [intOf];omega⟩
      ·have hnx:=HNj.out fun t' e=>by
        rw [htl] at e
        injection e with e
        subst e;rw [HSo.out]
        exact decide_eq_false (by rw [hu];exact hs)
       have HNx:=hid hnx
       have hsb:decide (at_<u)=true:=decide_eq_true (by omega)
       obtain ⟨t0,t1,t2,t3⟩:=t;simp only [R11.turnV,Rule.cells,Turn.cells] at HTj hut;have HUt:=hid hut;clear htl hs hnx HHj HNj hu hut
       go_wp2_with (first
        |(go_at_call 80;refine (HTj.out _).mono ?_;rintro e w5 ⟨rfl,hb⟩;have hx5:=Blk.new w5 90 #[.int .i64 t0,.int .i64 t1,.int .i64 t2,.string t3];have HX5:=hid hx5;have cx5:=hx5.cell;have HD5:=hid ((HD.out.step hb).alloc (.cells #[.int .i64 t0,.int .i64 t1,.int .i64 t2,.string t3] 90));clear hb hx5)
        |(go_at_call 51;refine (HUt.out _ HD5.out.bel).mono ?_;rintro e w6 ⟨rfl,hb⟩;have HD6:=hid (HD5.out.step hb);clear hb cx5))
       exact ⟨⟨j+1,rfl,by congr 1;omega,HNx.out,.inl (by omega),HD6.out⟩,by simp [intOf];omega⟩
    ·have hlb:decide (r.lo<=top - j)=false:=decide_eq_false hlo
     have hno:=HE.out j HDn.out hj (by omega)
     have hq:=HQ.out;rw [hno] at hq;have HQ2:Hid ((rs.drop (k+1)).foldl (fun b x=>joinT b (docF so x Y)) best=Q):=hq;clear hno hq HQ hlo;go_wp2
     exact ⟨⟨k+1,best,by omega,by go_num,rfl,HQ2.out,HD.out⟩,by simp [intOf];omega⟩
  ·obtain rfl:k=rs.length:=by omega
   rw [List.drop_length,List.foldl_nil] at hq;subst hq;have cb:=HD.out.bst.cell;have cr:=HD.out.res.cell;have fr:=HD.out.res.frozen;obtain ⟨B,hB⟩:∃ B:Turn,B=best.getD noTurn:=⟨_,rfl⟩;rw [<-hB] at cb;obtain ⟨b0,b1,b2,b3⟩:=B;simp only [Turn.cells] at cb;have HB:=hid hB;clear hB;go_wp2
   refine bodyPost_ret (reflast_results ((((HD.out.res.set_ 0 (.int .i64 b0)).set_ 1 (.int .i64 b1)).set_ 2 (.int .i64 b2)).set_ 3 (.string b3)) _ rfl rfl) rfl ?_
   refine ⟨?_,(((HD.out.bel.setCell (by simp) _).setCell (by simp) _).setCell (by simp) _).setCell (by simp) _⟩
   rw [<-HB.out]
   rfl
theorem bel_next {W W' W'':World} (h:Below W.heap.size W W') (hb:Below W'.heap.size W' W''):Below W.heap.size W W'':=h.trans (hb.mono h.size)
theorem fo_set {g:Nat} {b:Option Turn} {W:World} (h:Blk W g 90 (b.getD noTurn).cells.toArray) (t0 t1 t2:Int) (t3:ByteArray):
  Blk ((((W.setCell ⟨g,0,none⟩ (.int .i64 t0)).setCell ⟨g,1,none⟩ (.int .i64 t1)).setCell ⟨g,2,none⟩ (.int .i64 t2)).setCell ⟨g,3,none⟩ (.string t3)) g 90 ((some (⟨t0,t1,t2,t3⟩:Turn)).getD noTurn).cells.toArray:=by
 have hb:=(((h.set_ 0 (.int .i64 t0)).set_ 1 (.int .i64 t1)).set_ 2 (.int .i64 t2)).set_ 3 (.string t3)
 simpa only [Turn.cells,Option.getD_some,List.setIfInBounds_toArray,List.set_cons_succ,List.set_cons_zero] using hb
theorem refForce_any (rs:List Rule) (A:Option Addr) (c:Nat) (off at_:Int) (w:World) (h:Reads w w.heap.size 11 A rs.length (rs.flatMap Rule.cells)) (hn:rs.length<=1000000) (hr:rulesB rs=true) (h1: -9223372036854775808<=at_) (h2:at_<=9223372036854775807):
  Calls prog 76 #[.slice A rs.length c,.int .i64 off,.int .i64 at_] w fun e w'=>e= .returned (.tuple #[.int .i64 (giveO rs (lastD rs off at_)).1,.string (giveO rs (lastD rs off at_)).2])/\Below w.heap.size w w':=by
 have hL:=refLast_any rs A c off at_ w h hn hr h1 h2
 cases hq:lastD rs off at_ with
 |some x=>
  rw [hq] at hL;obtain ⟨x0,x1,x2,x3⟩:=x;simp only [giveO,Option.getD_some,Option.isSome_some,Turn.cells] at hL ⊢;have HL:=hid hL;clear hL h hr hq;go_enter func76,ntmps76
  go_wp2_with (go_at_call 107;refine HL.out.mono ?_;rintro e w1 ⟨rfl,hb⟩;have hx:=Blk.new w1 90 #[.int .i64 x0,.int .i64 x1,.int .i64 x2,.string x3];have cx:=hx.cell;have HB:=hid (hb.alloc hb.size (.cells #[.int .i64 x0,.int .i64 x1,.int .i64 x2,.string x3] 90));clear hb hx)
  go_region
  go_wp2
  go_ret2
  exact ⟨rfl,HB.out.drew⟩
 |none=>
  rw [hq] at hL;simp only [giveO,Option.getD_none,Option.isSome_none,noTurn,Turn.cells] at hL ⊢;have HL:=hid hL;obtain ⟨F,hF⟩:∃ F,firstP rs=F:=⟨_,rfl⟩;rw [hF];have HF:=hid hF;have H:=hid h;have HR:=hid hr;clear hL hq hF h hr;go_enter func76,ntmps76
  go_wp2_with (go_at_call 107;refine HL.out.mono ?_;rintro e w1 ⟨rfl,hb⟩;have hx:=(Blk.new (w1.alloc (.cells #[.int .i64 0,.int .i64 0,.int .i64 0,.string ⟨#[]⟩] 90)) 90 #[.int .i64 0,.int .i64 0,.int .i64 0,.string ⟨#[]⟩]);have HX:=hid hx;have hsz:=hb.size;have HB:=hid ((hb.alloc hb.size (.cells #[.int .i64 0,.int .i64 0,.int .i64 0,.string ⟨#[]⟩] 90)).alloc (by simp;omega) (.cells #[.int .i64 0,.int .i64 0,.int .i64 0,.string ⟨#[]⟩] 90));clear hb hx)
  go_loopw [11,12] (fun f i wr=>∃ (k:Nat) (best:Option Turn),k<=rs.length/\i= .int .i64 k/\f= .bool best.isSome/\(rs.drop k).foldl firstStep best=firstO rs/\Blk wr (w1.heap.size+1) 90 (best.getD noTurn).cells.toArray/\Below w.heap.size w wr) (fun _ i _=>rs.length - (intOf i).toNat)
  case atStart=>exact ⟨0,none,Nat.zero_le _,rfl,rfl,rfl,by simpa [noTurn,Turn.cells] using HX.out,HB.out⟩
  case round=>
   clear HX HB;obtain ⟨k,best,hk,rfl,rfl,hq,hbl,hbel⟩:=hrel;have HBl:=hid hbl;have HBel:=hid hbel;clear hbl hbel
   by_cases hkn:k<rs.length
   ·obtain ⟨ad,hA,hadb,a0,a1,a2,a3,a4,a5,a6,a7,a8,a9,a10⟩:=rule_cells (H.out.below HBel.out) hkn
    have hadw:ad.block<w.heap.size:=hadb;subst hA;rw [List.drop_eq_getElem_cons hkn,List.foldl_cons] at hq;have hT:=fun z=>R11.turn_any rs[k] rs[k].lo z;generalize rs[k]=r at*;unfold firstStep at hq
    have hlt:(ad.add (k*11)).block<wr.heap.size:=by rw [block_of_add];exact Nat.lt_of_lt_of_le hadw HBel.out.size
    have hkb:decide ((k:Int)<(rs.length:Nat))=true:=decide_eq_true (by omega)
    obtain ⟨V,hV⟩:∃ V,turnL r.lo r=V:=⟨_,rfl⟩;rw [hV] at hT hq;obtain ⟨r0,r1,r2,r3,r4,r5,r6,r7,r8,r9,r10⟩:=r;simp only [Rule.cells] at hT hq a0 a1 a2 a3 a4 a5 a6 a7 a8 a9 a10;clear hV hadb hadw
    cases V with
    |none=>
     simp only [R11.turnV] at hT hq;have HT:=hid hT;have HQ:=hid hq;clear hT hq
     go_wp2_with fail
     have hS:∀ w',Below wr.heap.size wr w'->w'.cell? (ad.add (k*11))=some (.string r0)/\w'.cell? ⟨(ad.add (k*11)).block,(ad.add (k*11)).off+1,none⟩=some (.int .i64 r1)/\w'.cell? ⟨(ad.add (k*11)).block,(ad.add (k*11)).off+2,none⟩=some (.int .i64 r2)/\w'.cell? ⟨(ad.add (k*11)).block,(ad.add (k*11)).off+3,none⟩=some (.int .i64 r3)/\w'.cell? ⟨(ad.add (k*11)).block,(ad.add (k*11)).off+4,none⟩=some (.int .i64 r4)/\w'.cell? ⟨(ad.add (k*11)).block,(ad.add (k*11)).off+5,none⟩=some (.int .i64 r5)/\w'.cell? ⟨(ad.add (k*11)).block,(ad.add (k*11)).off+6,none⟩=some (.int .i64 r6)/\w'.cell? ⟨(ad.add (k*11)).block,(ad.add (k*11)).off+7,none⟩=some (.int .i64 r7)/\w'.cell? ⟨(ad.add (k*11)).block,(ad.add (k*11)).off+8,none⟩=some (.int .i64 r8)/\w'.cell? ⟨(ad.add (k*11)).block,(ad.add (k*11)).off+9,none⟩=some (.int .i64 r9)/\w'.cell? ⟨(ad.add (k*11)).block,(ad.add (k*11)).off+10,none⟩=some (.string r10)/\Below wr.heap.size wr w':=fun w' h=>⟨(h.cell hlt).trans a0,(h.cell (p:=⟨(ad.add (k*11)).block,(ad.add (k*11)).off+1,none⟩) hlt).trans a1,(h.cell (p:=⟨(ad.add (k*11)).block,(ad.add (k*11)).off+2,none⟩) hlt).trans a2,(h.cell (p:=⟨(ad.add (k*11)).block,(ad.add (k*11)).off+3,none⟩) hlt).trans a3,(h.cell (p:=⟨(ad.add (k*11)).block,(ad.add (k*11)).off+4,none⟩) hlt).trans a4,(h.cell (p:=⟨(ad.add (k*11)).block,(ad.add (k*11)).off+5,none⟩) hlt).trans a5,(h.cell (p:=⟨(ad.add (k*11)).block,(ad.add (k*11)).off+6,none⟩) hlt).trans a6,(h.cell (p:=⟨(ad.add (k*11)).block,(ad.add (k*11)).off+7,none⟩) hlt).trans a7,(h.cell (p:=⟨(ad.add (k*11)).block,(ad.add (k*11)).off+8,none⟩) hlt).trans a8,(h.cell (p:=⟨(ad.add (k*11)).block,(ad.add (k*11)).off+9,none⟩) hlt).trans a9,(h.cell (p:=⟨(ad.add (k*11)).block,(ad.add (k*11)).off+10,none⟩) hlt).trans a10,h⟩
     go_cut [13,14] from 28 to 67 (fun s13 s14 wx=>∃ g,s13= .pointer (some ⟨g,0,none⟩)/\s14= .bool false/\Blk wx g 90 #[.int .i64 0,.int .i64 0,.int .i64 0,.string ⟨#[]⟩]/\wr.heap.size<=g/\Below wr.heap.size wr wx)
     case first=>
      have kb0:Below wr.heap.size wr wr.drew:=below_drew wr;clear a0 a1 a2 a3 a4 a5 a6 a7 a8 a9 a10
      go_region_held3 (fun w'=>w'.cell? (ad.add (k*11))=some (.string r0)/\w'.cell? ⟨(ad.add (k*11)).block,(ad.add (k*11)).off+1,none⟩=some (.int .i64 r1)/\w'.cell? ⟨(ad.add (k*11)).block,(ad.add (k*11)).off+2,none⟩=some (.int .i64 r2)/\w'.cell? ⟨(ad.add (k*11)).block,(ad.add (k*11)).off+3,none⟩=some (.int .i64 r3)/\w'.cell? ⟨(ad.add (k*11)).block,(ad.add (k*11)).off+4,none⟩=some (.int .i64 r4)/\w'.cell? ⟨(ad.add (k*11)).block,(ad.add (k*11)).off+5,none⟩=some (.int .i64 r5)/\w'.cell? ⟨(ad.add (k*11)).block,(ad.add (k*11)).off+6,none⟩=some (.int .i64 r6)/\w'.cell? ⟨(ad.add (k*11)).block,(ad.add (k*11)).off+7,none⟩=some (.int .i64 r7)/\w'.cell? ⟨(ad.add (k*11)).block,(ad.add (k*11)).off+8,none⟩=some (.int .i64 r8)/\w'.cell? ⟨(ad.add (k*11)).block,(ad.add (k*11)).off+9,none⟩=some (.int .i64 r9)/\w'.cell? ⟨(ad.add (k*11)).block,(ad.add (k*11)).off+10,none⟩=some (.string r10)/\Below wr.heap.size wr w') (exact hS _ (by go_grown)) ((go_at_call 80;refine (HT.out _).mono ?_;rintro e w5 ⟨rfl,hb⟩;have kb5:=bel_next (W:=wr) (by go_grown) hb;have ks5:=kb5.size;first|(have hz:Blk w5 wr.heap.size 90 #[.int .i64 0,.int .i64 0,.int .i64 0,.string ⟨#[]⟩]:=(Blk.new wr.drew 90 #[.int .i64 0,.int .i64 0,.int .i64 0,.string ⟨#[]⟩]).below hb (Blk.new wr.drew 90 #[.int .i64 0,.int .i64 0,.int .i64 0,.string ⟨#[]⟩]).lt;have c5:=hz.cell;have f5:=hz.frozen;have HZ5:=hid hz;clear hz)|skip))
      all_goals go_wp2_with fail
      all_goals go_meet
      all_goals first
       |exact ⟨_,rfl,rfl,Blk.new _ _ _,ks5,kb5.alloc ks5 _⟩
       |exact ⟨_,rfl,rfl,by have hz:=(((HZ5.out.set_ 0 (.int .i64 0)).set_ 1 (.int .i64 0)).set_ 2 (.int .i64 0)).set_ 3 (.string ⟨#[]⟩);simpa using hz,Nat.le_refl _,(((kb5.setCell (by simp) _).setCell (by simp) _).setCell (by simp) _).setCell (by simp) _⟩
       |exact ⟨_,rfl,rfl,HZ5.out,Nat.le_refl _,kb5⟩
     case rest=>
      obtain ⟨g,rfl,rfl,hx,hg,hwc⟩:=hcut;have hs9:=(hS wc hwc).2.2.2.2.2.2.2.2.2.1;have hl5:=HBl.out.below hwc HBl.out.lt;have HB5:=hid (HBel.out.trans (hwc.mono HBel.out.size));clear hS hwc hg a0 a1 a2 a3 a4 a5 a6 a7 a8 a9 a10;have HL5:=hid hl5;clear hl5 hx hs9
      go_wp2_with fail
      exact ⟨⟨k+1,best,by omega,by go_num,rfl,HQ.out,HL5.out,HB5.out⟩,by simp [intOf];omega⟩
    |some t=>
     obtain ⟨t0,t1,t2,t3⟩:=t;simp only [R11.turnV,Turn.cells] at hT hq;have HT:=hid hT;have HQ:=hid hq;clear hT hq
     go_wp2_with fail
     have hS:∀ w',Below wr.heap.size wr w'->w'.cell? (ad.add (k*11))=some (.string r0)/\w'.cell? ⟨(ad.add (k*11)).block,(ad.add (k*11)).off+1,none⟩=some (.int .i64 r1)/\w'.cell? ⟨(ad.add (k*11)).block,(ad.add (k*11)).off+2,none⟩=some (.int .i64 r2)/\w'.cell? ⟨(ad.add (k*11)).block,(ad.add (k*11)).off+3,none⟩=some (.int .i64 r3)/\w'.cell? ⟨(ad.add (k*11)).block,(ad.add (k*11)).off+4,none⟩=some (.int .i64 r4)/\w'.cell? ⟨(ad.add (k*11)).block,(ad.add (k*11)).off+5,none⟩=some (.int .i64 r5)/\w'.cell? ⟨(ad.add (k*11)).block,(ad.add (k*11)).off+6,none⟩=some (.int .i64 r6)/\w'.cell? ⟨(ad.add (k*11)).block,(ad.add (k*11)).off+7,none⟩=some (.int .i64 r7)/\w'.cell? ⟨(ad.add (k*11)).block,(ad.add (k*11)).off+8,none⟩=some (.int .i64 r8)/\w'.cell? ⟨(ad.add (k*11)).block,(ad.add (k*11)).off+9,none⟩=some (.int .i64 r9)/\w'.cell? ⟨(ad.add (k*11)).block,(ad.add (k*11)).off+10,none⟩=some (.string r10)/\Below wr.heap.size wr w':=fun w' h=>⟨(h.cell hlt).trans a0,(h.cell (p:=⟨(ad.add (k*11)).block,(ad.add (k*11)).off+1,none⟩) hlt).trans a1,(h.cell (p:=⟨(ad.add (k*11)).block,(ad.add (k*11)).off+2,none⟩) hlt).trans a2,(h.cell (p:=⟨(ad.add (k*11)).block,(ad.add (k*11)).off+3,none⟩) hlt).trans a3,(h.cell (p:=⟨(ad.add (k*11)).block,(ad.add (k*11)).off+4,none⟩) hlt).trans a4,(h.cell (p:=⟨(ad.add (k*11)).block,(ad.add (k*11)).off+5,none⟩) hlt).trans a5,(h.cell (p:=⟨(ad.add (k*11)).block,(ad.add (k*11)).off+6,none⟩) hlt).trans a6,(h.cell (p:=⟨(ad.add (k*11)).block,(ad.add (k*11)).off+7,none⟩) hlt).trans a7,(h.cell (p:=⟨(ad.add (k*11)).block,(ad.add (k*11)).off+8,none⟩) hlt).trans a8,(h.cell (p:=⟨(ad.add (k*11)).block,(ad.add (k*11)).off+9,none⟩) hlt).trans a9,(h.cell (p:=⟨(ad.add (k*11)).block,(ad.add (k*11)).off+10,none⟩) hlt).trans a10,h⟩
     go_cut [13,14] from 28 to 67 (fun s13 s14 wx=>∃ g,s13= .pointer (some ⟨g,0,none⟩)/\s14= .bool true/\Blk wx g 90 #[.int .i64 t0,.int .i64 t1,.int .i64 t2,.string t3]/\wr.heap.size<=g/\Below wr.heap.size wr wx)
     case first=>
      have kb0:Below wr.heap.size wr wr.drew:=below_drew wr;clear a0 a1 a2 a3 a4 a5 a6 a7 a8 a9 a10
      go_region_held3 (fun w'=>w'.cell? (ad.add (k*11))=some (.string r0)/\w'.cell? ⟨(ad.add (k*11)).block,(ad.add (k*11)).off+1,none⟩=some (.int .i64 r1)/\w'.cell? ⟨(ad.add (k*11)).block,(ad.add (k*11)).off+2,none⟩=some (.int .i64 r2)/\w'.cell? ⟨(ad.add (k*11)).block,(ad.add (k*11)).off+3,none⟩=some (.int .i64 r3)/\w'.cell? ⟨(ad.add (k*11)).block,(ad.add (k*11)).off+4,none⟩=some (.int .i64 r4)/\w'.cell? ⟨(ad.add (k*11)).block,(ad.add (k*11)).off+5,none⟩=some (.int .i64 r5)/\w'.cell? ⟨(ad.add (k*11)).block,(ad.add (k*11)).off+6,none⟩=some (.int .i64 r6)/\w'.cell? ⟨(ad.add (k*11)).block,(ad.add (k*11)).off+7,none⟩=some (.int .i64 r7)/\w'.cell? ⟨(ad.add (k*11)).block,(ad.add (k*11)).off+8,none⟩=some (.int .i64 r8)/\w'.cell? ⟨(ad.add (k*11)).block,(ad.add (k*11)).off+9,none⟩=some (.int .i64 r9)/\w'.cell? ⟨(ad.add (k*11)).block,(ad.add (k*11)).off+10,none⟩=some (.string r10)/\Below wr.heap.size wr w') (exact hS _ (by go_grown)) ((go_at_call 80;refine (HT.out _).mono ?_;rintro e w5 ⟨rfl,hb⟩;have kb5:=bel_next (W:=wr) (by go_grown) hb;have ks5:=kb5.size;first|(have hz:Blk w5 wr.heap.size 90 #[.int .i64 0,.int .i64 0,.int .i64 0,.string ⟨#[]⟩]:=(Blk.new wr.drew 90 #[.int .i64 0,.int .i64 0,.int .i64 0,.string ⟨#[]⟩]).below hb (Blk.new wr.drew 90 #[.int .i64 0,.int .i64 0,.int .i64 0,.string ⟨#[]⟩]).lt;have c5:=hz.cell;have f5:=hz.frozen;have HZ5:=hid hz;clear hz)|skip))
      all_goals go_wp2_with fail
      all_goals go_meet
      all_goals first
       |exact ⟨_,rfl,rfl,Blk.new _ _ _,ks5,kb5.alloc ks5 _⟩
       |exact ⟨_,rfl,rfl,by have hz:=(((HZ5.out.set_ 0 (.int .i64 t0)).set_ 1 (.int .i64 t1)).set_ 2 (.int .i64 t2)).set_ 3 (.string t3);simpa using hz,Nat.le_refl _,(((kb5.setCell (by simp) _).setCell (by simp) _).setCell (by simp) _).setCell (by simp) _⟩
       |exact ⟨_,rfl,rfl,HZ5.out,Nat.le_refl _,kb5⟩
     case rest=>
      obtain ⟨g,rfl,rfl,hx,hg,hwc⟩:=hcut;have hs9:=(hS wc hwc).2.2.2.2.2.2.2.2.2.1;have hl5:=HBl.out.below hwc HBl.out.lt;have HB5:=hid (HBel.out.trans (hwc.mono HBel.out.size));clear hS hwc hg a0 a1 a2 a3 a4 a5 a6 a7 a8 a9 a10;have cx:=hx.cell;have cb:=hl5.cell;have fb:=hl5.frozen;have HL5:=hid hl5;clear hl5 hx HT
      by_cases hs:r9=0
      ·have hsb:(r9 == 0)=true:=by simp [hs]
       have hq:=HQ.out;rw [if_pos hs] at hq;clear hs
       cases best with
       |none=>
        have HQ2:Hid ((rs.drop (k+1)).foldl firstStep (some ⟨t0,t1,t2,t3⟩)=firstO rs):=hq;simp only [Turn.cells,noTurn,Option.getD_none] at cb;clear hq HQ
        go_wp2_with fail
        exact ⟨⟨k+1,some ⟨t0,t1,t2,t3⟩,by omega,by go_num,rfl,HQ2.out,fo_set HL5.out t0 t1 t2 t3,(((HB5.out.setCell (Nat.le_succ_of_le hsz) _).setCell (Nat.le_succ_of_le hsz) _).setCell (Nat.le_succ_of_le hsz) _).setCell (Nat.le_succ_of_le hsz) _⟩,by simp [intOf];omega⟩
       |some b=>
        obtain ⟨b0,b1,b2,b3⟩:=b;simp only [lessT] at hq;simp only [Turn.cells,Option.getD_some] at cb
        cases hd:decide (t0<b0)
        ·rw [if_neg (of_decide_eq_false hd)] at hq
         have HQ2:Hid ((rs.drop (k+1)).foldl firstStep (some ⟨b0,b1,b2,b3⟩)=firstO rs):=hq;clear hq HQ
         go_wp2_with fail
         exact ⟨⟨k+1,some ⟨b0,b1,b2,b3⟩,by omega,by go_num,rfl,HQ2.out,HL5.out,HB5.out⟩,by simp [intOf];omega⟩
        ·rw [if_pos (of_decide_eq_true hd)] at hq
         have HQ2:Hid ((rs.drop (k+1)).foldl firstStep (some ⟨t0,t1,t2,t3⟩)=firstO rs):=hq;clear hq HQ
         go_wp2_with fail
         exact ⟨⟨k+1,some ⟨t0,t1,t2,t3⟩,by omega,by go_num,rfl,HQ2.out,fo_set HL5.out t0 t1 t2 t3,(((HB5.out.setCell (Nat.le_succ_of_le hsz) _).setCell (Nat.le_succ_of_le hsz) _).setCell (Nat.le_succ_of_le hsz) _).setCell (Nat.le_succ_of_le hsz) _⟩,by simp [intOf];omega⟩
      ·have hsb:(r9 == 0)=false:=by simp [hs]
       have hq:=HQ.out;rw [if_neg hs] at hq;have HQ2:=hid hq;clear hq HQ hs
       go_wp2_with fail
       exact ⟨⟨k+1,best,by omega,by go_num,rfl,HQ2.out,HL5.out,HB5.out⟩,by simp [intOf];omega⟩
   ·obtain rfl:k=rs.length:=by omega
    rw [List.drop_length,List.foldl_nil] at hq;have hbc:=HBl.out.cell;have hF2:=HF.out;unfold firstP at hF2;rw [<-hq] at hF2;obtain ⟨B,hB⟩:∃ B:Turn,B=best.getD noTurn:=⟨_,rfl⟩;rw [<-hB] at hbc hF2;obtain ⟨b0,b1,b2,b3⟩:=B;simp only [Turn.cells] at hbc hF2;subst hF2;clear hB hq HF;go_wp2
    go_region
    go_wp2
    go_ret2
    exact ⟨rfl,HBel.out.drew⟩
end Ahd
end
end
section
section
namespace Cmq
open Go.RowKit Mem Img Abr
theorem replace1_hit {s old new:List UInt8} {i:Nat} (h:Lib.index s old=i):Lib.replace s old new 1=s.take i++new++s.drop (i+old.length):=by
 unfold Lib.replace
 split
 ·next he=>
  have he:old=new:=by simpa using he
  subst he
  rcases Lib.index_spec s old with ⟨h1,_⟩|⟨j,h1,h2,h3,_⟩
  ·omega
  ·obtain rfl:i=j:=by omega
   unfold Lib.occAt at h3;obtain ⟨t,ht⟩:=List.isPrefixOf_iff_prefix.1 h3
   have hd:s.drop (i+old.length)=t:=by
    rw [<-List.drop_drop,<-ht,List.drop_left]
   rw [hd,List.append_assoc,ht,List.take_append_drop]
 ·have hc:1<=Lib.count s old:=by
   unfold Lib.count Lib.countFrom
   rw [if_neg (by rw [h,beq_iff_eq];omega)]
   omega
  have hn:Lib.replaceNum s old 1=1:=by
   unfold Lib.replaceNum
   rw [if_neg (by omega)]
   rfl
  rw [hn,Lib.replaceK_hit _ _ _ _ _ h]
  rfl
theorem pre_eq (f:ByteArray) (i:Nat):(⟨(f.data.toList.take i).toArray⟩:ByteArray)=f.extract 0 i:=by
 rw [Lib.extract_eq];simp
theorem suf_eq (f:ByteArray) (i:Nat):(⟨(f.data.toList.drop i).toArray⟩:ByteArray)=f.extract i f.size:=by
 rw [Lib.extract_eq]
 congr 2
 rw [List.take_of_length_le];rw [List.length_drop,<-Lib.size_eq];exact Nat.le_refl _
theorem mk_app (a b:List UInt8):(⟨(a++b).toArray⟩:ByteArray)=⟨a.toArray⟩++⟨b.toArray⟩:=by
 refine ByteArray.ext ?_
 rw [ByteArray.data_append];simp
theorem rep_eq {f new:ByteArray} {old:List UInt8} {i:Nat} (h:Lib.index f.data.toList old=i):(⟨(Lib.replace f.data.toList old new.data.toList 1).toArray⟩:ByteArray)=f.extract 0 i++new++f.extract (i+old.length) f.size:=by
 rw [replace1_hit h,mk_app,mk_app,pre_eq,suf_eq,Lib.mk_data]
section
variable {f l:ByteArray} {off save:Int} {i:Nat}
theorem abbr_s (h:Lib.index f.data.toList [37,115]=i):abbrB f l off save=f.extract 0 i++l++f.extract (i+2) f.size:=by
 unfold abbrB Lib.contains
 rw [if_pos (by rw [h];exact decide_eq_true (by omega)),rep_eq h]
 rfl
theorem abbr_z (h0:Lib.index f.data.toList [37,115]= -1) (h:Lib.index f.data.toList [37,122]=i):abbrB f l off save=f.extract 0 i++toldB off++f.extract (i+2) f.size:=by
 unfold abbrB Lib.contains
 rw [if_neg (by rw [h0];decide),if_pos (by rw [h];exact decide_eq_true (by omega)),rep_eq h]
 rfl
theorem abbr_no (h0:Lib.index f.data.toList [37,115]= -1) (h1:Lib.index f.data.toList [37,122]= -1) (h:Lib.index f.data.toList [47]= -1):abbrB f l off save=f:=by
 unfold abbrB Lib.contains Lib.cut
 have hc:¬ 0<=Lib.index f.data.toList [47]:=by omega
 rw [if_neg (by rw [h0];decide),if_neg (by rw [h1];decide)]
 simp only [if_neg hc,Bool.false_and,Bool.false_eq_true,if_false]
theorem abbr_a (h0:Lib.index f.data.toList [37,115]= -1) (h1:Lib.index f.data.toList [37,122]= -1) (h:Lib.index f.data.toList [47]=i) (hs:save=0):abbrB f l off save=f.extract 0 i:=by
 unfold abbrB Lib.contains Lib.cut
 rw [if_neg (by rw [h0];decide),if_neg (by rw [h1];decide),if_pos (show 0<=Lib.index f.data.toList [47] by omega),if_neg (by simp [hs]),h]
 exact pre_eq f i
theorem abbr_b (h0:Lib.index f.data.toList [37,115]= -1) (h1:Lib.index f.data.toList [37,122]= -1) (h:Lib.index f.data.toList [47]=i) (hs:save≠0):abbrB f l off save=f.extract (i+1) f.size:=by
 unfold abbrB Lib.contains Lib.cut
 rw [if_neg (by rw [h0];decide),if_neg (by rw [h1];decide),if_pos (show 0<=Lib.index f.data.toList [47] by omega),if_pos (by simp [hs]),h]
 exact suf_eq f (i+1)
end
end Cmq
end
end
end Go.Proofs.YtmlejgdohcpmjaaGreatDoor
