/-
  Contracts of the code that the law reaches, and plain laws. Conditions: as each says.
-/
import Derived.Test.YtmlejgdohcpmjaaGreatDoorV38
import Derived.Test.YtmlejgdohcpmjaaGreatDoorV22
set_option linter.all false
set_option maxHeartbeats 40000000
set_option maxRecDepth 100000
namespace Go.Proofs.YtmlejgdohcpmjaaGreatDoor
open Lib (hid)
open Tryz
section
section
namespace Cmq
open Go.RowKit Mem Civ Mom Img Plc Rul Ahd Src Snd Att Abr
def phD (x:Era) (f:Int×ByteArray):Phase:=⟨x.off+f.1,f.1,abbrB x.format f.2 (x.off+f.1) f.1⟩
theorem setL_mm {rs:List Rule} {nm:ByteArray} {r:Rule}:r∈setL rs nm↔r∈rs/\r.name=nm:=by
 unfold setL;simp [List.mem_filter]
theorem bel_nx {W W' W'':World} (h:Below W.heap.size W W') (hb:Below W'.heap.size W' W''):Below W.heap.size W W'':=h.trans (hb.mono h.size)
structure EraD (x:Era):Prop where
 off: -86400<x.off/\x.off<86400
 save: -43200<=x.save/\x.save<=43200
 zero:x.kind≠2->x.kind≠1->x.save=0
 fmt:x.format.size<=2097152
theorem savE_doc {rs:List Rule} {x:Era} (h:EraD x) (t:Int):savE rs x t=if x.kind=2 then forceP (setL rs x.rules) x.off t else (x.save,⟨#[]⟩):=by
 unfold savE
 by_cases hk:x.kind=2
 ·have e:setOf rs x=setL rs x.rules:=by unfold setOf;rw [if_pos hk]
  rw [if_pos hk,if_pos hk,e]
 ·rw [if_neg hk,if_neg hk]
  by_cases h1:x.kind=1
  ·rw [if_pos h1]
  ·rw [if_neg h1,h.zero hk h1]
theorem give_force {rs:List Rule} {off t:Int} (hr:rulesB rs=true) (h1: -86400<off) (h2:off<86400):giveO rs (lastD rs off t)=forceP rs off t:=by
 unfold forceP;rw [if_pos ⟨hr,h1,h2⟩,lastD_is hr h1 h2]
theorem rph_results {w:World} {R0:Nat} {a0 a1 a2:Value} (h:Blk w R0 23 #[a0,a1,a2]) (tmps:Array Value) (ht:tmps[6]?=some (.pointer (some ⟨R0,0,none⟩))):
  (results Tryz.f47 tmps).run prog w= .ok (.agg #[a0,a1,a2]) w:=by
 have hc:=h.cell;simp [results,Tryz.results47,go_sem,hc,ht]
structure Ph3 (w:World) (cs es:Array Value) (W:World):Prop where
 src:Blk W w.heap.size 82 cs
 era:Blk W (w.heap.size+1) 84 es
 res:Blk W (w.heap.size+1+1) 23 #[.int .i64 0,.int .i64 0,.string ⟨#[]⟩]
 bel:Below w.heap.size w W
theorem Ph3.step {w W W':World} {cs es:Array Value} (h:Ph3 w cs es W) (hb:Below W.heap.size W W'):Ph3 w cs es W':=
 ⟨h.src.below hb h.src.lt,h.era.below hb h.era.lt,h.res.below hb h.res.lt,h.bel.trans (hb.mono h.bel.size)⟩
theorem Ph3.drew {w W:World} {cs es:Array Value} (h:Ph3 w cs es W):Ph3 w cs es W.drew:=⟨h.src.drew,h.era.drew,h.res.drew,h.bel.drew⟩
theorem rphase_any (s:Src) (A A2 A3:Option Addr) (c c2 c3:Nat) (x:Era) (t:Int) (w:World) (h:SrcOk s A A2 A3 w) (hs:rulesB s.rules=true) (hx:EraD x) (h1: -9223372036854775808<=t) (h2:t<=9223372036854775807):
  Calls prog 47 #[.agg #[.slice A s.rules.length c,.slice A2 s.zones.length c2,.slice A3 s.links.length c3],.agg x.cells.toArray,.int .i64 t] w fun e w'=>
   e= .returned (.agg #[.int .i64 (phaseE s.rules x t).off,.int .i64 (phaseE s.rules x t).save,.string (phaseE s.rules x t).abbr])/\Below w.heap.size w w':=by
 have hsv:phaseE s.rules x t=phD x (savE s.rules x t):=rfl;rw [hsv,savE_doc hx];have hlen:=Nat.le_trans (setL_len s.rules x.rules) h.nr;have hrs:=set_right hs x.rules;have hfo:=force_ok (setL s.rules x.rules) x.off t (fun r hr=>(h.tr r (setL_mm.1 hr).1).2);have hgv:=give_force (t:=t) hrs hx.off.1 hx.off.2;have HS:=hid (fun z (hb:Below w.heap.size w z)=>rset_any s A A2 A3 c c2 c3 x.rules z (h.below hb));have HF:=hid (fun Ae ce z hr=>refForce_any (setL s.rules x.rules) Ae ce x.off t z hr hlen hrs h1 h2);rw [hgv] at HF;have ho:=hx.off;have hsb:=hx.save;have hfm:=hx.fmt;clear h hs hx hsv hgv hrs hlen;obtain ⟨rs,zs,ls⟩:=s;obtain ⟨x0,x1,x2,x3,x4,x5,x6,⟨y0,y1,y2,y3,y4,y5⟩⟩:=x;simp only [Era.cells,phD] at HS HF hfo ho hsb hfm ⊢;have hb3:=box3 w 82 84 23 #[.slice A rs.length c,.slice A2 zs.length c2,.slice A3 ls.length c3] #[.int .i64 x0,.int .i64 x1,.int .i64 x2,.string x3,.string x4,.bool x5,.int .i64 x6,.int .i64 y0,.int .i64 y1,.int .i64 y2,.int .i64 y3,.int .i64 y4,.int .i64 y5] #[.int .i64 0,.int .i64 0,.string ⟨#[]⟩];obtain ⟨W,hW⟩:∃ W,((w.alloc (.cells #[.slice A rs.length c,.slice A2 zs.length c2,.slice A3 ls.length c3] 82)).alloc (.cells #[.int .i64 x0,.int .i64 x1,.int .i64 x2,.string x3,.string x4,.bool x5,.int .i64 x6,.int .i64 y0,.int .i64 y1,.int .i64 y2,.int .i64 y3,.int .i64 y4,.int .i64 y5] 84)).alloc (.cells #[.int .i64 0,.int .i64 0,.string ⟨#[]⟩] 23)=W:=⟨_,rfl⟩;rw [hW] at hb3;obtain ⟨b0,b1,b2,hbw,hsz⟩:=hb3;have HP:Hid (Ph3 w #[.slice A rs.length c,.slice A2 zs.length c2,.slice A3 ls.length c3] #[.int .i64 x0,.int .i64 x1,.int .i64 x2,.string x3,.string x4,.bool x5,.int .i64 x6,.int .i64 y0,.int .i64 y1,.int .i64 y2,.int .i64 y3,.int .i64 y4,.int .i64 y5] W):=⟨b0,b1,b2,hbw⟩;have c1:=b1.cell;clear b0 b1 b2 hbw
 by_cases hk:x1=2
 ·subst hk
  rw [if_pos rfl];obtain ⟨⟨fs,fl⟩,hF⟩:∃ f,forceP (setL rs x3) x0 t=f:=⟨_,rfl⟩;rw [hF] at HF hfo ⊢;simp only at HF hfo ⊢;obtain ⟨ab,hab⟩:∃ ab,abbrB x4 fl (x0+fs) fs=ab:=⟨_,rfl⟩;rw [hab];have Hab:=hid hab;clear hab;go_enter func47,ntmps47
  go_wp2_with fail
  have hSW:∀ z,Below W.heap.size W z->Calls prog 77 #[.agg #[.slice A rs.length c,.slice A2 zs.length c2,.slice A3 ls.length c3],.string x3] z fun e w'=>∃ v,e= .returned v/\w'.ownsRow z.heap.size 69 11 v (setL rs x3).length ((setL rs x3).flatMap Rule.cells)/\Below z.heap.size z w':=fun z hb=>HS.out z (HP.out.bel.trans (hb.mono HP.out.bel.size));have hKe:∀ w',Below W.heap.size W w'->w'.cell? ⟨w.heap.size,0,none⟩=some (.slice A rs.length c)/\w'.cell? ⟨w.heap.size,1,none⟩=some (.slice A2 zs.length c2)/\w'.cell? ⟨w.heap.size,2,none⟩=some (.slice A3 ls.length c3)/\w'.cell? ⟨w.heap.size+1,3,none⟩=some (.string x3)/\w'.cell? ⟨w.heap.size+1,0,none⟩=some (.int .i64 x0)/\Below W.heap.size W w':=fun w' h=>⟨(HP.out.step h).src.cell 0,(HP.out.step h).src.cell 1,(HP.out.step h).src.cell 2,(HP.out.step h).era.cell 3,(HP.out.step h).era.cell 0,h⟩;have HSW:=hid hSW;have HKe:=hid hKe;have kb0:Below W.heap.size W W.drew:=below_drew W;clear hSW hKe c1
  go_region_held3 (fun w'=>w'.cell? ⟨w.heap.size,0,none⟩=some (.slice A rs.length c)/\w'.cell? ⟨w.heap.size,1,none⟩=some (.slice A2 zs.length c2)/\w'.cell? ⟨w.heap.size,2,none⟩=some (.slice A3 ls.length c3)/\w'.cell? ⟨w.heap.size+1,3,none⟩=some (.string x3)/\w'.cell? ⟨w.heap.size+1,0,none⟩=some (.int .i64 x0)/\Below W.heap.size W w') (exact HKe.out _ (by go_grown)) (first
   |(go_at_call 77;refine (HSW.out _ (by go_grown)).mono ?_;rintro e w5 ⟨v,rfl,hown,hb⟩;obtain ⟨Av,cv,rfl⟩:=own_slice hown;have kb5:=bel_nx (W:=W) (by go_grown) hb;have ks5:=kb5.size;have HRv:=hid (Reads.of_own hown);clear hown)
   |(go_at_call 76;refine (HF.out _ _ _ HRv.out).mono ?_;rintro e w6 ⟨rfl,hb6⟩;have kb6:=bel_nx (W:=W) (by go_grown) hb6;have ks6:=kb6.size))
  all_goals
   have HP6:=hid (HP.out.step kb6);clear kb0 kb5 kb6 ks5 ks6 hb hb6 HRv HSW HKe
   go_wp2_with fail
   have hw:IntKind.i64.wrap (x0+fs)=x0+fs:=by rw [IntKind.wrap_i64];omega
   obtain ⟨Cls,hCls⟩:∃ C:World->Prop,C=Ph3 w #[.slice A rs.length c,.slice A2 zs.length c2,.slice A3 ls.length c3] #[.int .i64 x0,.int .i64 2,.int .i64 x2,.string x3,.string x4,.bool x5,.int .i64 x6,.int .i64 y0,.int .i64 y1,.int .i64 y2,.int .i64 y3,.int .i64 y4,.int .i64 y5]:=⟨_,rfl⟩
   have hC:∀ z,Cls z->Ph3 w #[.slice A rs.length c,.slice A2 zs.length c2,.slice A3 ls.length c3] #[.int .i64 x0,.int .i64 2,.int .i64 x2,.string x3,.string x4,.bool x5,.int .i64 x6,.int .i64 y0,.int .i64 y1,.int .i64 y2,.int .i64 y3,.int .i64 y4,.int .i64 y5] z:=fun z h=>by rw [hCls] at h;exact h
   have hstart:Cls w6.drew:=by rw [hCls];exact HP6.out.drew
   have inst:Nonempty (Qt.In Cls):=⟨⟨_,hstart⟩⟩;have gE:∀ (z:Qt.In Cls) (i:Nat),z.w.cell? ⟨w.heap.size+1,i,none⟩=#[.int .i64 x0,.int .i64 2,.int .i64 x2,.string x3,.string x4,.bool x5,.int .i64 x6,.int .i64 y0,.int .i64 y1,.int .i64 y2,.int .i64 y3,.int .i64 y4,.int .i64 y5][i]?:=fun z i=>(hC z.w z.h).era.cell i
   have HAc:Hid (∀ z,Cls z->Calls prog 78 #[.string x4,.string fl,.int .i64 (x0+fs),.int .i64 fs] z fun e z'=>e= .returned (.string ab)/\Cls z'):=fun z h=>by
    rw [<-Hab.out]
    exact (rabbr_any x4 fl (x0+fs) fs z hfm hfo.2.2 (by omega) (by omega)).mono fun e z' ⟨he,hb⟩=>⟨he,by rw [hCls];exact (hC z h).step hb⟩
   have HCx:=hid hC;have HSt:=hid hstart;clear hC hstart hCls HP HS HF
   refine Qt.wp_region_cls_tail Cls 15 (by kernel_rfl) (by kernel_rfl) HSt.out ?_
   simp only [List.take_succ_cons,List.take_zero,List.drop_succ_cons,List.drop_zero]
   repeat (go_big_quiet_step ((go_at_call 78;exact Qt.quiet_cls (HAc.out _ (Qt.In.h _)))))
   refine wpQuiet_nil ?_
   rintro wq ⟨⟨w9,hq⟩,e9⟩
   have HX:=hid (HCx.out wq (by rw [e9];exact hq))
   clear hq e9 gE inst HAc HCx HSt;have cR:=HX.out.res.cell;have fR:=HX.out.res.frozen
   go_wp2_with fail
   refine bodyPost_ret (rph_results (((HX.out.res.set_ 0 (.int .i64 (x0+fs))).set_ 1 (.int .i64 fs)).set_ 2 (.string ab)) _ rfl) rfl ?_
   exact ⟨rfl,((HX.out.bel.setCell (by simp;omega) _).setCell (by simp;omega) _).setCell (by simp;omega) _⟩
 ·rw [if_neg hk]
  have hkb:(x1 == 2)=false:=by simp [hk]
  simp only;obtain ⟨ab,hab⟩:∃ ab,abbrB x4 ⟨#[]⟩ (x0+x2) x2=ab:=⟨_,rfl⟩;rw [hab];have Hab:=hid hab;clear hab
  have hz0:(⟨#[]⟩:ByteArray).size<=2097152:=by decide
  go_enter func47,ntmps47
  go_wp2_with fail
  have hw:IntKind.i64.wrap (x0+x2)=x0+x2:=by rw [IntKind.wrap_i64];omega
  obtain ⟨Cls,hCls⟩:∃ C:World->Prop,C=Ph3 w #[.slice A rs.length c,.slice A2 zs.length c2,.slice A3 ls.length c3] #[.int .i64 x0,.int .i64 x1,.int .i64 x2,.string x3,.string x4,.bool x5,.int .i64 x6,.int .i64 y0,.int .i64 y1,.int .i64 y2,.int .i64 y3,.int .i64 y4,.int .i64 y5]:=⟨_,rfl⟩
  have hC:∀ z,Cls z->Ph3 w #[.slice A rs.length c,.slice A2 zs.length c2,.slice A3 ls.length c3] #[.int .i64 x0,.int .i64 x1,.int .i64 x2,.string x3,.string x4,.bool x5,.int .i64 x6,.int .i64 y0,.int .i64 y1,.int .i64 y2,.int .i64 y3,.int .i64 y4,.int .i64 y5] z:=fun z h=>by rw [hCls] at h;exact h
  have hstart:Cls W.drew:=by rw [hCls];exact HP.out.drew
  have inst:Nonempty (Qt.In Cls):=⟨⟨_,hstart⟩⟩;have gE:∀ (z:Qt.In Cls) (i:Nat),z.w.cell? ⟨w.heap.size+1,i,none⟩=#[.int .i64 x0,.int .i64 x1,.int .i64 x2,.string x3,.string x4,.bool x5,.int .i64 x6,.int .i64 y0,.int .i64 y1,.int .i64 y2,.int .i64 y3,.int .i64 y4,.int .i64 y5][i]?:=fun z i=>(hC z.w z.h).era.cell i
  have HAc:Hid (∀ z,Cls z->Calls prog 78 #[.string x4,.string ⟨#[]⟩,.int .i64 (x0+x2),.int .i64 x2] z fun e z'=>e= .returned (.string ab)/\Cls z'):=fun z h=>by
   rw [<-Hab.out]
   exact (rabbr_any x4 ⟨#[]⟩ (x0+x2) x2 z hfm hz0 (by omega) (by omega)).mono fun e z' ⟨he,hb⟩=>⟨he,by rw [hCls];exact (hC z h).step hb⟩
  have HCx:=hid hC;have HSt:=hid hstart;clear hC hstart hCls HS HF c1
  refine Qt.wp_region_cls_tail Cls 15 (by kernel_rfl) (by kernel_rfl) HSt.out ?_
  simp only [List.take_succ_cons,List.take_zero,List.drop_succ_cons,List.drop_zero]
  repeat (go_big_quiet_step ((go_at_call 78;exact Qt.quiet_cls (HAc.out _ (Qt.In.h _)))))
  refine wpQuiet_nil ?_
  rintro wq ⟨⟨w9,hq⟩,e9⟩
  have HX:=hid (HCx.out wq (by rw [e9];exact hq))
  clear hq e9 gE inst HAc HCx HSt;have cR:=HX.out.res.cell;have fR:=HX.out.res.frozen
  go_wp2_with fail
  refine bodyPost_ret (rph_results (((HX.out.res.set_ 0 (.int .i64 (x0+x2))).set_ 1 (.int .i64 x2)).set_ 2 (.string ab)) _ rfl) rfl ?_
  exact ⟨rfl,((HX.out.bel.setCell (by simp;omega) _).setCell (by simp;omega) _).setCell (by simp;omega) _⟩
end Cmq
end
end
section
section
namespace Cmq
open Go.RowKit Mem Civ Mom Img Plc Rul Ahd Src Snd Att Rgt Abr
def nmT (r:Rule):Rule:={ r with name:=⟨#[116]⟩ }
theorem rulesB_nm (l:List Rule):rulesB (l.map nmT)=rulesB l:=by
 unfold rulesB;rw [List.all_map]
 rfl
theorem latest_nm (so:Turn->Bool) (y:Int) (l:List Rule):latestL so y (l.map nmT)=latestL so y l:=by
 unfold latestL;rw [List.foldl_map]
 rfl
theorem ahead_nm (l:List Rule) (a:Int):aheadO (l.map nmT) a=aheadO l a:=by
 unfold aheadO;rw [rulesB_nm,latest_nm]
theorem uni_nm (l:List Rule) (off:Int) (t:Turn):uniT (l.map nmT) off t=uniT l off t:=by
 unfold uniT;rw [ahead_nm]
theorem first_nm (l:List Rule):firstP (l.map nmT)=firstP l:=by
 unfold firstP firstO;rw [List.foldl_map]
 rfl
theorem give_nm (l:List Rule) (o:Option Turn):giveO (l.map nmT) o=giveO l o:=by
 cases o with
 |none=>unfold giveO;rw [first_nm]
 |some x=>rfl
theorem force_nm (l:List Rule) (off t:Int):forceP (l.map nmT) off t=forceP l off t:=by
 unfold forceP
 have e:(fun x=>decide (uniT (l.map nmT) off x<=t))=fun x=>decide (uniT l off x<=t):=by
  funext x
  rw [uni_nm]
 rw [rulesB_nm,e,latest_nm,give_nm]
theorem setL_nm (l:List Rule):setL (l.map nmT) ⟨#[116]⟩=l.map nmT:=by
 unfold setL;rw [List.filter_eq_self];intro r hr;obtain ⟨a,_,rfl⟩:=List.mem_map.1 hr;exact decide_eq_true rfl
def eraT (x:Table):Era:=⟨x.off,2,0,⟨#[116]⟩,x.format,false,0,⟨0,0,0,0,0,0⟩⟩
theorem tail_phase (x:Table) (t:Int):phaseE (x.tail.map nmT) (eraT x) t=tailP x t:=by
 have h:phaseE (x.tail.map nmT) (eraT x) t=phD (eraT x) (savE (x.tail.map nmT) (eraT x) t):=rfl
 have hs:savE (x.tail.map nmT) (eraT x) t=forceP x.tail x.off t:=by
  unfold savE;rw [if_pos (show (eraT x).kind=2 from rfl)]
  have e:setOf (x.tail.map nmT) (eraT x)=x.tail.map nmT:=by
   unfold setOf;rw [if_pos (show (eraT x).kind=2 from rfl)];exact setL_nm x.tail
  rw [e];exact force_nm x.tail x.off t
 rw [h,hs]
 rfl
theorem named_step {l:List Rule} {k:Nat} (hk:k<l.length):(l.take (k+1)).map nmT=(l.take k).map nmT++[nmT l[k]]:=by
 rw [List.take_succ_eq_append_getElem hk,List.map_append]
 rfl
theorem named14_any (l:List Rule) (A:Option Addr) (c:Nat) (w:World) (h:Reads w w.heap.size 11 A l.length (l.flatMap Rule.cells)) (hn:l.length<=1000000):
  Calls prog 48 #[.slice A l.length c] w fun e w'=>∃ v,e= .returned v/\w'.ownsRow w.heap.size 69 11 v l.length ((l.map nmT).flatMap Rule.cells)/\Below w.heap.size w w':=by
 obtain ⟨i1,hi1,hy0,hy1,hy2⟩:=info_parts info_rule;have HR:=hid h;clear h;go_enter func48,ntmps48
 go_wp2_with fail
 go_loopw [3,4] (fun v i wr=>∃ k:Nat,k<=l.length/\i= .int .i64 k/\wr.ownsRow w.heap.size 69 11 v k (((l.take k).map nmT).flatMap Rule.cells)/\Below w.heap.size w wr) (fun _ i _=>l.length - (intOf i).toNat)
 case atStart=>exact ⟨0,Nat.zero_le _,rfl,World.ownsRow_nil _ _ _ _,Below.refl _ _⟩
 case round=>
  obtain ⟨k,hk,rfl,hown,hb⟩:=hrel;have HOw:=hid hown;have HB:=hid hb;have Hsz:=hid hb.size;clear hown hb
  by_cases hkn:k<l.length
  ·obtain ⟨ad,hA,hadb,a0,a1,a2,a3,a4,a5,a6,a7,a8,a9,a10⟩:=rule_cells (HR.out.below HB.out) hkn
   subst hA;have hst:=named_step hkn;have HSt:=hid hst;clear hst;generalize l[k]=x at*;obtain ⟨x0,x1,x2,x3,x4,x5,x6,x7,x8,x9,x10⟩:=x;simp only at a0 a1 a2 a3 a4 a5 a6 a7 a8 a9 a10 HSt;simp only [nmT] at HSt
   have m1:k+1<=maxLen:=by unfold maxLen;omega
   have m2:(k+1)*104<=140737488355328:=by omega
   have M1:=hid m1;have M2:=hid m2;clear m1 m2;generalize (l.take k).map nmT=l1 at*;obtain ⟨V,hV⟩:∃ V,wr.alloc (.cells #[.string ⟨#[116]⟩,.int .i64 x1,.int .i64 x2,.int .i64 x3,.int .i64 x4,.int .i64 x5,.int .i64 x6,.int .i64 x7,.int .i64 x8,.int .i64 x9,.string x10] 69)=V:=⟨_,rfl⟩;have hownV:=HOw.out.alloc (.cells #[.string ⟨#[116]⟩,.int .i64 x1,.int .i64 x2,.int .i64 x3,.int .i64 x4,.int .i64 x5,.int .i64 x6,.int .i64 x7,.int .i64 x8,.int .i64 x9,.string x10] 69);have hbV:=HB.out.alloc HB.out.size (.cells #[.string ⟨#[116]⟩,.int .i64 x1,.int .i64 x2,.int .i64 x3,.int .i64 x4,.int .i64 x5,.int .i64 x6,.int .i64 x7,.int .i64 x8,.int .i64 x9,.string x10] 69);have hBV:=Blk.new wr 69 #[.string ⟨#[116]⟩,.int .i64 x1,.int .i64 x2,.int .i64 x3,.int .i64 x4,.int .i64 x5,.int .i64 x6,.int .i64 x7,.int .i64 x8,.int .i64 x9,.string x10];rw [hV] at hownV hbV hBV;have cV:=hBV.cell;clear hBV;have HOwV:=hid hownV;have HBV:=hid hbV;have HszV:=hid hbV.size;clear hownV hbV
   go_wp2_with ((at_builtin;(try rw [hV]);refine wpList_append1g V rfl (.tmp 17) (.tmp 19) 25 rfl w.heap.size 69 i1 _ 11 104 underlying25 hi1 hy0 hy1 hy2 rfl (by decide) _ k (l1.flatMap Rule.cells) rfl HOwV.out (by simp [Act.eval]) rfl one_rule M1.out M2.out HszV.out ?_;intro v' wB hown8 hg8;have HO2:=hid hown8;have HB2:=hid ((HBV.out.alloc HszV.out _).grown hg8 (by have:=HszV.out;simp;omega) (fun j hj=>(HOwV.out.lt j hj).1));clear hown8 hg8))
   refine ⟨⟨k+1,by omega,by go_num,?_,HB2.out⟩,by simp [intOf];omega⟩
   rw [HSt.out];simp only [List.flatMap_append,List.flatMap_cons,List.flatMap_nil,List.append_nil];exact HO2.out
  ·obtain rfl:k=l.length:=by omega
   have ho2:=HOw.out;rw [List.take_length] at ho2;have HO2:=hid ho2;clear ho2
   go_wp2_with fail
   go_ret;exact ⟨_,rfl,HO2.out,HB.out⟩
theorem rat14_results {w:World} {R0:Nat} {a0 a1 a2:Value} (h:Blk w R0 23 #[a0,a1,a2]) (tmps:Array Value) (ht:tmps[4]?=some (.pointer (some ⟨R0,0,none⟩))):
  (results Tryz.f28 tmps).run prog w= .ok (.agg #[a0,a1,a2]) w:=by
 have hc:=h.cell;simp [results,Tryz.results28,go_sem,hc,ht]
theorem tell_step {first:Phase} {ss:List Shift} {t:Int} {k:Nat} (hk:k<ss.length):tellL first (ss.take (k+1)) t=if ss[k].sec<=t then ss[k].ph else tellL first (ss.take k) t:=by
 unfold tellL;rw [List.take_succ_eq_append_getElem hk,List.foldl_append]
 rfl
theorem srcOk_nm {l:List Rule} {Av:Option Addr} {z:World} (h:Reads z z.heap.size 11 Av l.length ((l.map nmT).flatMap Rule.cells)) (hn:l.length<=1000000) (hl:∀ r∈l,r.letter.size<=2097152):SrcOk ⟨l.map nmT,[],[]⟩ Av none none z where
 rr:=by simpa using h
 rz:=Reads.none_
 rl:=Reads.none_
 re:=fun z hz=>by cases hz
 nr:=by simpa using hn
 nz:=by simp
 nl:=by simp
 ne:=fun z hz=>by cases hz
 tr:=fun r hr=>by
  obtain ⟨a,ha,rfl⟩:=List.mem_map.1 hr
  exact ⟨show (⟨#[116]⟩:ByteArray).size<=2097152 by decide,hl a ha⟩
 tz:=fun z hz=>by cases hz
 te:=fun z hz=>by cases hz
 tl:=fun l hl=>by cases hl
structure Tl (w:World) (ts:Array Value) (p:Phase) (W:World):Prop where
 tb:Blk W w.heap.size 27 ts
 res:Blk W (w.heap.size+1) 23 #[.int .i64 0,.int .i64 0,.string ⟨#[]⟩]
 pb:Blk W (w.heap.size+1+1) 23 p.cells.toArray
 bel:Below w.heap.size w W
theorem Tl.set {w W:World} {ts:Array Value} {p:Phase} (h:Tl w ts p W) (a b:Int) (d:ByteArray):Tl w ts ⟨a,b,d⟩ (((W.setCell ⟨w.heap.size+1+1,0,none⟩ (.int .i64 a)).setCell ⟨w.heap.size+1+1,1,none⟩ (.int .i64 b)).setCell ⟨w.heap.size+1+1,2,none⟩ (.string d)):=by
 have hp:=((h.pb.set_ 0 (.int .i64 a)).set_ 1 (.int .i64 b)).set_ 2 (.string d)
 refine ⟨((h.tb.far (by dsimp only;omega) _).far (by dsimp only;omega) _).far (by dsimp only;omega) _,((h.res.far (by dsimp only;omega) _).far (by dsimp only;omega) _).far (by dsimp only;omega) _,?_,((h.bel.setCell (by dsimp only;omega) _).setCell (by dsimp only;omega) _).setCell (by dsimp only;omega) _⟩
 obtain ⟨p0,p1,p2⟩:=p
 simpa [Phase.cells] using hp
theorem refAt14_any (x:Table) (A A2:Option Addr) (c c2:Nat) (t:Int) (w:World) (h:TabOk x A A2 w) (hr:rightB x (tailB x)=true) (h1: -9223372036854775808<=t) (h2:t<=9223372036854775807):
  Calls prog 28 #[.agg (tabCells x A c A2 c2),.int .i64 t] w fun e w'=>e= .returned (.agg #[.int .i64 (tellD x t).off,.int .i64 (tellD x t).save,.string (tellD x t).abbr])/\Below w.heap.size w w':=by
 obtain ⟨b0,b1,hbw,hsz⟩:=box2 w 27 23 (tabCells x A c A2 c2) #[.int .i64 0,.int .i64 0,.string ⟨#[]⟩];simp only [tabCells] at*
 obtain ⟨V,hV⟩:∃ V,(w.alloc (.cells #[.string x.name,.int .i64 x.first.off,.int .i64 x.first.save,.string x.first.abbr,.slice A x.shifts.length c,.int .i64 x.till,.slice A2 x.tail.length c2,.int .i64 x.off,.string x.format] 27)).alloc (.cells #[.int .i64 0,.int .i64 0,.string ⟨#[]⟩] 23)=V:=⟨_,rfl⟩
 rw [hV] at b0 b1 hbw
 have hszV:V.heap.size=w.heap.size+1+1:=by rw [<-hV];simp
 have c0:=b0.cell;have hnt:=h.nt
 by_cases hc:x.till<=t/\x.tail.length≠0
 ·have e:tellD x t=tailP x t:=by unfold tellD;rw [if_pos hc]
  rw [e];obtain ⟨hoff,hru⟩:=right_tail hr hc.2;have g1:decide (x.till<=t)=true:=decide_eq_true hc.1
  have g2:decide ((0:Int)<(x.tail.length:Nat))=true:=decide_eq_true (by have:=hc.2;omega)
  have g3:decide (0<x.tail.length)=true:=decide_eq_true (by have:=hc.2;omega)
  obtain ⟨F,hF⟩:∃ F,tailP x t=F:=⟨_,rfl⟩
  have hxd:EraD (eraT x):=⟨hoff,⟨by show -43200<=(0:Int);decide,by show (0:Int)<=43200;decide⟩,fun h=>absurd rfl h,h.format⟩
  have hPh:=fun Av cv z (hrd:Reads z z.heap.size 11 Av x.tail.length ((x.tail.map nmT).flatMap Rule.cells))=>rphase_any ⟨x.tail.map nmT,[],[]⟩ Av none none cv 0 0 (eraT x) t z (srcOk_nm hrd hnt fun r hr=>(h.rules r hr).2) (by rw [rulesB_nm];exact hru) hxd h1 h2
  have hph2:phaseE (⟨x.tail.map nmT,[],[]⟩:Src).rules (eraT x) t=F:=(tail_phase x t).trans hF;rw [hph2] at hPh;rw [hF];obtain ⟨f0,f1,f2⟩:=F;simp only [eraT,Era.cells,List.length_map,List.length_nil] at hPh;have HPh:=hid hPh;have HNm:=hid (fun z (hb:Below w.heap.size w z)=>named14_any x.tail A2 c2 z (h.below hb).rt hnt);have HB0:=hid b0;have HB1:=hid b1;have HBw:=hid hbw;clear h hr e hc hF hph2 hPh hxd hru b0 b1 hbw;go_enter func28,ntmps28
  go_wp2_with fail
  try rw [hV]
  have hNW:∀ z,Below V.heap.size V z->Calls prog 48 #[.slice A2 x.tail.length c2] z fun e w'=>∃ v,e= .returned v/\w'.ownsRow z.heap.size 69 11 v x.tail.length ((x.tail.map nmT).flatMap Rule.cells)/\Below z.heap.size z w':=fun z hb=>HNm.out z (HBw.out.trans (hb.mono HBw.out.size));have hKe:∀ w',Below V.heap.size V w'->w'.cell? ⟨w.heap.size,6,none⟩=some (.slice A2 x.tail.length c2)/\w'.cell? ⟨w.heap.size,7,none⟩=some (.int .i64 x.off)/\w'.cell? ⟨w.heap.size,8,none⟩=some (.string x.format):=fun w' h=>⟨(HB0.out.below h HB0.out.lt).cell 6,(HB0.out.below h HB0.out.lt).cell 7,(HB0.out.below h HB0.out.lt).cell 8⟩
  have hKs:∀ z a b d,Below V.heap.size V z->((((z.setCell ⟨w.heap.size+1,0,none⟩ a).setCell ⟨w.heap.size+1,1,none⟩ b).setCell ⟨w.heap.size+1,2,none⟩ d).cell? ⟨w.heap.size,6,none⟩=some (.slice A2 x.tail.length c2)/\(((z.setCell ⟨w.heap.size+1,0,none⟩ a).setCell ⟨w.heap.size+1,1,none⟩ b).setCell ⟨w.heap.size+1,2,none⟩ d).cell? ⟨w.heap.size,7,none⟩=some (.int .i64 x.off)/\(((z.setCell ⟨w.heap.size+1,0,none⟩ a).setCell ⟨w.heap.size+1,1,none⟩ b).setCell ⟨w.heap.size+1,2,none⟩ d).cell? ⟨w.heap.size,8,none⟩=some (.string x.format)):=fun z a b d h=>by
   have h3:=(((HB0.out.below h HB0.out.lt).far (p:=⟨w.heap.size+1,0,none⟩) (by dsimp only;omega) a).far (p:=⟨w.heap.size+1,1,none⟩) (by dsimp only;omega) b).far (p:=⟨w.heap.size+1,2,none⟩) (by dsimp only;omega) d
   exact ⟨h3.cell 6,h3.cell 7,h3.cell 8⟩
  have HKs:=hid hKs;clear hKs;have HNW:=hid hNW;have HKe:=hid hKe;have kb0:Below V.heap.size V V.drew:=below_drew V;clear hNW hKe c0 hV
  go_region_held3 (fun w'=>w'.cell? ⟨w.heap.size,6,none⟩=some (.slice A2 x.tail.length c2)/\w'.cell? ⟨w.heap.size,7,none⟩=some (.int .i64 x.off)/\w'.cell? ⟨w.heap.size,8,none⟩=some (.string x.format)) (first|exact HKs.out _ _ _ _ (by go_grown)|exact HKe.out _ (by go_grown)) (first
   |(go_at_call 48;refine (HNW.out _ (by go_grown)).mono ?_;rintro e w5 ⟨v,rfl,hown,hb⟩;obtain ⟨Av,cv,rfl⟩:=own_slice hown;have kb5:=bel_nx (W:=V) (by go_grown) hb;have ks5:=kb5.size;have HRv:=hid (Reads.of_own hown);clear hown)
   |(go_at_call 47;refine (HPh.out _ _ _ HRv.out).mono ?_;rintro e w6 ⟨rfl,hb6⟩;have kb6:=bel_nx (W:=V) (by go_grown) hb6;have ks6:=kb6.size;have hres6:=HB1.out.below kb6 HB1.out.lt;have cR6:=hres6.cell;have fR6:=hres6.frozen;have HR6:=hid hres6;clear hres6))
  all_goals
   have HW6:=hid (HBw.out.trans (kb6.mono HBw.out.size));clear kb0 kb5 kb6 ks5 ks6 hb hb6 HRv HNW HKe
   go_wp2_with fail
   refine bodyPost_ret (rat14_results (((HR6.out.set_ 0 (.int .i64 f0)).set_ 1 (.int .i64 f1)).set_ 2 (.string f2)) _ rfl) rfl ?_
   exact ⟨rfl,((HW6.out.setCell (by simp) _).setCell (by simp) _).setCell (by simp) _⟩
 ·have e:tellD x t=tellL x.first x.shifts t:=by unfold tellD;rw [if_neg hc]
  rw [e]
  have hgd:(decide (x.till<=t)=false/\∃ b,decide (0<x.tail.length)=b)\/(decide (x.till<=t)=true/\decide (0<x.tail.length)=false):=by
   by_cases hl:x.till<=t
   ·exact .inr ⟨decide_eq_true hl,decide_eq_false (by
     by_cases h0:x.tail.length=0
     ·omega
     ·exact absurd ⟨hl,h0⟩ hc)⟩
   ·exact .inl ⟨decide_eq_false hl,_,rfl⟩
  obtain ⟨F,hF⟩:∃ F,tellL x.first x.shifts t=F:=⟨_,rfl⟩
  rw [hF];have HF:=hid hF;have hsh:=fun j (hj:j<x.shifts.length) z (hb:Below w.heap.size w z)=>shift_at (h.below hb).rs hj;have HSh:=hid hsh;have hns:=h.ns
  have htl:Tl w #[.string x.name,.int .i64 x.first.off,.int .i64 x.first.save,.string x.first.abbr,.slice A x.shifts.length c,.int .i64 x.till,.slice A2 x.tail.length c2,.int .i64 x.off,.string x.format] x.first (V.alloc (.cells #[.int .i64 x.first.off,.int .i64 x.first.save,.string x.first.abbr] 23)):=⟨b0.alloc _,b1.alloc _,by
   have:=Blk.new V 23 #[.int .i64 x.first.off,.int .i64 x.first.save,.string x.first.abbr]
   rw [hszV] at this
   exact this,hbw.alloc hbw.size _⟩
  have HTl:=hid htl;clear h hr e hc hF hsh htl b0 b1 hbw
  rcases hgd with ⟨g1,b,g2⟩|⟨g1,g2⟩
  ·cases b
   all_goals
    go_enter func28,ntmps28
    go_wp2_with fail
    try simp only [hV,hszV]
    go_loopw [6] (fun i wr=>∃ k:Nat,k<=x.shifts.length/\i= .int .i64 k/\Tl w #[.string x.name,.int .i64 x.first.off,.int .i64 x.first.save,.string x.first.abbr,.slice A x.shifts.length c,.int .i64 x.till,.slice A2 x.tail.length c2,.int .i64 x.off,.string x.format] (tellL x.first (x.shifts.take k) t) wr) (fun i _=>x.shifts.length - (intOf i).toNat)
    case atStart=>exact ⟨0,Nat.zero_le _,rfl,HTl.out⟩
    case round=>
     clear HTl c0;obtain ⟨k,hk,rfl,hp⟩:=hrel;have cb:=hp.tb.cell;have HP:=hid hp
     by_cases hkn:k<x.shifts.length
     ·obtain ⟨ad,hA,_,s0,s1,s2,s3⟩:=HSh.out k hkn wr hp.bel
      subst hA
      have hst:=tell_step (first:=x.first) (t:=t) hkn
      have cp:=hp.pb.cell;have fp:=hp.pb.frozen;clear hp;generalize x.shifts[k]=sh at*
      generalize tellL x.first (x.shifts.take k) t=P at*
      obtain ⟨a0,⟨a1,a2,a3⟩⟩:=sh;obtain ⟨p0,p1,p2⟩:=P;simp only [Phase.cells] at s0 s1 s2 s3 hst cp;have HSt:=hid hst;clear hst
      cases hd:decide (a0<=t)
      ·go_wp2_with fail
       exact ⟨⟨k+1,by omega,by go_num,by rw [HSt.out,if_neg (of_decide_eq_false hd)];exact HP.out⟩,by simp [intOf];omega⟩
      ·go_wp2_with fail
       exact ⟨⟨k+1,by omega,by go_num,by rw [HSt.out,if_pos (of_decide_eq_true hd)];exact HP.out.set a1 a2 a3⟩,by simp [intOf];omega⟩
     ·obtain rfl:k=x.shifts.length:=by omega
      rw [List.take_length,HF.out] at hp;have cp:=hp.pb.cell;have cr:=hp.res.cell;have fr:=hp.res.frozen;have HP2:=hid hp;clear hp HP;obtain ⟨f0,f1,f2⟩:=F;simp only [Phase.cells] at cp
      go_wp2_with fail
      refine bodyPost_ret (rat14_results (((HP2.out.res.set_ 0 (.int .i64 f0)).set_ 1 (.int .i64 f1)).set_ 2 (.string f2)) _ rfl) rfl ?_
      exact ⟨rfl,((HP2.out.bel.setCell (by simp) _).setCell (by simp) _).setCell (by simp) _⟩
  ·skip
   all_goals
    go_enter func28,ntmps28
    go_wp2_with fail
    try simp only [hV,hszV]
    go_loopw [6] (fun i wr=>∃ k:Nat,k<=x.shifts.length/\i= .int .i64 k/\Tl w #[.string x.name,.int .i64 x.first.off,.int .i64 x.first.save,.string x.first.abbr,.slice A x.shifts.length c,.int .i64 x.till,.slice A2 x.tail.length c2,.int .i64 x.off,.string x.format] (tellL x.first (x.shifts.take k) t) wr) (fun i _=>x.shifts.length - (intOf i).toNat)
    case atStart=>exact ⟨0,Nat.zero_le _,rfl,HTl.out⟩
    case round=>
     clear HTl c0;obtain ⟨k,hk,rfl,hp⟩:=hrel;have cb:=hp.tb.cell;have HP:=hid hp
     by_cases hkn:k<x.shifts.length
     ·obtain ⟨ad,hA,_,s0,s1,s2,s3⟩:=HSh.out k hkn wr hp.bel
      subst hA
      have hst:=tell_step (first:=x.first) (t:=t) hkn
      have cp:=hp.pb.cell;have fp:=hp.pb.frozen;clear hp;generalize x.shifts[k]=sh at*
      generalize tellL x.first (x.shifts.take k) t=P at*
      obtain ⟨a0,⟨a1,a2,a3⟩⟩:=sh;obtain ⟨p0,p1,p2⟩:=P;simp only [Phase.cells] at s0 s1 s2 s3 hst cp;have HSt:=hid hst;clear hst
      cases hd:decide (a0<=t)
      ·go_wp2_with fail
       exact ⟨⟨k+1,by omega,by go_num,by rw [HSt.out,if_neg (of_decide_eq_false hd)];exact HP.out⟩,by simp [intOf];omega⟩
      ·go_wp2_with fail
       exact ⟨⟨k+1,by omega,by go_num,by rw [HSt.out,if_pos (of_decide_eq_true hd)];exact HP.out.set a1 a2 a3⟩,by simp [intOf];omega⟩
     ·obtain rfl:k=x.shifts.length:=by omega
      rw [List.take_length,HF.out] at hp;have cp:=hp.pb.cell;have cr:=hp.res.cell;have fr:=hp.res.frozen;have HP2:=hid hp;clear hp HP;obtain ⟨f0,f1,f2⟩:=F;simp only [Phase.cells] at cp
      go_wp2_with fail
      refine bodyPost_ret (rat14_results (((HP2.out.res.set_ 0 (.int .i64 f0)).set_ 1 (.int .i64 f1)).set_ 2 (.string f2)) _ rfl) rfl ?_
      exact ⟨rfl,((HP2.out.bel.setCell (by simp) _).setCell (by simp) _).setCell (by simp) _⟩
end Cmq
end
end
end Go.Proofs.YtmlejgdohcpmjaaGreatDoor
