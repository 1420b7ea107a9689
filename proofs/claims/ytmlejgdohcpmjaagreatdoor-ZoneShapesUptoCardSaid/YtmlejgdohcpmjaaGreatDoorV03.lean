/-
  Contracts of the code that the law reaches, and plain laws. Conditions: as each says.
-/
import Derived.Test.YtmlejgdohcpmjaaGreatDoorV02
import Derived.IntWalk
import Derived.RangeFuncNested
import Derived.RangeFuncBound
import Derived.RangeFuncCalls
import Derived.RangeFuncLeaves
import Derived.Shelf.Abstract
import Derived.Shelf.RegionOpen
import Derived.OwnWalkIn
import Derived.TacticsInMore
import Derived.LoopNIn
import Derived.LoopIn
set_option linter.all false
set_option maxHeartbeats 40000000
set_option maxRecDepth 100000
namespace Go.Proofs.YtmlejgdohcpmjaaGreatDoor
open Lib (hid)
open Tryz
section
section
namespace Rul
open Go.RowKit Mem Civ Mom Img
def posT (x:Turn) (S:List Turn):Nat->Nat
 |0=>0
 |j+1=>match S[j]? with
  |some e=>if x.at_<e.at_ then posT x S j else j+1
  |none=>j+1
def putT (x:Turn) (S:List Turn) (j:Nat):List Turn:=S.take j++x :: S.drop j
def insT (S:List Turn) (x:Turn):List Turn:=putT x S (posT x S S.length)
def sortT (l:List Turn):List Turn:=l.foldl insT []
theorem putT_length (x:Turn) (S:List Turn) (j:Nat):(putT x S j).length=S.length+1:=by
 simp [putT];omega
theorem sortT_snoc (l:List Turn) (x:Turn):sortT (l++[x])=insT (sortT l) x:=by simp [sortT,List.foldl_append]
theorem sortT_length (l:List Turn):(sortT l).length=l.length:=by
 have:∀ (l:List Turn) (S:List Turn),(l.foldl insT S).length=S.length+l.length:=by
  intro l
  induction l with
  |nil=>intro S;simp
  |cons a t ih=>
   intro S;rw [List.foldl_cons,ih,insT,putT_length,List.length_cons];omega
 have h:=this l []
 simpa [sortT] using h
theorem posT_go {x e:Turn} {S:List Turn} {j:Nat} (h:S[j]?=some e) (hlt:x.at_<e.at_):posT x S (j+1)=posT x S j:=by
 simp only [posT,h,if_pos hlt]
theorem posT_stay {x e:Turn} {S:List Turn} {j:Nat} (h:S[j]?=some e) (hlt:¬ x.at_<e.at_):posT x S (j+1)=j+1:=by
 simp only [posT,h,if_neg hlt]
theorem putT_at {x:Turn} {S:List Turn} {j:Nat} (hj:j<=S.length) (rest:List Turn):(putT x S j++rest)[j]?=some x:=by
 unfold putT
 rw [List.append_assoc,List.getElem?_append_right (by rw [List.length_take];omega),List.length_take,Nat.min_eq_left hj,Nat.sub_self]
 rfl
theorem putT_ahead {x:Turn} {S:List Turn} {j:Nat} (hj:j+1<=S.length) (rest:List Turn):(putT x S (j+1)++rest)[j]?=S[j]?:=by
 unfold putT
 rw [List.append_assoc,List.getElem?_append_left (by rw [List.length_take];omega),List.getElem?_take_of_lt (by omega)]
theorem putT_split {x:Turn} {S:List Turn} {j:Nat} (hj:j<S.length) (rest:List Turn):
  putT x S (j+1)++rest=S.take j++S[j] :: x :: (S.drop (j+1)++rest)/\putT x S j++rest=S.take j++x :: S[j] :: (S.drop (j+1)++rest):=by
 unfold putT;have h1:=List.take_succ_eq_append_getElem hj;have h2:=List.drop_eq_getElem_cons hj
 constructor
 ·rw [h1]
  simp only [List.append_assoc,List.cons_append,List.nil_append]
 ·rw [show S.take j++x :: S.drop j=S.take j++x :: (S[j] :: S.drop (j+1)) from by rw [<-h2]]
  simp only [List.append_assoc,List.cons_append]
theorem len4 (l:List Turn):(l.flatMap Turn.cells).length=l.length*4:=by
 induction l with
 |nil=>simp
 |cons a t ih=>rw [List.flatMap_cons,List.length_append,ih,List.length_cons,Nat.succ_mul];simp [Turn.cells];omega
theorem swap_cells (p q:List Turn) (a b:Turn) {k:Nat} (hk:p.length=k):
  (((((((((p++a :: b :: q).flatMap Turn.cells).set ((k+1)*4) (.int .i64 a.at_)).set ((k+1)*4+1) (.int .i64 a.ref)).set ((k+1)*4+2) (.int .i64 a.save)).set ((k+1)*4+3) (.string a.letter)).set (k*4) (.int .i64 b.at_)).set (k*4+1) (.int .i64 b.ref)).set (k*4+2) (.int .i64 b.save)).set (k*4+3) (.string b.letter)=(p++b :: a :: q).flatMap Turn.cells:=by
 have hl:(p.flatMap Turn.cells).length=k*4:=by rw [len4,hk]
 rw [List.flatMap_append,List.flatMap_append];generalize p.flatMap Turn.cells=P at*
 have e:∀ (i:Nat) (u:Value) (M:List Value),(P++M).set (k*4+i) u=P++M.set i u:=fun i u M=>by
  rw [List.set_append_right _ _ (by omega),hl];congr 2;omega
 rw [show (k+1)*4=k*4+4 by omega,show k*4+4+1=k*4+5 by omega,show k*4+4+2=k*4+6 by omega,show k*4+4+3=k*4+7 by omega]
 rw [e,e,e,e,show (P++_:List Value).set (k*4) (.int .i64 b.at_)=_ from e 0 _ _,e,e,e];simp [Turn.cells]
end Rul
namespace Rul
open Go.RowKit Mem Civ Mom Img
theorem gr_of_below {w w':World} (h:Below w.heap.size w w'):w.grownBy w' none:=⟨h.os,h.tape,h.output,h.size,fun j hj _=>h.block j hj⟩
theorem gr_trans {w w1 w2:World} {r:Option Nat} (h:w.grownBy w1 r) (k:w1.grownBy w2 r):w.grownBy w2 r:=
 ⟨k.os.trans h.os,k.tape.trans h.tape,k.output.trans h.output,Nat.le_trans h.size k.size,fun j hj hne=>(k.block j (Nat.lt_of_lt_of_le hj h.size) hne).trans (h.block j hj hne)⟩
theorem gr_none {w w1 w2:World} {r:Option Nat} (h:w.grownBy w1 r) (k:w1.grownBy w2 none):w.grownBy w2 r:=
 ⟨k.os.trans h.os,k.tape.trans h.tape,k.output.trans h.output,Nat.le_trans h.size k.size,fun j hj hne=>(k.block j (Nat.lt_of_lt_of_le hj h.size) (by simp)).trans (h.block j hj hne)⟩
theorem own_eq {w:World} {base size n:Nat} {e:TypeId} {v:Value} {xs ys:List Value} (h:w.ownsRow base e size v n xs) (he:xs=ys):w.ownsRow base e size v n ys:=he ▸ h
theorem own_dr {w:World} {base size n:Nat} {e:TypeId} {v:Value} {xs:List Value} (h:w.ownsRow base e size v n xs):w.drew.ownsRow base e size v n xs:=h
theorem gr_dr {w w1:World} {r:Option Nat} (h:w.grownBy w1 r):w.grownBy w1.drew r:=⟨h.os,h.tape,h.output,h.size,h.block⟩
theorem sortT_one (ts:List Turn):sortT (ts.take 1)++ts.drop 1=ts:=by
 cases ts with
 |nil=>rfl
 |cons a t=>rfl
theorem insert_any (ts:List Turn) (g c base:Nat) (w:World) (h:w.ownsRow base 90 4 (.slice (some ⟨g,0,none⟩) ts.length c) ts.length (ts.flatMap Turn.cells)) (hn:ts.length<=1000) (h0:0<ts.length):
  Calls prog 187 #[.slice (some ⟨g,0,none⟩) ts.length c,.int .i64 0,.int .i64 ts.length,.func (Fn.func 126) #[] #[]] w fun e w'=>
   e= .returned (.tuple #[])/\w'.ownsRow base 90 4 (.slice (some ⟨g,0,none⟩) ts.length c) ts.length ((sortT ts).flatMap Turn.cells)/\w.grownBy w' (some g):=by
 have H:=hid h;clear h;go_enter func187,ntmps187;go_wp2
 go_loopw [8] (fun i wr=>∃ k:Nat,1<=k/\k<=ts.length/\i= .int .i64 k/\wr.ownsRow base 90 4 (.slice (some ⟨g,0,none⟩) ts.length c) ts.length ((sortT (ts.take k)++ts.drop k).flatMap Turn.cells)/\w.grownBy wr (some g)) (fun i _=>ts.length - (intOf i).toNat)
 case atStart=>exact ⟨1,Nat.le_refl _,h0,rfl,by rw [sortT_one];exact H.out,World.grownBy.refl _ _⟩
 case round=>
  obtain ⟨k,hk1,hk,rfl,hown,hg⟩:=hrel;have HO:=hid hown;have HG:=hid hg;clear hown hg
  by_cases hkn:k<ts.length
  ·have hsl:(sortT (ts.take k)).length=k:=by rw [sortT_length,List.length_take];omega
   have hsn:sortT (ts.take (k+1))=insT (sortT (ts.take k)) ts[k]:=by rw [List.take_succ_eq_append_getElem hkn,sortT_snoc]
   have hdr:=List.drop_eq_getElem_cons hkn;have Hsl:=hid hsl;have Hsn:=hid hsn;have Hdr:=hid hdr;clear hsl hsn hdr;obtain ⟨wo,rfl⟩:∃ wo:World,wo=wr:=⟨_,rfl⟩;go_wp2
   go_loopw [9] (fun i wi=>∃ j:Nat,j<=k/\i= .int .i64 j/\posT ts[k] (sortT (ts.take k)) k=posT ts[k] (sortT (ts.take k)) j/\wi.ownsRow base 90 4 (.slice (some ⟨g,0,none⟩) ts.length c) ts.length ((putT ts[k] (sortT (ts.take k)) j++ts.drop (k+1)).flatMap Turn.cells)/\w.grownBy wi (some g)) (fun i _=>(intOf i).toNat)
   case atStart=>
    refine ⟨k,Nat.le_refl _,rfl,rfl,?_,HG.out⟩
    have e:putT ts[k] (sortT (ts.take k)) k++ts.drop (k+1)=sortT (ts.take k)++ts.drop k:=by
     rw [Hdr.out,putT,List.take_of_length_le (by rw [Hsl.out];exact Nat.le_refl _),List.drop_of_length_le (by rw [Hsl.out];exact Nat.le_refl _)]
     simp only [List.append_assoc,List.cons_append,List.nil_append]
    rw [e];exact HO.out
   case round=>
    clear HO HG;obtain ⟨j,hj,rfl,hpos,hown,hg⟩:=hrel;have Hpos:=hid hpos;have HO:=hid hown;have HG:=hid hg;clear hpos hown hg;generalize hS:sortT (ts.take k)=S at*;have HS:=hid hS;clear hS
    have ad:∀ n:Nat,Addr.add ⟨g,0,none⟩ n=⟨g,n,none⟩:=fun n=>by unfold Addr.add;split<;>simp_all
    rcases j with _|jj
    ·have hgt:decide ((0:Int)<((0:Nat):Int))=false:=rfl
     have hfp:sortT (ts.take (k+1))=putT ts[k] S 0:=by rw [Hsn.out,insT,Hsl.out,Hpos.out];rfl
     have HFP:=hid hfp;clear hfp;have inst:Nonempty (Qt.In (Below wr.heap.size wr)):=⟨⟨_,Below.refl _ _⟩⟩
     go_wp2_with fail
     refine Qt.wp_region_cls (Below wr.heap.size wr) (by kernel_rfl) (by kernel_rfl) (below_dr (n:=1) (Below.refl _ _)) ?_
     repeat (go_big_quiet_step ((go_at_call 126;fail)))
     refine wpQuiet_nil ?_
     rintro wq ⟨⟨w9,hq⟩,e9⟩
     have hq2:Below wr.heap.size wr wq:=by rw [e9];exact hq
     have HOq:=hid (HO.out.kept (gr_of_below hq2) (.inr (by simp [Value.ownBlock])))
     have HGq:=hid (gr_none HG.out (gr_of_below hq2));clear hq e9 hq2 inst;go_wp2
     refine ⟨⟨k+1,by omega,by omega,by go_num,?_,HGq.out⟩,by simp [intOf];omega⟩
     rw [HFP.out];exact HOq.out
    ·have hjS:jj<S.length:=by rw [Hsl.out];omega
     have hx:∀ i,i<4->wr.cell? ⟨g,(jj+1)*4+i,none⟩=ts[k].cells[i]?:=fun i hi=>by
      rw [HO.out.cellAt _ (by omega),flat_get Turn.cells 4 (fun _=>rfl) _ (jj+1) i hi,putT_at (by omega)];rfl
     have he:∀ i,i<4->wr.cell? ⟨g,jj*4+i,none⟩=S[jj].cells[i]?:=fun i hi=>by
      rw [HO.out.cellAt _ (by omega),flat_get Turn.cells 4 (fun _=>rfl) _ jj i hi,putT_ahead (by omega),List.getElem?_eq_getElem hjS];rfl
     have hgl:=(HO.out.lt g rfl).2
     have hpg:=fun (h:ts[k].at_<S[jj].at_)=>posT_go (x:=ts[k]) (List.getElem?_eq_getElem hjS) h
     have hps:=fun (h:¬ ts[k].at_<S[jj].at_)=>posT_stay (x:=ts[k]) (List.getElem?_eq_getElem hjS) h
     have Hpg:=hid hpg;have Hps:=hid hps;have hsp:=putT_split (x:=ts[k]) hjS (ts.drop (k+1));have Hsp:=hid hsp;clear hpg hps hsp;generalize hxx:ts[k]=x at*;have Hxx:=hid hxx;clear hxx;generalize hee:S[jj]=e at*;have Hee:=hid hee;clear hee;obtain ⟨x0,x1,x2,x3⟩:=x;obtain ⟨e0,e1,e2,e3⟩:=e;have HC:Hid (∀ z,Below wr.heap.size wr z->Calls prog 126 #[.agg #[.int .i64 x0,.int .i64 x1,.int .i64 x2,.string x3],.agg #[.int .i64 e0,.int .i64 e1,.int .i64 e2,.string e3]] z fun e z'=>e= .returned (.int .i64 (cmpI x0 e0))/\Below wr.heap.size wr z'):=fun z h=>(turnsC_any ⟨x0,x1,x2,x3⟩ ⟨e0,e1,e2,e3⟩ z).mono fun e z' ⟨he,hb⟩=>⟨he,h.trans (hb.mono h.size)⟩;have inst:Nonempty (Qt.In (Below wr.heap.size wr)):=⟨⟨_,Below.refl _ _⟩⟩
     have zx0:∀ z:Qt.In (Below wr.heap.size wr),z.w.cell? ⟨g,(jj+1)*4,none⟩=some (.int .i64 x0):=fun z=>(z.h.cell (p:=⟨g,(jj+1)*4,none⟩) hgl).trans (hx 0 (by omega))
     have zx1:∀ z:Qt.In (Below wr.heap.size wr),z.w.cell? ⟨g,(jj+1)*4+1,none⟩=some (.int .i64 x1):=fun z=>(z.h.cell (p:=⟨g,(jj+1)*4+1,none⟩) hgl).trans (hx 1 (by omega))
     have zx2:∀ z:Qt.In (Below wr.heap.size wr),z.w.cell? ⟨g,(jj+1)*4+2,none⟩=some (.int .i64 x2):=fun z=>(z.h.cell (p:=⟨g,(jj+1)*4+2,none⟩) hgl).trans (hx 2 (by omega))
     have zx3:∀ z:Qt.In (Below wr.heap.size wr),z.w.cell? ⟨g,(jj+1)*4+3,none⟩=some (.string x3):=fun z=>(z.h.cell (p:=⟨g,(jj+1)*4+3,none⟩) hgl).trans (hx 3 (by omega))
     have ze0:∀ z:Qt.In (Below wr.heap.size wr),z.w.cell? ⟨g,jj*4,none⟩=some (.int .i64 e0):=fun z=>(z.h.cell (p:=⟨g,jj*4,none⟩) hgl).trans (he 0 (by omega))
     have ze1:∀ z:Qt.In (Below wr.heap.size wr),z.w.cell? ⟨g,jj*4+1,none⟩=some (.int .i64 e1):=fun z=>(z.h.cell (p:=⟨g,jj*4+1,none⟩) hgl).trans (he 1 (by omega))
     have ze2:∀ z:Qt.In (Below wr.heap.size wr),z.w.cell? ⟨g,jj*4+2,none⟩=some (.int .i64 e2):=fun z=>(z.h.cell (p:=⟨g,jj*4+2,none⟩) hgl).trans (he 2 (by omega))
     have ze3:∀ z:Qt.In (Below wr.heap.size wr),z.w.cell? ⟨g,jj*4+3,none⟩=some (.string e3):=fun z=>(z.h.cell (p:=⟨g,jj*4+3,none⟩) hgl).trans (he 3 (by omega))
     have Hx:=hid hx;have He:=hid he;clear hx he
     have hw1:IntKind.i64.wrap (((jj+1:Nat):Int) - 1)=(jj:Int):=by rw [show ((jj+1:Nat):Int) - 1=jj by omega];exact IntWalk.i64_in _ (by omega)
     have hw2:IntKind.i64.wrap (jj:Int)=jj:=IntWalk.i64_in _ (by omega)
     have hgt:decide ((0:Int)<((jj+1:Nat):Int))=true:=by simp<;>omega
     go_wp2_with fail
     refine Qt.wp_region_cls (Below wr.heap.size wr) (by kernel_rfl) (by kernel_rfl) (below_dr (n:=1) (Below.refl _ _)) ?_
     repeat (go_big_quiet_step ((go_at_call 126;exact Qt.quiet_cls (HC.out _ (Qt.In.h _)))))
     refine wpQuiet_nil ?_
     rintro wq ⟨⟨w9,hq⟩,e9⟩
     have hq2:Below wr.heap.size wr wq:=by rw [e9];exact hq
     have HW:=hid hq2
     have HOq:=hid (HO.out.kept (gr_of_below hq2) (.inr (by simp [Value.ownBlock])))
     have HGq:=hid (gr_none HG.out (gr_of_below hq2));clear hq e9 hq2 zx0 zx1 zx2 zx3 ze0 ze1 ze2 ze3 inst
     by_cases hlt:x0<e0
     ·have hcn:cmpI x0 e0<0:=by simp [cmpI,hlt]
      have hp:=Hpg.out hlt;have hpos2:=Hpos.out.trans hp;have Hpos2:=hid hpos2;clear hp hpos2 Hpos Hpg Hps
      have qx0:wq.cell? ⟨g,(jj+1)*4,none⟩=some (.int .i64 x0):=(HW.out.cell (p:=⟨g,(jj+1)*4,none⟩) hgl).trans (Hx.out 0 (by omega))
      have qx1:wq.cell? ⟨g,(jj+1)*4+1,none⟩=some (.int .i64 x1):=(HW.out.cell (p:=⟨g,(jj+1)*4+1,none⟩) hgl).trans (Hx.out 1 (by omega))
      have qx2:wq.cell? ⟨g,(jj+1)*4+2,none⟩=some (.int .i64 x2):=(HW.out.cell (p:=⟨g,(jj+1)*4+2,none⟩) hgl).trans (Hx.out 2 (by omega))
      have qx3:wq.cell? ⟨g,(jj+1)*4+3,none⟩=some (.string x3):=(HW.out.cell (p:=⟨g,(jj+1)*4+3,none⟩) hgl).trans (Hx.out 3 (by omega))
      have qe0:wq.cell? ⟨g,jj*4,none⟩=some (.int .i64 e0):=(HW.out.cell (p:=⟨g,jj*4,none⟩) hgl).trans (He.out 0 (by omega))
      have qe1:wq.cell? ⟨g,jj*4+1,none⟩=some (.int .i64 e1):=(HW.out.cell (p:=⟨g,jj*4+1,none⟩) hgl).trans (He.out 1 (by omega))
      have qe2:wq.cell? ⟨g,jj*4+2,none⟩=some (.int .i64 e2):=(HW.out.cell (p:=⟨g,jj*4+2,none⟩) hgl).trans (He.out 2 (by omega))
      have qe3:wq.cell? ⟨g,jj*4+3,none⟩=some (.string e3):=(HW.out.cell (p:=⟨g,jj*4+3,none⟩) hgl).trans (He.out 3 (by omega))
      have fq:=fun i=>HOq.out.frozenAt i
      go_wp2_with fail
      refine wp_region_noPanic ?_
      go_region
      clear qx0 qx1 qx2 qx3 qe0 qe1 qe2 qe3 fq;have hown:=HOq.out;rw [Hsp.out.1] at hown;have s1:=hown.stored ((jj+1)*4) (.int .i64 e0);have s2:=s1.1.stored ((jj+1)*4+1) (.int .i64 e1);have s3:=s2.1.stored ((jj+1)*4+2) (.int .i64 e2);have s4:=s3.1.stored ((jj+1)*4+3) (.string e3);have s5:=s4.1.stored (jj*4) (.int .i64 x0);have s6:=s5.1.stored (jj*4+1) (.int .i64 x1);have s7:=s6.1.stored (jj*4+2) (.int .i64 x2);have s8:=s7.1.stored (jj*4+3) (.string x3)
      have hsw:=swap_cells (S.take jj) (S.drop (jj+1)++ts.drop (k+1)) ⟨e0,e1,e2,e3⟩ ⟨x0,x1,x2,x3⟩ (k:=jj) (by rw [List.length_take];omega)
      have hgr:=gr_trans HGq.out (gr_trans s1.2 (gr_trans s2.2 (gr_trans s3.2 (gr_trans s4.2 (gr_trans s5.2 (gr_trans s6.2 (gr_trans s7.2 s8.2)))))));have hfin:=own_eq s8.1 (hsw.trans (congrArg (List.flatMap Turn.cells) Hsp.out.2.symm));have hfd:=own_dr hfin;have hgd:=gr_dr hgr;have HF:=hid (And.intro hfd hgd);clear hfin hgr hsw s1 s2 s3 s4 s5 s6 s7 s8 hown hfd hgd;generalize World.drew _=W9 at*
      refine NoPanic.normal ?_
      go_wp2
      refine ⟨⟨jj,by omega,by go_num,Hpos2.out,HF.out.1,HF.out.2⟩,by simp [intOf];try omega⟩
     ·have hcn:¬ cmpI x0 e0<0:=by unfold cmpI;rw [if_neg hlt];split<;>omega
      have hfp:sortT (ts.take (k+1))=putT ⟨x0,x1,x2,x3⟩ S (jj+1):=by rw [Hsn.out,insT,Hsl.out,Hpos.out,Hps.out (by omega)]
      have HFP:=hid hfp;clear hfp Hpos Hpg Hps HW;go_wp2
      refine ⟨⟨k+1,by omega,by omega,by go_num,?_,HGq.out⟩,by simp [intOf];omega⟩
      rw [HFP.out];exact HOq.out
  ·obtain rfl:k=ts.length:=by omega
   have hfin:sortT (ts.take ts.length)++ts.drop ts.length=sortT ts:=by rw [List.take_length,List.drop_length,List.append_nil]
   rw [hfin] at HO;clear hfin;go_wp2
   go_end0
   exact ⟨rfl,HO.out,HG.out⟩
end Rul
namespace Rul
open Go.RowKit Mem Civ Mom Img
def turnL (y:Int) (r:Rule):Option Turn:=if (turnO r y).2=true then some (turnO r y).1 else none
def turnsL (rs:List Rule) (y:Int):List Turn:=if rulesB rs=true then sortT (rs.filterMap (turnL y)) else []
def nearT (a b:Turn):Bool:=decide (a.at_ - b.at_<172800) && decide (-172800<a.at_ - b.at_)
def nearUpto (now had:List Turn):Nat->Bool
 |0=>false
 |k+1=>nearUpto now had k || (match now[k]? with
  |some x=>(now.take k++had).any (nearT x)
  |none=>false)
def nearerB (now had:List Turn):Bool:=nearUpto now had now.length
def nearYears (rs:List Rule):Nat->Int->List Turn->Bool
 |0,_,_=>false
 |n+1,y,had=>nearerB (turnsL rs y) had || nearYears rs n (y+1) (turnsL rs y)
def firstY (rs:List Rule):Int:=rs.foldl (fun m r=>min m r.lo) 9999
def lastY1 (m:Int) (r:Rule):Int:=if r.hi=1000000 then max m r.lo else max (max m r.lo) r.hi
def lastY (rs:List Rule):Int:=rs.foldl lastY1 1
def nearB (rs:List Rule):Bool:=rulesB rs && (!crowdB rs && (!rs.isEmpty && nearYears rs (lastY rs+401 - firstY rs+1).toNat (firstY rs) []))
theorem mem_insT {S:List Turn} {x t:Turn} (h:t∈insT S x):t=x\/t∈S:=by
 unfold insT putT at h
 rcases List.mem_append.1 h with h|h
 ·exact .inr (List.mem_of_mem_take h)
 ·rcases List.mem_cons.1 h with h|h
  ·exact .inl h
  ·exact .inr (List.mem_of_mem_drop h)
theorem mem_sortT {l:List Turn} {t:Turn} (h:t∈sortT l):t∈l:=by
 have:∀ (l S:List Turn),t∈l.foldl insT S->t∈l\/t∈S:=by
  intro l
  induction l with
  |nil=>intro S h;exact .inr h
  |cons a l ih=>
   intro S h
   rcases ih _ h with h|h
   ·exact .inl (List.mem_cons_of_mem _ h)
   ·rcases mem_insT h with h|h
    ·exact .inl (h ▸ List.mem_cons_self)
    ·exact .inr h
 rcases this l [] h with h|h
 ·exact h
 ·simp at h
theorem force_le {rs:List Rule} (h:rs.any (fun x=>decide (10<crowdAt rs x))=false) (y:Int):(rs.filter fun r=>forceB r y).length<=10:=by
 obtain ⟨F,hF⟩:∃ F,(rs.filter fun r=>forceB r y)=F:=⟨_,rfl⟩
 rcases F with _|⟨a,t⟩
 ·rw [hF];simp
 ·have hmax:∃ x∈a :: t,∀ z∈a :: t,z.lo<=x.lo:=by
   clear hF
   induction t generalizing a with
   |nil=>exact ⟨a,by simp,by intro z hz;simp at hz;subst hz;exact Int.le_refl _⟩
   |cons b t ih=>
    obtain ⟨x,hx,hm⟩:=ih b
    by_cases hle:a.lo<=x.lo
    ·exact ⟨x,List.mem_cons_of_mem _ hx,by
      intro z hz
      rcases List.mem_cons.1 hz with rfl|hz
      ·exact hle
      ·exact hm z hz⟩
    ·exact ⟨a,List.mem_cons_self,by
      intro z hz
      rcases List.mem_cons.1 hz with rfl|hz
      ·exact Int.le_refl _
      ·have:=hm z hz;omega⟩
  obtain ⟨x,hx,hm⟩:=hmax
  have hxm:x∈rs/\forceB x y=true:=by
   have:x∈rs.filter fun r=>forceB r y:=by rw [hF];exact hx
   simpa using this
  have hc:¬ 10<crowdAt rs x:=by
   have:=List.any_eq_false.1 h x hxm.1
   simpa using this
  have hfx:x.lo<=y/\y<=x.hi:=by have:=hxm.2;unfold forceB at this;exact of_decide_eq_true this
  have hle:(rs.filter fun r=>forceB r y).length<=crowdAt rs x:=by
   unfold crowdAt
   have hsub:(rs.filter fun r=>forceB r y)=(rs.filter fun z=>decide (x.lo<=x.hi) && forceB z x.lo).filter fun r=>forceB r y:=by
    rw [List.filter_filter]
    refine List.filter_congr fun z hz=>?_
    by_cases hzf:forceB z y=true
    ·have hz2:z∈a :: t:=by rw [<-hF];simp [hz,hzf]
     have hz3:=hm z hz2
     have hz4:z.lo<=y/\y<=z.hi:=by unfold forceB at hzf;exact of_decide_eq_true hzf
     have:forceB z x.lo=true:=by unfold forceB;exact decide_eq_true ⟨hz3,by omega⟩
     rw [hzf,this];simp;omega
    ·simp only [Bool.not_eq_true] at hzf
     rw [hzf];rfl
   rw [hsub];exact List.length_filter_le _ _
  omega
theorem turnO_force {r:Rule} {y:Int} (h:(turnO r y).2=true):forceB r y=true:=by
 unfold turnO at h;simp only [Bool.and_eq_true] at h;exact h.2
theorem turnL_le (rs:List Rule) (y:Int):(rs.filterMap (turnL y)).length<=(rs.filter fun r=>forceB r y).length:=by
 induction rs with
 |nil=>simp
 |cons a t ih=>
  rw [List.filterMap_cons,List.filter_cons];unfold turnL
  by_cases h:(turnO a y).2=true
  ·rw [turnO_force h,if_pos h]
   simp only [if_true,List.length_cons];exact Nat.succ_le_succ ih
  ·rw [if_neg h]
   simp only
   split
   ·exact Nat.le_trans ih (Nat.le_succ _)
   ·exact ih
theorem turnsL_le {rs:List Rule} (hc:crowdB rs=false) (y:Int):(rs.filterMap (turnL y)).length<=10\/rulesB rs=false:=by
 cases hr:rulesB rs
 ·exact .inr rfl
 ·refine .inl (Nat.le_trans (turnL_le rs y) (force_le ?_ y))
  rw [crowdB,hr,Bool.true_and] at hc;exact hc
theorem turnO_bd {r:Rule} {y:Int} (h:(turnO r y).2=true): -10000000000000<=(turnO r y).1.at_/\(turnO r y).1.at_<=10000000000000:=by
 unfold turnO at h ⊢;simp only [Bool.and_eq_true] at h ⊢;obtain ⟨h1,_⟩:=h
 cases hl:localO (spotOf r) y with
 |none=>rw [hl] at h1;cases h1
 |some n=>
  unfold localO at hl
  cases ho:onO (spotOf r) y with
  |none=>rw [ho] at hl;cases hl
  |some d=>
   rw [ho] at hl;obtain ⟨⟨h2,h3⟩,hok,_⟩:=onO_bd ho;simp only [Option.map_some,Option.some.injEq] at hl;have ht:=hok;simp only [Spot.okP] at ht;simp only [Option.getD_some];omega
theorem turnsL_bd {rs:List Rule} {y:Int} {t:Turn} (h:t∈turnsL rs y): -10000000000000<=t.at_/\t.at_<=10000000000000:=by
 unfold turnsL at h
 split at h
 ·obtain ⟨r,_,hr⟩:=List.mem_filterMap.1 (mem_sortT h)
  unfold turnL at hr
  split at hr
  ·next h2=>
   injection hr with hr
   rw [<-hr];exact turnO_bd h2
  ·cases hr
 ·simp at h
end Rul
namespace Rul
open Go.RowKit Mem Civ Mom Img
theorem insert_none (c:Nat) (w:World):
  Calls prog 187 #[.slice none 0 c,.int .i64 0,.int .i64 0,.func (Fn.func 126) #[] #[]] w fun e w'=>
   e= .returned (.tuple #[])/\w'=w:=by
 go_enter func187,ntmps187;go_wp2
 go_loopw [8] (fun i wr=>i= .int .i64 1/\wr=w) (fun _ _=>0)
 case atStart=>exact ⟨rfl,rfl⟩
 case round=>
  obtain ⟨rfl,rfl⟩:=hrel;go_wp2
  go_end0
  exact ⟨rfl,rfl⟩
theorem insert_zero (g c:Nat) (w:World):
  Calls prog 187 #[.slice (some ⟨g,0,none⟩) 0 c,.int .i64 0,.int .i64 0,.func (Fn.func 126) #[] #[]] w fun e w'=>
   e= .returned (.tuple #[])/\w'=w:=by
 go_enter func187,ntmps187;go_wp2
 go_loopw [8] (fun i wr=>i= .int .i64 1/\wr=w) (fun _ _=>0)
 case atStart=>exact ⟨rfl,rfl⟩
 case round=>
  obtain ⟨rfl,rfl⟩:=hrel;go_wp2
  go_end0
  exact ⟨rfl,rfl⟩
def SortP (ts:List Turn) (v:Value) (base:Nat) (w:World) (e:Ending) (w':World):Prop:=
 e= .returned (.tuple #[])/\w'.ownsRow base 90 4 v ts.length ((sortT ts).flatMap Turn.cells)/\w.grownBy w' v.ownBlock
theorem insert_sort (ts:List Turn) (v:Value) (base:Nat) (w:World) (h:w.ownsRow base 90 4 v ts.length (ts.flatMap Turn.cells)) (hn:ts.length<=1000):
  Calls prog 187 #[v,.int .i64 0,.int .i64 ts.length,.func (Fn.func 126) #[] #[]] w (SortP ts v base w):=by
 rcases Nat.eq_zero_or_pos ts.length with h0|h0
 ·have hts:ts=[]:=List.eq_nil_of_length_eq_zero h0
  subst hts
  rcases h.2 with ⟨hv,_⟩|⟨g,cap,cur,hv,_⟩
  ·subst hv
   exact (insert_none 0 w).mono fun e w' ⟨he,hw⟩=>⟨he,by rw [hw];exact h,by rw [hw];exact World.grownBy.refl _ _⟩
  ·subst hv
   exact (insert_zero g cap w).mono fun e w' ⟨he,hw⟩=>⟨he,by rw [hw];exact h,by rw [hw];exact World.grownBy.refl _ _⟩
 ·obtain ⟨g,cap,hv,_,_⟩:=h.form h0
  subst hv;exact insert_any ts g cap base w h hn h0
theorem stable_any (ts:List Turn) (v:Value) (base:Nat) (w:World) (h:w.ownsRow base 90 4 v ts.length (ts.flatMap Turn.cells)) (hn:ts.length<20):
  Calls prog 161 #[v,.int .i64 ts.length,.func (Fn.func 126) #[] #[]] w (SortP ts v base w):=by
 have Hi:=hid (insert_sort ts v base w h (by omega))
 clear h;go_enter func161,ntmps161;go_wp2
 go_loopw [7,8] (fun a b wr=>a= .int .i64 0/\b= .int .i64 20/\wr=w) (fun _ _ _=>0)
 case atStart=>exact ⟨rfl,rfl,rfl⟩
 case round=>
  obtain ⟨rfl,rfl,rfl⟩:=hrel
  go_wp2_with (go_at_call 187;refine Hi.out.mono ?_;rintro e w1 ⟨rfl,ho,hg⟩;have HO:=hid (And.intro ho hg);clear ho hg)
  go_loopw [6] (fun a wr=>a= .int .i64 20/\wr=w1) (fun _ _=>0)
  case atStart=>exact ⟨rfl,rfl⟩
  case round=>
   obtain ⟨rfl,rfl⟩:=hrel;go_wp2
   go_end0
   exact ⟨rfl,HO.out.1,HO.out.2⟩
theorem sortStable_any (ts:List Turn) (A:Option Addr) (c base:Nat) (w:World) (h:w.ownsRow base 90 4 (.slice A ts.length c) ts.length (ts.flatMap Turn.cells)) (hn:ts.length<20):
  Calls prog 125 #[.slice A ts.length c,.func (Fn.func 126) #[] #[]] w (SortP ts (.slice A ts.length c) base w):=by
 have Hi:=hid (stable_any ts _ base w h hn);clear h;go_enter func125,ntmps125
 go_wp2_with (go_at_call 161;refine Hi.out.mono ?_;rintro e w1 ⟨rfl,ho,hg⟩;have HO:=hid (And.intro ho hg);clear ho hg)
 go_end0
 exact ⟨rfl,HO.out.1,HO.out.2⟩
theorem turnL_succ (rs:List Rule) (y:Int) (k:Nat) (hk:k<rs.length):(rs.take (k+1)).filterMap (turnL y)=if (turnO rs[k] y).2=true then (rs.take k).filterMap (turnL y)++[(turnO rs[k] y).1] else (rs.take k).filterMap (turnL y):=by
 rw [List.take_succ_eq_append_getElem hk,List.filterMap_append];unfold turnL
 by_cases h:(turnO rs[k] y).2=true
 ·simp [h]
 ·simp [h]
theorem turnL_take_le (rs:List Rule) (y:Int) (k:Nat):((rs.take k).filterMap (turnL y)).length<=(rs.filterMap (turnL y)).length:=by
 conv=>rhs;rw [<-List.take_append_drop k rs]
 rw [List.filterMap_append,List.length_append];omega
theorem info_turn:(prog.info? 90).map (fun i=>(i.zero,i.size,i.bytes))=some (some (.agg #[.int .i64 0,.int .i64 0,.int .i64 0,.string ⟨#[]⟩]),4,40):=by kernel_rfl
theorem turn_oneCell {a b c:Int} {s:ByteArray}:∀ u∈(#[Value.int .i64 a,.int .i64 b,.int .i64 c,.string s]:Array Value).toList,u.oneCell'=true:=by
 intro u hu;simp at hu
 rcases hu with rfl|rfl|rfl|rfl<;>rfl
theorem own_below {w w':World} {base size n:Nat} {e:TypeId} {v:Value} {xs:List Value} (h:w.ownsRow base e size v n xs) (hb:Below w.heap.size w w'):w'.ownsRow base e size v n xs:=
 h.kept (gr_of_below hb) (by cases v.ownBlock<;>simp)
theorem own_slice {w:World} {base size n:Nat} {e:TypeId} {v:Value} {xs:List Value} (h:w.ownsRow base e size v n xs):∃ A c,v= .slice A n c:=by
 rcases h.2 with ⟨hv,h0⟩|⟨g,cap,cur,hv,_⟩
 ·exact ⟨none,0,by rw [hv,h0]⟩
 ·exact ⟨_,_,hv⟩
def TurnsP (ts:List Turn) (w:World) (e:Ending) (w':World):Prop:=
 ∃ A c,e= .returned (.slice A ts.length c)/\w'.ownsRow w.heap.size 90 4 (.slice A ts.length c) ts.length (ts.flatMap Turn.cells)/\Below w.heap.size w w'
theorem turns_any (rs:List Rule) (A:Option Addr) (c:Nat) (y:Int) (w:World) (h:Reads w w.heap.size 11 A rs.length (rs.flatMap Rule.cells)) (hn:rs.length<=1000000) (hc:(rs.filterMap (turnL y)).length<=19\/rulesB rs=false):
  Calls prog 90 #[.slice A rs.length c,.int .i64 y] w (TurnsP (turnsL rs y) w):=by
 have Hr:=hid (rulesRight_any rs A c w h hn);have H:=hid h;clear h;obtain ⟨i0,hi0,hz0,hz1,hz2⟩:=info_parts info_turn;go_enter func90,ntmps90
 cases hb:rulesB rs
 ·have hts:turnsL rs y=[]:=by unfold turnsL;rw [hb];rfl
  rw [hb] at Hr;rw [hts];clear hts hb hc
  go_wp2_with (go_at_call 65;refine Hr.out.mono ?_;rintro e w1 ⟨rfl,hb⟩;have HB:=hid hb;clear hb)
  go_ret;exact ⟨none,0,rfl,World.ownsRow_nil _ _ _ _,HB.out⟩
 ·have hts:turnsL rs y=sortT (rs.filterMap (turnL y)):=by unfold turnsL;rw [hb];rfl
  have hlen:(rs.filterMap (turnL y)).length<=19:=by
   rcases hc with hc|hc
   ·exact hc
   ·rw [hb] at hc;cases hc
  rw [hb] at Hr;rw [hts];clear hts hb hc;have Hlen:=hid hlen;clear hlen
  go_wp2_with (go_at_call 65;refine Hr.out.mono ?_;rintro e w1 ⟨rfl,hb⟩;have HB:=hid hb;clear hb)
  go_loopw [5,15] (fun v i wr=>∃ k:Nat,k<=rs.length/\i= .int .i64 k/\wr.ownsRow w.heap.size 90 4 v ((rs.take k).filterMap (turnL y)).length (((rs.take k).filterMap (turnL y)).flatMap Turn.cells)/\Below w.heap.size w wr) (fun _ i _=>rs.length - (intOf i).toNat)
  case atStart=>exact ⟨0,Nat.zero_le _,rfl,World.ownsRow_nil _ _ _ _,HB.out⟩
  case round=>
   obtain ⟨k,hk,rfl,hown,hb⟩:=hrel;have Hown:=hid hown;have HBr:=hid hb;clear hown hb HB;obtain ⟨wo,rfl⟩:∃ wo:World,wo=wr:=⟨_,rfl⟩
   by_cases hkn:k<rs.length
   ·obtain ⟨ad,hA,hadb,a0,a1,a2,a3,a4,a5,a6,a7,a8,a9,a10⟩:=rule_cells (H.out.below HBr.out) hkn
    subst hA;have hst:=turnL_succ rs y k hkn;have hle1:=turnL_take_le rs y (k+1);have hle:=turnL_take_le rs y k;have Ht:=hid (fun z=>turn_any rs[k] y z);have Hst:=hid hst;have Hle:=hid (And.intro hle1 hle);clear hst hle hle1;simp only [Rule.cells] at Ht;generalize hto:turnO rs[k] y=tt at*;clear hto;generalize rs[k]=x at*;obtain ⟨t,ok⟩:=tt;obtain ⟨t0,t1,t2,t3⟩:=t;simp only [Turn.cells] at Ht Hst;have hll:((rs.take k).filterMap (turnL y)).length<=19:=Nat.le_trans Hle.out.2 Hlen.out;obtain ⟨L,hL⟩:∃ L,(rs.take k).filterMap (turnL y)=L:=⟨_,rfl⟩;rw [hL] at Hst Hown hll;clear hL;have hzo:=HBr.out.size;have hbx:=HBr.out.alloc hzo (.cells #[.string x.name,.int .i64 x.lo,.int .i64 x.hi,.int .i64 x.month,.int .i64 x.kind,.int .i64 x.weekday,.int .i64 x.day,.int .i64 x.time,.int .i64 x.ref,.int .i64 x.save,.string x.letter] 69);have HBX:=hid hbx;have HOX:=hid (Hown.out.alloc (.cells #[.string x.name,.int .i64 x.lo,.int .i64 x.hi,.int .i64 x.month,.int .i64 x.kind,.int .i64 x.weekday,.int .i64 x.day,.int .i64 x.time,.int .i64 x.ref,.int .i64 x.save,.string x.letter] 69));clear hbx
    cases ok
    ·have hst2:=Hst.out
     rw [if_neg (by decide)] at hst2
     have Hst2:=hid hst2;clear hst2 Hst
     go_wp2_with (go_at_call 97;refine (Ht.out _).mono ?_;rintro e w2 ⟨rfl,hb2⟩;have HB2:=hid hb2;clear hb2)
     refine ⟨⟨k+1,by omega,by go_num,?_,?_⟩,by simp [intOf];omega⟩
     ·rw [Hst2.out]
      exact (own_below HOX.out HB2.out).alloc _
     ·exact (HBX.out.trans (HB2.out.mono HBX.out.size)).alloc (by have:=HBX.out.size;have:=HB2.out.size;omega) _
    ·have hst2:=Hst.out
     rw [if_pos rfl] at hst2;have Hst2:=hid hst2;clear hst2 Hst
     go_wp2_with (first
      |(go_at_call 97;refine (Ht.out _).mono ?_;rintro e w2 ⟨rfl,hb2⟩;have HO2:=hid (own_below HOX.out hb2);have HB2:=hid (HBX.out.trans (hb2.mono HBX.out.size));have cn:=fun i=>(Blk.new w2 90 #[.int .i64 t0,.int .i64 t1,.int .i64 t2,.string t3]).cell i;clear hb2)
      |(at_builtin;refine wpList_append1g (w2.alloc (.cells #[.int .i64 t0,.int .i64 t1,.int .i64 t2,.string t3] 90)) rfl (.tmp 26) (.tmp 28) 86 rfl w.heap.size 90 i0 _ 4 40 underlying86 hi0 hz0 hz1 hz2 rfl (by decide) _ L.length _ rfl (HO2.out.alloc _) (by simp;rfl) rfl turn_oneCell ?m1 ?m2 ?m3 ?_))
     case m1=>unfold maxLen;omega
     case m2=>omega
     case m3=>have:=HB2.out.size;simp;omega
     intro v' w3 ho3 hg3
     have R:Hid (w3.ownsRow w.heap.size 90 4 v' (L++[(⟨t0,t1,t2,t3⟩:Turn)]).length ((L++[(⟨t0,t1,t2,t3⟩:Turn)]).flatMap Turn.cells)/\Below w.heap.size w w3):=by
      refine ⟨by simpa [Turn.cells] using ho3,?_⟩
      have hz:=HB2.out.size
      exact ((HB2.out.alloc hz _).alloc (by simp;omega) _).grown hg3 (by simp;omega) (fun j hj=>(HO2.out.lt j hj).1)
     clear ho3 hg3;go_wp2
     refine ⟨⟨k+1,by omega,by go_num,?_⟩,by simp [intOf];omega⟩
     rw [Hst2.out];exact R.out
   ·obtain rfl:k=rs.length:=by omega
    rw [List.take_length] at Hown
    have Hs:=hid (fun A c h=>sortStable_any (rs.filterMap (turnL y)) A c w.heap.size wo h (by have:=Hlen.out;omega))
    have hlen:(sortT (rs.filterMap (turnL y))).length=(rs.filterMap (turnL y)).length:=sortT_length _;have HLn:=hid hlen;clear hlen;generalize rs.filterMap (turnL y)=L at*;obtain ⟨A2,c2,hv⟩:=own_slice Hown.out;subst hv
    go_wp2_with (go_at_call 125;refine (Hs.out _ _ Hown.out).mono ?_;rintro e w2 ⟨rfl,ho,hg⟩;have HO2:=hid ho;have HG2:=hid hg;clear ho hg)
    go_ret
    refine ⟨A2,c2,by rw [HLn.out];rfl,by rw [HLn.out];exact HO2.out,?_⟩
    exact HBr.out.grown HG2.out HBr.out.size fun j hj=>(Hown.out.lt j hj).1
end Rul
namespace Rul
open Go.RowKit Mem Civ Mom Img
theorem turn_cells {w:World} {B:Nat} {A:Option Addr} {ss:List Turn} {n:Nat} (h:Reads w B 4 A n (ss.flatMap Turn.cells)) {k:Nat} (hk:k<ss.length) (hn:ss.length=n):
  ∃ ad,A=some ad/\ad.block<B/\w.cell? (ad.add (k*4))=some (.int .i64 ss[k].at_)/\w.cell? ⟨(ad.add (k*4)).block,(ad.add (k*4)).off+1,none⟩=some (.int .i64 ss[k].ref)/\
   w.cell? ⟨(ad.add (k*4)).block,(ad.add (k*4)).off+2,none⟩=some (.int .i64 ss[k].save)/\w.cell? ⟨(ad.add (k*4)).block,(ad.add (k*4)).off+3,none⟩=some (.string ss[k].letter):=by
 obtain ⟨ad,e,hb,hc⟩:=h.2 (by omega)
 have g:∀ j,j<4->(ss.flatMap Turn.cells)[k*4+j]?=ss[k].cells[j]?:=fun j hj=>by
  rw [flat_get Turn.cells 4 (fun _=>rfl) ss k j hj,List.getElem?_eq_getElem hk];rfl
 have ee:∀ j,0<j->(⟨(ad.add (k*4)).block,(ad.add (k*4)).off+j,none⟩:Addr)=ad.add (k*4+j):=fun j hj=>by
  rw [<-add_of_add,add_pos _ hj]
 refine ⟨ad,e,hb,?_⟩
 rw [ee 1 (by omega),ee 2 (by omega),ee 3 (by omega)]
 exact ⟨hc (k*4) _ (g 0 (by omega)),hc _ _ (g 1 (by omega)),hc _ _ (g 2 (by omega)),hc _ _ (g 3 (by omega))⟩
def bdT (l:List Turn):Prop:=∀ t∈l,-10000000000000<=t.at_/\t.at_<=10000000000000
theorem nearUpto_true {now had:List Turn} {k:Nat} (hk:k<now.length) (h:nearUpto now had (k+1)=true):nearUpto now had now.length=true:=by
 obtain ⟨d,hd⟩:∃ d,now.length=k+1+d:=⟨now.length - (k+1),by omega⟩
 rw [hd];clear hd
 induction d with
 |zero=>exact h
 |succ d ih=>rw [<-Nat.add_assoc,nearUpto,ih,Bool.true_or]
theorem nearer_any (now had:List Turn) (A A2:Option Addr) (c c2:Nat) (w:World) (h:Reads w w.heap.size 4 A now.length (now.flatMap Turn.cells)) (h2:Reads w w.heap.size 4 A2 had.length (had.flatMap Turn.cells))
  (hn:now.length<=1000) (hn2:had.length<=1000) (hc:now.length<=c) (hb1:bdT now) (hb2:bdT had):
  Calls prog 121 #[.slice A now.length c,.slice A2 had.length c2] w fun e w'=>e= .returned (.bool (nearerB now had))/\Below w.heap.size w w':=by
 obtain ⟨i0,hi0,hz0,hz1,hz2⟩:=info_parts info_turn;have H:=hid h;have H2:=hid h2;have HB1:=hid hb1;have HB2:=hid hb2;clear h h2 hb1 hb2;obtain ⟨Q,hQ⟩:∃ Q,nearerB now had=Q:=⟨_,rfl⟩;rw [hQ];have HQ:=hid hQ;clear hQ;go_enter func121,ntmps121;go_wp2
 go_loopw [12] (fun i wr=>∃ k:Nat,k<=now.length/\i= .int .i64 k/\nearUpto now had k=false/\Below w.heap.size w wr) (fun i _=>now.length - (intOf i).toNat)
 case atStart=>exact ⟨0,Nat.zero_le _,rfl,rfl,Below.refl _ _⟩
 case round=>
  obtain ⟨k,hk,rfl,hup,hb⟩:=hrel;have Hup:=hid hup;have HB:=hid hb;clear hup hb;obtain ⟨wo,rfl⟩:∃ wo:World,wo=wr:=⟨_,rfl⟩
  by_cases hkn:k<now.length
  ·obtain ⟨ad,hA,hadb,a0,a1,a2,a3⟩:=turn_cells (H.out.below HB.out) hkn rfl
   subst hA;have hzo:=HB.out.size
   have hux:nearUpto now had (k+1)=(now.take k++had).any (nearT now[k]):=by
    rw [nearUpto,Hup.out,List.getElem?_eq_getElem hkn,Bool.false_or]
   have hbx:=HB1.out now[k] (List.getElem_mem hkn)
   have hrf:=(H.out.below HB.out).2 (by omega)
   obtain ⟨ad',hA',_,hcell⟩:=hrf
   obtain rfl:ad=ad':=by injection hA'
   have Hcell:=hid hcell;have Hux:=hid hux;clear hA' hcell hux;generalize hx:now[k]=x at*;have Hx:=hid hx;clear hx;obtain ⟨x0,x1,x2,x3⟩:=x;simp only at hbx a0 a1 a2 a3;have hX:=Blk.new wo 90 #[.int .i64 x0,.int .i64 x1,.int .i64 x2,.string x3];have hbX:=HB.out.alloc hzo (.cells #[.int .i64 x0,.int .i64 x1,.int .i64 x2,.string x3] 90);have HX:=hid hX;have HBX:=hid hbX;clear hX hbX
   have hl4:((now.take k).flatMap Turn.cells).length=k*4:=by rw [len4,List.length_take];congr 1;omega
   have hpre:∀ j u,((now.take k).flatMap Turn.cells)[j]?=some u->(wo.alloc (.cells #[.int .i64 x0,.int .i64 x1,.int .i64 x2,.string x3] 90)).cell? (ad.add j)=some u:=fun j u hu=>by
    rw [World.cell?_alloc_lt _ _ _ (by rw [block_of_add];omega)]
    refine Hcell.out j u ?_
    conv=>lhs;rw [<-List.take_append_drop k now]
    rw [List.flatMap_append,List.getElem?_append_left (List.getElem?_eq_some_iff.1 hu).1]
    exact hu
   have hh2:=(H2.out.below HB.out).alloc (Below.size HB.out) (.cells #[.int .i64 x0,.int .i64 x1,.int .i64 x2,.string x3] 90);have HL4:=hid hl4;have HPre:=hid hpre;have HH2:=hid hh2;clear hl4 hpre hh2 Hcell
   go_wp2_with (at_builtin;refine wpList_append_full _ rfl (.tmp 20) (.tmp 21) 86 rfl 90 i0 _ 4 40 underlying86 hi0 hz0 hz1 hz2 ad k _ rfl HL4.out HPre.out (by simp;omega) w.heap.size A2 had.length c2 _ rfl HH2.out (by unfold maxLen;omega) (by omega) ?_;intro A3 c3 w3 hr3 hb3;have HR3:=hid hr3;have HX3:=hid (HX.out.below hb3 HX.out.lt);have HB3:=hid (HBX.out.trans (hb3.mono HBX.out.size));clear hr3 hb3)
   clear a0 a1 a2 a3 HPre HH2 HX HBX
   have hlen2:(now.take k++had).length=k+had.length:=by rw [List.length_append,List.length_take];omega
   have hbd:bdT (now.take k++had):=fun t ht=>by
    rcases List.mem_append.1 ht with ht|ht
    ·exact HB1.out t (List.mem_of_mem_take ht)
    ·exact HB2.out t ht
   rw [<-List.flatMap_append] at HR3;have HLen:=hid hlen2;have HBd:=hid hbd;clear hlen2 hbd;generalize now.take k++had=L at*;have HUx:=Hux;clear Hux
   go_loopw [24] (fun i wr=>∃ j:Nat,j<=k+had.length/\i= .int .i64 j/\(L.take j).any (nearT ⟨x0,x1,x2,x3⟩)=false/\Below w.heap.size w wr/\Below w3.heap.size w3 wr) (fun i _=>k+had.length - (intOf i).toNat)
   case atStart=>exact ⟨0,Nat.zero_le _,rfl,rfl,HB3.out,Below.refl _ _⟩
   case round=>
    obtain ⟨j,hj,rfl,hany,hb,hb3⟩:=hrel;have Hany:=hid hany;have HBr:=hid hb;have HBs:=hid hb3;clear hany hb hb3
    by_cases hjn:j<k+had.length
    ·obtain ⟨ad3,hA3,had3,d0,d1,d2,d3⟩:=turn_cells (HR3.out.below HBs.out) (k:=j) (by rw [HLen.out];exact hjn) HLen.out
     subst hA3
     have hjL:j<L.length:=by rw [HLen.out];exact hjn
     have hby:=HBd.out L[j] (List.getElem_mem hjL)
     have hsn:(L.take (j+1)).any (nearT ⟨x0,x1,x2,x3⟩)=nearT ⟨x0,x1,x2,x3⟩ L[j]:=by
      rw [List.take_succ_eq_append_getElem hjL,List.any_append,Hany.out];simp
     have hyes:nearT ⟨x0,x1,x2,x3⟩ L[j]=true->L.any (nearT ⟨x0,x1,x2,x3⟩)=true:=fun h=>List.any_eq_true.2 ⟨_,List.getElem_mem hjL,h⟩;have cx:=fun i=>(HX3.out.below HBs.out HX3.out.lt).cell i;have hzr:=HBr.out.size;have hzs:=HBs.out.size;have hxl:=HX3.out.lt;have cx2:∀ o i,(wr.alloc o).cell? ⟨wo.heap.size,i,none⟩=#[Value.int .i64 x0,.int .i64 x1,.int .i64 x2,.string x3][i]?:=fun o i=>((HX3.out.below HBs.out HX3.out.lt).alloc o).cell i;have HSn:=hid hsn;have HYes:=hid hyes;have hbb:=fun o=>HBr.out.alloc hzr o;have hbs:=fun o=>HBs.out.alloc hzs o;have HBb:=hid hbb;have HBq:=hid hbs;clear hsn hyes hbb hbs;generalize L[j]=y at*;obtain ⟨y0,y1,y2,y3⟩:=y;simp only at hby d0 d1 d2 d3;simp only [nearT] at HSn HYes
     have hwr:IntKind.i64.wrap (x0 - y0)=x0 - y0:=IntWalk.i64_in _ (by omega)
     by_cases h1:x0 - y0<172800
     ·by_cases h2: -172800<x0 - y0
      ·have hy:=HYes.out (by rw [decide_eq_true h1,decide_eq_true h2];rfl)
       have hq:Q=true:=by
        rw [<-HQ.out,nearerB]
        exact nearUpto_true hkn (by rw [HUx.out];exact hy)
       subst hq;clear HQ
       go_wp2_with fail
       go_ret;exact ⟨rfl,HBb.out _⟩
      ·have hs:=HSn.out
       rw [decide_eq_false h2,Bool.and_false] at hs;have Hs:=hid hs;clear hs HSn
       go_wp2_with fail
       exact ⟨⟨j+1,by omega,by go_num,Hs.out,HBb.out _,HBq.out _⟩,by simp [intOf];omega⟩
     ·have hs:=HSn.out
      rw [decide_eq_false h1,Bool.false_and] at hs;have Hs:=hid hs;clear hs HSn
      go_wp2_with fail
      exact ⟨⟨j+1,by omega,by go_num,Hs.out,HBb.out _,HBq.out _⟩,by simp [intOf];omega⟩
    ·obtain rfl:j=k+had.length:=by omega
     have hn2:nearUpto now had (k+1)=false:=by
      rw [HUx.out,<-Hany.out,List.take_of_length_le (by rw [HLen.out];exact Nat.le_refl _)]
     have Hn2:=hid hn2;clear hn2;go_wp2
     exact ⟨⟨k+1,by omega,by go_num,Hn2.out,HBr.out⟩,by simp [intOf];omega⟩
  ·obtain rfl:k=now.length:=by omega
   have hq:Q=false:=by rw [<-HQ.out,nearerB,Hup.out]
   subst hq;clear HQ;go_wp2;go_ret;exact ⟨rfl,HB.out⟩
theorem own_cap {w:World} {base size n c:Nat} {A:Option Addr} {e:TypeId} {xs:List Value} (h:w.ownsRow base e size (.slice A n c) n xs):n<=c:=by
 rcases h.2 with ⟨hv,h0⟩|⟨g,cap,cur,hv,_,_,hnc,_⟩
 ·omega
 ·injection hv with _ _ h3
  omega
theorem ruleB_bd {r:Rule} (h:ruleB r=true):1<=r.lo/\r.lo<=9999/\(1<=r.hi/\r.hi<=9999\/r.hi=1000000):=by
 have h2:=of_decide_eq_true h;unfold ruleP yearP at h2;omega
theorem firstY_succ (rs:List Rule) (k:Nat) (hk:k<rs.length):firstY (rs.take (k+1))=min (firstY (rs.take k)) rs[k].lo:=by
 rw [List.take_succ_eq_append_getElem hk,firstY,firstY,List.foldl_append];rfl
theorem lastY_succ (rs:List Rule) (k:Nat) (hk:k<rs.length):lastY (rs.take (k+1))=lastY1 (lastY (rs.take k)) rs[k]:=by
 rw [List.take_succ_eq_append_getElem hk,lastY,lastY,List.foldl_append];rfl
theorem years_bd (rs:List Rule) (h:rulesB rs=true) (k:Nat):(1<=firstY (rs.take k)/\firstY (rs.take k)<=9999)/\(1<=lastY (rs.take k)/\lastY (rs.take k)<=9999):=by
 induction k with
 |zero=>simp [firstY,lastY]
 |succ k ih=>
  by_cases hk:k<rs.length
  ·rw [firstY_succ rs k hk,lastY_succ rs k hk]
   have hb:=ruleB_bd (List.all_eq_true.1 h _ (List.getElem_mem hk));unfold lastY1
   split<;>omega
  ·rw [List.take_of_length_le (by omega)] at ih ⊢
   exact ih
theorem first_last {rs:List Rule} (h:rs≠[]):firstY rs<=lastY rs:=by
 obtain ⟨k,hk⟩:∃ k,rs.length=k+1:=⟨rs.length - 1,by have:=List.length_pos_iff.2 h;omega⟩
 have h1:=firstY_succ rs k (by omega)
 have h2:=lastY_succ rs k (by omega)
 rw [List.take_of_length_le (by omega)] at h1 h2
 rw [h1,h2,lastY1]
 split<;>omega
theorem turnsL_len {rs:List Rule} {y:Int} (h:(rs.filterMap (turnL y)).length<=10):(turnsL rs y).length<=19:=by
 unfold turnsL
 cases rulesB rs
 ·exact Nat.zero_le _
 ·show (sortT _).length<=19
  rw [sortT_length];omega
theorem near_any (rs:List Rule) (A:Option Addr) (c:Nat) (w:World) (h:Reads w w.heap.size 11 A rs.length (rs.flatMap Rule.cells)) (hn:rs.length<=1000000):
  Calls prog 86 #[.slice A rs.length c] w fun e w'=>e= .returned (.bool (nearB rs))/\Below w.heap.size w w':=by
 have Hr:=hid (rulesRight_any rs A c w h hn);have Hc:=hid (fun z (hb:Below w.heap.size w z)=>crowded_any rs A c z ((h.below hb).more hb.size) hn);have H:=hid h;clear h
 have hlc:((((rs.length:Nat):Int)) == 0)=rs.isEmpty:=by cases rs with
  |nil=>rfl
  |cons a t=>simp;omega
 obtain ⟨Q,hQ⟩:∃ Q,nearB rs=Q:=⟨_,rfl⟩;rw [hQ];unfold nearB at hQ;go_enter func86,ntmps86
 cases hb:rulesB rs
 ·rw [hb] at Hr hQ
  rw [Bool.false_and] at hQ;subst hQ;clear hb
  go_wp2_with (go_at_call 65;refine Hr.out.mono ?_;rintro e w1 ⟨rfl,hb⟩;have HB:=hid hb;clear hb)
  go_ret;exact ⟨rfl,HB.out⟩
 ·rw [hb] at Hr hQ
  rw [Bool.true_and] at hQ;have hyb:=years_bd rs hb
  have hcr:=fun (e:crowdB rs=false) (y:Int)=>(turnsL_le e y).elim (fun h=>h) (fun h=>by rw [hb] at h;cases h)
  have HYb:=hid hyb;have HCr:=hid hcr;clear hyb hcr
  cases hc:crowdB rs
  ·rw [hc] at Hc hQ HCr
   rw [Bool.not_false,Bool.true_and] at hQ;clear hc;have HCq:=hid (HCr.out rfl);clear HCr
   cases he:rs.isEmpty
   ·rw [he] at hQ hlc
    rw [Bool.not_false,Bool.true_and] at hQ;have HQ:=hid hQ;clear hQ
    have hne:rs≠[]:=fun e=>by rw [e] at he;cases he
    clear he
    go_wp2_with (first
     |(go_at_call 65;refine Hr.out.mono ?_;rintro e w1 ⟨rfl,hb⟩;have HB:=hid hb;clear hb)
     |(go_at_call 120;refine (Hc.out _ HB.out).mono ?_;rintro e w2 ⟨rfl,hb⟩;have HB2:=hid (HB.out.trans (hb.mono HB.out.size));clear hb))
    clear HB
    go_loopw [3,4,24] (fun f l i wr=>∃ k:Nat,k<=rs.length/\i= .int .i64 k/\f= .int .i64 (firstY (rs.take k))/\l= .int .i64 (lastY (rs.take k))/\Below w.heap.size w wr) (fun _ _ i _=>rs.length - (intOf i).toNat)
    case atStart=>exact ⟨0,Nat.zero_le _,rfl,rfl,rfl,HB2.out⟩
    case round=>
     obtain ⟨k,hk,rfl,rfl,rfl,hb⟩:=hrel;have HBr:=hid hb;clear hb HB2;obtain ⟨wo,rfl⟩:∃ wo:World,wo=wr:=⟨_,rfl⟩
     by_cases hkn:k<rs.length
     ·obtain ⟨ad,hA,hadb,a0,a1,a2,a3,a4,a5,a6,a7,a8,a9,a10⟩:=rule_cells (H.out.below HBr.out) hkn
      subst hA;have hf:=firstY_succ rs k hkn;have hl:=lastY_succ rs k hkn;have HF:=hid (And.intro hf hl);clear hf hl;generalize firstY (rs.take k)=f0 at*;generalize lastY (rs.take k)=l0 at*;generalize rs[k]=x at*;obtain ⟨x0,x1,x2,x3,x4,x5,x6,x7,x8,x9,x10⟩:=x;have hzo:=HBr.out.size;have hxb:=Blk.new wo 69 #[.string x0,.int .i64 x1,.int .i64 x2,.int .i64 x3,.int .i64 x4,.int .i64 x5,.int .i64 x6,.int .i64 x7,.int .i64 x8,.int .i64 x9,.string x10];have hbb:=HBr.out.alloc hzo (.cells #[.string x0,.int .i64 x1,.int .i64 x2,.int .i64 x3,.int .i64 x4,.int .i64 x5,.int .i64 x6,.int .i64 x7,.int .i64 x8,.int .i64 x9,.string x10] 69);have HBX:=hid hbb;have HX:=hid hxb;clear hbb hxb;have cx:=HX.out.cell
      go_upto_region 7 with fail
      refine wp_region_noPanic ?_
      go_region
      have hxd:=HX.out.drew;have hbd:=HBX.out.drew;have HXd:=hid hxd;have HBd:=hid hbd;clear hxd hbd cx;generalize World.drew _=wd at*;have cx:=HXd.out.cell
      refine NoPanic.normal ?_
      by_cases h6:x2=1000000
      ·subst h6
       go_wp2
       refine ⟨⟨k+1,by omega,by go_num,?_,?_,HBd.out⟩,by simp [intOf];omega⟩
       ·rw [HF.out.1]
        all_goals (congr 1;dsimp only;first|omega|(split<;>omega))
       ·rw [HF.out.2];simp only [lastY1,if_pos]
        all_goals (congr 1;first|omega|(split<;>omega))
      ·have h6b:(x2 == 1000000)=false:=by simp [h6]
       go_wp2
       refine ⟨⟨k+1,by omega,by go_num,?_,?_,HBd.out⟩,by simp [intOf];omega⟩
       ·rw [HF.out.1]
        all_goals (congr 1;dsimp only;first|omega|(split<;>omega))
       ·rw [HF.out.2];simp only [lastY1,if_neg h6];congr 1;first|omega|((repeat' split)<;>omega)
     ·obtain rfl:k=rs.length:=by omega
      have hyb:=HYb.out rs.length;rw [List.take_length] at*
      have HTs:=hid (fun (y:Int) (z:World) (hb:Below w.heap.size w z)=>turns_any rs A c y z ((H.out.below hb).more hb.size) hn (.inl (Nat.le_trans (HCq.out y) (by omega))))
      have hln:=fun (y:Int)=>turnsL_len (HCq.out y);have hfl:=first_last hne;have HLn:=hid hln;clear hln;generalize firstY rs=f0 at*;generalize lastY rs=l0 at*;go_wp2
      go_loopw [7,8] (fun v y wr=>∃ (n:Nat) (had:List Turn) (A2:Option Addr) (c2:Nat),v= .slice A2 had.length c2/\y= .int .i64 (l0+402 - n)/\n<=20000/\had.length<=19/\bdT had/\Reads wr wr.heap.size 4 A2 had.length (had.flatMap Turn.cells)/\nearYears rs n (l0+402 - n) had=Q/\Below w.heap.size w wr) (fun _ y _=>(l0+402 - intOf y).toNat)
      case atStart=>
       refine ⟨(l0+401 - f0+1).toNat,[],none,0,rfl,?_,by omega,by simp,by simp [bdT],Reads.none_,?_,HBr.out⟩
       ·congr 1;omega
       ·rw [<-HQ.out];congr 1;omega
      case round=>
       obtain ⟨n,had,A2,c2,rfl,rfl,hn2,hl,hbd,hrd,hny,hb⟩:=hrel;have HBd:=hid hbd;have HRd:=hid hrd;have HNy:=hid hny;have HB2:=hid hb;clear hbd hrd hny hb
       have hwr1:IntKind.i64.wrap (l0+401)=l0+401:=IntWalk.i64_in _ (by omega)
       rcases n with _|n
       ·have hq:Q=false:=HNy.out.symm
        subst hq
        have hle:¬ (l0+402 - (0:Nat)<=l0+401):=by omega
        clear HNy;go_wp2;go_ret;exact ⟨rfl,HB2.out⟩
       ·have hle:(l0+402 - ((n+1:Nat):Int)<=l0+401):=by omega
        have hwr2:IntKind.i64.wrap (l0+402 - ((n+1:Nat):Int)+1)=l0+402 - (n:Int):=by rw [show l0+402 - ((n+1:Nat):Int)+1=l0+402 - n by omega];exact IntWalk.i64_in _ (by omega)
        have hny2:=HNy.out
        rw [nearYears,show l0+402 - ((n+1:Nat):Int)+1=l0+402 - n by omega] at hny2
        have HT:=hid (HTs.out (l0+402 - ((n+1:Nat):Int)) wr HB2.out);have hbd2:bdT (turnsL rs (l0+402 - ((n+1:Nat):Int))):=fun t ht=>turnsL_bd ht;have hl2:=HLn.out (l0+402 - ((n+1:Nat):Int));have HN2:=hid hny2;have HBd2:=hid hbd2;clear hny2 hbd2 HNy;generalize turnsL rs (l0+402 - ((n+1:Nat):Int))=now at*
        have HNr:=hid (fun A c w1 h1 h2 h3=>nearer_any now had A A2 c c2 w1 h1 h2 (by omega) (by omega) h3 HBd2.out HBd.out)
        cases hnr:nearerB now had
        ·rw [hnr] at HNr HN2
         rw [Bool.false_or] at HN2;clear hnr
         go_wp2_with (first
          |(go_at_call 90;refine HT.out.mono ?_;rintro e w5 ⟨A5,c5,rfl,ho,hb⟩;have HB5:=hid (HB2.out.trans (hb.mono HB2.out.size));have HR5:=hid (Reads.of_own ho);have hc5:=own_cap ho;have HRd5:=hid ((HRd.out.below hb).more hb.size);clear ho hb)
          |(go_at_call 121;refine (HNr.out _ _ _ HR5.out HRd5.out hc5).mono ?_;rintro e w6 ⟨rfl,hb⟩;have HB6:=hid (HB5.out.trans (hb.mono HB5.out.size));have HR6:=hid ((HR5.out.below hb).more hb.size);clear hb))
         refine ⟨⟨n,now,A5,c5,rfl,by congr 1;omega,by omega,hl2,HBd2.out,HR6.out,HN2.out,HB6.out⟩,by simp only [intOf];omega⟩
        ·rw [hnr] at HNr HN2
         rw [Bool.true_or] at HN2;clear hnr;have hq:Q=true:=HN2.out.symm;subst hq;clear HN2
         go_wp2_with (first
          |(go_at_call 90;refine HT.out.mono ?_;rintro e w5 ⟨A5,c5,rfl,ho,hb⟩;have HB5:=hid (HB2.out.trans (hb.mono HB2.out.size));have HR5:=hid (Reads.of_own ho);have hc5:=own_cap ho;have HRd5:=hid ((HRd.out.below hb).more hb.size);clear ho hb)
          |(go_at_call 121;refine (HNr.out _ _ _ HR5.out HRd5.out hc5).mono ?_;rintro e w6 ⟨rfl,hb⟩;have HB6:=hid (HB5.out.trans (hb.mono HB5.out.size));have HR6:=hid ((HR5.out.below hb).more hb.size);clear hb))
         go_ret;exact ⟨rfl,HB6.out⟩
   ·rw [he] at hQ hlc
    rw [Bool.not_true,Bool.false_and] at hQ;subst hQ;clear he
    go_wp2_with (first
     |(go_at_call 65;refine Hr.out.mono ?_;rintro e w1 ⟨rfl,hb⟩;have HB:=hid hb;clear hb)
     |(go_at_call 120;refine (Hc.out _ HB.out).mono ?_;rintro e w2 ⟨rfl,hb⟩;have HB2:=hid (HB.out.trans (hb.mono HB.out.size));clear hb))
    go_ret;exact ⟨rfl,HB2.out⟩
  ·rw [hc] at Hc hQ
   rw [Bool.not_true,Bool.false_and] at hQ;subst hQ;clear hc
   go_wp2_with (first
    |(go_at_call 65;refine Hr.out.mono ?_;rintro e w1 ⟨rfl,hb⟩;have HB:=hid hb;clear hb)
    |(go_at_call 120;refine (Hc.out _ HB.out).mono ?_;rintro e w2 ⟨rfl,hb⟩;have HB2:=hid (HB.out.trans (hb.mono HB.out.size));clear hb))
   go_ret;exact ⟨rfl,HB2.out⟩
end Rul
end
end
section
section
namespace Ahd
open Go.RowKit Mem Civ Mom
def dayOf (n:Int):Int:=(n+719468) % 146097
def yOf (n:Int):Int:=(dayOf n - dayOf n / 1460+dayOf n / 36524 - dayOf n / 146096) / 365
def restOf (n:Int):Int:=dayOf n - (365*yOf n+yOf n / 4 - yOf n / 100)
def mOf (n:Int):Int:=(5*restOf n+2) / 153
theorem rest_bd (n:Int):0<=restOf n/\restOf n<=365:=by
 have e5:restOf n=dayOf n - (365*yOf n+yOf n / 4 - yOf n / 100):=rfl;have e6:yOf n=(dayOf n - dayOf n / 1460+dayOf n / 36524 - dayOf n / 146096) / 365:=rfl;have e7:dayOf n=(n+719468) % 146097:=rfl
 have r1:0<=dayOf n:=by omega
 have r2:dayOf n<146097:=by omega
 generalize restOf n=r at*;generalize yOf n=y at*;generalize dayOf n=d at*;clear e7
 rcases (by omega:d / 36524=0\/d / 36524=1\/d / 36524=2\/d / 36524=3\/d / 36524=4) with h|h|h|h|h<;>
  rcases (by omega:y / 100=0\/y / 100=1\/y / 100=2\/y / 100=3) with k|k|k|k<;>
  rcases (by omega:d / 146096=0\/d / 146096=1) with g|g<;>
  rcases (by omega:d / 1460=y / 4\/d / 1460=y / 4+1\/d / 1460=y / 4+2\/d / 1460=y / 4 - 1) with q|q|q|q<;>
  omega
def yearD (n:Int):Int:=if 12<mOf n+3 then yOf n+400*((n+719468) / 146097)+1 else yOf n+400*((n+719468) / 146097)
def monthD (n:Int):Int:=if 12<mOf n+3 then mOf n+3 - 12 else mOf n+3
def dayD (n:Int):Int:=restOf n - (153*mOf n+2) / 5+1
theorem of_results {w:World} {R0:Nat} {b:Bool} {a0 a1 a2:Value} (h:Blk w R0 115 #[a0,a1,a2]) (tmps:Array Value) (ht:tmps[2]?=some (.pointer (some ⟨R0,0,none⟩))) (h3:tmps[3]?=some (.bool b)):(results Tryz.f88 tmps).run prog w= .ok (.tuple #[.agg #[a0,a1,a2],.bool b]) w:=by
 have hc:=h.cell;simp [results,Tryz.results88,go_sem,hc,ht,h3]
theorem of_any (n:Int) (w:World) (h1: -100000001<=n) (h2:n<=100000000):
  Calls prog 88 #[.int .i64 n] w fun e w'=>e= .returned (.tuple #[.agg #[.int .i64 (yearD n),.int .i64 (monthD n),.int .i64 (dayD n)],.bool true])/\Below w.heap.size w w':=by
 have hone:=One.new w 115 #[.int .i64 0,.int .i64 0,.int .i64 0];obtain ⟨W,hW⟩:∃ W,w.alloc (.cells #[.int .i64 0,.int .i64 0,.int .i64 0] 115)=W:=⟨_,rfl⟩;rw [hW] at hone;have HO:=hid hone;have cc:=hone.1.cell;have ff:=hone.1.frozen
 have Hf:=hid (fun w1=>floor_any (n+719468) 146097 w1 (fl_era _ (by omega)))
 have e1:yearD n=if 12<mOf n+3 then yOf n+400*((n+719468) / 146097)+1 else yOf n+400*((n+719468) / 146097):=rfl
 have e2:monthD n=if 12<mOf n+3 then mOf n+3 - 12 else mOf n+3:=rfl
 have e3:dayD n=restOf n - (153*mOf n+2) / 5+1:=rfl;have e4:mOf n=(5*restOf n+2) / 153:=rfl;have e5:restOf n=dayOf n - (365*yOf n+yOf n / 4 - yOf n / 100):=rfl;have e6:yOf n=(dayOf n - dayOf n / 1460+dayOf n / 36524 - dayOf n / 146096) / 365:=rfl;have e7:dayOf n=(n+719468) % 146097:=rfl;rw [<-e7] at Hf
 have r1:0<=dayOf n:=by omega
 have r2:dayOf n<146097:=by omega
 have r3: -1000<=(n+719468) / 146097:=by omega
 have r4:(n+719468) / 146097<=1000:=by omega
 have r5:0<=yOf n:=by omega
 have r6:yOf n<=399:=by omega
 have r7:=(rest_bd n).1;have r8:=(rest_bd n).2
 have r9:0<=mOf n:=by omega
 have r10:mOf n<=11:=by omega
 have E4:=hid e4;have E5:=hid e5;have E6:=hid e6;generalize yearD n=Y at*;generalize monthD n=M at*;generalize dayD n=D at*;generalize mOf n=mm at*;generalize restOf n=rr at*;generalize yOf n=yy at*;generalize dayOf n=dd at*;generalize (n+719468) / 146097=cq at*;have E1:=hid e1;have E2:=hid e2;have E3:=hid e3;clear e1 e2 e3 e4 e5 e6 e7 hone;go_enter func88,ntmps88
 go_upto_region 5 with (go_at_call 122;refine (Hf.out _).mono ?_;rintro e w1 ⟨rfl,hd⟩;have hb:=HO.out.step (below_drs hd);have c2:=hb.1.cell;have f2:=hb.1.frozen;have HB:=hid hb;clear hd hb cc ff)
 rw [<-E6.out];clear E6
 go_upto_region 6 with fail
 rw [<-E5.out];clear E5
 go_upto_region 7 with fail
 rw [<-E4.out];clear E4
 by_cases h12:12<mm+3
 ·have h12b:decide (12<mm+3)=true:=decide_eq_true h12
  have hY:=E1.out;have hM:=E2.out;have hD:=E3.out;rw [if_pos h12] at hY hM;subst hY hM hD;have c3:=fun o i=>(HB.out.1.alloc o).cell i;have f3:=fun o i=>(HB.out.1.alloc o).frozen i;have HB3:=hid (fun o=>And.intro (HB.out.1.alloc o) (HB.out.2.alloc HB.out.2.size o));clear h12 E1 E2 E3
  go_wp2_with fail
  refine bodyPost_ret (of_results (((((HB3.out _).1.set_ 0 _).set_ 1 _).set_ 2 _)) _ rfl rfl) rfl ?_
  exact ⟨rfl,((((HB3.out _).2.setCell (by simp) _).setCell (by simp) _).setCell (by simp) _)⟩
 ·have h12b:decide (12<mm+3)=false:=decide_eq_false h12
  have hY:=E1.out;have hM:=E2.out;have hD:=E3.out;rw [if_neg h12] at hY hM;subst hY hM hD;have c3:=fun o i=>(HB.out.1.alloc o).cell i;have f3:=fun o i=>(HB.out.1.alloc o).frozen i;have HB3:=hid (fun o=>And.intro (HB.out.1.alloc o) (HB.out.2.alloc HB.out.2.size o));clear h12 E1 E2 E3
  go_wp2_with fail
  refine bodyPost_ret (of_results (((((HB3.out _).1.set_ 0 _).set_ 1 _).set_ 2 _)) _ rfl rfl) rfl ?_
  exact ⟨rfl,((((HB3.out _).2.setCell (by simp) _).setCell (by simp) _).setCell (by simp) _)⟩
def yearI (t:Int):Int:=if t / 86400< -100000001 then 0 else if 100000000<t / 86400 then yearD 100000000 else yearD (t / 86400)
theorem fl_day (a:Int) (ha: -9223372036854775808<=a/\a<=9223372036854775807):Fl a 86400:=by
 unfold Fl
 rcases Int.le_total 0 a with h|h
 ·rw [Int.tdiv_eq_ediv_of_nonneg h,Int.tmod_eq_emod_of_nonneg h];omega
 ·rw [(tneg a 86400).1,(tneg a 86400).2,Int.tdiv_eq_ediv_of_nonneg (by omega),Int.tmod_eq_emod_of_nonneg (by omega)];omega
theorem year_any (t:Int) (w:World) (h1: -9223372036854775808<=t) (h2:t<=9223372036854775807):
  Calls prog 67 #[.int .i64 t] w fun e w'=>e= .returned (.int .i64 (yearI t))/\Below w.heap.size w w':=by
 have HOf:=hid (fun n z h1 h2=>of_any n z h1 h2);obtain ⟨g1,g2,⟨g3,g4⟩,⟨g5,g6⟩,_,_⟩:=fl_day t ⟨h1,h2⟩;obtain ⟨Q,hQ⟩:∃ Q,yearI t=Q:=⟨_,rfl⟩;rw [hQ];unfold yearI at hQ
 have key:∀ d,d=t / 86400->(d< -100000001/\Q=0)\/(¬ d< -100000001/\100000000<d/\Q=yearD 100000000)\/(¬ d< -100000001/\¬ 100000000<d/\Q=yearD d):=by
  rintro d rfl
  by_cases e1:t / 86400< -100000001
  ·rw [if_pos e1] at hQ;exact .inl ⟨e1,hQ.symm⟩
  ·rw [if_neg e1] at hQ
   by_cases e2:100000000<t / 86400
   ·rw [if_pos e2] at hQ;exact .inr (.inl ⟨e1,e2,hQ.symm⟩)
   ·rw [if_neg e2] at hQ;exact .inr (.inr ⟨e1,e2,hQ.symm⟩)
 clear hQ
 rcases Int.lt_or_le (t.tmod 86400) 0 with h3|h3
 ·obtain ⟨e1,e2⟩:=g2 h3
  have h3b:decide (t.tmod 86400<0)=true:=decide_eq_true h3;have hk:=key _ e1;clear key e1 e2 g1 g2 h3
  rcases hk with ⟨k1,rfl⟩|⟨k1,k2,rfl⟩|⟨k1,k2,rfl⟩
  ·have k1b:decide (t.tdiv 86400 - 1< -100000001)=true:=decide_eq_true k1
   go_enter func67,ntmps67
   go_wp2_with fail
   go_ret;exact ⟨rfl,Below.refl _ _⟩
  ·have k1b:decide (t.tdiv 86400 - 1< -100000001)=false:=decide_eq_false k1
   have k2b:decide (100000000<t.tdiv 86400 - 1)=true:=decide_eq_true k2;go_enter func67,ntmps67
   go_wp2_with (go_at_call 88;refine (HOf.out _ _ (by omega) (by omega)).mono ?_;rintro e w1 ⟨rfl,hb⟩;have HB:=hid hb;clear hb)
   go_ret;exact ⟨rfl,HB.out.alloc HB.out.size _⟩
  ·have k1b:decide (t.tdiv 86400 - 1< -100000001)=false:=decide_eq_false k1
   have k2b:decide (100000000<t.tdiv 86400 - 1)=false:=decide_eq_false k2;go_enter func67,ntmps67
   go_wp2_with (go_at_call 88;refine (HOf.out _ _ (by omega) (by omega)).mono ?_;rintro e w1 ⟨rfl,hb⟩;have HB:=hid hb;clear hb)
   go_ret;exact ⟨rfl,HB.out.alloc HB.out.size _⟩
 ·obtain ⟨e1,e2⟩:=g1 h3
  have h3b:decide (t.tmod 86400<0)=false:=decide_eq_false (by omega)
  have hk:=key _ e1;clear key e1 e2 g1 g2 h3
  rcases hk with ⟨k1,rfl⟩|⟨k1,k2,rfl⟩|⟨k1,k2,rfl⟩
  ·have k1b:decide (t.tdiv 86400< -100000001)=true:=decide_eq_true k1
   go_enter func67,ntmps67
   go_wp2_with fail
   go_ret;exact ⟨rfl,Below.refl _ _⟩
  ·have k1b:decide (t.tdiv 86400< -100000001)=false:=decide_eq_false k1
   have k2b:decide (100000000<t.tdiv 86400)=true:=decide_eq_true k2;go_enter func67,ntmps67
   go_wp2_with (go_at_call 88;refine (HOf.out _ _ (by omega) (by omega)).mono ?_;rintro e w1 ⟨rfl,hb⟩;have HB:=hid hb;clear hb)
   go_ret;exact ⟨rfl,HB.out.alloc HB.out.size _⟩
  ·have k1b:decide (t.tdiv 86400< -100000001)=false:=decide_eq_false k1
   have k2b:decide (100000000<t.tdiv 86400)=false:=decide_eq_false k2;go_enter func67,ntmps67
   go_wp2_with (go_at_call 88;refine (HOf.out _ _ (by omega) (by omega)).mono ?_;rintro e w1 ⟨rfl,hb⟩;have HB:=hid hb;clear hb)
   go_ret;exact ⟨rfl,HB.out.alloc HB.out.size _⟩
end Ahd
namespace Ahd
open Go.RowKit Mem Civ Mom Img Rul
attribute [local go_sem] Oper.semAt_some
def lastY (r:Rule) (y:Int):Int:=min r.hi (y+1)
def partL (r:Rule) (y:Int) (k:Nat):List Turn:=(List.range k).filterMap fun i=>turnL (lastY r y - (i:Nat)) r
def backL (r:Rule) (y:Int):List Turn:=partL r y 4
theorem partL_succ (r:Rule) (y:Int) (k:Nat):partL r y (k+1)=partL r y k++(turnL (lastY r y - (k:Nat)) r).toList:=by
 unfold partL;rw [List.range_succ,List.filterMap_append]
 cases h:turnL (lastY r y - (k:Nat)) r<;>simp [h]
theorem partL_pre (r:Rule) (y:Int) {j k:Nat} (h:j<=k):partL r y j <+: partL r y k:=by
 obtain ⟨d,rfl⟩:∃ d,k=j+d:=⟨k - j,by omega⟩
 clear h
 induction d with
 |zero=>exact List.prefix_refl _
 |succ d ih=>
  rw [<-Nat.add_assoc,partL_succ];exact ih.trans (List.prefix_append _ _)
theorem partL_len (r:Rule) (y:Int) (k:Nat):(partL r y k).length<=k:=by
 have:=List.length_filterMap_le (fun i:Nat=>turnL (lastY r y - (i:Nat)) r) (List.range k)
 simpa [partL] using this
theorem turnL_low {r:Rule} {y:Int} (h:y<r.lo):turnL y r=none:=by
 unfold turnL turnO
 have:decide (r.lo<=y/\y<=r.hi)=false:=decide_eq_false (by omega)
 simp only [this,Bool.and_false]
 rfl
theorem partL_stop {r:Rule} {y:Int} {j:Nat} (h:lastY r y - (j:Nat)<r.lo):∀ d,partL r y (j+d)=partL r y j
 |0=>rfl
 |d+1=>by
  rw [<-Nat.add_assoc,partL_succ,partL_stop h d,turnL_low (by omega)]
  simp
theorem partL_end {r:Rule} {y:Int} {j:Nat} (h:lastY r y - (j:Nat)<r.lo) (hj:j<=4):partL r y j=backL r y:=by
 have:=partL_stop h (4 - j)
 rw [show j+(4 - j)=4 from by omega] at this
 exact this.symm
theorem _root_.Go.AbidesFrom.from {β:Type} {B B':Nat} {J:β->World->Prop} (h:AbidesFrom B J) (hb:B<=B'):AbidesFrom B' J:=fun s A C row hs hg hr=>h s A C row hs hg fun r e=>⟨Nat.le_trans hb (hr r e).1,(hr r e).2⟩
structure Keep (Br By:Nat) (W W':World):Prop where
 size:W.heap.size<=W'.heap.size
 r:W'.heap[Br]?=W.heap[Br]?
 y:W'.heap[By]?=W.heap[By]?
theorem Keep.refl (Br By:Nat) (W:World):Keep Br By W W:=⟨Nat.le_refl _,rfl,rfl⟩
theorem Keep.trans {Br By:Nat} {A B C:World} (h:Keep Br By A B) (k:Keep Br By B C):Keep Br By A C:=⟨Nat.le_trans h.size k.size,k.r.trans h.r,k.y.trans h.y⟩
theorem Keep.of {Br By:Nat} {A B:World} (h:Below A.heap.size A B) (h1:Br<A.heap.size) (h2:By<A.heap.size):Keep Br By A B:=⟨h.size,h.block _ h1,h.block _ h2⟩
def encT (t:Turn):Array Value:=#[.agg #[.int .i64 t.at_,.int .i64 t.ref,.int .i64 t.save,.string t.letter]]
theorem part_none {r:Rule} {y:Int} {k:Nat} (h:(turnO r (lastY r y - (k:Nat))).2=false):partL r y (k+1)=partL r y k:=by
 rw [partL_succ,turnL,h];simp
theorem part_some {r:Rule} {y:Int} {k:Nat} (h:(turnO r (lastY r y - (k:Nat))).2=true):partL r y (k+1)=partL r y k++[(turnO r (lastY r y - (k:Nat))).1]:=by
 rw [partL_succ,turnL,h];simp
theorem back1_in (r:Rule) (y:Int) (n l Br By:Nat) (hlo:1<=r.lo) (hlo2:r.lo<=9999) (hhi:1<=r.hi) (hhi2:r.hi<=1000000) (hy1: -1000000<=y) (hy2:y<=1000000) (J Jx:List Turn->World->Prop) (W:World)
  (hJ:AbidesFrom W.heap.size J)
  (hY:∀ pre x W1,J pre W1->pre.length<4->YieldAt Fence.wide (n - 1) prog l (encT x) W1 fun e W'=>
   (e= .returned (.bool true)/\J (pre++[x]) W'/\Keep Br By W1 W')\/(e= .returned (.bool false)/\Jx (pre++[x]) W'))
  (hr:Blk W Br 69 r.cells.toArray) (hy:Blk W By 3 #[.int .i64 y]) (h0:J [] W):
  CallsIn Fence.wide n prog 132 #[.func (.yield l) #[] #[],.pointer (some ⟨Br,0,none⟩),.pointer (some ⟨By,0,none⟩)] W fun e W'=>(∃ v,e= .returned v)/\
   ((∃ ys,ys=backL r y/\J ys W')\/(∃ pre,pre <+: backL r y/\Jx pre W')):=by
 have hT:=fun i z=>turn_any r (lastY r y - (i:Nat)) z;have hL:lastY r y=min r.hi (y+1):=rfl;have hStop:=fun (k:Nat) h hk=>partL_end (r:=r) (y:=y) (j:=k) h hk;have hNone:=fun (k:Nat)=>part_none (r:=r) (y:=y) (k:=k);have hSome:=fun (k:Nat)=>part_some (r:=r) (y:=y) (k:=k);have hlen:=partL_len r y;have hpre:=fun (k:Nat) (hk:k<=4)=>partL_pre r y hk;have hb4:partL r y 4=backL r y:=rfl;have h00:partL r y 0=[]:=rfl;obtain ⟨T,hTT⟩:∃ T:Nat->Turn,T=fun k=>(turnO r (lastY r y - (k:Nat))).1:=⟨_,rfl⟩;obtain ⟨q,hqq⟩:∃ q:Nat->Bool,q=fun k=>(turnO r (lastY r y - (k:Nat))).2:=⟨_,rfl⟩
 have hT2:∀ (i:Nat) z,Calls prog 97 #[.agg r.cells.toArray,.int .i64 (lastY r y - (i:Nat))] z fun e w'=>e= .returned (.tuple #[.agg #[.int .i64 (T i).at_,.int .i64 (T i).ref,.int .i64 (T i).save,.string (T i).letter],.bool (q i)])/\Below z.heap.size z w':=by
  intro i z;rw [hTT,hqq];exact hT i z
 have hNone2:∀ k,q k=false->partL r y (k+1)=partL r y k:=fun k h=>hNone k (by rw [hqq] at h;exact h)
 have hSome2:∀ k,q k=true->partL r y (k+1)=partL r y k++[T k]:=fun k h=>by rw [hTT];exact hSome k (by rw [hqq] at h;exact h)
 obtain ⟨PL,hPL⟩:∃ PL,PL=partL r y:=⟨_,rfl⟩;rw [<-hPL] at hStop hlen hpre hb4 h00 hNone2 hSome2;rw [<-hb4] at hStop ⊢;obtain ⟨r0,r1,r2,r3,r4,r5,r6,r7,r8,r9,r10⟩:=r;simp only [Rule.cells] at hr hT2 hlo hlo2 hhi hhi2 hL hStop;obtain ⟨L,hLL⟩:∃ L,L=lastY ⟨r0,r1,r2,r3,r4,r5,r6,r7,r8,r9,r10⟩ y:=⟨_,rfl⟩;rw [<-hLL] at hL hT2 hStop
 have hLb: -1000000<=L/\L<=1000000:=by omega
 obtain ⟨hLb1,hLb2⟩:=hLb;have HT:=hid hT2;have HStop:=hid hStop;have HNone:=hid hNone2;have HSome:=hid hSome2;have HLen:=hid hlen;have HPre:=hid hpre;have HJ:=hid hJ;have HY:=hid hY;have HR:=hid hr;have H00:=hid h00;have HL:=hid hL;have Hy:=hid hy;have hBr:=hr.lt;have hBy:=hy.lt;have cy:=hy.cell 0
 simp only [List.getElem?_toArray,List.getElem?_cons_zero] at cy
 have c0:=hr.cell;clear hT hStop hNone hSome hlen hpre hb4 h00 hTT hqq hT2 hNone2 hSome2 hPL hLL hJ hY hL
 refine callsIn_of_wp func132 rfl trivial ?_ rfl
 simp only [ntmps132,List.size_toArray,List.length_cons,List.length_nil,Nat.reduceAdd,Nat.reduceSub,Array.replicate_succ,Array.replicate_zero,List.push_toArray,List.append_toArray,List.nil_append,List.cons_append]
 gi_wp2
 all_goals
  first
   |(rw [show y+1=L from by have:=HL.out;omega])
   |(rw [show Value.int .i64 r2= .int .i64 L from by have:=HL.out;congr 1;omega])
  gi_loopw [5] (fun v wr=>∃ k:Nat,k<=4/\v= .int .i64 (L - (k:Nat))/\J (PL k) wr/\Keep Br By W wr) (fun v _=>(intOf v - L+5).toNat)
  case atStart=>exact ⟨0,Nat.zero_le _,by simp,by rw [H00.out];exact h0,Keep.refl _ _ _⟩
  case round=>
   obtain ⟨k,hk,rfl,hJs,hnx⟩:=hrel;have hsz:=hnx.size;have hr2:Blk wr Br 69 #[.string r0,.int .i64 r1,.int .i64 r2,.int .i64 r3,.int .i64 r4,.int .i64 r5,.int .i64 r6,.int .i64 r7,.int .i64 r8,.int .i64 r9,.string r10]:=hnx.r.trans HR.out;have hy2:Blk wr By 3 #[.int .i64 y]:=hnx.y.trans Hy.out;have c1:=hr2.cell;have hyz:=hy2.cell 0;have hB1:=hr2.lt;have hB2:=hy2.lt;clear c0 cy
   by_cases hlow:L - (k:Nat)<r1
   ·have hd:decide (r1<=L - (k:Nat))=false:=decide_eq_false (by omega)
    have he:=HStop.out k hlow hk;have HE:=hid he;clear he hlow
    gi_wp2
    go_end0
    exact ⟨⟨_,rfl⟩,.inl ⟨_,HE.out,hJs⟩⟩
   ·have hd:decide (r1<=L - (k:Nat))=true:=decide_eq_true (by omega)
    by_cases hk4:k=4
    ·subst hk4
     have hd2:decide (L - 4<L - ((4:Nat):Int))=false:=decide_eq_false (by omega)
     gi_wp2
     go_end0
     exact ⟨⟨_,rfl⟩,.inl hJs⟩
    ·have hd2:decide (L - 4<L - (k:Nat))=true:=decide_eq_true (by omega)
     cases hq:q k
     ·have hN:=HNone.out k hq
      have hTk:=HT.out k;rw [hq] at hTk;have HTk:=hid hTk;have HN:=hid hN;clear hN hTk hq
      gi_wp2_with (refine ⟨trivial,fun h=>(by cases h),?_⟩;refine (callsIn_wide.2 (HTk.out _)).mono ?_;rintro e w1 ⟨rfl,hb⟩;have HB:=hid hb;clear hb)
      refine ⟨fun _ h=>(by cases h),?_⟩
      gi_wp2
      go_roundw
      case rel=>
       refine ⟨k+1,by omega,by go_num,?_,?_⟩
       ·rw [HN.out]
        exact (HJ.out.from hsz) _ _ _ none ((HJ.out.from hsz) _ _ _ none hJs (gr_of_below HB.out) (fun r e=>by cases e)) (World.grownBy_alloc _ _ none) (fun r e=>by cases e)
       ·exact hnx.trans (Keep.of (HB.out.alloc HB.out.size _) hB1 hB2)
      case measure=>simp [intOf];omega
     ·have hN:=HSome.out k hq
      have hTk:=HT.out k;rw [hq] at hTk;have HTk:=hid hTk;have HN:=hid hN;clear hN hTk hq
      gi_wp2_with (refine ⟨trivial,fun h=>(by cases h),?_⟩;refine (callsIn_wide.2 (HTk.out _)).mono ?_;rintro e w1 ⟨rfl,hb⟩;have HB:=hid hb;obtain ⟨fn,tmps,assign,body,hy,hRr⟩:=HY.out (PL k) (T k) (w1.alloc (.cells #[.int .i64 (T k).at_,.int .i64 (T k).ref,.int .i64 (T k).save,.string (T k).letter] 90)) ((HJ.out.from hsz) _ _ _ none ((HJ.out.from hsz) _ _ _ none hJs (gr_of_below hb) (fun r e=>by cases e)) (World.grownBy_alloc _ _ none) (fun r e=>by cases e)) (by have:=HLen.out k;omega);simp only [encT] at hy;have HRr:=hid hRr;clear hb hRr)
      refine ⟨fun h=>(by cases h),HRr.out.mono ?_⟩
      rintro e W3 (⟨rfl,hJ3,hk3⟩|⟨rfl,hJx3⟩)
      ·gi_wp2
       go_roundw
       case rel=>
        refine ⟨k+1,by omega,by go_num,?_,?_⟩
        ·rw [HN.out]
         exact hJ3
        ·exact (hnx.trans (Keep.of (HB.out.alloc HB.out.size _) hB1 hB2)).trans hk3
       case measure=>simp [intOf];omega
      ·gi_wp2
       refine bodyPost_ret (results_none rfl _ _ _) rfl ?_
       exact ⟨⟨_,rfl⟩,.inr ⟨_,by rw [<-HN.out];exact HPre.out (k+1) (by omega),hJx3⟩⟩
theorem back_any (r:Rule) (y:Int) (w:World):
  Calls prog 95 #[.agg r.cells.toArray,.int .i64 y] w fun e w'=>e= .returned (.func (.func 132) #[] #[.pointer (some ⟨w.heap.size,0,none⟩),.pointer (some ⟨w.heap.size+1,0,none⟩)])/\
   w'=(w.alloc (.cells r.cells.toArray 69)).alloc (.cells #[.int .i64 y] 3):=by
 go_enter func95,ntmps95
 go_wp2_with fail
 go_ret;exact ⟨rfl,rfl⟩
theorem back_stops (r:Rule) (y:Int) (n Br By:Nat) (w:World) (hlo:1<=r.lo) (hlo2:r.lo<=9999) (hhi:1<=r.hi) (hhi2:r.hi<=1000000) (hy1: -1000000<=y) (hy2:y<=1000000)
  (hr:Blk w Br 69 r.cells.toArray) (hy:Blk w By 3 #[.int .i64 y]):
  SeqStopsK Fence.wide n prog 132 #[.pointer (some ⟨Br,0,none⟩),.pointer (some ⟨By,0,none⟩)] encT (Keep Br By) (fun ys=>ys=backL r y) (fun pre=>pre <+: backL r y) 4 w:=fun l J Jx W hW hJ _ hY h0=>
 back1_in r y n l Br By hlo hlo2 hhi hhi2 hy1 hy2 J Jx W hJ hY (hr.below hW hr.lt) (hy.below hW hy.lt) h0
end Ahd
namespace Ahd
open Go.RowKit Mem Civ Mom Img Rul
attribute [local go_sem] Oper.semAt_some
def stepT (so:Turn->Bool) (best:Option Turn) (l:List Turn):Option Turn:=match l.find? so with
 |none=>best
 |some t=>match best with
  |none=>some t
  |some b=>if b.at_<=t.at_ then some t else some b
def latestL (so:Turn->Bool) (y:Int) (rs:List Rule):Option Turn:=rs.foldl (fun b x=>stepT so b (backL x y)) none
def noTurn:Turn:=⟨0,0,0,⟨#[]⟩⟩
def SoAt (g:Nat) (lb:Array Value) (so:Turn->Bool) (w:World):Prop:=
 ∀ t z,Below w.heap.size w z->Calls prog g (encT t++lb) z fun e w'=>e= .returned (.bool (so t))/\Below z.heap.size z w'
structure La (w:World) (g:Nat) (lb:Array Value) (best:Option Turn) (W:World):Prop where
 so:Blk W w.heap.size 100 #[.func (.func g) #[] lb]
 res:Blk W (w.heap.size+1) 90 #[.int .i64 0,.int .i64 0,.int .i64 0,.string ⟨#[]⟩]
 bst:Blk W (w.heap.size+1+1) 90 (best.getD noTurn).cells.toArray
 fnd:Blk W (w.heap.size+1+1+1) 4 #[.bool best.isSome]
 bel:Below w.heap.size w W
theorem La.grown {w W W':World} {g:Nat} {lb:Array Value} {best:Option Turn} {r:Option Nat} (h:La w g lb best W) (hg:W.grownBy W' r) (hr:∀ k,r=some k->w.heap.size+4<=k):La w g lb best W':=
 ⟨h.so.grown hg (fun e=>by have:=hr _ e.symm;omega),h.res.grown hg (fun e=>by have:=hr _ e.symm;omega),h.bst.grown hg (fun e=>by have:=hr _ e.symm;omega),h.fnd.grown hg (fun e=>by have:=hr _ e.symm;omega),h.bel.grown hg h.bel.size (fun k e=>by have:=hr _ e;omega)⟩
theorem La.alloc {w W:World} {g:Nat} {lb:Array Value} {best:Option Turn} (h:La w g lb best W) (o:Obj):La w g lb best (W.alloc o):=h.grown (World.grownBy_alloc W o none) (fun k e=>by cases e)
theorem La.step {w W W':World} {g:Nat} {lb:Array Value} {best:Option Turn} (h:La w g lb best W) (hb:Below W.heap.size W W'):La w g lb best W':=h.grown (gr_of_below hb) (fun k e=>by cases e)
theorem La.set {w W:World} {g:Nat} {lb:Array Value} {best:Option Turn} (h:La w g lb best W) (t:Turn):
  La w g lb (some t) (((((W.setCell ⟨w.heap.size+1+1,0,none⟩ (.int .i64 t.at_)).setCell ⟨w.heap.size+1+1,1,none⟩ (.int .i64 t.ref)).setCell ⟨w.heap.size+1+1,2,none⟩ (.int .i64 t.save)).setCell ⟨w.heap.size+1+1,3,none⟩ (.string t.letter)).setCell ⟨w.heap.size+1+1+1,0,none⟩ (.bool true)):=by
 have hb:=((((h.bst.set_ 0 (.int .i64 t.at_)).set_ 1 (.int .i64 t.ref)).set_ 2 (.int .i64 t.save)).set_ 3 (.string t.letter)).far (p:=⟨w.heap.size+1+1+1,0,none⟩) (by simp) (.bool true)
 have hf:=((((h.fnd.far (p:=⟨w.heap.size+1+1,0,none⟩) (by simp) (.int .i64 t.at_)).far (p:=⟨w.heap.size+1+1,1,none⟩) (by simp) (.int .i64 t.ref)).far (p:=⟨w.heap.size+1+1,2,none⟩) (by simp) (.int .i64 t.save)).far (p:=⟨w.heap.size+1+1,3,none⟩) (by simp) (.string t.letter)).set_ 0 (.bool true)
 simp only [Turn.cells,List.setIfInBounds_toArray,List.set_cons_succ,List.set_cons_zero] at hb hf
 refine ⟨?_,?_,hb,hf,?_⟩
 ·exact ((((h.so.far (by simp<;>omega) _).far (by simp<;>omega) _).far (by simp<;>omega) _).far (by simp<;>omega) _).far (by simp<;>omega) _
 ·exact ((((h.res.far (by simp) _).far (by simp) _).far (by simp) _).far (by simp) _).far (by simp<;>omega) _
 ·exact ((((h.bel.setCell (by simp<;>omega) _).setCell (by simp<;>omega) _).setCell (by simp<;>omega) _).setCell (by simp<;>omega) _).setCell (by simp<;>omega) _
theorem La.start (w:World) (g:Nat) (lb:Array Value):La w g lb none ((((w.alloc (.cells #[.func (.func g) #[] lb] 100)).alloc (.cells #[.int .i64 0,.int .i64 0,.int .i64 0,.string ⟨#[]⟩] 90)).alloc (.cells #[.int .i64 0,.int .i64 0,.int .i64 0,.string ⟨#[]⟩] 90)).alloc (.cells #[.bool false] 4)):=by
 have h1:=Blk.new w 100 #[.func (.func g) #[] lb];have h2:=Blk.new (w.alloc (.cells #[.func (.func g) #[] lb] 100)) 90 #[.int .i64 0,.int .i64 0,.int .i64 0,.string ⟨#[]⟩];have h3:=Blk.new ((w.alloc (.cells #[.func (.func g) #[] lb] 100)).alloc (.cells #[.int .i64 0,.int .i64 0,.int .i64 0,.string ⟨#[]⟩] 90)) 90 #[.int .i64 0,.int .i64 0,.int .i64 0,.string ⟨#[]⟩];have h4:=Blk.new (((w.alloc (.cells #[.func (.func g) #[] lb] 100)).alloc (.cells #[.int .i64 0,.int .i64 0,.int .i64 0,.string ⟨#[]⟩] 90)).alloc (.cells #[.int .i64 0,.int .i64 0,.int .i64 0,.string ⟨#[]⟩] 90)) 4 #[.bool false];simp only [World.size_alloc] at h2 h3 h4
 exact ⟨((h1.alloc _).alloc _).alloc _,(h2.alloc _).alloc _,h3.alloc _,h4,((((Below.refl _ _).alloc (Nat.le_refl _) _).alloc (by simp) _).alloc (by simp<;>omega) _).alloc (by simp<;>omega) _⟩
structure Kd (B:Nat) (W W':World):Prop where
 size:W.heap.size<=W'.heap.size
 same:∀ k,k<W.heap.size->k≠B+1+1->k≠B+1+1+1->W'.heap[k]?=W.heap[k]?
theorem Kd.refl (B:Nat) (W:World):Kd B W W:=⟨Nat.le_refl _,fun _ _ _ _=>rfl⟩
theorem Kd.trans {B:Nat} {X Y Z:World} (h:Kd B X Y) (k:Kd B Y Z):Kd B X Z:=⟨Nat.le_trans h.size k.size,fun i h1 h2 h3=>(k.same i (Nat.lt_of_lt_of_le h1 h.size) h2 h3).trans (h.same i h1 h2 h3)⟩
theorem Kd.of {B:Nat} {X Y:World} (h:Below X.heap.size X Y):Kd B X Y:=⟨h.size,fun i h1 _ _=>h.block i h1⟩
theorem Kd.set {B:Nat} {X:World} {p:Addr} (h:p.block=B+1+1\/p.block=B+1+1+1) (u:Value):Kd B X (X.setCell p u):=⟨by simp,fun i _ h2 h3=>Below.heap_setCell X p u i (by omega)⟩
structure Mk (B:Nat) (Ds:List Nat) (W:World):Prop where
 nod:Ds.Nodup
 at_:∀ D∈Ds,B+4<=D/\W.heap[D]?=some (.deferred (some []))
theorem Mk.kd {B:Nat} {Ds:List Nat} {W W':World} (h:Mk B Ds W) (k:Kd B W W'):Mk B Ds W':=⟨h.nod,fun D hD=>by
 obtain ⟨h1,h2⟩:=h.at_ D hD
 exact ⟨h1,(k.same D (Array.getElem?_eq_some_iff.1 h2).1 (by omega) (by omega)).trans h2⟩⟩
theorem Mk.push {B:Nat} {Ds:List Nat} {W W':World} {D:Nat} (h:Mk B Ds W) (k:Kd B W W') (hB:B+4<=D) (hD:W.heap.size<=D) (hh:W'.heap[D]?=some (.deferred (some []))):Mk B (D :: Ds) W':=by
 refine ⟨List.nodup_cons.2 ⟨fun hm=>?_,h.nod⟩,fun D' hD'=>?_⟩
 ·have:=(Array.getElem?_eq_some_iff.1 (h.at_ D hm).2).1
  omega
 ·rcases List.mem_cons.1 hD' with rfl|hD'
  ·exact ⟨hB,hh⟩
  ·exact (h.kd k).at_ D' hD'
theorem Kd.own {B:Nat} {w1 A C:World} {row:Option Nat} (h:Kd B w1 A) (hg:A.grownBy C row) (hr:∀ r,row=some r->w1.heap.size<=r):Kd B w1 C:=
 ⟨Nat.le_trans h.size hg.size,fun k h1 h2 h3=>(hg.block k (Nat.lt_of_lt_of_le h1 h.size) (fun e=>by have:=hr k e.symm;omega)).trans (h.same k h1 h2 h3)⟩
theorem step_none {so:Turn->Bool} {best:Option Turn} {pre:List Turn} (h:∀ t∈pre,so t=false):stepT so best pre=best:=by
 unfold stepT
 rw [List.find?_eq_none.2 (fun t ht=>by rw [h t ht];decide)]
theorem step_first {so:Turn->Bool} {pre:List Turn} {t:Turn} (h:pre.find? so=some t):stepT so none pre=some t:=by
 unfold stepT;rw [h]
theorem step_le {so:Turn->Bool} {pre:List Turn} {t b:Turn} (h:pre.find? so=some t) (hle:b.at_<=t.at_):stepT so (some b) pre=some t:=by
 unfold stepT;rw [h];simp only [if_pos hle]
theorem step_gt {so:Turn->Bool} {pre:List Turn} {t b:Turn} (h:pre.find? so=some t) (hle:¬ b.at_<=t.at_):stepT so (some b) pre=some b:=by
 unfold stepT;rw [h];simp only [if_neg hle]
theorem find_snoc {so:Turn->Bool} {pre:List Turn} {x:Turn} (h:∀ t∈pre,so t=false) (hx:so x=true):(pre++[x]).find? so=some x:=by
 rw [List.find?_append,List.find?_eq_none.2 (fun t ht=>by rw [h t ht];decide)]
 simp [hx]
theorem find_pre {so:Turn->Bool} {pre l:List Turn} {t:Turn} (h:pre <+: l) (ht:pre.find? so=some t):l.find? so=some t:=by
 obtain ⟨r,rfl⟩:=h
 rw [List.find?_append,ht]
 rfl
theorem Mk.set {B:Nat} {Ds:List Nat} {W:World} (h:Mk B Ds W) {p:Addr} (hp:p.block<B+4) (u:Value):Mk B Ds (W.setCell p u):=⟨h.nod,fun D hD=>by
 obtain ⟨h1,h2⟩:=h.at_ D hD
 exact ⟨h1,(Below.heap_setCell W p u D (by omega)).trans h2⟩⟩
theorem Mk.drew {B:Nat} {Ds:List Nat} {W:World} (h:Mk B Ds W):Mk B Ds W.drew:=⟨h.nod,h.at_⟩
theorem latest_results {w:World} {R0:Nat} {b:Bool} {a0 a1 a2 a3:Value} (h:Blk w R0 90 #[a0,a1,a2,a3]) (tmps:Array Value) (ht:tmps[6]?=some (.pointer (some ⟨R0,0,none⟩))) (h7:tmps[7]?=some (.bool b)):(results Tryz.f66 tmps).run prog w= .ok (.tuple #[.agg #[a0,a1,a2,a3],.bool b]) w:=by
 have hc:=h.cell;simp [results,Tryz.results66,go_sem,hc,ht,h7]
def markD (D:Nat):Deferred:={ target:= .collected D,args:=#[] }
theorem leaves_marks {F:Fence} {n:Nat} {fn:Func} {tmps:Array Value} {R:Ending->World->Prop} {B:Nat} {P:World->Prop} (hP:∀ W D o,P W->B+4<=D->P (W.putObj D o)) (hE:∀ W,P W->LeavesInM F n prog fn tmps R [] .returning W):
  ∀ (Ds:List Nat) (W:World),Mk B Ds W->P W->LeavesInM F n prog fn tmps R (Ds.map markD) .returning W
 |[],W,_,h=>hE W h
 |D :: Ds,W,hm,h=>by
  obtain ⟨h1,h2⟩:=hm.at_ D (by simp)
  refine ⟨by simp,.inl ⟨D,_,rfl,run_takeDeferred h2,?_⟩⟩
  refine leaves_marks hP hE Ds _ ⟨(List.nodup_cons.1 hm.nod).2,fun D' hD'=>?_⟩ (hP W D _ h h1)
  obtain ⟨g1,g2⟩:=hm.at_ D' (by simp [hD'])
  refine ⟨g1,?_⟩
  rw [<-g2]
  exact World.putObj_heap_other (fun e=>(List.nodup_cons.1 hm.nod).1 (by rw [<-e];exact hD'))
theorem latest_any (rs:List Rule) (A:Option Addr) (c g:Nat) (lb:Array Value) (so:Turn->Bool) (y:Int) (w:World) (h:Reads w w.heap.size 11 A rs.length (rs.flatMap Rule.cells)) (hn:rs.length<=1000000) (hr:rulesB rs=true) (hy1: -1000000<=y) (hy2:y<=1000000) (hso:SoAt g lb so w) (hent:∀ args z,(callFunc g args).run prog z= .ok (.enter g args) z):
  Calls prog 66 #[.slice A rs.length c,.int .i64 y,.func (.func g) #[] lb] w fun e w'=>e= .returned (.tuple #[.agg ((latestL so y rs).getD noTurn).cells.toArray,.bool (latestL so y rs).isSome])/\Below w.heap.size w w':=by
 have HS:=hid hso;have HR:=hid h;have hQ:latestL so y rs=(rs.foldl (fun b x=>stepT so b (backL x y)) none):=rfl;obtain ⟨Q,hQQ⟩:∃ Q,latestL so y rs=Q:=⟨_,rfl⟩;rw [hQQ] at hQ ⊢;have HQ:=hid hQ;have hru:=fun (k:Nat) (hk:k<rs.length)=>of_decide_eq_true (List.all_eq_true.1 hr _ (List.getElem_mem hk));have HRu:=hid hru;have HL0:=hid (La.start w g lb);clear h hso hr hQ hQQ hru
 refine (callsIn_wide (n:=3)).1 ?_
 refine callsIn_of_wp_marks func66 rfl trivial ?_ rfl
 simp only [ntmps66,List.size_toArray,List.length_cons,List.length_nil,Nat.reduceAdd,Nat.reduceSub,Array.replicate_succ,Array.replicate_zero,List.push_toArray,List.append_toArray,List.nil_append,List.cons_append]
 gi_wp2
 obtain ⟨W0,hW0⟩:∃ W0,((((w.alloc (.cells #[.func (.func g) #[] lb] 100)).alloc (.cells #[.int .i64 0,.int .i64 0,.int .i64 0,.string ⟨#[]⟩] 90)).alloc (.cells #[.int .i64 0,.int .i64 0,.int .i64 0,.string ⟨#[]⟩] 90)).alloc (.cells #[.bool false] 4))=W0:=⟨_,rfl⟩;rw [hW0] at HL0 ⊢
 refine wpIn_loop (fun a' W=>∃ (k:Nat) (best:Option Turn) (Ds:List Nat) (u11 u16 u17 u18 u19 u20 u21 u37:Value),k<=rs.length/\(rs.drop k).foldl (fun b x=>stepT so b (backL x y)) best=Q/\La w g lb best W/\Mk w.heap.size Ds W/\
   a'={ tmps:=#[.slice A rs.length c,.int .i64 y,.func (.func g) #[] lb,undef,undef,.pointer (some ⟨w.heap.size,0,none⟩),.pointer (some ⟨w.heap.size+1,0,none⟩),.bool false,.pointer (some ⟨w.heap.size+1+1,0,none⟩),.pointer (some ⟨w.heap.size+1+1+1,0,none⟩),undef,u11,undef,.slice A rs.length c,.int .i64 rs.length,.int .i64 k,u16,u17,u18,u19,u20,u21,undef,undef,undef,undef,undef,undef,undef,undef,undef,undef,undef,undef,undef,undef,undef,u37,undef,undef],defers:=Ds.map markD })
  (fun a' _=>rs.length - (intOf (a'.tmps.getD 15 undef)).toNat) ?start ?round
 case start=>
  exact ⟨0,none,[],_,_,_,_,_,_,_,_,Nat.zero_le _,by rw [List.drop_zero];exact HQ.out.symm,HL0.out,⟨List.nodup_nil,by simp⟩,rfl⟩
 case round=>
  rintro _ wr ⟨k,best,Ds,u11,u16,u17,u18,u19,u20,u21,u37,hk,hq,hla,hmk,rfl⟩;clear HL0 HQ hW0;have HLa:=hid hla;have HMk:=hid hmk;have Hq:=hid hq;clear hla hmk hq
  by_cases hkn:k<rs.length
  ·obtain ⟨ad,hA,hadb,a0,a1,a2,a3,a4,a5,a6,a7,a8,a9,a10⟩:=rule_cells (HR.out.below HLa.out.bel) hkn
   subst hA;have hru:=HRu.out k hkn;have hq:=Hq.out;rw [List.drop_eq_getElem_cons hkn,List.foldl_cons] at hq;have Hq2:=hid hq;obtain ⟨x,hx⟩:∃ x,x=rs[k]:=⟨_,rfl⟩;simp only [<-hx] at a0 a1 a2 a3 a4 a5 a6 a7 a8 a9 a10 hru Hq2;have hback:=fun z=>back_any x y z
   have hst:=fun n Br By w=>back_stops x y n Br By w hru.1.1 hru.1.2 (by rcases hru.2.1 with h|h<;>(try have:=h.1)<;>omega) (by rcases hru.2.1 with h|h<;>(try have:=h.2)<;>omega) hy1 hy2
   obtain ⟨BL,hBL⟩:∃ BL,BL=backL x y:=⟨_,rfl⟩;rw [<-hBL] at hst Hq2;clear hq hx hru Hq hBL;obtain ⟨x0,x1,x2,x3,x4,x5,x6,x7,x8,x9,x10⟩:=x;simp only [Rule.cells] at a0 a1 a2 a3 a4 a5 a6 a7 a8 a9 a10 hback hst;have HBk:=hid hback;have HSt:=hid hst;clear hback hst
   gi_wp2_with (refine ⟨trivial,?_⟩;refine (callsIn_wide.2 (HBk.out _)).mono ?_;rintro e w1 ⟨rfl,hw⟩;have HW:=hid hw;clear hw)
   have hsz:w1.heap.size=wr.heap.size+3:=by rw [HW.out];simp
   have hwr:w.heap.size+4<=wr.heap.size:=HLa.out.fnd.lt
   have hla1:La w g lb best w1:=by rw [HW.out];exact ((HLa.out.alloc _).alloc _).alloc _
   have hkd1:Kd w.heap.size wr w1:=by rw [HW.out];exact Kd.of ((((Below.refl _ _).alloc (Nat.le_refl _) _).alloc (by simp) _).alloc (by simp;omega) _)
   have hBr:Blk w1 (wr.heap.size+1) 69 #[.string x0,.int .i64 x1,.int .i64 x2,.int .i64 x3,.int .i64 x4,.int .i64 x5,.int .i64 x6,.int .i64 x7,.int .i64 x8,.int .i64 x9,.string x10]:=by
    rw [HW.out];have h1:=Blk.new (wr.alloc (.cells #[.string x0,.int .i64 x1,.int .i64 x2,.int .i64 x3,.int .i64 x4,.int .i64 x5,.int .i64 x6,.int .i64 x7,.int .i64 x8,.int .i64 x9,.string x10] 69)) 69 #[.string x0,.int .i64 x1,.int .i64 x2,.int .i64 x3,.int .i64 x4,.int .i64 x5,.int .i64 x6,.int .i64 x7,.int .i64 x8,.int .i64 x9,.string x10];rw [World.size_alloc] at h1;exact h1.alloc _
   have hBy:Blk w1 (wr.heap.size+1+1) 3 #[.int .i64 y]:=by
    rw [HW.out];have h1:=Blk.new ((wr.alloc (.cells #[.string x0,.int .i64 x1,.int .i64 x2,.int .i64 x3,.int .i64 x4,.int .i64 x5,.int .i64 x6,.int .i64 x7,.int .i64 x8,.int .i64 x9,.string x10] 69)).alloc (.cells #[.string x0,.int .i64 x1,.int .i64 x2,.int .i64 x3,.int .i64 x4,.int .i64 x5,.int .i64 x6,.int .i64 x7,.int .i64 x8,.int .i64 x9,.string x10] 69)) 3 #[.int .i64 y];rw [World.size_alloc,World.size_alloc] at h1;exact h1
   have HBr:=hid hBr;have HBy:=hid hBy;have HLa1:=hid hla1;have HKd1:=hid hkd1;have Hsz:=hid hsz;clear hBr hBy hla1 hkd1 hsz a0 a1 a2 a3 a4 a5 a6 a7 a8 a9 a10 HBk
   refine wpIn_rangeFunc_ownH (F:=Fence.wide) (n:=3) (α:=Turn) rfl (by decide) (gf:=132) (lb:=#[.pointer (some ⟨wr.heap.size+1,0,none⟩),.pointer (some ⟨wr.heap.size+1+1,0,none⟩)]) rfl trivial (enters_of func132 (by kernel_rfl) rfl)
    (HSt.out (3 - 1) _ _ w1 HBr.out HBy.out) (fun h k=>h.trans k) (fun W l o o' hl _ _ _=>⟨by simp,World.putObj_heap_other (by have:=Hsz.out;omega),World.putObj_heap_other (by have:=Hsz.out;omega)⟩) (Below.refl _ _) (fun _=>rfl)
    (fun pre W=>(La w g lb best W/\∀ t∈pre,so t=false)/\Kd w.heap.size w1 W)
    (fun c pre W=>c= .exit 2/\(∃ t,pre.find? so=some t)/\La w g lb (stepT so best pre) W/\Kd w.heap.size w1 W)
    (fun s X Y row hs hg hr=>⟨⟨hs.1.1.grown hg (fun k e=>by have:=(hr k e).1;have:=Hsz.out;omega),hs.1.2⟩,hs.2.own hg (fun k e=>(hr k e).1)⟩)
    (fun c s X Y row hs hg hr=>⟨hs.1,hs.2.1,hs.2.2.1.grown hg (fun k e=>by have:=(hr k e).1;have:=Hsz.out;omega),hs.2.2.2.own hg (fun k e=>(hr k e).1)⟩)
    ⟨⟨HLa1.out,by simp⟩,Kd.refl _ _⟩
    (fun x a' W=>∃ Bx,w1.heap.size<=Bx/\Blk W Bx 90 #[.int .i64 x.at_,.int .i64 x.ref,.int .i64 x.save,.string x.letter]/\a'={ tmps:=#[.slice (some ad) rs.length c,.int .i64 y,.func (.func g) #[] lb,undef,undef,.pointer (some ⟨w.heap.size,0,none⟩),.pointer (some ⟨w.heap.size+1,0,none⟩),.bool false,.pointer (some ⟨w.heap.size+1+1,0,none⟩),.pointer (some ⟨w.heap.size+1+1+1,0,none⟩),undef,.pointer (some ⟨wr.heap.size,0,none⟩),.pointer (some ⟨Bx,0,none⟩),.slice (some ad) rs.length c,.int .i64 rs.length,.int .i64 k,.bool true,.pointer (some (ad.add (k*11))),.agg #[.string x0,.int .i64 x1,.int .i64 x2,.int .i64 x3,.int .i64 x4,.int .i64 x5,.int .i64 x6,.int .i64 x7,.int .i64 x8,.int .i64 x9,.string x10],.agg #[.string x0,.int .i64 x1,.int .i64 x2,.int .i64 x3,.int .i64 x4,.int .i64 x5,.int .i64 x6,.int .i64 x7,.int .i64 x8,.int .i64 x9,.string x10],.int .i64 y,.func (.func 132) #[] #[.pointer (some ⟨wr.heap.size+1,0,none⟩),.pointer (some ⟨wr.heap.size+1+1,0,none⟩)],.agg #[.int .i64 x.at_,.int .i64 x.ref,.int .i64 x.save,.string x.letter],undef,undef,undef,undef,undef,undef,undef,undef,undef,undef,undef,undef,undef,undef,u37,undef,undef],defers:=[] })
    (fun x a' _ X Y row hs hg hr=>by
     obtain ⟨Bx,h1,h2,h3⟩:=hs
     refine ⟨Bx,h1,h2.grown hg (fun e=>?_),h3⟩
     obtain ⟨_,o,ho,hc⟩:=hr Bx e.symm;rw [show X.heap[Bx]?=_ from h2] at ho
     cases ho
     cases hc) ?assign ?body ?done ?stop
   case assign=>
    rintro l pre ⟨t0,t1,t2,t3⟩ W K ⟨⟨hla,hno⟩,hkd⟩ hK;simp only [encT]
    gi_wp2
    have hb1:=(HBr.out:w1.heap[wr.heap.size+1]?=_);have hs1:=hkd.size
    refine hK _ _ ((KeepsOthers.alloc _ _).from _) (Keep.of ((Below.refl _ _).alloc (Nat.le_refl _) _) (by have:=Hsz.out;omega) (by have:=Hsz.out;omega)) ⟨⟨hla.alloc _,hno⟩,hkd.trans (Kd.of ((Below.refl _ _).alloc (Nat.le_refl _) _))⟩ ⟨W.heap.size,hs1,Blk.new _ _ _,rfl⟩
   case body=>
    rintro l pre ⟨t0,t1,t2,t3⟩ a' W hl ⟨rr,hrr⟩ ⟨⟨hla,hno⟩,hkd⟩ ⟨Bx,hBx,hbx,rfl⟩ hlen;have hS:=HS.out ⟨t0,t1,t2,t3⟩;simp only [encT] at hS hbx ⊢;have hs1:=hkd.size;have hlt1:=(HBr.out:w1.heap[wr.heap.size+1]?=_);have cso:=hla.so.cell 0;have cb:=hbx.cell
    simp only [List.getElem?_toArray,List.getElem?_cons_zero] at cso
    have hkeep:∀ W',Below W.heap.size W W'->Keep (wr.heap.size+1) (wr.heap.size+1+1) W W':=fun W' hb=>Keep.of hb (by have:=Hsz.out;omega) (by have:=Hsz.out;omega)
    have HKp:=hid hkeep;have HNo:=hid hno;have HLa2:=hid hla;have HKd2:=hid hkd;have HBx:=hid hbx;have Hs1:=hid hs1;clear hla hno hkd hbx hlt1 hkeep hs1 hl hrr
    cases hsx:so ⟨t0,t1,t2,t3⟩
    ·rw [hsx] at hS
     have HSx:=hid hS;have Hsx:=hid hsx;clear hS hsx
     gi_wp2_with (refine ⟨trivial,?_⟩;refine (CallsIn.inRound l (callsIn_wide.2 (HSx.out _ HLa2.out.bel))).mono ?_;rintro e w2 ⟨rfl,hb⟩;have HB:=hid hb;clear hb)
     refine ⟨KeepsFrom.of_grownBy (gr_of_below HB.out) (fun j e=>by cases e),HKp.out _ HB.out,⟨HLa2.out.step HB.out,?_⟩,HKd2.out.trans (Kd.of HB.out)⟩
     intro t ht
     rcases List.mem_append.1 ht with ht|ht
     ·exact HNo.out t ht
     ·rw [List.mem_singleton.1 ht];exact Hsx.out
    ·rw [hsx] at hS
     have HSx:=hid hS;have hfi:=find_snoc HNo.out hsx;have Hfi:=hid hfi;clear hS hsx hfi
     cases best with
     |none=>
      have Hst2:=hid (step_first Hfi.out)
      gi_wp2_with (refine ⟨trivial,?_⟩;refine (CallsIn.inRound l (callsIn_wide.2 (HSx.out _ HLa2.out.bel))).mono ?_;rintro e w2 ⟨rfl,hb⟩;have HB:=hid hb;have hl2:=HLa2.out.step hb;have cf:=hl2.fnd.cell 0;have ff:=hl2.fnd.frozen 0;have cbs:=hl2.bst.cell;have fbs:=hl2.bst.frozen;have cbx:=fun i=>(HBx.out.below hb HBx.out.lt).cell i;simp only [Turn.cells,noTurn,Option.getD_none,Option.isSome_none,List.getElem?_toArray,List.getElem?_cons_zero] at cf cbs;have HL2:=hid hl2;clear hb hl2 cso cb)
      refine ⟨?_,rfl,⟨_,Hfi.out⟩,?_,?_⟩
      ·exact (KeepsFrom.of_grownBy (gr_of_below HB.out) (fun j e=>by cases e)).trans ((((((KeepsOthers.setCell _ _ _).from _).trans ((KeepsOthers.setCell _ _ _).from _)).trans ((KeepsOthers.setCell _ _ _).from _)).trans ((KeepsOthers.setCell _ _ _).from _)).trans ((KeepsOthers.setCell _ _ _).from _))
      ·rw [Hst2.out]
       exact HL2.out.set ⟨t0,t1,t2,t3⟩
      ·exact (HKd2.out.trans (Kd.of HB.out)).trans (((((Kd.set (.inl rfl) _).trans (Kd.set (.inl rfl) _)).trans (Kd.set (.inl rfl) _)).trans (Kd.set (.inl rfl) _)).trans (Kd.set (.inr rfl) _))
     |some b=>
      obtain ⟨b0,b1,b2,b3⟩:=b
      by_cases hle:b0<=t0
      ·have Hst2:=hid (step_le (b:=⟨b0,b1,b2,b3⟩) Hfi.out hle)
       have hleb:decide (b0<=t0)=true:=decide_eq_true hle;clear hle
       gi_wp2_with (refine ⟨trivial,?_⟩;refine (CallsIn.inRound l (callsIn_wide.2 (HSx.out _ HLa2.out.bel))).mono ?_;rintro e w2 ⟨rfl,hb⟩;have HB:=hid hb;have hl2:=HLa2.out.step hb;have cf:=hl2.fnd.cell 0;have ff:=hl2.fnd.frozen 0;have cbs:=hl2.bst.cell;have fbs:=hl2.bst.frozen;have cbx:=fun i=>(HBx.out.below hb HBx.out.lt).cell i;simp only [Turn.cells,Option.getD_some,Option.isSome_some,List.getElem?_toArray,List.getElem?_cons_zero] at cf cbs;have HL2:=hid hl2;clear hb hl2 cso cb)
       refine ⟨?_,rfl,⟨_,Hfi.out⟩,?_,?_⟩
       ·exact (KeepsFrom.of_grownBy (gr_of_below HB.out) (fun j e=>by cases e)).trans ((((((KeepsOthers.setCell _ _ _).from _).trans ((KeepsOthers.setCell _ _ _).from _)).trans ((KeepsOthers.setCell _ _ _).from _)).trans ((KeepsOthers.setCell _ _ _).from _)).trans ((KeepsOthers.setCell _ _ _).from _))
       ·rw [Hst2.out]
        exact HL2.out.set ⟨t0,t1,t2,t3⟩
       ·exact (HKd2.out.trans (Kd.of HB.out)).trans (((((Kd.set (.inl rfl) _).trans (Kd.set (.inl rfl) _)).trans (Kd.set (.inl rfl) _)).trans (Kd.set (.inl rfl) _)).trans (Kd.set (.inr rfl) _))
      ·have Hst2:=hid (step_gt (b:=⟨b0,b1,b2,b3⟩) Hfi.out hle)
       have hleb:decide (b0<=t0)=false:=decide_eq_false hle;clear hle
       gi_wp2_with (refine ⟨trivial,?_⟩;refine (CallsIn.inRound l (callsIn_wide.2 (HSx.out _ HLa2.out.bel))).mono ?_;rintro e w2 ⟨rfl,hb⟩;have HB:=hid hb;have hl2:=HLa2.out.step hb;have cf:=hl2.fnd.cell 0;have ff:=hl2.fnd.frozen 0;have cbs:=hl2.bst.cell;have fbs:=hl2.bst.frozen;have cbx:=fun i=>(HBx.out.below hb HBx.out.lt).cell i;simp only [Turn.cells,Option.getD_some,Option.isSome_some,List.getElem?_toArray,List.getElem?_cons_zero] at cf cbs;have HL2:=hid hl2;clear hb hl2 cso cb)
       refine ⟨?_,rfl,⟨_,Hfi.out⟩,?_,?_⟩
       ·exact KeepsFrom.of_grownBy (gr_of_below HB.out) (fun j e=>by cases e)
       ·rw [Hst2.out]
        exact HL2.out
       ·exact HKd2.out.trans (Kd.of HB.out)
   case done=>
    rintro D ys W hD rfl ⟨⟨hla,hno⟩,hkd⟩ hK;have hq:=Hq2.out;rw [step_none hno] at hq
    have HMk2:Hid (Mk w.heap.size (D :: Ds) W):=HMk.out.push (HKd1.out.trans hkd) (by have:=Hsz.out;omega) (by have:=Hsz.out;omega) hK
    have HLa2:=hid hla;have Hq3:=hid hq;clear hla hno hkd hq hK
    gi_wp2
    exact ⟨⟨k+1,best,D :: Ds,_,_,_,_,_,_,_,_,by omega,Hq3.out,HLa2.out,HMk2.out,rfl⟩,by simp [intOf];omega⟩
   case stop=>
    rintro D c0 pre W hD hpre ⟨rfl,⟨t,ht⟩,hla,hkd⟩ hK;have hq:=Hq2.out
    have hs2:stepT so best BL=stepT so best pre:=by
     unfold stepT;rw [ht,find_pre hpre ht]
    rw [hs2] at hq
    have HMk2:Hid (Mk w.heap.size (D :: Ds) W):=HMk.out.push (HKd1.out.trans hkd) (by have:=Hsz.out;omega) (by have:=Hsz.out;omega) hK
    have HLa2:=hid hla;have Hq3:=hid hq;clear hla hkd hq hK hs2
    gi_wp2
    exact ⟨⟨k+1,stepT so best pre,D :: Ds,_,_,_,_,_,_,_,_,by omega,Hq3.out,HLa2.out,HMk2.out,rfl⟩,by simp [intOf];omega⟩
  ·obtain rfl:k=rs.length:=by omega
   have hq:=Hq.out;rw [List.drop_length,List.foldl_nil] at hq;subst hq;have cbs:=HLa.out.bst.cell;have cf:=HLa.out.fnd.cell 0
   simp only [List.getElem?_toArray,List.getElem?_cons_zero] at cf
   have cr:=HLa.out.res.cell;have fr:=HLa.out.res.frozen;clear Hq;obtain ⟨B,hB⟩:∃ B:Turn,B=best.getD noTurn:=⟨_,rfl⟩;rw [<-hB] at cbs;obtain ⟨b0,b1,b2,b3⟩:=B;simp only [Turn.cells] at cbs;have HB:=hid hB;clear hB
   gi_wp2
   refine wpIn_wide.2 ?_
   go_region
   have hf:=((((HLa.out.res.set_ 0 (.int .i64 b0)).set_ 1 (.int .i64 b1)).set_ 2 (.int .i64 b2)).set_ 3 (.string b3)).drew;simp only [List.setIfInBounds_toArray,List.set_cons_succ,List.set_cons_zero] at hf
   have hbe:=((((HLa.out.bel.setCell (p:=⟨w.heap.size+1,0,none⟩) (by simp) (.int .i64 b0)).setCell (p:=⟨w.heap.size+1,1,none⟩) (by simp) (.int .i64 b1)).setCell (p:=⟨w.heap.size+1,2,none⟩) (by simp) (.int .i64 b2)).setCell (p:=⟨w.heap.size+1,3,none⟩) (by simp) (.string b3)).drew
   have hm:=((((HMk.out.set (p:=⟨w.heap.size+1,0,none⟩) (by simp) (.int .i64 b0)).set (p:=⟨w.heap.size+1,1,none⟩) (by simp) (.int .i64 b1)).set (p:=⟨w.heap.size+1,2,none⟩) (by simp) (.int .i64 b2)).set (p:=⟨w.heap.size+1,3,none⟩) (by simp) (.string b3)).drew
   have HF:=hid hf;have HBe:=hid hbe;have HM:=hid hm;clear hf hbe hm cbs cf cr fr HMk HLa;generalize World.drew _=W9 at*
   gi_wp2
   refine leaves_marks (B:=w.heap.size) (P:=fun W=>Blk W (w.heap.size+1) 90 #[.int .i64 b0,.int .i64 b1,.int .i64 b2,.string b3]/\Below w.heap.size w W) (fun W D o h hD=>⟨h.1.grown (grownBy_putObj' W D o) (fun e=>by injection e with e;omega),h.2.grown (grownBy_putObj' W D o) h.2.size (fun k e=>by injection e with e;omega)⟩) (fun W h=>?_) Ds W9 HM.out ⟨HF.out,HBe.out⟩
   refine ⟨_,latest_results h.1 _ rfl rfl,?_,h.2⟩
   rw [<-HB.out]
   rfl
end Ahd
namespace Ahd
open Go.RowKit Mem Civ Mom Img Rul
theorem year_bd (t:Int): -1000000<=yearI t/\yearI t<=1000000:=by
 have key:∀ n,-100000001<=n->n<=100000000->-1000000<=yearD n/\yearD n<=1000000:=by
  intro n h1 h2;have e6:yOf n=(dayOf n - dayOf n / 1460+dayOf n / 36524 - dayOf n / 146096) / 365:=rfl;have e7:dayOf n=(n+719468) % 146097:=rfl;unfold yearD
  split<;>omega
 unfold yearI
 split
 ·omega
 ·split
  ·exact key _ (by omega) (by omega)
  ·exact key _ (by omega) (by omega)
def aheadO (rs:List Rule) (at_:Int):Option Turn:=if rulesB rs=true then latestL (fun t=>decide (t.at_<at_)) (yearI at_) rs else none
theorem ahead1_any (t:Turn) (at_:Int) (b:Nat) (w:World) (hc:w.cell? ⟨b,0,none⟩=some (.int .i64 at_)):
  Calls prog 96 #[.agg #[.int .i64 t.at_,.int .i64 t.ref,.int .i64 t.save,.string t.letter],.pointer (some ⟨b,0,none⟩)] w fun e w'=>e= .returned (.bool (decide (t.at_<at_)))/\Below w.heap.size w w':=by
 have hone:=One.new w 90 #[.int .i64 t.at_,.int .i64 t.ref,.int .i64 t.save,.string t.letter];obtain ⟨W,hW⟩:∃ W,w.alloc (.cells #[.int .i64 t.at_,.int .i64 t.ref,.int .i64 t.save,.string t.letter] 90)=W:=⟨_,rfl⟩;rw [hW] at hone;have c2:W.cell? ⟨b,0,none⟩=some (.int .i64 at_):=cell_later hone.2 hc;have HO:=hid hone;have c0:=hone.1.cell;clear hone hc;go_enter func96,ntmps96;go_wp2;go_ret;exact ⟨rfl,HO.out.2⟩
theorem ahead_results {w:World} {R0:Nat} {b:Bool} {a0 a1 a2 a3:Value} (h:Blk w R0 90 #[a0,a1,a2,a3]) (tmps:Array Value) (ht:tmps[4]?=some (.pointer (some ⟨R0,0,none⟩))) (h7:tmps[5]?=some (.bool b)):(results Tryz.f69 tmps).run prog w= .ok (.tuple #[.agg #[a0,a1,a2,a3],.bool b]) w:=by
 have hc:=h.cell;simp [results,Tryz.results69,go_sem,hc,ht,h7]
theorem ahead_any (rs:List Rule) (A:Option Addr) (c:Nat) (at_:Int) (w:World) (h:Reads w w.heap.size 11 A rs.length (rs.flatMap Rule.cells)) (hn:rs.length<=1000000) (h1: -9223372036854775808<=at_) (h2:at_<=9223372036854775807):
  Calls prog 69 #[.slice A rs.length c,.int .i64 at_] w fun e w'=>e= .returned (.tuple #[.agg ((aheadO rs at_).getD noTurn).cells.toArray,.bool (aheadO rs at_).isSome])/\Below w.heap.size w w':=by
 have hR:=fun z (hb:Below w.heap.size w z)=>rulesRight_any rs A c z ((h.below hb).more hb.size) hn;have hY:=fun z=>year_any at_ z h1 h2
 have hL:=fun (b:Nat) z (hr:rulesB rs=true) (hb:Below w.heap.size w z) (hc:z.cell? ⟨b,0,none⟩=some (.int .i64 at_))=>
  latest_any rs A c 96 #[.pointer (some ⟨b,0,none⟩)] (fun t=>decide (t.at_<at_)) (yearI at_) z ((h.below hb).more hb.size) hn hr (year_bd at_).1 (year_bd at_).2
   (fun t z2 hb2=>ahead1_any t at_ b z2 (cell_later hb2 hc)) (enters_of func96 (by kernel_rfl) rfl)
 have HR:=hid hR;have HY:=hid hY;obtain ⟨Q,hQ⟩:∃ Q,aheadO rs at_=Q:=⟨_,rfl⟩;rw [hQ];unfold aheadO at hQ;have hb2:=box2 w 2 90 #[.int .i64 at_] #[.int .i64 0,.int .i64 0,.int .i64 0,.string ⟨#[]⟩];obtain ⟨W,hW⟩:∃ W,(w.alloc (.cells #[.int .i64 at_] 2)).alloc (.cells #[.int .i64 0,.int .i64 0,.int .i64 0,.string ⟨#[]⟩] 90)=W:=⟨_,rfl⟩;rw [hW] at hb2;obtain ⟨b0,b1,hbw,hsz⟩:=hb2;have HB0:=hid b0;have HB1:=hid b1;have HBw:=hid hbw;have c0:=b0.cell 0
 simp only [List.getElem?_toArray,List.getElem?_cons_zero] at c0
 generalize yearI at_=y at*;generalize hq:rulesB rs=q at*
 cases q
 ·rw [if_neg (by decide)] at hQ
  subst hQ;clear hL h hR hY b0 b1 hbw hq;go_enter func69,ntmps69
  go_wp2_with (go_at_call 65;refine (HR.out _ HBw.out).mono ?_;rintro e w1 ⟨rfl,hb⟩;have hx1:=HB1.out.below hb HB1.out.lt;have f1:=hx1.frozen;have c1:=hx1.cell;have HX1:=hid hx1;have HBx:=hid (HBw.out.trans (hb.mono HBw.out.size));clear hb hx1)
  refine bodyPost_ret (ahead_results ((((HX1.out.set_ 0 (.int .i64 0)).set_ 1 (.int .i64 0)).set_ 2 (.int .i64 0)).set_ 3 (.string ⟨#[]⟩)) _ rfl rfl) rfl ?_
  exact ⟨rfl,((((HBx.out.setCell (by simp) _).setCell (by simp) _).setCell (by simp) _).setCell (by simp) _)⟩
 ·rw [if_pos rfl] at hQ
  rw [hQ] at hL;have HL:=hid (fun b z=>hL b z rfl);clear hL h hR hY b0 b1 hbw hq hQ;obtain ⟨B,hB⟩:∃ B:Turn,B=Q.getD noTurn:=⟨_,rfl⟩;rw [<-hB] at HL ⊢;clear hB;obtain ⟨t0,t1,t2,t3⟩:=B;generalize Q.isSome=qs at*;simp only [Turn.cells] at HL ⊢;go_enter func69,ntmps69
  go_wp2_with (first
   |(go_at_call 65;refine (HR.out _ HBw.out).mono ?_;rintro e w1 ⟨rfl,hb⟩;have hx0:=HB0.out.below hb HB0.out.lt;have hx1:=HB1.out.below hb HB1.out.lt;have c1:=hx0.cell 0;simp only [List.getElem?_toArray,List.getElem?_cons_zero] at c1;have HX0:=hid hx0;have HX1:=hid hx1;have HBx:=hid (HBw.out.trans (hb.mono HBw.out.size));clear hb hx0 hx1)
   |(go_at_call 67;refine (HY.out _).mono ?_;rintro e w2 ⟨rfl,hb⟩;have hx0:=HX0.out.below hb HX0.out.lt;have hx1:=HX1.out.below hb HX1.out.lt;have HY0:=hid hx0;have HY1:=hid hx1;have HBy:=hid (HBx.out.trans (hb.mono HBx.out.size));clear hb hx0 hx1)
   |(go_at_call 66;refine (HL.out _ _ HBy.out (HY0.out.cell 0)).mono ?_;rintro e w3 ⟨rfl,hb⟩;have hx1:=HY1.out.below hb HY1.out.lt;have f3:=hx1.frozen;have c3:=hx1.cell;have HZ1:=hid hx1;have HBz:=hid (HBy.out.trans (hb.mono HBy.out.size));clear hb hx1))
  refine bodyPost_ret (ahead_results ((((HZ1.out.set_ 0 (.int .i64 t0)).set_ 1 (.int .i64 t1)).set_ 2 (.int .i64 t2)).set_ 3 (.string t3)) _ rfl rfl) rfl ?_
  exact ⟨rfl,((((HBz.out.setCell (by simp) _).setCell (by simp) _).setCell (by simp) _).setCell (by simp) _)⟩
end Ahd
end
end
end Go.Proofs.YtmlejgdohcpmjaaGreatDoor
