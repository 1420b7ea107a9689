/-
  Contracts of the code that the law reaches, and plain laws. Conditions: as each says.
-/
import Derived.Test.YtmlejgdohcpmjaaGreatDoorV26
set_option linter.all false
set_option maxHeartbeats 40000000
set_option maxRecDepth 100000
namespace Go.Proofs.YtmlejgdohcpmjaaGreatDoor
open Lib (hid)
open Tryz
section
section
namespace Zon
open Go.RowKit Mem Civ Mom Img Rul Trn
theorem nan_any (x:Int) (w:World):Calls prog 162 #[.int .i64 x] w fun e w'=>e= .returned (.bool false)/\w=w':=by
 have hb:(x != x)=false:=by simp
 go_enter func162,ntmps162;go_wp2;go_ret;exact ⟨rfl,rfl⟩
theorem less_any (x y:Int) (w:World):Calls prog 169 #[.int .i64 x,.int .i64 y] w fun e w'=>e= .returned (.bool (decide (x<y)))/\w=w':=by
 go_enter func169,ntmps169
 go_wp2_with (go_at_call 162;refine (nan_any _ _).mono ?_;rintro e w1 ⟨rfl,rfl⟩)
 go_ret;exact ⟨rfl,rfl⟩
def Nv (t:Turn):Value:= .int .i64 t.at_
def mkT (n:Int):Turn:=⟨n,0,0,⟨#[]⟩⟩
def sortI (l:List Int):List Int:=(sortT (l.map mkT)).map (·.at_)
theorem sortI_perm (l:List Int):(sortI l).Perm l:=by
 unfold sortI;have h:=(sortT_perm (l.map mkT)).map (·.at_);rw [List.map_map] at h
 rwa [show (((·.at_):Turn->Int) ∘ mkT)=id from rfl,List.map_id] at h
theorem sortI_rise (l:List Int):(sortI l).Pairwise (·<=·):=by
 unfold sortI;rw [List.pairwise_map];exact sortT_rise _
theorem sortI_length (l:List Int):(sortI l).length=l.length:=(sortI_perm l).length_eq
theorem swap_nv (p q:List Turn) (a b:Turn) {k:Nat} (hk:p.length=k):(((p++a :: b :: q).map Nv).set (k+1) (Nv a)).set k (Nv b)=(p++b :: a :: q).map Nv:=by
 rw [List.map_append,List.map_append]
 have hl:(p.map Nv).length=k:=by rw [List.length_map,hk]
 generalize p.map Nv=P at*
 rw [List.set_append_right _ _ (by omega),hl,Nat.add_sub_cancel_left,List.set_append_right _ _ (by omega),hl,Nat.sub_self]
 simp
theorem map_get (l:List Turn) (i:Nat):(l.map Nv)[i]?=(l[i]?).map Nv:=List.getElem?_map
theorem insert64_any (ts:List Turn) (g c base:Nat) (w:World) (h:w.ownsRow base 2 1 (.slice (some ⟨g,0,none⟩) ts.length c) ts.length (ts.map Nv)) (hn:ts.length<=1000) (h0:0<ts.length):
  Calls prog 163 #[.slice (some ⟨g,0,none⟩) ts.length c,.int .i64 0,.int .i64 ts.length] w fun e w'=>
   e= .returned (.tuple #[])/\w'.ownsRow base 2 1 (.slice (some ⟨g,0,none⟩) ts.length c) ts.length ((sortT ts).map Nv)/\w.grownBy w' (some g):=by
 have H:=hid h;clear h;go_enter func163,ntmps163;go_wp2
 go_loopw [6] (fun i wr=>∃ k:Nat,1<=k/\k<=ts.length/\i= .int .i64 k/\wr.ownsRow base 2 1 (.slice (some ⟨g,0,none⟩) ts.length c) ts.length ((sortT (ts.take k)++ts.drop k).map Nv)/\w.grownBy wr (some g)) (fun i _=>ts.length - (intOf i).toNat)
 case atStart=>exact ⟨1,Nat.le_refl _,h0,rfl,by rw [sortT_one];exact H.out,World.grownBy.refl _ _⟩
 case round=>
  obtain ⟨k,hk1,hk,rfl,hown,hg⟩:=hrel;have HO:=hid hown;have HG:=hid hg;clear hown hg
  by_cases hkn:k<ts.length
  ·have hsl:(sortT (ts.take k)).length=k:=by rw [sortT_length,List.length_take];omega
   have hsn:sortT (ts.take (k+1))=insT (sortT (ts.take k)) ts[k]:=by rw [List.take_succ_eq_append_getElem hkn,sortT_snoc]
   have hdr:=List.drop_eq_getElem_cons hkn;have Hsl:=hid hsl;have Hsn:=hid hsn;have Hdr:=hid hdr;clear hsl hsn hdr;obtain ⟨wo,rfl⟩:∃ wo:World,wo=wr:=⟨_,rfl⟩;go_wp2
   go_loopw [7] (fun i wi=>∃ j:Nat,j<=k/\i= .int .i64 j/\posT ts[k] (sortT (ts.take k)) k=posT ts[k] (sortT (ts.take k)) j/\wi.ownsRow base 2 1 (.slice (some ⟨g,0,none⟩) ts.length c) ts.length ((putT ts[k] (sortT (ts.take k)) j++ts.drop (k+1)).map Nv)/\w.grownBy wi (some g)) (fun i _=>(intOf i).toNat)
   case atStart=>
    refine ⟨k,Nat.le_refl _,rfl,rfl,?_,HG.out⟩
    have e:putT ts[k] (sortT (ts.take k)) k++ts.drop (k+1)=sortT (ts.take k)++ts.drop k:=by
     rw [Hdr.out,putT,List.take_of_length_le (by rw [Hsl.out];exact Nat.le_refl _),List.drop_of_length_le (by rw [Hsl.out];exact Nat.le_refl _)]
     simp only [List.append_assoc,List.cons_append,List.nil_append]
    rw [e];exact HO.out
   case round=>
    clear HO HG;obtain ⟨j,hj,rfl,hpos,hown,hg⟩:=hrel;have Hpos:=hid hpos;have HO:=hid hown;have HG:=hid hg;clear hpos hown hg;generalize hS:sortT (ts.take k)=S at*;have HS:=hid hS;clear hS
    rcases j with _|jj
    ·have hgt:decide ((0:Int)<((0:Nat):Int))=false:=rfl
     have hfp:sortT (ts.take (k+1))=putT ts[k] S 0:=by rw [Hsn.out,insT,Hsl.out,Hpos.out];rfl
     have HFP:=hid hfp;clear hfp;have inst:Nonempty (Qt.In (Below wr.heap.size wr)):=⟨⟨_,Below.refl _ _⟩⟩
     go_wp2_with fail
     refine Qt.wp_region_cls (Below wr.heap.size wr) (by kernel_rfl) (by kernel_rfl) (below_dr (n:=1) (Below.refl _ _)) ?_
     repeat (go_big_quiet_step ((go_at_call 169;fail)))
     refine wpQuiet_nil ?_
     rintro wq ⟨⟨w9,hq⟩,e9⟩
     have hq2:Below wr.heap.size wr wq:=by rw [e9];exact hq
     have HOq:=hid (HO.out.kept (gr_of_below hq2) (.inr (by simp [Value.ownBlock])))
     have HGq:=hid (gr_none HG.out (gr_of_below hq2));clear hq e9 hq2 inst;go_wp2
     refine ⟨⟨k+1,by omega,by omega,by go_num,?_,HGq.out⟩,by simp [intOf];omega⟩
     rw [HFP.out];exact HOq.out
    ·have hjS:jj<S.length:=by rw [Hsl.out];omega
     have hx:wr.cell? ⟨g,jj+1,none⟩=some (Nv ts[k]):=by
      rw [HO.out.cellAt _ (by omega),map_get,putT_at (by omega)];rfl
     have he:wr.cell? ⟨g,jj,none⟩=some (Nv S[jj]):=by
      rw [HO.out.cellAt _ (by omega),map_get,putT_ahead (by omega),List.getElem?_eq_getElem hjS];rfl
     have hgl:=(HO.out.lt g rfl).2
     have hpg:=fun (h:ts[k].at_<S[jj].at_)=>posT_go (x:=ts[k]) (List.getElem?_eq_getElem hjS) h
     have hps:=fun (h:¬ ts[k].at_<S[jj].at_)=>posT_stay (x:=ts[k]) (List.getElem?_eq_getElem hjS) h
     have Hpg:=hid hpg;have Hps:=hid hps;have hsp:=putT_split (x:=ts[k]) hjS (ts.drop (k+1));have Hsp:=hid hsp;clear hpg hps hsp;generalize hxx:ts[k]=x at*;have Hxx:=hid hxx;clear hxx;generalize hee:S[jj]=e at*;have Hee:=hid hee;clear hee;obtain ⟨x0,x1,x2,x3⟩:=x;obtain ⟨e0,e1,e2,e3⟩:=e;simp only [Nv] at hx he;have HC:Hid (∀ z,Below wr.heap.size wr z->Calls prog 169 #[.int .i64 x0,.int .i64 e0] z fun e z'=>e= .returned (.bool (decide (x0<e0)))/\Below wr.heap.size wr z'):=fun z h=>(less_any x0 e0 z).mono fun e z' ⟨he,hb⟩=>⟨he,hb ▸ h⟩;have inst:Nonempty (Qt.In (Below wr.heap.size wr)):=⟨⟨_,Below.refl _ _⟩⟩;have zx0:∀ z:Qt.In (Below wr.heap.size wr),z.w.cell? ⟨g,jj+1,none⟩=some (.int .i64 x0):=fun z=>(z.h.cell (p:=⟨g,jj+1,none⟩) hgl).trans hx;have ze0:∀ z:Qt.In (Below wr.heap.size wr),z.w.cell? ⟨g,jj,none⟩=some (.int .i64 e0):=fun z=>(z.h.cell (p:=⟨g,jj,none⟩) hgl).trans he;have Hx:=hid hx;have He:=hid he;clear hx he
     have hw1:IntKind.i64.wrap (((jj+1:Nat):Int) - 1)=(jj:Int):=by rw [show ((jj+1:Nat):Int) - 1=jj by omega];exact IntWalk.i64_in _ (by omega)
     have hw2:IntKind.i64.wrap (jj:Int)=jj:=IntWalk.i64_in _ (by omega)
     have hgt:decide ((0:Int)<((jj+1:Nat):Int))=true:=by simp<;>omega
     go_wp2_with fail
     refine Qt.wp_region_cls (Below wr.heap.size wr) (by kernel_rfl) (by kernel_rfl) (below_dr (n:=1) (Below.refl _ _)) ?_
     repeat (go_big_quiet_step ((go_at_call 169;exact Qt.quiet_cls (HC.out _ (Qt.In.h _)))))
     refine wpQuiet_nil ?_
     rintro wq ⟨⟨w9,hq⟩,e9⟩
     have hq2:Below wr.heap.size wr wq:=by rw [e9];exact hq
     have HW:=hid hq2
     have HOq:=hid (HO.out.kept (gr_of_below hq2) (.inr (by simp [Value.ownBlock])))
     have HGq:=hid (gr_none HG.out (gr_of_below hq2));clear hq e9 hq2 zx0 ze0 inst
     by_cases hlt:x0<e0
     ·have hcn:decide (x0<e0)=true:=decide_eq_true hlt
      have hp:=Hpg.out hlt;have hpos2:=Hpos.out.trans hp;have Hpos2:=hid hpos2;clear hp hpos2 Hpos Hpg Hps;have qx0:wq.cell? ⟨g,jj+1,none⟩=some (.int .i64 x0):=(HW.out.cell (p:=⟨g,jj+1,none⟩) hgl).trans Hx.out;have qe0:wq.cell? ⟨g,jj,none⟩=some (.int .i64 e0):=(HW.out.cell (p:=⟨g,jj,none⟩) hgl).trans He.out;have fq:=fun i=>HOq.out.frozenAt i
      go_wp2_with fail
      refine wp_region_noPanic ?_
      go_region
      clear qx0 qe0 fq;have hown:=HOq.out;rw [Hsp.out.1] at hown;have s1:=hown.stored (jj+1) (.int .i64 e0);have s2:=s1.1.stored jj (.int .i64 x0)
      have hsw:=swap_nv (S.take jj) (S.drop (jj+1)++ts.drop (k+1)) ⟨e0,e1,e2,e3⟩ ⟨x0,x1,x2,x3⟩ (k:=jj) (by rw [List.length_take];omega)
      have hgr:=gr_trans HGq.out (gr_trans s1.2 s2.2);have hfin:=own_eq s2.1 (hsw.trans (congrArg (List.map Nv) Hsp.out.2.symm));have hfd:=own_dr hfin;have hgd:=gr_dr hgr;have HF:=hid (And.intro hfd hgd);clear hfin hgr hsw s1 s2 hown hfd hgd;generalize World.drew _=W9 at*
      refine NoPanic.normal ?_
      go_wp2
      refine ⟨⟨jj,by omega,by go_num,Hpos2.out,HF.out.1,HF.out.2⟩,by simp [intOf];try omega⟩
     ·have hcn:decide (x0<e0)=false:=decide_eq_false hlt
      have hfp:sortT (ts.take (k+1))=putT ⟨x0,x1,x2,x3⟩ S (jj+1):=by rw [Hsn.out,insT,Hsl.out,Hpos.out,Hps.out (by omega)]
      have HFP:=hid hfp;clear hfp Hpos Hpg Hps HW;go_wp2
      refine ⟨⟨k+1,by omega,by omega,by go_num,?_,HGq.out⟩,by simp [intOf];omega⟩
      rw [HFP.out];exact HOq.out
  ·have hkl:k=ts.length:=by omega
   subst hkl;go_wp2
   go_end0
   refine ⟨rfl,?_,HG.out⟩
   have:=HO.out
   rwa [List.take_of_length_le (Nat.le_refl _),List.drop_of_length_le (Nat.le_refl _),List.append_nil] at this
end Zon
namespace Zon
open Go.RowKit Mem Civ Mom Img Rul Trn
def SomeLen (w:World) (e:Ending) (w':World):Prop:=∃ v:Int,e= .returned (.int .i64 v)/\w=w'
theorem len64_any (n:Nat) (hn:n<=12) (w:World):Calls prog 160 #[.int .u64 n] w (SomeLen w):=by
 rcases (by omega:n=0\/n=1\/n=2\/n=3\/n=4\/n=5\/n=6\/n=7\/n=8\/n=9\/n=10\/n=11\/n=12) with rfl|rfl|rfl|rfl|rfl|rfl|rfl|rfl|rfl|rfl|rfl|rfl|rfl
 all_goals
  go_enter func160,ntmps160;go_wp2;go_ret;exact ⟨_,rfl,rfl⟩
theorem len_any (n:Nat) (hn:n<=12) (w:World):Calls prog 124 #[.int .u64 n] w (SomeLen w):=by
 have H:=hid (len64_any n hn w);go_enter func124,ntmps124
 go_wp2_with (go_at_call 160;refine H.out.mono ?_;rintro e w1 ⟨v,rfl,rfl⟩)
 go_ret;exact ⟨_,rfl,rfl⟩
theorem insert64_none (p:Option Addr) (c:Nat) (w:World):
  Calls prog 163 #[.slice p 0 c,.int .i64 0,.int .i64 0] w fun e w'=>e= .returned (.tuple #[])/\w'=w:=by
 go_enter func163,ntmps163;go_wp2
 go_loopw [6] (fun i wr=>i= .int .i64 1/\wr=w) (fun _ _=>0)
 case atStart=>exact ⟨rfl,rfl⟩
 case round=>
  obtain ⟨rfl,rfl⟩:=hrel;go_wp2
  go_end0
  exact ⟨rfl,rfl⟩
def SortJ (l:List Int) (v:Value) (base:Nat) (w:World) (e:Ending) (w':World):Prop:=
 e= .returned (.tuple #[])/\w'.ownsRow base 2 1 v l.length ((sortI l).map (.int .i64 ·))/\w.grownBy w' v.ownBlock
theorem map_nv (l:List Int):(l.map mkT).map Nv=l.map (.int .i64 ·):=by rw [List.map_map];rfl
theorem sort_nv (l:List Int):(sortT (l.map mkT)).map Nv=(sortI l).map (.int .i64 ·):=by unfold sortI;rw [List.map_map];rfl
theorem insert64_sort (l:List Int) (v:Value) (base:Nat) (w:World) (h:w.ownsRow base 2 1 v l.length (l.map (.int .i64 ·))) (hn:l.length<=1000):
  Calls prog 163 #[v,.int .i64 0,.int .i64 l.length] w (SortJ l v base w):=by
 rcases Nat.eq_zero_or_pos l.length with h0|h0
 ·have hts:l=[]:=List.eq_nil_of_length_eq_zero h0
  subst hts
  rcases h.2 with ⟨hv,_⟩|⟨g,cap,cur,hv,_⟩
  ·subst hv
   exact (insert64_none none 0 w).mono fun e w' ⟨he,hw⟩=>⟨he,by rw [hw];exact h,by rw [hw];exact World.grownBy.refl _ _⟩
  ·subst hv
   exact (insert64_none (some ⟨g,0,none⟩) cap w).mono fun e w' ⟨he,hw⟩=>⟨he,by rw [hw];exact h,by rw [hw];exact World.grownBy.refl _ _⟩
 ·obtain ⟨g,cap,hv,_,_⟩:=h.form h0
  subst hv;have hl:(l.map mkT).length=l.length:=List.length_map _
  have:=insert64_any (l.map mkT) g cap base w (by rw [hl,map_nv];exact h) (by omega) (by omega)
  rw [hl,sort_nv] at this;exact this
theorem pdq64_any (l:List Int) (A:Option Addr) (c base:Nat) (lim:Int) (w:World) (h:w.ownsRow base 2 1 (.slice A l.length c) l.length (l.map (.int .i64 ·))) (hn:l.length<=12):
  Calls prog 128 #[.slice A l.length c,.int .i64 0,.int .i64 l.length,.int .i64 lim] w (SortJ l (.slice A l.length c) base w):=by
 have HS:=hid (insert64_sort l _ base w h (by omega))
 clear h
 have hle:decide ((l.length:Int)<=12)=true:=decide_eq_true (by omega)
 have hle2:(l.length:Int)<=12:=by omega
 go_enter func128,ntmps128;go_wp2
 go_loopw [1,2,3,8,9] (fun a b d p q wr=>a= .int .i64 0/\b= .int .i64 l.length/\d= .int .i64 lim/\p= .bool true/\q= .bool true/\wr=w) (fun _ _ _ _ _ _=>0)
 case atStart=>exact ⟨rfl,rfl,rfl,rfl,rfl,rfl⟩
 case round=>
  obtain ⟨rfl,rfl,rfl,rfl,rfl,rfl⟩:=hrel
  go_wp2_with (go_at_call 163;refine HS.out.mono ?_;rintro e w1 ⟨rfl,ho,hg⟩;have HO:=hid (And.intro ho hg);clear ho hg)
  go_end0
  exact ⟨rfl,HO.out.1,HO.out.2⟩
theorem sort64_any (l:List Int) (A:Option Addr) (c base:Nat) (w:World) (h:w.ownsRow base 2 1 (.slice A l.length c) l.length (l.map (.int .i64 ·))) (hn:l.length<=12):
  Calls prog 91 #[.slice A l.length c] w (SortJ l (.slice A l.length c) base w):=by
 have HL:=hid (len_any l.length hn w);have HS:=hid (fun lim=>pdq64_any l A c base lim w h hn);clear h;go_enter func91,ntmps91
 go_wp2_with (first
  |(go_at_call 124;refine HL.out.mono ?_;rintro e w1 ⟨v,rfl,rfl⟩)
  |(go_at_call 128;refine (HS.out _).mono ?_;rintro e w1 ⟨rfl,ho,hg⟩;have HO:=hid (And.intro ho hg);clear ho hg))
 go_end0
 exact ⟨rfl,HO.out.1,HO.out.2⟩
end Zon
end
end
section
section
namespace Zon
open Go.RowKit Mem Civ Mom Img Plc Rul Ahd Trn Src Snd Att Rgt Abr Sch Cmq
structure Rt (x:Table) (A A2:Option Addr) (m:Int) (w:World):Prop where
 tab:TabOk x A A2 w
 max:w.cell? ⟨0,0,none⟩=some (.int .i64 m)
 till: -9223372036854775808<=x.till/\x.till<=9223372036854775807
 sec:∀ s∈x.shifts,-9223372036854775808<=s.sec/\s.sec<=9223372036854775807
 right:rightB x (tailB x)=true
theorem Rt.below {x:Table} {A A2:Option Addr} {m:Int} {w w':World} (h:Rt x A A2 m w) (hb:Below w.heap.size w w'):Rt x A A2 m w':=⟨h.tab.below hb,cell_later hb h.max,h.till,h.sec,h.right⟩
theorem vat_any (x:Table) (A A2:Option Addr) (c c2:Nat) (m t:Int) (w:World) (h:Rt x A A2 m w) (h1: -9223372036854775808<=t) (h2:t<=9223372036854775807):
  Calls prog 87 #[.agg (tabCells x A c A2 c2),.int .i64 t] w fun e w'=>e= .returned (.agg #[.int .i64 (tellD x t).off,.int .i64 (tellD x t).save,.string (tellD x t).abbr])/\Below w.heap.size w w':=by
 have hA:=fun z (hb:Below w.heap.size w z)=>at_any x A A2 c c2 t m z (h.below hb).tab (h.below hb).max h1 h2;rw [at_doc,if_pos h.right,h.right] at hA;obtain ⟨P,hP⟩:∃ P,tellD x t=P:=⟨_,rfl⟩;rw [hP] at hA ⊢;obtain ⟨p0,p1,p2⟩:=P;obtain ⟨b0,b1,hbw,hsz⟩:=box2 w 61 23 (tabCells x A c A2 c2) #[.int .i64 0,.int .i64 0,.string ⟨#[]⟩];simp only [tabCells] at*
 obtain ⟨W,hW⟩:∃ W,(w.alloc (.cells #[.string x.name,.int .i64 x.first.off,.int .i64 x.first.save,.string x.first.abbr,.slice A x.shifts.length c,.int .i64 x.till,.slice A2 x.tail.length c2,.int .i64 x.off,.string x.format] 61)).alloc (.cells #[.int .i64 0,.int .i64 0,.string ⟨#[]⟩] 23)=W:=⟨_,rfl⟩
 rw [hW] at b0 b1 hbw hsz;have c0:=b0.cell;have HA:=hid hA;have HB:=hid hbw;have HP:=hid b1;clear h hA hP b0 b1 hbw hsz h1 h2;go_enter func87,ntmps87
 go_wp2_with (go_at_call 24;refine (HA.out _ HB.out).mono ?_;rintro e w1 ⟨rfl,hb⟩;have ho:=(HP.out.below hb HP.out.lt).alloc (.cells #[.int .i64 p0,.int .i64 p1,.string p2] 23);have hn:=Blk.new w1 23 #[.int .i64 p0,.int .i64 p1,.string p2];have k1:=ho.cell;have f1:=ho.frozen;have k2:=hn.cell;have HQ:=hid ho;have HB1:=hid ((HB.out.trans (hb.mono HB.out.size)).alloc (Nat.le_trans HB.out.size hb.size) (.cells #[.int .i64 p0,.int .i64 p1,.string p2] 23));clear hb ho hn c0)
 have g0:=fun i=>(((HQ.out.set_ 0 (.int .i64 p0)).set_ 1 (.int .i64 p1)).set_ 2 (.string p2)).cell i
 refine bodyPost_ret (v:= .agg #[.int .i64 p0,.int .i64 p1,.string p2]) (by simp [results,Tryz.results87,go_sem,g0]) rfl ?_
 exact ⟨rfl,((HB1.out.setCell (by dsimp only;omega) _).setCell (by dsimp only;omega) _).setCell (by dsimp only;omega) _⟩
theorem zyear_bd (t:Int): -100000001<=max (min (t.tdiv 86400) 100000000) (-100000001)/\max (min (t.tdiv 86400) 100000000) (-100000001)<=100000000:=by omega
theorem zyear_any (t:Int) (w:World) (h1: -9223372036854775808<=t) (h2:t<=9223372036854775807):
  Calls prog 57 #[.int .i64 t] w fun e w'=>e= .returned (.int .i64 (yearZ t))/\Below w.heap.size w w':=by
 have hO:=fun z=>of_any (max (min (t.tdiv 86400) 100000000) (-100000001)) z (zyear_bd t).1 (zyear_bd t).2;unfold yearZ;obtain ⟨D,hD⟩:∃ D,t.tdiv 86400=D:=⟨_,rfl⟩
 have hDb: -9223372036854775808<=D/\D<=9223372036854775807:=by have:=tdiv_day t;omega
 rw [hD] at hO ⊢;obtain ⟨Q,hQ⟩:∃ Q,max (min D 100000000) (-100000001)=Q:=⟨_,rfl⟩;rw [hQ] at hO ⊢;have HO:=hid hO;clear hO h1 h2;obtain ⟨d1,d2⟩:=hDb;go_enter func57,ntmps57
 go_wp2_with (go_at_call 88;refine (HO.out _).mono ?_;rintro e w1 ⟨rfl,hb⟩;have hn:=Blk.new w1 115 #[.int .i64 (yearD Q),.int .i64 (monthD Q),.int .i64 (dayD Q)];have k2:=hn.cell;have HB1:=hid (hb.alloc hb.size (.cells #[.int .i64 (yearD Q),.int .i64 (monthD Q),.int .i64 (dayD Q)] 115));clear hb hn)
 go_ret;exact ⟨rfl,HB1.out⟩
end Zon
end
end
end Go.Proofs.YtmlejgdohcpmjaaGreatDoor
