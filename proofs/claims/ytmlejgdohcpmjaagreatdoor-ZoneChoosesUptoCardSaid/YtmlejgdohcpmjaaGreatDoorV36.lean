/-
  Contracts of the code that the law reaches, and plain laws. Conditions: as each says.
-/
import Derived.Test.YtmlejgdohcpmjaaGreatDoorV33
set_option linter.all false
set_option maxHeartbeats 40000000
set_option maxRecDepth 100000
namespace Go.Proofs.YtmlejgdohcpmjaaGreatDoor
open Lib (hid)
open Tryz
section
section
namespace Zon
open Go.RowKit Mem Civ Mom Img Plc Rul Ahd Trn Src Snd Att Rgt Abr Sch Cmq
def SecsP (l:List Int) (w:World) (e:Ending) (w':World):Prop:=
 ∃ (A':Option Addr) (c':Nat),e= .returned (.slice A' l.length c')/\w'.ownsRow w.heap.size 2 1 (.slice A' l.length c') l.length (ints l)/\Below w.heap.size w w'
theorem ints_at {w:World} {B:Nat} {A:Option Addr} {l:List Int} (h:Reads w B 1 A l.length (ints l)) {k:Nat} (hk:k<l.length):∃ ad,A=some ad/\ad.block<B/\w.cell? (ad.add k)=some (.int .i64 l[k]):=by
 obtain ⟨ad,u,e,hb,hu,hc⟩:=h.at_ hk
 refine ⟨ad,e,hb,?_⟩
 rw [hc];unfold ints at hu
 rw [List.getElem?_map,List.getElem?_eq_getElem hk] at hu
 exact hu.symm
theorem pre_len (n:Int) (l:List Int):(putPre n l).length<=l.length+1:=by
 have:=put_len n l;unfold putI at this;rw [List.length_append] at this;omega
theorem bel_gr {w wr V:World} {row:Option Nat} (hb:Below w.heap.size w wr) (o:Obj) (hg:(wr.alloc o).grownBy V row) (hr:∀ k,row=some k->w.heap.size<=k):Below w.heap.size w V:=
 (hb.alloc hb.size o).grown hg (by have:=hb.size;simp;omega) hr
theorem put_any (l:List Int) (A:Option Addr) (c:Nat) (n:Int) (w:World) (h:Reads w w.heap.size 1 A l.length (ints l)) (hn:l.length<=1000000):
  Calls prog 29 #[.slice A l.length c,.int .i64 n] w (SecsP (putI l n) w):=by
 obtain ⟨i0,hi0,hz0,hz1,hz2⟩:=info_parts info_int64;have HR:=hid h;clear h;go_enter func29,ntmps29;go_wp2
 go_loopw [5,6,7] (fun v d i wr=>∃ (k:Nat) (P:List Int) (A1:Option Addr) (c1:Nat),k<=l.length/\i= .int .i64 k/\d= .bool (putDone n (l.take k))/\P=putPre n (l.take k)/\v= .slice A1 P.length c1/\wr.ownsRow w.heap.size 2 1 (.slice A1 P.length c1) P.length (ints P)/\Below w.heap.size w wr) (fun _ _ i _=>l.length - (intOf i).toNat)
 case atStart=>exact ⟨0,[],none,0,Nat.zero_le _,rfl,rfl,rfl,rfl,World.ownsRow_nil _ _ _ _,Below.refl _ _⟩
 case round=>
  obtain ⟨k,P,A1,c1,hk,rfl,rfl,hP,rfl,hown,hb⟩:=hrel
  have hlen:P.length<=1000001:=by rw [hP];have:=pre_len n (l.take k);rw [List.length_take] at this;omega
  have M1:=hid (show P.length+1<=maxLen by unfold maxLen;omega)
  have M2:=hid (show (P.length+1)*8<=140737488355328 by omega)
  have M3:=hid hb.size
  by_cases hkn:k<l.length
  ·obtain ⟨ad,hA,hadb,a0⟩:=ints_at (HR.out.below hb) hkn
   have hmv:∀ V,Below w.heap.size w V->V.cell? (ad.add k)=some (.int .i64 l[k]):=fun V hV=>by
    obtain ⟨ad2,e2,_,h2⟩:=ints_at (HR.out.below hV) hkn;rw [hA] at e2
    injection e2 with e2
    rw [e2];exact h2
   have Hmv:=hid hmv;clear hmv;subst hA;have hsn:=putPre_snoc n l[k] (l.take k);have hdn:=putDone_snoc n l[k] (l.take k);rw [<-List.take_succ_eq_append_getElem hkn] at hsn hdn;rw [<-hP] at hsn;generalize l[k]=a at*;obtain ⟨D,hD⟩:∃ D,putDone n (l.take k)=D:=⟨_,rfl⟩;rw [hD] at hsn hdn ⊢;have HO:=hid hown;have HB:=hid hb;have Hk:=hid hk;clear hD hP hown hb hk hadb
   cases D with
   |true=>
    rw [if_pos rfl] at hsn;have Hs:=hid hsn;have Hd:=hid hdn;clear hsn hdn
    go_wp2_with (at_builtin;refine wpList_append1g wr rfl (.tmp 34) (.tmp 39) 30 rfl w.heap.size 2 i0 _ 1 8 underlying30 hi0 hz0 hz1 hz2 rfl (by decide) _ P.length _ rfl HO.out (by simp [Act.eval]) rfl one_int M1.out M2.out M3.out ?_;intro v' w3 ho3 hg3;obtain ⟨A3,c3,rfl⟩:=own_slice ho3;have HO3:=hid ho3;have HG3:=hid hg3;clear ho3 hg3)
    refine ⟨⟨k+1,P++[a],A3,c3,by omega,by go_num,by rw [Hd.out];rfl,Hs.out.symm,by rw [List.length_append];rfl,by rw [<-ints_snoc,List.length_append];exact HO3.out,bel_gr HB.out _ HG3.out fun j e=>(HO.out.lt j e).1⟩,by simp [intOf];omega⟩
   |false=>
    rw [if_neg (by decide)] at hsn
    by_cases h1:n<=a
    ·have h1b:decide (a ≥ n)=true:=decide_eq_true h1
     by_cases h2:n<a
     ·have h2b:decide (a > n)=true:=decide_eq_true h2
      rw [if_pos ⟨h1,h2⟩] at hsn
      have hd2:putDone n (l.take (k+1))=true:=by rw [hdn,decide_eq_true h1];rfl
      have Hs:=hid hsn;have Hd:=hid hd2
      have M4:=hid (show P.length+1+1<=maxLen by unfold maxLen;omega)
      have M5:=hid (show (P.length+1+1)*8<=140737488355328 by omega)
      clear hsn hdn hd2 h1 h2
      go_wp2_with (first|(at_builtin;refine wpList_append1g wr rfl (.tmp 30) (.tmp 32) 30 rfl w.heap.size 2 i0 _ 1 8 underlying30 hi0 hz0 hz1 hz2 rfl (by decide) _ P.length _ rfl HO.out (by simp [Act.eval]) rfl one_int M1.out M2.out M3.out ?_;intro v' w4 ho4 hg4;obtain ⟨A4,c4,rfl⟩:=own_slice ho4;have HO4:=hid ho4;have HG4:=hid hg4;clear ho4 hg4;have hb4:=bel_gr HB.out _ HG4.out fun j e=>(HO.out.lt j e).1;have a4:=Hmv.out _ hb4;have hs4:=hb4.size;have HB4:=hid hb4;clear hb4)|(at_builtin;refine wpList_append1g w4 rfl (.tmp 34) (.tmp 39) 30 rfl w.heap.size 2 i0 _ 1 8 underlying30 hi0 hz0 hz1 hz2 rfl (by decide) _ (P.length+1) _ rfl HO4.out (by simp [Act.eval]) rfl one_int M4.out M5.out hs4 ?_;intro v' w5 ho5 hg5;obtain ⟨A5,c5,rfl⟩:=own_slice ho5;have HO5:=hid ho5;have HG5:=hid hg5;clear ho5 hg5))
      refine ⟨⟨k+1,P++[n]++[a],A5,c5,by omega,by go_num,by rw [Hd.out],Hs.out.symm,by rw [List.length_append,List.length_append];rfl,by rw [<-ints_snoc,<-ints_snoc,List.length_append,List.length_append];exact HO5.out,?_⟩,by simp [intOf];omega⟩
      exact bel_gr (bel_gr HB.out _ HG4.out fun j e=>(HO.out.lt j e).1) _ HG5.out fun j e=>(HO4.out.lt j e).1
     ·have h2b:decide (a > n)=false:=decide_eq_false h2
      rw [if_neg (fun h3=>h2 h3.2)] at hsn
      have hd2:putDone n (l.take (k+1))=true:=by rw [hdn,decide_eq_true h1];rfl
      have Hs:=hid hsn;have Hd:=hid hd2;clear hsn hdn hd2 h1 h2
      go_wp2_with (at_builtin;refine wpList_append1g wr rfl (.tmp 34) (.tmp 39) 30 rfl w.heap.size 2 i0 _ 1 8 underlying30 hi0 hz0 hz1 hz2 rfl (by decide) _ P.length _ rfl HO.out (by simp [Act.eval]) rfl one_int M1.out M2.out M3.out ?_;intro v' w3 ho3 hg3;obtain ⟨A3,c3,rfl⟩:=own_slice ho3;have HO3:=hid ho3;have HG3:=hid hg3;clear ho3 hg3)
      refine ⟨⟨k+1,P++[a],A3,c3,by omega,by go_num,by rw [Hd.out],Hs.out.symm,by rw [List.length_append];rfl,by rw [<-ints_snoc,List.length_append];exact HO3.out,bel_gr HB.out _ HG3.out fun j e=>(HO.out.lt j e).1⟩,by simp [intOf];omega⟩
    ·have h1b:decide (a ≥ n)=false:=decide_eq_false h1
     rw [if_neg (fun h3=>h1 h3.1)] at hsn
     have hd2:putDone n (l.take (k+1))=false:=by rw [hdn,decide_eq_false h1];rfl
     have Hs:=hid hsn;have Hd:=hid hd2;clear hsn hdn hd2 h1
     go_wp2_with (at_builtin;refine wpList_append1g wr rfl (.tmp 34) (.tmp 39) 30 rfl w.heap.size 2 i0 _ 1 8 underlying30 hi0 hz0 hz1 hz2 rfl (by decide) _ P.length _ rfl HO.out (by simp [Act.eval]) rfl one_int M1.out M2.out M3.out ?_;intro v' w3 ho3 hg3;obtain ⟨A3,c3,rfl⟩:=own_slice ho3;have HO3:=hid ho3;have HG3:=hid hg3;clear ho3 hg3)
     refine ⟨⟨k+1,P++[a],A3,c3,by omega,by go_num,by rw [Hd.out],Hs.out.symm,by rw [List.length_append];rfl,by rw [<-ints_snoc,List.length_append];exact HO3.out,bel_gr HB.out _ HG3.out fun j e=>(HO.out.lt j e).1⟩,by simp [intOf];omega⟩
  ·obtain rfl:k=l.length:=by omega
   rw [List.take_length] at hP ⊢;obtain ⟨D,hD⟩:∃ D,putDone n l=D:=⟨_,rfl⟩
   have hput:putI l n=P++if D=true then [] else [n]:=by unfold putI;rw [hD,<-hP]
   rw [hD];have HO:=hid hown;have HB:=hid hb;have HPt:=hid hput;clear hD hP hown hb hput HR
   cases D with
   |true=>
    go_wp2;go_ret
    have e:putI l n=P:=by rw [HPt.out];simp
    exact ⟨A1,c1,by rw [e];rfl,by rw [e];exact HO.out,HB.out⟩
   |false=>
    go_wp2_with (at_builtin;refine wpList_append1g wr rfl (.tmp 43) (.tmp 45) 30 rfl w.heap.size 2 i0 _ 1 8 underlying30 hi0 hz0 hz1 hz2 rfl (by decide) _ P.length _ rfl HO.out (by simp [Act.eval]) rfl one_int M1.out M2.out M3.out ?_;intro v' w3 ho3 hg3;obtain ⟨A3,c3,rfl⟩:=own_slice ho3;have HO3:=hid ho3;have HG3:=hid hg3;clear ho3 hg3)
    go_ret
    have e:putI l n=P++[n]:=by rw [HPt.out];simp
    exact ⟨A3,c3,by rw [e,List.length_append];rfl,by rw [e,<-ints_snoc,List.length_append];exact HO3.out,bel_gr HB.out _ HG3.out fun j e=>(HO.out.lt j e).1⟩
end Zon
end
end
section
section
namespace Zon
open Go.RowKit Mem Civ Mom Img Plc Rul Ahd Trn Src Snd Att Rgt Abr Sch Cmq
theorem offs_bd {x:Table} (hr:rightB x (tailB x)=true):∀ o∈offsD x,-86400<o/\o<86400:=by
 obtain ⟨p1,p2⟩:=right_ph hr;intro o ho;unfold offsD at ho
 rcases List.mem_cons.1 ho with e|ho
 ·rw [e];exact ph_day p1
 ·rcases List.mem_append.1 ho with ho|ho
  ·obtain ⟨s,hs,rfl⟩:=List.mem_map.1 ho
   exact ph_day (p2 s hs)
  ·rcases List.mem_append.1 ho with ho|ho
   ·split at ho
    ·next h0=>rw [List.mem_singleton.1 ho];exact (tailT_of hr h0).off
    ·cases ho
   ·obtain ⟨r,hm,rfl⟩:=List.mem_map.1 ho
    exact (tailT_of hr (fun e=>by rw [List.length_eq_zero_iff.1 e] at hm;cases hm)).day r hm
def OffsP (l:List Int) (w:World) (e:Ending) (w':World):Prop:=
 ∃ (A':Option Addr) (c':Nat),e= .returned (.slice A' l.length c')/\w'.ownsRow w.heap.size 3 1 (.slice A' l.length c') l.length (ints l)/\Below w.heap.size w w'
def offs1 (x:Table) (k:Nat):List Int:=x.first.off :: (x.shifts.take k).map (·.ph.off)
theorem offs1_succ {x:Table} {k:Nat} (hk:k<x.shifts.length):offs1 x (k+1)=offs1 x k++[x.shifts[k].ph.off]:=by
 unfold offs1;rw [List.take_succ_eq_append_getElem hk,List.map_append]
 rfl
theorem offs1_len (x:Table) (k:Nat):(offs1 x k).length<=k+1:=by
 unfold offs1;rw [List.length_cons,List.length_map,List.length_take];omega
def offs2 (x:Table):List Int:=offs1 x x.shifts.length++(if x.tail.length≠0 then [x.off] else [])
def offs3 (x:Table) (k:Nat):List Int:=offs2 x++(x.tail.take k).map fun r=>x.off+r.save
theorem offs3_succ {x:Table} {k:Nat} (hk:k<x.tail.length):offs3 x (k+1)=offs3 x k++[x.off+x.tail[k].save]:=by
 unfold offs3;rw [List.take_succ_eq_append_getElem hk,List.map_append,List.append_assoc]
 rfl
theorem offs3_len (x:Table) (k:Nat):(offs3 x k).length<=x.shifts.length+k+2:=by
 unfold offs3 offs2;have:=offs1_len x x.shifts.length;rw [List.length_append,List.length_append,List.length_map,List.length_take]
 split<;>simp<;>omega
theorem offs3_all (x:Table):offs3 x x.tail.length=offsD x:=by
 unfold offs3 offs2 offs1 offsD;rw [List.take_length,List.take_length,List.cons_append,List.cons_append,List.append_assoc]
theorem offs_any (x:Table) (A A2:Option Addr) (c c2:Nat) (m:Int) (w:World) (h:Rt x A A2 m w):
  Calls prog 27 #[.agg (tabCells x A c A2 c2)] w (OffsP (offsD x) w):=by
 obtain ⟨i0,hi0,hz0,hz1,hz2⟩:=info_parts info_int;obtain ⟨b0,hbw,hsz⟩:=box1 w 27 (tabCells x A c A2 c2);have hns:=h.tab.ns;have hnt:=h.tab.nt;have hoff:x.tail.length≠0->∀ r∈x.tail,-86400<x.off+r.save/\x.off+r.save<86400:=fun h0=>(tailT_of h.right h0).day;simp only [tabCells] at*
 obtain ⟨W,hW⟩:∃ W,w.alloc (.cells #[.string x.name,.int .i64 x.first.off,.int .i64 x.first.save,.string x.first.abbr,.slice A x.shifts.length c,.int .i64 x.till,.slice A2 x.tail.length c2,.int .i64 x.off,.string x.format] 27)=W:=⟨_,rfl⟩
 rw [hW] at b0 hbw hsz;have hSh:=fun z (hb:Below W.heap.size W z) (j:Nat) (hj:j<x.shifts.length)=>shift_at (h.below (hbw.trans (hb.mono hbw.size))).tab.rs hj;have hRu:=fun z (hb:Below W.heap.size W z) (j:Nat) (hj:j<x.tail.length)=>rule_cells (h.below (hbw.trans (hb.mono hbw.size))).tab.rt hj;have k0:=b0.cell;have H0:=hid b0;have HB:=hid hbw;have HSh:=hid hSh;have HRu:=hid hRu;have HOf:=hid hoff;clear h b0 hbw hSh hRu hoff;go_enter func27,ntmps27;go_wp2;clear k0
 go_loopw [3,4] (fun v i wr=>∃ (k:Nat) (A1:Option Addr) (c1:Nat),k<=x.shifts.length/\i= .int .i64 k/\v= .slice A1 (offs1 x k).length c1/\wr.ownsRow W.heap.size 3 1 (.slice A1 (offs1 x k).length c1) (offs1 x k).length (ints (offs1 x k))/\Below W.heap.size W wr) (fun _ i _=>x.shifts.length - (intOf i).toNat)
 case atStart=>
  refine ⟨0,_,_,Nat.zero_le _,rfl,rfl,?_,(Below.refl _ _).alloc (Nat.le_refl _) _⟩
  exact own_of_blk (Blk.new W 3 #[.int .i64 x.first.off]) (Nat.le_refl _) rfl (by show 1<=maxLen;decide)
 case round=>
  obtain ⟨k,A1,c1,hk,rfl,rfl,hown,hb⟩:=hrel;have hb0:=H0.out.below hb H0.out.lt;have k0:=hb0.cell;have HO:=hid hown;have HBr:=hid hb;clear hown hb hb0
  by_cases hkn:k<x.shifts.length
  ·obtain ⟨ad,hA,hadb,a0,a1,_⟩:=HSh.out _ HBr.out k hkn
   subst hA;have hs:=offs1_succ hkn;have hl:=offs1_len x k;generalize offs1 x k=P at*;generalize x.shifts[k].ph.off=o at*;have Hs:=hid hs
   have M1:=hid (show P.length+1<=maxLen by unfold maxLen;omega)
   have M2:=hid (show (P.length+1)*8<=140737488355328 by omega)
   have M3:=hid HBr.out.size;clear hs a0 hadb
   go_wp2_with (at_builtin;refine wpList_append1g wr rfl (.tmp 17) (.tmp 25) 56 rfl W.heap.size 3 i0 _ 1 8 underlying56 hi0 hz0 hz1 hz2 rfl (by decide) _ P.length _ rfl HO.out (by simp [Act.eval]) rfl one_int M1.out M2.out M3.out ?_;intro v' w3 ho3 hg3;obtain ⟨A3,c3,rfl⟩:=own_slice ho3;have HO3:=hid ho3;have HG3:=hid hg3;clear ho3 hg3)
   refine ⟨⟨k+1,A3,c3,by omega,by go_num,by rw [Hs.out,List.length_append];rfl,by rw [Hs.out,<-ints_snoc,List.length_append];exact HO3.out,bel_gr HBr.out _ HG3.out fun j e=>(HO.out.lt j e).1⟩,by simp [intOf];omega⟩
  ·obtain rfl:k=x.shifts.length:=by omega
   go_upto_if 30 with fail
   go_cut [3] from 6 (fun s3 wx=>∃ (A1:Option Addr) (c1:Nat),s3= .slice A1 (offs2 x).length c1/\wx.ownsRow W.heap.size 3 1 (.slice A1 (offs2 x).length c1) (offs2 x).length (ints (offs2 x))/\Below W.heap.size W wx)
   case first=>
    have hl:=offs1_len x x.shifts.length
    by_cases h0:x.tail.length=0
    ·have hb0:decide (0<x.tail.length)=false:=decide_eq_false (by omega)
     have e:offs2 x=offs1 x x.shifts.length:=by unfold offs2;rw [if_neg (fun h=>h h0),List.append_nil]
     generalize offs1 x x.shifts.length=P at*;have He:=hid e;clear e
     go_wp2_with fail
     go_meet
     exact ⟨A1,c1,by rw [He.out],by rw [He.out];exact HO.out,HBr.out⟩
    ·have hb0:decide (0<x.tail.length)=true:=decide_eq_true (by omega)
     have e:offs2 x=offs1 x x.shifts.length++[x.off]:=by unfold offs2;rw [if_pos h0]
     generalize offs1 x x.shifts.length=P at*;have He:=hid e
     have M1:=hid (show P.length+1<=maxLen by unfold maxLen;omega)
     have M2:=hid (show (P.length+1)*8<=140737488355328 by omega)
     have M3:=hid HBr.out.size;clear e
     go_wp2_with (at_builtin;refine wpList_append1g wr rfl (.tmp 31) (.tmp 34) 56 rfl W.heap.size 3 i0 _ 1 8 underlying56 hi0 hz0 hz1 hz2 rfl (by decide) _ P.length _ rfl HO.out (by simp [Act.eval]) rfl one_int M1.out M2.out M3.out ?_;intro v' w3 ho3 hg3;obtain ⟨A3,c3,rfl⟩:=own_slice ho3;have HO3:=hid ho3;have HG3:=hid hg3;clear ho3 hg3)
     go_meet
     exact ⟨A3,c3,by rw [He.out,List.length_append];rfl,by rw [He.out,<-ints_snoc,List.length_append];exact HO3.out,bel_gr HBr.out _ HG3.out fun j e=>(HO.out.lt j e).1⟩
   case rest=>
    obtain ⟨A4,c4,rfl,hown4,hb4⟩:=hcut;have HO4:=hid hown4;have HB4:=hid hb4;clear hown4 hb4 HO HBr k0 hkn HSh hk
    go_wp2_with fail
    go_loopw [3,5] (fun v i wr=>∃ (k:Nat) (A1:Option Addr) (c1:Nat),k<=x.tail.length/\i= .int .i64 k/\v= .slice A1 (offs3 x k).length c1/\wr.ownsRow W.heap.size 3 1 (.slice A1 (offs3 x k).length c1) (offs3 x k).length (ints (offs3 x k))/\Below W.heap.size W wr) (fun _ i _=>x.tail.length - (intOf i).toNat)
    case atStart=>
     have e:offs3 x 0=offs2 x:=by unfold offs3;simp
     exact ⟨0,A4,c4,Nat.zero_le _,rfl,by rw [e],by rw [e];exact HO4.out,HB4.out⟩
    case round=>
     clear HO4 HB4;obtain ⟨k,A1,c1,hk,rfl,rfl,hown,hb⟩:=hrel;have hb0:=H0.out.below hb H0.out.lt;have k0:=hb0.cell;have HO:=hid hown;have HBr:=hid hb;clear hown hb hb0
     by_cases hkn:k<x.tail.length
     ·obtain ⟨ad,hA,hadb,_,_,_,_,_,_,_,_,_,a9,_⟩:=HRu.out _ HBr.out k hkn
      subst hA
      have hof:=HOf.out (by omega) x.tail[k] (List.getElem_mem hkn)
      have hs:=offs3_succ hkn;have hl:=offs3_len x k;generalize offs3 x k=P at*;generalize x.tail[k].save=sv at*;have Hs:=hid hs
      have M1:=hid (show P.length+1<=maxLen by unfold maxLen;omega)
      have M2:=hid (show (P.length+1)*8<=140737488355328 by omega)
      have M3:=hid HBr.out.size;clear hs hadb
      go_wp2_with fail
      go_region_law (refine step_append1 wr.drew rfl (.tmp 43) (.tmp 53) 56 rfl W.heap.size 3 i0 _ 1 8 underlying56 hi0 hz0 hz1 hz2 rfl (by decide) _ P.length _ (by simp [Act.eval]) HO.out.drew (by simp [Act.eval]) rfl one_int M1.out M2.out M3.out ?_;intro v' w3 ho3 hg3;obtain ⟨A3,c3,rfl⟩:=own_slice ho3;have HO3:=hid ho3;have HG3:=hid hg3;clear ho3 hg3)
      all_goals go_wp2_with fail
      all_goals have h9:=HO3.out
      all_goals rw [IntWalk.i64_in _ (by omega)] at h9
      all_goals refine ⟨⟨k+1,A3,c3,by omega,by go_num,by rw [Hs.out,List.length_append];rfl,by rw [Hs.out,<-ints_snoc,List.length_append];exact h9,bel_gr HBr.out.drew _ HG3.out fun j e=>(HO.out.lt j e).1⟩,by simp [intOf];omega⟩
     ·obtain rfl:k=x.tail.length:=by omega
      go_wp2_with fail
      go_ret;rw [<-offs3_all]
      exact ⟨A1,c1,rfl,own_base HO.out (by omega),HB.out.trans (HBr.out.mono HB.out.size)⟩
end Zon
end
end
end Go.Proofs.YtmlejgdohcpmjaaGreatDoor
