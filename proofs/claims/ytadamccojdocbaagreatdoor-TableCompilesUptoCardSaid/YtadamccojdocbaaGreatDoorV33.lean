/-
  Contracts of the code that the law reaches, and plain laws. Conditions: as each says.
-/
import Derived.Test.YtadamccojdocbaaGreatDoorV32
set_option linter.all false
set_option maxHeartbeats 40000000
set_option maxRecDepth 100000
namespace Go.Proofs.YtadamccojdocbaaGreatDoor
open Lib (hid)
open Tryz
section
section
namespace Cmq
open Go.RowKit Mem Civ Mom Img Plc Rul Ahd Src Snd Att Abr
structure Sz (w:World) (cs es:Array Value) (W:World):Prop where
 src:Blk W w.heap.size 26 cs
 zon:Blk W (w.heap.size+1) 65 es
 bel:Below w.heap.size w W
theorem Sz.step {w W W':World} {cs es:Array Value} (h:Sz w cs es W) (hb:Below W.heap.size W W'):Sz w cs es W':=
 ⟨h.src.below hb h.src.lt,h.zon.below hb h.zon.lt,h.bel.trans (hb.mono h.bel.size)⟩
theorem lastE_two (rs:List Rule) (y:Int) (x:Era):lastE rs y x=(setL rs x.rules).foldl lastY1 (max y x.year):=rfl
theorem rlast_any (s:Src) (A A2 A3:Option Addr) (c c2 c3:Nat) (z:ZoneM) (w:World) (h:SrcOk s A A2 A3 w) (hz:z∈s.zones) (hk:∀ x∈z.eras,x.kind≠2->setL s.rules x.rules=[]):
  Calls prog 45 #[.agg #[.slice A s.rules.length c,.slice A2 s.zones.length c2,.slice A3 s.links.length c3],.agg z.cells.toArray] w fun e w'=>e= .returned (.int .i64 (lastZ s.rules z.eras))/\Below w.heap.size w w':=by
 have HS:=hid (fun nm y (hb:Below w.heap.size w y)=>rset_any s A A2 A3 c c2 c3 nm y (h.below hb));have HEc:=hid (fun y (hb:Below w.heap.size w y) k hk=>era_cells (k:=k) ((h.re z hz).below hb) hk rfl);have hne:=h.ne z hz;have hnr:=h.nr;obtain ⟨R,hR⟩:∃ R,lastZ s.rules z.eras=R:=⟨_,rfl⟩;rw [hR];unfold lastZ at hR;have HR:=hid hR;have HK:=hid hk;clear h hz hR hk;obtain ⟨rs,zs,ls⟩:=s;obtain ⟨z0,es,Az,cz⟩:=z;simp only [ZoneM.cells] at HS HEc HR HK hne hnr ⊢;obtain ⟨b0,b1,hbw,hsz⟩:=box2 w 26 65 #[.slice A rs.length c,.slice A2 zs.length c2,.slice A3 ls.length c3] #[.string z0,.slice Az es.length cz];obtain ⟨W,hW⟩:∃ W,(w.alloc (.cells #[.slice A rs.length c,.slice A2 zs.length c2,.slice A3 ls.length c3] 26)).alloc (.cells #[.string z0,.slice Az es.length cz] 65)=W:=⟨_,rfl⟩;rw [hW] at b0 b1 hbw;have HP:Hid (Sz w #[.slice A rs.length c,.slice A2 zs.length c2,.slice A3 ls.length c3] #[.string z0,.slice Az es.length cz] W):=⟨b0,b1,hbw⟩;clear b0 b1 hbw;go_enter func45,ntmps45
 go_wp2_with fail
 try rw [hW]
 go_loopw [5,6] (fun y i wr=>∃ (k:Nat) (y':Int),k<=es.length/\y= .int .i64 y'/\i= .int .i64 k/\(es.drop k).foldl (lastE rs) y'=R/\Sz w #[.slice A rs.length c,.slice A2 zs.length c2,.slice A3 ls.length c3] #[.string z0,.slice Az es.length cz] wr) (fun _ i _=>es.length - (intOf i).toNat)
 case atStart=>exact ⟨0,2037,Nat.zero_le _,rfl,rfl,by rw [List.drop_zero];exact HR.out,HP.out⟩
 case round=>
  clear HP HR hW;obtain ⟨k,y',hk,rfl,rfl,hq,hp⟩:=hrel;have HP:=hid hp;have czl:=hp.zon.cell;clear hp
  by_cases hkn:k<es.length
  ·obtain ⟨ae,hAe,_,a0,a1,a2,a3,a4,a5,a6,a7,a8,a9,a10,a11,a12⟩:=HEc.out _ HP.out.bel k hkn
   have HEk:=hid (fun y hb=>HEc.out y hb k hkn);subst hAe;rw [List.drop_eq_getElem_cons hkn,List.foldl_cons,lastE_two] at hq
   have hkb:decide ((k:Int)<(es.length:Nat))=true:=decide_eq_true (by omega)
   have hsr:=HK.out es[k] (List.getElem_mem hkn);generalize (es[k]'hkn)=x at*;obtain ⟨x0,x1,x2,x3,x4,x5,x6,⟨y0,y1,y2,y3,y4,y5⟩⟩:=x;simp only at hq hsr HEk a0 a1 a2 a3 a4 a5 a6 a7 a8 a9 a10 a11 a12
   by_cases hk2:x1=2
   ·subst hk2
    clear hsr;have HQ:=hid hq;clear hq
    go_wp2_with fail
    have hKe:∀ w',Below wr.heap.size wr w'->w'.cell? ⟨w.heap.size,0,none⟩=some (.slice A rs.length c)/\w'.cell? ⟨w.heap.size,1,none⟩=some (.slice A2 zs.length c2)/\w'.cell? ⟨w.heap.size,2,none⟩=some (.slice A3 ls.length c3)/\w'.cell? ⟨w.heap.size+1,1,none⟩=some (.slice (some ae) es.length cz)/\w'.cell? ⟨(ae.add (k*13)).block,(ae.add (k*13)).off+3,none⟩=some (.string x3):=fun w' h=>by
     obtain ⟨ae',e,_,_,_,_,q3,_⟩:=HEk.out w' ((HP.out.step h).bel)
     obtain rfl:ae=ae':=by injection e
     exact ⟨(HP.out.step h).src.cell 0,(HP.out.step h).src.cell 1,(HP.out.step h).src.cell 2,(HP.out.step h).zon.cell 1,q3⟩
    have HKe:=hid hKe;have kb0:Below wr.heap.size wr wr.drew:=below_drew wr;have HSW:=hid (fun y (hb:Below wr.heap.size wr y)=>HS.out x3 y (HP.out.bel.trans (hb.mono HP.out.bel.size)));clear hKe czl a0 a1 a2 a3 a4 a5 a6 a7 a8 a9 a10 a11 a12
    go_region_held3 (fun w'=>w'.cell? ⟨w.heap.size,0,none⟩=some (.slice A rs.length c)/\w'.cell? ⟨w.heap.size,1,none⟩=some (.slice A2 zs.length c2)/\w'.cell? ⟨w.heap.size,2,none⟩=some (.slice A3 ls.length c3)/\w'.cell? ⟨w.heap.size+1,1,none⟩=some (.slice (some ae) es.length cz)/\w'.cell? ⟨(ae.add (k*13)).block,(ae.add (k*13)).off+3,none⟩=some (.string x3)) (exact HKe.out _ (by go_grown)) ((go_at_call 49;refine (HSW.out _ (by go_grown)).mono ?_;rintro e w5 ⟨v,rfl,hown,hb⟩;obtain ⟨Av,cv,rfl⟩:=own_slice hown;have kb5:=bel_nx (W:=wr) (by go_grown) hb;have HRv:=hid (Reads.of_own hown);clear hown))
    have HP5:=hid (HP.out.step kb5);have hll:=Nat.le_trans (setL_len rs x3) hnr;obtain ⟨L,hL⟩:∃ L,setL rs x3=L:=⟨_,rfl⟩;rw [hL] at HRv HQ hll
    try rw [hL]
    clear hL kb5 kb0 hb HSW HKe HP;obtain ⟨Y2,hY⟩:∃ Y,L.foldl lastY1 (max y' x6)=Y:=⟨_,rfl⟩;rw [hY] at HQ;have HY:=hid hY;clear hY
    go_wp2_with fail
    go_loopw [5,8] (fun y i wz=>∃ (j:Nat) (v:Int),j<=L.length/\y= .int .i64 v/\i= .int .i64 j/\(L.drop j).foldl lastY1 v=Y2/\wz=w5) (fun _ i _=>L.length - (intOf i).toNat)
    case atStart=>exact ⟨0,_,Nat.zero_le _,rfl,rfl,by rw [List.drop_zero];exact HY.out,rfl⟩
    case round=>
     clear HY;obtain ⟨j,v,hj,rfl,rfl,hy,rfl⟩:=hrel
     by_cases hjn:j<L.length
     ·obtain ⟨ad,hA,_,b0,b1,b2,b3,b4,b5,b6,b7,b8,b9,b10⟩:=rule_cells HRv.out hjn
      subst hA;rw [List.drop_eq_getElem_cons hjn,List.foldl_cons] at hy
      have hjb:decide ((j:Int)<(L.length:Nat))=true:=decide_eq_true (by omega)
      generalize L[j]=r at*;obtain ⟨r0,r1,r2,r3,r4,r5,r6,r7,r8,r9,r10⟩:=r;simp only [lastY1] at hy b0 b1 b2
      by_cases he:r2=1000000
      ·rw [if_pos he] at hy
       have HYr:=hid hy
       have heb:(r2 == 1000000)=true:=by simp [he]
       clear hy he
       go_wp2_with fail
       exact ⟨⟨j+1,_,by omega,rfl,by go_num,HYr.out,trivial⟩,by simp [intOf];omega⟩
      ·rw [if_neg he] at hy
       have HYr:=hid hy
       have heb:(r2 == 1000000)=false:=by simp [he]
       clear hy he
       go_wp2_with fail
       exact ⟨⟨j+1,_,by omega,rfl,by go_num,by first|exact HYr.out|(rw [<-Int.max_assoc];exact HYr.out),trivial⟩,by simp [intOf];omega⟩
     ·obtain rfl:j=L.length:=by omega
      rw [List.drop_length,List.foldl_nil] at hy;subst hy
      have hjb:decide (((L.length:Nat):Int)<(L.length:Nat))=false:=decide_eq_false (by omega)
      go_wp2_with fail
      exact ⟨⟨k+1,_,by omega,rfl,by go_num,HQ.out,HP5.out⟩,by simp [intOf];omega⟩
   ·have hsn:=hsr hk2
    rw [hsn,List.foldl_nil] at hq;have HQ:=hid hq
    have hkb2:(x1 == 2)=false:=by simp [hk2]
    clear hq hsn hsr
    go_wp2_with fail
    exact ⟨⟨k+1,_,by omega,rfl,by go_num,HQ.out,HP.out⟩,by simp [intOf];omega⟩
  ·obtain rfl:k=es.length:=by omega
   rw [List.drop_length,List.foldl_nil] at hq;subst hq
   have hkb:decide (((es.length:Nat):Int)<(es.length:Nat))=false:=decide_eq_false (by omega)
   go_wp2_with fail
   go_ret;exact ⟨rfl,HP.out.bel⟩
end Cmq
end
end
section
section
namespace Srd
open Go.RowKit Mem Civ Mom Img Rul
def ints (l:List Int):List Value:=l.map (Value.int .i64)
theorem ints_len (l:List Int):(ints l).length=l.length:=by simp [ints]
theorem int_at {w:World} {B:Nat} {A:Option Addr} {l:List Int} (h:Reads w B 1 A l.length (ints l)) {k:Nat} (hk:k<l.length):
  ∃ ad,A=some ad/\ad.block<B/\w.cell? (ad.add k)=some (.int .i64 l[k]):=by
 obtain ⟨ad,e,hb,hc⟩:=h.2 (by omega)
 refine ⟨ad,e,hb,hc k _ ?_⟩
 unfold ints
 rw [List.getElem?_map,List.getElem?_eq_getElem hk]
 rfl
def leB (a b:Int):Bool:=decide (a<=b)
def SortP (A0:Option Addr) (l:List Int) (w:World) (e:Ending) (w':World):Prop:=
 ∃ A c m,e= .returned (.slice A m.length c)/\Reads w' w'.heap.size 1 A m.length (ints m)/\m.Pairwise (·<=·)/\(∀ t,t∈m↔t∈l)/\m.length=l.length/\Below w.heap.size w w'/\(A=A0\/∀ ad,A=some ad->w.heap.size<=ad.block)
theorem merge_nil (b:List Int):List.merge [] b leB=b:=by simp
theorem merge_sorted {a b:List Int} (ha:a.Pairwise (·<=·)) (hb:b.Pairwise (·<=·)):(List.merge a b leB).Pairwise (·<=·):=by
 have h:=List.pairwise_merge (le:=leB) (fun a b c h1 h2=>by unfold leB at *;simp at *;omega) (fun a b=>by unfold leB;simp;omega) (l₁:=a) (l₂:=b) (ha.imp fun h=>by unfold leB;simpa using h) (hb.imp fun h=>by unfold leB;simpa using h)
 exact h.imp fun h=>by unfold leB at h;simpa using h
theorem merge_left {a b:List Int} {i k:Nat} (hi:i<a.length) (hk:k<b.length) (h:a[i]<=b[k]):List.merge (a.drop i) (b.drop k) leB=a[i] :: List.merge (a.drop (i+1)) (b.drop k) leB:=by
 rw [List.drop_eq_getElem_cons hi,List.drop_eq_getElem_cons hk,List.cons_merge_cons]
 rw [if_pos (by unfold leB;simpa using h)]
theorem merge_right {a b:List Int} {i k:Nat} (hi:i<a.length) (hk:k<b.length) (h:¬ a[i]<=b[k]):List.merge (a.drop i) (b.drop k) leB=b[k] :: List.merge (a.drop i) (b.drop (k+1)) leB:=by
 rw [List.drop_eq_getElem_cons hi,List.drop_eq_getElem_cons hk,List.cons_merge_cons]
 rw [if_neg (by unfold leB;simpa using h)]
theorem merge_a {a b:List Int} {i:Nat} (hi:i<a.length):List.merge (a.drop i) (b.drop b.length) leB=a[i] :: List.merge (a.drop (i+1)) (b.drop b.length) leB:=by
 rw [List.drop_length,List.merge_right,List.merge_right,List.drop_eq_getElem_cons hi]
theorem merge_b {a b:List Int} {k:Nat} (hk:k<b.length):List.merge (a.drop a.length) (b.drop k) leB=b[k] :: List.merge (a.drop a.length) (b.drop (k+1)) leB:=by
 rw [List.drop_length,List.nil_merge,List.nil_merge,List.drop_eq_getElem_cons hk]
theorem info_int:(prog.info? 2).map (fun i=>(i.zero,i.size,i.bytes))=some (some (.int .i64 0),1,8):=by kernel_rfl
theorem one_int {n:Int}:∀ u∈(#[Value.int .i64 n]:Array Value).toList,u.oneCell'=true:=by intro u hu;simp at hu;subst hu;rfl
theorem bel_nx2 {W W' W'':World} (h:Below W.heap.size W W') (hb:Below W'.heap.size W' W''):Below W.heap.size W W'':=h.trans (hb.mono h.size)
theorem sorted_step (l:List Int) (A:Option Addr) (c:Nat) (w:World) (h:Reads w w.heap.size 1 A l.length (ints l)) (hn:l.length<=1000000000) (hc:l.length<=c)
  (ih:∀ (m:List Int),m.length<l.length->∀ A c w,Reads w w.heap.size 1 A m.length (ints m)->m.length<=c->Calls prog 108 #[.slice A m.length c] w (SortP A m w)):
  Calls prog 108 #[.slice A l.length c] w (SortP A l w):=by
 by_cases h2:l.length<2
 ·have hs:l.Pairwise (·<=·):=by
   rcases l with _|⟨a,_|⟨b,l⟩⟩
   ·exact .nil
   ·exact List.pairwise_singleton _ _
   ·simp only [List.length_cons] at h2;omega
  have H:=hid h;have HS:=hid hs
  have g2:decide ((l.length:Int)<2)=true:=decide_eq_true (by omega)
  have g3:decide (l.length<2)=true:=decide_eq_true h2;clear h hs ih;go_enter func108,ntmps108
  go_wp2_with fail
  go_ret;exact ⟨_,_,l,rfl,H.out,HS.out,fun _=>Iff.rfl,rfl,Below.refl _ _,.inl rfl⟩
 ·have g2:decide ((l.length:Int)<2)=false:=decide_eq_false (by omega)
  have g3:decide (l.length<2)=false:=decide_eq_false h2
  have r1:∀ z,Below w.heap.size w z->Reads z z.heap.size 1 A (l.length / 2) (ints (l.take (l.length / 2))):=fun z hb=>by
   have q:=R11.reads_pre ((h.below hb).more hb.size) (show l.length / 2<=l.length by omega)
   rw [Nat.mul_one] at q;unfold ints at q ⊢;rw [List.map_take];exact q
  have r2:∀ z,Below w.heap.size w z->Reads z z.heap.size 1 (if c=l.length / 2 then A else A.map (·.add (l.length / 2))) (l.length - l.length / 2) (ints (l.drop (l.length / 2))):=fun z hb=>by
   have q:=Reads.cut ((h.below hb).more hb.size) (show l.length / 2<=l.length by omega) hc
   rw [Nat.mul_one] at q;unfold ints at q ⊢;rw [List.map_drop];exact q
  rw [if_neg (by omega)] at r2
  have e1:(l.take (l.length / 2)).length=l.length / 2:=by rw [List.length_take];omega
  have e2:(l.drop (l.length / 2)).length=l.length - l.length / 2:=List.length_drop
  have I1:=fun z (hb:Below w.heap.size w z)=>ih (l.take (l.length / 2)) (by omega) A c z (by rw [e1];exact r1 z hb) (by omega)
  have I2:=fun z (hb:Below w.heap.size w z)=>ih (l.drop (l.length / 2)) (by omega) (A.map (·.add (l.length / 2))) (c - l.length / 2) z (by rw [e2];exact r2 z hb) (by omega)
  rw [e1] at I1;rw [e2] at I2
  have hm:∀ t,(t∈l.take (l.length / 2)\/t∈l.drop (l.length / 2))↔t∈l:=fun t=>by
   rw [<-List.mem_append,List.take_append_drop]
  have hq:((l.length:Int)).tdiv 2=((l.length / 2:Nat):Int):=by rw [Int.tdiv_eq_ediv_of_nonneg (by omega)];omega
  obtain ⟨L1,hL1⟩:∃ m,l.take (l.length / 2)=m:=⟨_,rfl⟩;obtain ⟨L2,hL2⟩:∃ m,l.drop (l.length / 2)=m:=⟨_,rfl⟩;rw [hL1] at I1 e1 hm;rw [hL2] at I2 e2 hm;obtain ⟨d,hd⟩:∃ d,l.length / 2=d:=⟨_,rfl⟩
  have hd1:d<=l.length:=by omega
  have hd2:0<d:=by omega
  rw [hd] at I1 I2 hq e1 e2;have HI1:=hid I1;have HI2:=hid I2;have HM:=hid hm;have kb0:Below w.heap.size w w.drew:=below_drew w
  have b1:(0:Int)<=(d:Int):=by omega
  have b2:(d:Int)<=(c:Int):=by omega
  have b3:(d:Int)<=(l.length:Int):=by omega
  have b4:(l.length:Int)<=(c:Int):=by omega
  have b5:IntKind.i64.wrap (d:Int)=(d:Int):=by rw [IntKind.wrap_i64];omega
  have b6:d<=c:=by omega
  have b7:¬ c=d:=by omega
  clear h ih r1 r2 I1 I2 hm hL1 hL2;go_enter func108,ntmps108
  go_wp2_with fail
  go_region_held3 (fun w'=>Below w.heap.size w w') (go_grown) (first
   |(go_at_call 108;have tk:=tokA;refine (HI2.out wa kb1).mono ?_;rintro e wb ⟨A2,c2,m2,rfl,hr2,hs2,hm2,hl2,hb2,_⟩;have kb2:=bel_nx2 kb1 hb2;have HR1:=hid ((hr1.below hb2).more hb2.size);have HR2:=hid hr2)
   |(go_at_call 108;refine (HI1.out w.drew kb0).mono ?_;rintro e wa ⟨A1,c1,m1,rfl,hr1,hs1,hm1,hl1,hb1,_⟩;have kb1:=bel_nx2 kb0 hb1;have tokA:True:=trivial))
  obtain ⟨n2,hn2⟩:∃ n2,l.length - d=n2:=⟨_,rfl⟩;rw [hn2] at e2;rw [hn2];have q1:m1.length=d:=hl1.trans e1;have q2:m2.length=n2:=hl2.trans e2
  have hsum:d+n2=l.length:=by omega
  have hsd:=merge_sorted hs1 hs2
  have hmem:∀ t,t∈List.merge m1 m2 leB↔t∈l:=fun t=>by rw [List.mem_merge,hm1,hm2];exact HM.out t
  have hlen:(List.merge m1 m2 leB).length=l.length:=by rw [List.length_merge];omega
  obtain ⟨G,hG⟩:∃ G,List.merge m1 m2 leB=G:=⟨_,rfl⟩;rw [hG] at hsd hmem hlen;have HG:=hid hG;have HSd:=hid hsd;have HMem:=hid hmem;have HLen:=hid hlen;have KB:=hid kb2;obtain ⟨i1,hi1,hy0,hy1,hy2⟩:=info_parts info_int;clear hs1 hs2 hm1 hm2 hG hsd hmem hlen hr1 hr2 hl1 hl2 hb1 hb2 kb1 kb2 tokA tk HI1 HI2 HM hn2 e1 e2 hq;subst q1 q2
  have hbig:m1.length+m2.length<=1000000000:=by omega
  rw [show l.length=m1.length+m2.length from hsum.symm] at*
  go_wp2_with fail
  go_loopw [5,6,7] (fun v x y wr=>∃ (i k:Nat) (o:List Int),i<=m1.length/\k<=m2.length/\x= .int .i64 i/\y= .int .i64 k/\wr.ownsRow wb.heap.size 2 1 v (i+k) (ints o)/\o++List.merge (m1.drop i) (m2.drop k) leB=G/\Below wb.heap.size wb wr) (fun _ x y _=>m1.length+m2.length - ((intOf x).toNat+(intOf y).toNat))
  case atStart=>exact ⟨0,0,[],Nat.zero_le _,Nat.zero_le _,rfl,rfl,World.ownsRow_nil _ _ _ _,HG.out,Below.refl _ _⟩
  case round=>
   obtain ⟨i,k,o,hi,hk,rfl,rfl,hown,hq,hb⟩:=hrel;have HOw:=hid hown;have HQ:=hid hq;have HB:=hid hb;have Hsz:=hid hb.size
   have hol:o.length=i+k:=by have:=hown.1;rw [ints_len] at this;omega
   clear hown hq hb
   rcases Nat.lt_or_ge i m1.length with hi2|hi2
   ·rcases Nat.lt_or_ge k m2.length with hk2|hk2
    ·have mm1:i+k+1<=maxLen:=by unfold maxLen;omega
     have mm2:(i+k+1)*8<=140737488355328:=by omega
     have M1:=hid mm1;have M2:=hid mm2;clear mm1 mm2;obtain ⟨ad,hA,_,a0⟩:=int_at (HR1.out.below HB.out) hi2;subst hA;obtain ⟨bd,hB,_,b0⟩:=int_at (HR2.out.below HB.out) hk2;subst hB
     have gk:(((k:Nat):Int) == (m2.length:Nat))=false:=by simp;omega
     have gk2:(k == m2.length)=false:=by simp;omega
     have gk3:decide ((k:Int)<(m2.length:Nat))=true:=decide_eq_true (by omega)
     have gk4:decide (k<m2.length)=true:=decide_eq_true hk2
     have gi:decide ((i:Int)<(m1.length:Nat))=true:=decide_eq_true (by omega)
     have gi2:decide (i<m1.length)=true:=decide_eq_true hi2
     by_cases hle:m1[i]<=m2[k]
     ·have hq:=HQ.out
      rw [merge_left hi2 hk2 hle] at hq;have gl:decide (m1[i]<=m2[k])=true:=decide_eq_true hle;have HQ2:Hid (o++([m1[i]]++List.merge (m1.drop (i+1)) (m2.drop k) leB)=G):=hq;generalize m1[i]=e at*;generalize m2[k]=f at*;clear hq hle
      go_wp2_with fail
      go_region
      go_wp2_with ((at_builtin;refine wpList_append1g wr.drew rfl (.tmp 55) (.tmp 60) 42 rfl wb.heap.size 2 i1 _ 1 8 underlying42 hi1 hy0 hy1 hy2 rfl (by decide) _ (i+k) (ints o) rfl HOw.out (by simp [Act.eval]) rfl one_int M1.out M2.out Hsz.out ?_;intro v' wB hown8 hg8;have HO2:=hid hown8;have HB2:=hid ((HB.out.drew.alloc Hsz.out _).grown hg8 (by have:=Hsz.out;simp;omega) (fun j hj=>(HOw.out.lt j hj).1));clear hown8 hg8))
      refine ⟨⟨i+1,k,o++[e],by omega,by omega,by first|rfl|go_num,by first|rfl|go_num,?_,?_,HB2.out⟩,by simp [intOf];omega⟩
      ·have h9:=HO2.out
       have e9:i+1+(k)=i+k+1:=by omega
       rw [e9];unfold ints at h9 ⊢;rw [List.map_append];exact h9
      ·rw [List.append_assoc]
       exact HQ2.out
     ·have hq:=HQ.out
      rw [merge_right hi2 hk2 hle] at hq;have gl:decide (m1[i]<=m2[k])=false:=decide_eq_false hle;have HQ2:Hid (o++([m2[k]]++List.merge (m1.drop i) (m2.drop (k+1)) leB)=G):=hq;generalize m1[i]=e at*;generalize m2[k]=f at*;clear hq hle
      go_wp2_with fail
      go_region
      go_wp2_with ((at_builtin;refine wpList_append1g wr.drew rfl (.tmp 64) (.tmp 69) 42 rfl wb.heap.size 2 i1 _ 1 8 underlying42 hi1 hy0 hy1 hy2 rfl (by decide) _ (i+k) (ints o) rfl HOw.out (by simp [Act.eval]) rfl one_int M1.out M2.out Hsz.out ?_;intro v' wB hown8 hg8;have HO2:=hid hown8;have HB2:=hid ((HB.out.drew.alloc Hsz.out _).grown hg8 (by have:=Hsz.out;simp;omega) (fun j hj=>(HOw.out.lt j hj).1));clear hown8 hg8))
      refine ⟨⟨i,k+1,o++[f],by omega,by omega,by first|rfl|go_num,by first|rfl|go_num,?_,?_,HB2.out⟩,by simp [intOf];omega⟩
      ·have h9:=HO2.out
       have e9:i+(k+1)=i+k+1:=by omega
       rw [e9];unfold ints at h9 ⊢;rw [List.map_append];exact h9
      ·rw [List.append_assoc]
       exact HQ2.out
    ·have hk3:k=m2.length:=by omega
     have mm1:i+k+1<=maxLen:=by unfold maxLen;omega
     have mm2:(i+k+1)*8<=140737488355328:=by omega
     have M1:=hid mm1;have M2:=hid mm2;clear mm1 mm2;obtain ⟨ad,hA,_,a0⟩:=int_at (HR1.out.below HB.out) hi2;subst hA;have hq:=HQ.out;rw [hk3,merge_a hi2] at hq
     have gi:decide ((i:Int)<(m1.length:Nat))=true:=decide_eq_true (by omega)
     have gi2:decide (i<m1.length)=true:=decide_eq_true hi2
     have HQ2:Hid (o++([m1[i]]++List.merge (m1.drop (i+1)) (m2.drop k) leB)=G):=by rw [hk3];exact hq
     generalize m1[i]=e at*;clear hq;subst hk3
     go_wp2_with fail
     go_region
     go_wp2_with ((at_builtin;refine wpList_append1g wr.drew rfl (.tmp 55) (.tmp 60) 42 rfl wb.heap.size 2 i1 _ 1 8 underlying42 hi1 hy0 hy1 hy2 rfl (by decide) _ (i+m2.length) (ints o) rfl HOw.out (by simp [Act.eval]) rfl one_int M1.out M2.out Hsz.out ?_;intro v' wB hown8 hg8;have HO2:=hid hown8;have HB2:=hid ((HB.out.drew.alloc Hsz.out _).grown hg8 (by have:=Hsz.out;simp;omega) (fun j hj=>(HOw.out.lt j hj).1));clear hown8 hg8))
     refine ⟨⟨i+1,m2.length,o++[e],by omega,by omega,by first|rfl|go_num,by first|rfl|go_num,?_,?_,HB2.out⟩,by simp [intOf];omega⟩
     ·have h9:=HO2.out
      have e9:i+1+(m2.length)=i+m2.length+1:=by omega
      rw [e9];unfold ints at h9 ⊢;rw [List.map_append];exact h9
     ·rw [List.append_assoc]
      exact HQ2.out
   ·have hi3:i=m1.length:=by omega
    rcases Nat.lt_or_ge k m2.length with hk2|hk2
    ·have mm1:i+k+1<=maxLen:=by unfold maxLen;omega
     have mm2:(i+k+1)*8<=140737488355328:=by omega
     have M1:=hid mm1;have M2:=hid mm2;clear mm1 mm2;obtain ⟨bd,hB,_,b0⟩:=int_at (HR2.out.below HB.out) hk2;subst hB;have hq:=HQ.out;rw [hi3,merge_b hk2] at hq
     have gk:(((k:Nat):Int) == (m2.length:Nat))=false:=by simp;omega
     have gk2:(k == m2.length)=false:=by simp;omega
     have gk3:decide ((k:Int)<(m2.length:Nat))=true:=decide_eq_true (by omega)
     have gk4:decide (k<m2.length)=true:=decide_eq_true hk2
     have gi:decide ((m1.length:Int)<(m1.length:Nat))=false:=decide_eq_false (by omega)
     have HQ2:Hid (o++([m2[k]]++List.merge (m1.drop m1.length) (m2.drop (k+1)) leB)=G):=hq;generalize m2[k]=e at*;clear hq;subst hi3
     go_wp2_with fail
     go_region
     go_wp2_with ((at_builtin;refine wpList_append1g wr.drew rfl (.tmp 64) (.tmp 69) 42 rfl wb.heap.size 2 i1 _ 1 8 underlying42 hi1 hy0 hy1 hy2 rfl (by decide) _ (m1.length+k) (ints o) rfl HOw.out (by simp [Act.eval]) rfl one_int M1.out M2.out Hsz.out ?_;intro v' wB hown8 hg8;have HO2:=hid hown8;have HB2:=hid ((HB.out.drew.alloc Hsz.out _).grown hg8 (by have:=Hsz.out;simp;omega) (fun j hj=>(HOw.out.lt j hj).1));clear hown8 hg8))
     refine ⟨⟨m1.length,k+1,o++[e],by omega,by omega,by first|rfl|go_num,by first|rfl|go_num,?_,?_,HB2.out⟩,by simp [intOf];omega⟩
     ·have h9:=HO2.out
      have e9:m1.length+(k+1)=m1.length+k+1:=by omega
      rw [e9];unfold ints at h9 ⊢;rw [List.map_append];exact h9
     ·rw [List.append_assoc]
      exact HQ2.out
    ·have hk3:k=m2.length:=by omega
     have hq:=HQ.out;rw [hi3,hk3,List.drop_length,List.drop_length,merge_nil,List.append_nil] at hq;subst hi3 hk3;subst hq;have hown:=HOw.out;obtain ⟨Ao,co,rfl⟩:=own_slice hown;have HRd:=hid (Reads.of_own hown)
     have hol2:m1.length+m2.length=o.length:=by omega
     have HFr:=hid (show ∀ ad,Ao=some ad->w.heap.size<=ad.block from fun ad e=>by subst e;have h8:=(HOw.out.lt ad.block rfl).1;have h9:=KB.out.size;omega)
     have HSm:=hid (HSd.out);have HMm:=hid HMem.out;clear hown
     go_wp2_with fail
     go_ret;have hrd:=HRd.out;rw [hol2] at hrd
     refine ⟨Ao,co,o,by rw [hol2];rfl,hrd,HSd.out,HMem.out,HLen.out,KB.out.trans (HB.out.mono KB.out.size),.inr HFr.out⟩
theorem sorted_any:∀ (n:Nat) (l:List Int),l.length<=n->n<=1000000000->∀ (A:Option Addr) (c:Nat) (w:World),Reads w w.heap.size 1 A l.length (ints l)->l.length<=c->Calls prog 108 #[.slice A l.length c] w (SortP A l w)
 |0,l,h,hn,A,c,w,hr,hc=>sorted_step l A c w hr (by omega) hc fun m hm=>by omega
 |n+1,l,h,hn,A,c,w,hr,hc=>sorted_step l A c w hr (by omega) hc fun m hm A c w hr hc=>sorted_any n m (by omega) (by omega) A c w hr hc
end Srd
end
end
end Go.Proofs.YtadamccojdocbaaGreatDoor
