/-
  Contracts of the code that the law reaches, and plain laws. Conditions: as each says.
-/
import Derived.Test.YtadamccojdocbaaGreatDoorV33
import Derived.Test.YtadamccojdocbaaGreatDoorV30
set_option linter.all false
set_option maxHeartbeats 40000000
set_option maxRecDepth 100000
namespace Go.Proofs.YtadamccojdocbaaGreatDoor
open Lib (hid)
open Tryz
section
section
namespace Cmq
open Go.RowKit Mem Civ Mom Img Plc Rul Ahd Trn Src Snd Att Rgt Abr Srd
theorem Sz.grown {w W W':World} {cs es:Array Value} {r:Option Nat} (h:Sz w cs es W) (hg:W.grownBy W' r) (hr:∀ k,r=some k->w.heap.size+2<=k):Sz w cs es W':=
 ⟨h.src.grown hg (fun e=>by have:=hr _ e.symm;omega),h.zon.grown hg (fun e=>by have:=hr _ e.symm;omega),h.bel.grown hg h.bel.size (fun k e=>by have:=hr _ e;omega)⟩
theorem Sz.alloc {w W:World} {cs es:Array Value} (h:Sz w cs es W) (o:Obj):Sz w cs es (W.alloc o):=h.step ((Below.refl W.heap.size W).alloc (Nat.le_refl _) o)
theorem Sz.drew {w W:World} {cs es:Array Value} (h:Sz w cs es W):Sz w cs es W.drew:=⟨h.src.drew,h.zon.drew,h.bel.drew⟩
theorem ints_snoc (o:List Int) (e:Int):ints o++[Value.int .i64 e]=ints (o++[e]):=by unfold ints;rw [List.map_append];rfl
theorem lo_ge:∀ (l:List Rule) (y:Int),1<=y->(∀ r∈l,1<=r.lo)->1<=l.foldl (fun m r=>min m r.lo) y
 |[],y,h,_=>h
 |a :: l,y,h,hl=>by
  rw [List.foldl_cons]
  exact lo_ge l _ (by have:=hl a (by simp);omega) fun r hr=>hl r (by simp [hr])
theorem seconds_any (s:Src) (A A2 A3:Option Addr) (c c2 c3:Nat) (z:ZoneM) (year:Int) (w:World) (h:SrcOk s A A2 A3 w) (hz:z∈s.zones) (hs:rulesB s.rules=true) (hy1:1<=year) (hy2:year<=9999)
  (hx:∀ x∈z.eras,0<=x.spot.ref/\x.spot.ref<=2) (hlen:(secsZ s year z.eras).length<=1000000000):
  Calls prog 48 #[.agg #[.slice A s.rules.length c,.slice A2 s.zones.length c2,.slice A3 s.links.length c3],.agg z.cells.toArray,.int .i64 year] w (SortP none (secsZ s year z.eras) w):=by
 have HS:=hid (fun nm y (hb:Below w.heap.size w y)=>rset_any s A A2 A3 c c2 c3 nm y (h.below hb));have HEn:=hid (fun (x:Era) (hm:x∈z.eras) y (hb:Below w.heap.size w y)=>rend_any s A A2 A3 c c2 c3 x y (h.below hb) hs (hx x hm));have HEc:=hid (fun y (hb:Below w.heap.size w y) k hk=>era_cells (k:=k) ((h.re z hz).below hb) hk rfl);have hne:=h.ne z hz;have hnr:=h.nr;obtain ⟨F,hF⟩:∃ F:Era->List Int,secsE s (loE s.rules year) year=F:=⟨_,rfl⟩
 have hsz:secsZ s year z.eras=z.eras.flatMap F:=by unfold secsZ;rw [hF]
 rw [hsz] at hlen ⊢
 have hF1:∀ x,F x=(if x.till=true then [endP (svF s) x] else [])++(if x.kind=2 then (List.range (year+4 - loE s.rules year x).toNat).flatMap fun (i:Nat)=>(turnsL (setL s.rules x.rules) (loE s.rules year x+i)).map (uniT (setL s.rules x.rules) x.off) else []):=fun x=>by rw [<-hF];rfl
 have hEP:∀ x:Era,x.till=true->endI x (svF s x)=endP (svF s) x:=fun x hx=>by unfold endP;rw [if_pos hx]
 have HF1:=hid hF1;have HEP:=hid hEP;have HRu:=hid hs;obtain ⟨i1,hi1,hyy0,hyy1,hyy2⟩:=info_parts info_int;clear h hz hF hsz hF1 hEP hs hx;obtain ⟨rs,zs,ls⟩:=s;obtain ⟨z0,es,Az,cz⟩:=z;simp only [ZoneM.cells] at HS HEn HEc HF1 HEP HRu hne hnr hlen ⊢;obtain ⟨S,hS⟩:∃ S,es.flatMap F=S:=⟨_,rfl⟩;rw [hS] at hlen ⊢;have HSs:=hid hS;clear hS;obtain ⟨b0,b1,hbw,_⟩:=box2 w 26 65 #[.slice A rs.length c,.slice A2 zs.length c2,.slice A3 ls.length c3] #[.string z0,.slice Az es.length cz];obtain ⟨W,hW⟩:∃ W,(w.alloc (.cells #[.slice A rs.length c,.slice A2 zs.length c2,.slice A3 ls.length c3] 26)).alloc (.cells #[.string z0,.slice Az es.length cz] 65)=W:=⟨_,rfl⟩
 have hszW:W.heap.size=w.heap.size+2:=by rw [<-hW];simp
 rw [hW] at b0 b1 hbw;have HP:Hid (Sz w #[.slice A rs.length c,.slice A2 zs.length c2,.slice A3 ls.length c3] #[.string z0,.slice Az es.length cz] W):=⟨b0,b1,hbw⟩;have HsW:=hid hszW;clear b0 b1 hbw hszW;go_enter func48,ntmps48
 go_wp2_with fail
 try rw [hW]
 go_loopw [7,8] (fun v i wr=>∃ (k:Nat) (o:List Int),k<=es.length/\i= .int .i64 k/\o++(es.drop k).flatMap F=S/\wr.ownsRow W.heap.size 2 1 v o.length (ints o)/\Sz w #[.slice A rs.length c,.slice A2 zs.length c2,.slice A3 ls.length c3] #[.string z0,.slice Az es.length cz] wr/\W.heap.size<=wr.heap.size) (fun _ i _=>es.length - (intOf i).toNat)
 case atStart=>exact ⟨0,[],Nat.zero_le _,rfl,by rw [List.drop_zero];exact HSs.out,World.ownsRow_nil _ _ _ _,HP.out,Nat.le_refl _⟩
 case round=>
  clear HP HSs hW;obtain ⟨k,o,hk,rfl,hq,hown,hp,hsw⟩:=hrel;obtain ⟨wo,hwo⟩:∃ u:World,u=wr:=⟨_,rfl⟩;subst hwo;have HP:=hid hp;have HOw:=hid hown;have HSw:=hid hsw;have czl:=hp.zon.cell;clear hp hown hsw
  by_cases hkn:k<es.length
  ·obtain ⟨ae,hAe,_,a0,a1,a2,a3,a4,a5,a6,a7,a8,a9,a10,a11,a12⟩:=HEc.out _ HP.out.bel k hkn
   subst hAe;rw [List.drop_eq_getElem_cons hkn,List.flatMap_cons] at hq
   have hkb:decide ((k:Int)<(es.length:Nat))=true:=decide_eq_true (by omega)
   have hen:=HEn.out es[k] (List.getElem_mem hkn);have hf1:=HF1.out es[k];have hep:=HEP.out es[k];rw [hf1] at hq;generalize (es[k]'hkn)=x at*;obtain ⟨E,hE⟩:∃ E,endI x (svF ⟨rs,zs,ls⟩ x)=E:=⟨_,rfl⟩;rw [hE] at hen hep;obtain ⟨rest,hrest⟩:∃ r,(es.drop (k+1)).flatMap F=r:=⟨_,rfl⟩;rw [hrest] at hq;have HRest:=hid hrest;clear hf1 hE hrest;obtain ⟨lo,hlo⟩:∃ lo,loE rs year x=lo:=⟨_,rfl⟩;rw [hlo] at hq;unfold loE at hlo;obtain ⟨x0,x1,x2,x3,x4,x5,x6,⟨y0,y1,y2,y3,y4,y5⟩⟩:=x;simp only [Era.cells] at hq hen hep hlo a0 a1 a2 a3 a4 a5 a6 a7 a8 a9 a10 a11 a12;have hxb:=Blk.new wo 84 #[.int .i64 x0,.int .i64 x1,.int .i64 x2,.string x3,.string x4,.bool x5,.int .i64 x6,.int .i64 y0,.int .i64 y1,.int .i64 y2,.int .i64 y3,.int .i64 y4,.int .i64 y5];have hpa:=HP.out.alloc (.cells #[.int .i64 x0,.int .i64 x1,.int .i64 x2,.string x3,.string x4,.bool x5,.int .i64 x6,.int .i64 y0,.int .i64 y1,.int .i64 y2,.int .i64 y3,.int .i64 y4,.int .i64 y5] 84);have hoa:=HOw.out.alloc (.cells #[.int .i64 x0,.int .i64 x1,.int .i64 x2,.string x3,.string x4,.bool x5,.int .i64 x6,.int .i64 y0,.int .i64 y1,.int .i64 y2,.int .i64 y3,.int .i64 y4,.int .i64 y5] 84);obtain ⟨V,hV⟩:∃ V,wo.alloc (.cells #[.int .i64 x0,.int .i64 x1,.int .i64 x2,.string x3,.string x4,.bool x5,.int .i64 x6,.int .i64 y0,.int .i64 y1,.int .i64 y2,.int .i64 y3,.int .i64 y4,.int .i64 y5] 84)=V:=⟨_,rfl⟩
   have hVs:V.heap.size=wo.heap.size+1:=by rw [<-hV];simp
   rw [hV] at hxb hpa hoa;have cx:=hxb.cell;have cs:=hpa.src.cell;have HXb:=hid hxb;have HPa:=hid hpa;have HOa:=hid hoa;have HVs:=hid hVs;have HLo:=hid hlo;have HQ:=hid hq;have HEx:=hid hen;have Hep:=hid hep;clear hxb hpa hoa hVs hlo hq hen hep HOw HEn HF1 HEP
   have hol:o.length<=1000000000:=by
    have h9:=congrArg List.length HQ.out;rw [List.length_append] at h9;omega
   obtain ⟨E2,hE2⟩:∃ E2:List Int,(if x1=2 then (List.range (year+4 - lo).toNat).flatMap fun (i:Nat)=>(turnsL (setL rs x3) (lo+i)).map (uniT (setL rs x3) x0) else [])=E2:=⟨_,rfl⟩
   rw [hE2] at HQ;have HE2:=hid hE2;clear hE2
   go_upto_if 29 with fail
   go_cut [7] from 16 to 83 (fun v wx=>∃ o1:List Int,o1++(E2++rest)=S/\wx.ownsRow W.heap.size 2 1 v o1.length (ints o1)/\Sz w #[.slice A rs.length c,.slice A2 zs.length c2,.slice A3 ls.length c3] #[.string z0,.slice (some ae) es.length cz] wx/\Blk wx wo.heap.size 84 #[.int .i64 x0,.int .i64 x1,.int .i64 x2,.string x3,.string x4,.bool x5,.int .i64 x6,.int .i64 y0,.int .i64 y1,.int .i64 y2,.int .i64 y3,.int .i64 y4,.int .i64 y5]/\wo.heap.size<wx.heap.size)
   case first=>
    cases x5
    ·go_wp2_with fail
     go_meet
     exact ⟨o,by have h9:=HQ.out;simpa using h9,HOa.out,HPa.out,HXb.out,by have:=HVs.out;omega⟩
    ·have hE:=Hep.out rfl
     have M1:=hid (show o.length+1<=maxLen by unfold maxLen;omega)
     have M2:=hid (show (o.length+1)*8<=140737488355328 by omega)
     have hq2:(o++[E])++(E2++rest)=S:=by
      have h9:=HQ.out;rw [if_pos rfl,<-hE] at h9
      simpa using h9
     have HQ2:=hid hq2;clear hE hq2
     go_wp2_with (first
      |(go_at_call 104;refine (HEx.out _ HPa.out.bel).mono ?_;rintro e w5 ⟨rfl,hb⟩;have HO5:=hid (Rul.own_below HOa.out hb);have HP5:=hid (HPa.out.step hb);have HX5:=hid (HXb.out.below hb HXb.out.lt);have Hs5:=hid (show W.heap.size<=w5.heap.size by have:=hb.size;have:=HVs.out;have:=HSw.out;omega);have Hr5:=hid (show wo.heap.size<w5.heap.size by have:=hb.size;have:=HVs.out;omega);clear hb cx cs)
      |(at_builtin;refine wpList_append1g w5 rfl (.tmp 30) (.tmp 34) 42 rfl W.heap.size 2 i1 _ 1 8 underlying42 hi1 hyy0 hyy1 hyy2 rfl (by decide) _ o.length (ints o) rfl HO5.out (by simp [Act.eval]) rfl one_int M1.out M2.out Hs5.out ?_;intro v' wB hown8 hg8;have HOB:=hid hown8;have HPB:=hid ((HP5.out.alloc _).grown hg8 (fun k e=>by have:=(HO5.out.lt k e).1;have:=HsW.out;omega));have HXB:=hid (Blk.grown (HX5.out.alloc _) hg8 (fun e=>own_blk_ne HO5.out HX5.out (by decide) e.symm));have HsB:=hid hg8.size;clear hown8 hg8))
     go_meet
     refine ⟨o++[E],HQ2.out,?_,HPB.out,HXB.out,by have h1s:=HsB.out;rw [World.size_alloc] at h1s;have:=Hr5.out;omega⟩
     have h9:=HOB.out;rw [ints_snoc] at h9;rw [List.length_append];exact h9
   case rest=>
    obtain ⟨o1,hq1,hown1,hp1,hx1,hs1⟩:=hcut;have HP1:=hid hp1;have HX1:=hid hx1;have HO1:=hid hown1;have Hs1:=hid hs1;have cx1:=hx1.cell;have cs1:=hp1.src.cell;clear hown1 hp1 hx1 hs1 cx cs czl a0 a1 a2 a3 a4 a5 a6 a7 a8 a9 a10 a11 a12 HOa HPa HXb HEx Hep HQ hol
    by_cases hk2:x1=2
    ·subst hk2
     have he2:=HE2.out;rw [if_pos rfl] at he2;have HE3:=hid he2;have HQ1:=hid hq1;clear he2 hq1 HE2;have HSx:=hid (HS.out x3)
     go_wp2_with (go_at_call 49;refine (HSx.out _ HP1.out.bel).mono ?_;rintro e w7 ⟨vL,rfl,hownL,hb⟩;obtain ⟨Av,cv,rfl⟩:=own_slice hownL;have HOL:=hid hownL;have HO7:=hid (Rul.own_below HO1.out hb);have HP7:=hid (HP1.out.step hb);have HX7:=hid (HX1.out.below hb HX1.out.lt);have Hs7:=hid (Nat.lt_of_lt_of_le Hs1.out hb.size);have HLsz:=hid (show W.heap.size<=wc.heap.size by have:=Hs1.out;have:=HSw.out;omega);clear hb hownL cx1 cs1)
     obtain ⟨L,hL⟩:∃ L,setL rs x3=L:=⟨_,rfl⟩
     have hLn:L.length<=1000000:=by rw [<-hL];exact Nat.le_trans (setL_len rs x3) hnr
     have hLr:rulesB L=true:=by rw [<-hL];exact set_right HRu.out x3
     rw [hL] at HOL HLo HE3
     try rw [hL]
     have HLr:=hid hLr;clear hL hLr HO1 HP1 HX1 Hs1 HSx
     go_loopw [11,12] (fun v i wz=>∃ (j:Nat) (m:Int),j<=L.length/\v= .int .i64 m/\i= .int .i64 j/\(L.drop j).foldl (fun m r=>min m r.lo) m=lo/\wz=w7) (fun _ i _=>L.length - (intOf i).toNat)
     case atStart=>exact ⟨0,year,Nat.zero_le _,rfl,rfl,by rw [List.drop_zero];exact HLo.out,rfl⟩
     case round=>
      obtain ⟨j,m,hj,rfl,rfl,hm,rfl⟩:=hrel
      by_cases hjn:j<L.length
      ·obtain ⟨ad,hA,_,b0,b1,b2,b3,b4,b5,b6,b7,b8,b9,b10⟩:=rule_cells (Reads.of_own HOL.out) hjn
       subst hA;rw [List.drop_eq_getElem_cons hjn,List.foldl_cons] at hm
       have hjb:decide ((j:Int)<(L.length:Nat))=true:=decide_eq_true (by omega)
       generalize L[j]=r at*;have HMr:=hid hm;clear hm
       go_wp2_with fail
       exact ⟨⟨j+1,_,by omega,rfl,by go_num,HMr.out,trivial⟩,by simp [intOf];omega⟩
      ·obtain rfl:j=L.length:=by omega
       rw [List.drop_length,List.foldl_nil] at hm;subst hm
       have hjb:decide (((L.length:Nat):Int)<(L.length:Nat))=false:=decide_eq_false (by omega)
       have hlo1:=(lo_le L year).1;have hlo2:1<=L.foldl (fun m r=>min m r.lo) year:=lo_ge L year hy1 fun r hr=>(of_decide_eq_true (List.all_eq_true.1 HLr.out r hr):ruleP r).1.1;rw [HLo.out] at hlo1 hlo2;obtain ⟨N,hN⟩:∃ N:Nat,(year+4 - m).toNat=N:=⟨_,rfl⟩
       have hNm:(N:Int)=year+4 - m:=by omega
       have HE4:=HE3.out;rw [hN] at HE4;obtain ⟨G,hG⟩:∃ G:Nat->List Int,(fun i:Nat=>(turnsL L (m+i)).map (uniT L x0))=G:=⟨_,rfl⟩;rw [hG] at HE4
       have hGi:∀ j:Nat,G j=(turnsL L (m+j)).map (uniT L x0):=fun j=>by rw [<-hG]
       rw [<-HE4] at HQ1;have HGi:=hid hGi;clear HE4 hG hGi hN HE3 HLo
       have hw3:wrap64 (year+3)=year+3:=by unfold wrap64;omega
       go_wp2_with fail
       go_loopw [7,13] (fun v y wz=>∃ (j:Nat) (o2:List Int),j<=N/\y= .int .i64 (m+j)/\o2++(((List.range N).drop j).flatMap G++rest)=S/\wz.ownsRow W.heap.size 2 1 v o2.length (ints o2)/\wz.ownsRow wc.heap.size 69 11 (.slice Av L.length cv) L.length (L.flatMap Rule.cells)/\Sz w #[.slice A rs.length c,.slice A2 zs.length c2,.slice A3 ls.length c3] #[.string z0,.slice (some ae) es.length cz] wz/\Blk wz wo.heap.size 84 #[.int .i64 x0,.int .i64 2,.int .i64 x2,.string x3,.string x4,.bool x5,.int .i64 x6,.int .i64 y0,.int .i64 y1,.int .i64 y2,.int .i64 y3,.int .i64 y4,.int .i64 y5]/\wo.heap.size<wz.heap.size) (fun _ y _=>(year+4 - intOf y).toNat)
       case atStart=>exact ⟨0,o1,Nat.zero_le _,by simp,by rw [List.drop_zero];exact HQ1.out,HO7.out,HOL.out,HP7.out,HX7.out,Hs7.out⟩
       case round=>
        obtain ⟨j,o2,hj,rfl,hq2,hown2,hownL2,hp2,hx2,hs2⟩:=hrel;have HO2:=hid hown2;have HL2:=hid hownL2;have HP2:=hid hp2;have HX2:=hid hx2;have Hs2:=hid hs2;clear hown2 hownL2 hp2 hx2 hs2
        by_cases hjN:j<N
        ·have hjb:decide (m+(j:Int)<=year+3)=true:=decide_eq_true (by omega)
         have hdr:(List.range N).drop j=j :: (List.range N).drop (j+1):=by
          rw [List.drop_eq_getElem_cons (by simpa using hjN)]
          simp
         rw [hdr,List.flatMap_cons,HGi.out j] at hq2;obtain ⟨R2,hR2⟩:∃ R2,((List.range N).drop (j+1)).flatMap G=R2:=⟨_,rfl⟩;rw [hR2] at hq2;have HR2:=hid hR2;have hT:=R11.turns_any L Av cv (m+j) wr (Reads.of_own HL2.out) hLn
         have hTe:sortT (L.filterMap (turnL (m+j)))=turnsL L (m+j):=by unfold turnsL;rw [if_pos HLr.out]
         rw [hTe] at hT
         have hTm:∀ u∈turnsL L (m+j),(-9223372036854775808<=u.at_/\u.at_<=9223372036854775807)/\(0<=u.ref/\u.ref<=2):=fun u hu=>by
          rw [<-hTe] at hu;obtain ⟨r,hr,he⟩:=List.mem_filterMap.1 (mem_sortT hu);have hb:=turn_bd he;have hs:=rule_save HLr.out hr
          exact ⟨by omega,by rw [(turnL_at he).2.2.2];exact ⟨hs.2.2.1,hs.2.2.2⟩⟩
         have hTl:(turnsL L (m+j)).length<=1000000:=by
          rw [<-hTe,(sortT_perm _).length_eq];exact Nat.le_trans (List.length_filterMap_le _ _) hLn
         generalize turnsL L (m+j)=T at*;have HT:=hid hT;have HTm:=hid hTm;have HQ2:=hid hq2;clear hT hTe hTm hq2 hdr hR2
         go_wp2_with fail
         go_wp2_with (go_at_call 106;refine HT.out.mono ?_;rintro e w8 ⟨At,ct,rfl,hownT,hb⟩;have HO8:=hid (Rul.own_below HO2.out hb);have HL8:=hid (Rul.own_below HL2.out hb);have HP8:=hid (HP2.out.step hb);have HX8:=hid (HX2.out.below hb HX2.out.lt);have Hs8:=hid (Nat.lt_of_lt_of_le Hs2.out hb.size);have HT8:=hid hownT;clear hb hownT)
         obtain ⟨BT,hBT⟩:∃ BT,BT=wr.heap.size:=⟨_,rfl⟩;rw [<-hBT] at HT8
         have hBW:W.heap.size<=BT:=by have:=Hs2.out;have:=HSw.out;omega
         have HBW:=hid hBW;clear hBT hBW HT HO2 HL2 HP2 HX2
         go_loopw [7,15] (fun v i wz=>∃ (q:Nat) (o3:List Int),q<=T.length/\i= .int .i64 q/\o3++((T.drop q).map (uniT L x0)++(R2++rest))=S/\wz.ownsRow W.heap.size 2 1 v o3.length (ints o3)/\wz.ownsRow BT 133 4 (.slice At T.length ct) T.length (T.flatMap Turn.cells)/\wz.ownsRow wc.heap.size 69 11 (.slice Av L.length cv) L.length (L.flatMap Rule.cells)/\Sz w #[.slice A rs.length c,.slice A2 zs.length c2,.slice A3 ls.length c3] #[.string z0,.slice (some ae) es.length cz] wz/\Blk wz wo.heap.size 84 #[.int .i64 x0,.int .i64 2,.int .i64 x2,.string x3,.string x4,.bool x5,.int .i64 x6,.int .i64 y0,.int .i64 y1,.int .i64 y2,.int .i64 y3,.int .i64 y4,.int .i64 y5]/\wo.heap.size<wz.heap.size) (fun _ i _=>T.length - (intOf i).toNat)
         case atStart=>exact ⟨0,o2,Nat.zero_le _,rfl,by have h9:=HQ2.out;rw [List.drop_zero];simpa [List.append_assoc] using h9,HO8.out,HT8.out,HL8.out,HP8.out,HX8.out,Hs8.out⟩
         case round=>
          clear HO8 HT8 HL8 HP8 HX8 Hs8 HQ2;obtain ⟨q,o3,hqq,rfl,hq3,hown3,hownT3,hownL3,hp3,hx3,hs3⟩:=hrel;have HO3:=hid hown3;have HT3:=hid hownT3;have HL3:=hid hownL3;have HP3:=hid hp3;have HX3:=hid hx3;have Hs3:=hid hs3;clear hown3 hownT3 hownL3 hp3 hx3 hs3
          by_cases hqn:q<T.length
          ·obtain ⟨ad,hA,_,b0,b1,b2,b3⟩:=turn_cells (Reads.of_own HT3.out) hqn rfl
           subst hA;rw [List.drop_eq_getElem_cons hqn,List.map_cons] at hq3
           have hqb:decide ((q:Int)<(T.length:Nat))=true:=decide_eq_true (by omega)
           have htm:=HTm.out T[q] (List.getElem_mem hqn);have hU:=univ_any L Av cv x0 T[q] wr.drew (Reads.of_own (own_dr HL3.out)) hLn HLr.out htm.1.1 htm.1.2 htm.2
           have hol:o3.length<=1000000000:=by
            have h9:=congrArg List.length hq3;rw [List.length_append] at h9;omega
           generalize T[q]=u at*;obtain ⟨E,hE⟩:∃ E,uniT L x0 u=E:=⟨_,rfl⟩;rw [hE] at hU hq3;obtain ⟨u0,u1,u2,u3⟩:=u;simp only at hU b0 b1 b2 b3
           have hq4:(o3++[E])++((T.drop (q+1)).map (uniT L x0)++(R2++rest))=S:=by simpa using hq3
           have HQ4:=hid hq4;have HU:=hid hU
           have M1:=hid (show o3.length+1<=maxLen by unfold maxLen;omega)
           have M2:=hid (show (o3.length+1)*8<=140737488355328 by omega)
           have cx3:=HX3.out.cell;have cx3o:=fun o i=>(HX3.out.alloc o).cell i;clear hE hU hq3 hq4 htm hol
           go_wp2_with fail
           go_region_law (first
            |(refine step_append1 w9 rfl (.tmp 73) (.tmp 82) 42 rfl W.heap.size 2 i1 _ 1 8 underlying42 hi1 hyy0 hyy1 hyy2 rfl (by decide) _ o3.length (ints o3) (by simp [Act.eval]) HO9.out (by simp [Act.eval]) rfl one_int M1.out M2.out Hs9.out ?_;intro v' wB hown8 hg8;have HOB:=hid hown8;have HPB:=hid ((HP9.out.alloc _).grown hg8 (fun k e=>by have:=(HO9.out.lt k e).1;have:=HsW.out;omega));have HXB:=hid (Blk.grown (HX9.out.alloc _) hg8 (fun e=>own_blk_ne HO9.out HX9.out (by decide) e.symm));have HLB:=hid ((HL9.out.alloc (.cells #[.int .i64 E] 2)).kept hg8 (Rd.own_own_ne HL9.out HO9.out (by decide)).symm);have HTB:=hid ((HT9.out.alloc (.cells #[.int .i64 E] 2)).kept hg8 (Rd.own_own_ne HT9.out HO9.out (by decide)).symm);have HsB:=hid hg8.size;clear hown8 hg8)
            |(go_simp;go_at_call 107;refine HU.out.mono ?_;rintro e w9 ⟨rfl,hb⟩;have HO9:=hid (Rul.own_below (own_dr HO3.out) hb);have HL9:=hid (Rul.own_below (own_dr HL3.out) hb);have HT9:=hid (Rul.own_below (own_dr HT3.out) hb);have HP9:=hid (HP3.out.drew.step hb);have HX9:=hid (HX3.out.drew.below hb HX3.out.drew.lt);have Hr9:=hid (Nat.lt_of_lt_of_le Hs3.out hb.size);have Hs9:=hid (show W.heap.size<=w9.heap.size by have h8:wr.heap.size<=w9.heap.size:=hb.size;have:=Hs3.out;have:=HSw.out;omega);clear hb))
           all_goals
            go_wp2
            refine ⟨⟨q+1,o3++[E],by omega,by go_num,HQ4.out,?_,HTB.out,HLB.out,HPB.out,HXB.out,by have h1s:=HsB.out;rw [World.size_alloc] at h1s;have:=Hr9.out;omega⟩,by simp [intOf];omega⟩
            have h9:=HOB.out;rw [ints_snoc] at h9;rw [List.length_append];exact h9
          ·obtain rfl:q=T.length:=by omega
           rw [List.drop_length,List.map_nil,List.nil_append,<-HR2.out] at hq3;have HQ3:=hid hq3
           have hqb:decide (((T.length:Nat):Int)<(T.length:Nat))=false:=decide_eq_false (by omega)
           have hwj:wrap64 (m+(j:Int)+1)=m+((j+1:Nat):Int):=by unfold wrap64;omega
           clear hq3
           go_wp2_with fail
           exact ⟨⟨j+1,o3,by omega,by congr 1;omega,HQ3.out,HO3.out,HL3.out,HP3.out,HX3.out,Hs3.out⟩,by simp [intOf];omega⟩
        ·obtain rfl:j=N:=by omega
         have hjb:decide (m+(j:Int)<=year+3)=false:=decide_eq_false (by omega)
         rw [List.drop_eq_nil_of_le (by simp),List.flatMap_nil,List.nil_append] at hq2
         have HQ2:=hid hq2;clear hq2
         go_wp2_with fail
         exact ⟨⟨k+1,o2,by omega,by go_num,by rw [HRest.out];exact HQ2.out,HO2.out,HP2.out,by have:=Hs2.out;have:=HSw.out;omega⟩,by simp [intOf];omega⟩
    ·have he2:=HE2.out
     rw [if_neg hk2] at he2;rw [<-he2,List.nil_append] at hq1;have HQ1:=hid hq1
     have hkb2:(x1 == 2)=false:=by simp [hk2]
     clear he2 hq1 hk2 HE2
     go_wp2_with fail
     exact ⟨⟨k+1,o1,by omega,by go_num,by rw [HRest.out];exact HQ1.out,HO1.out,HP1.out,by have:=Hs1.out;have:=HSw.out;omega⟩,by simp [intOf];omega⟩
  ·obtain rfl:k=es.length:=by omega
   rw [List.drop_length,List.flatMap_nil,List.append_nil] at hq;subst hq
   have hkb:decide (((es.length:Nat):Int)<(es.length:Nat))=false:=decide_eq_false (by omega)
   obtain ⟨Ao,co,rfl⟩:=own_slice HOw.out;have hcap:=Rul.own_cap HOw.out
   have HFo:=hid (show ∀ ad,Ao=some ad->w.heap.size<=ad.block from fun ad e=>by subst e;have h8:=(HOw.out.lt ad.block rfl).1;have h9:=HsW.out;omega)
   have HSo:=hid (sorted_any o.length o (Nat.le_refl _) hlen Ao co wo (Reads.of_own HOw.out) hcap);clear hcap
   go_wp2_with (go_at_call 108;refine HSo.out.mono ?_;rintro e w9 ⟨A9,c9,m9,rfl,hr9,hs9,hm9,hl9,hb9,hf9⟩;have HF9:=hid (show A9=none\/∀ ad,A9=some ad->w.heap.size<=ad.block from hf9.elim (fun e=> .inr (e ▸ HFo.out)) (fun h=> .inr fun ad e=>Nat.le_trans HP.out.bel.size (h ad e)));have HR9:=hid hr9;have HS9:=hid hs9;have HM9:=hid hm9;have HL9:=hid hl9;have HB9:=hid (HP.out.bel.trans (hb9.mono HP.out.bel.size));clear hr9 hs9 hm9 hl9 hb9 hf9)
   go_ret;exact ⟨A9,c9,m9,rfl,HR9.out,HS9.out,HM9.out,HL9.out,HB9.out,HF9.out⟩
end Cmq
end
end
section
section
namespace Cmq
open Go.RowKit Mem Civ Mom Img Plc Rul Ahd Trn Src Snd Att Rgt Abr
theorem rat_results {w:World} {R0:Nat} {a0 a1 a2:Value} (h:Blk w R0 30 #[a0,a1,a2]) (tmps:Array Value) (ht:tmps[6]?=some (.pointer (some ⟨R0,0,none⟩))):
  (results Tryz.f47 tmps).run prog w= .ok (.agg #[a0,a1,a2]) w:=by
 have hc:=h.cell;simp [results,Tryz.results47,go_sem,hc,ht]
structure At3 (w:World) (cs es:Array Value) (W:World):Prop where
 src:Blk W w.heap.size 26 cs
 zon:Blk W (w.heap.size+1) 65 es
 res:Blk W (w.heap.size+1+1) 30 #[.int .i64 0,.int .i64 0,.string ⟨#[]⟩]
 bel:Below w.heap.size w W
theorem At3.step {w W W':World} {cs es:Array Value} (h:At3 w cs es W) (hb:Below W.heap.size W W'):At3 w cs es W':=
 ⟨h.src.below hb h.src.lt,h.zon.below hb h.zon.lt,h.res.below hb h.res.lt,h.bel.trans (hb.mono h.bel.size)⟩
theorem refAt_any (s:Src) (A A2 A3:Option Addr) (c c2 c3:Nat) (z:ZoneM) (t:Int) (w:World) (h:SrcOk s A A2 A3 w) (hz:z∈s.zones) (hs:rulesB s.rules=true) (hx:∀ x∈z.eras,EraD x/\(0<=x.spot.ref/\x.spot.ref<=2)) (h1: -9223372036854775808<=t) (h2:t<=9223372036854775807):
  Calls prog 47 #[.agg #[.slice A s.rules.length c,.slice A2 s.zones.length c2,.slice A3 s.links.length c3],.agg z.cells.toArray,.int .i64 t] w fun e w'=>
   e= .returned (.agg #[.int .i64 (refL s.rules (svF s) z.eras t).off,.int .i64 (refL s.rules (svF s) z.eras t).save,.string (refL s.rules (svF s) z.eras t).abbr])/\Below w.heap.size w w':=by
 have HPh:=hid (fun (x:Era) (hm:x∈z.eras) y (hb:Below w.heap.size w y)=>rphase_any s A A2 A3 c c2 c3 x t y (h.below hb) hs (hx x hm).1 h1 h2);have HEn:=hid (fun (x:Era) (hm:x∈z.eras) y (hb:Below w.heap.size w y)=>rend_any s A A2 A3 c c2 c3 x y (h.below hb) hs (hx x hm).2);have HEc:=hid (fun y (hb:Below w.heap.size w y) k hk=>era_cells (k:=k) ((h.re z hz).below hb) hk rfl);have hne:=h.ne z hz;obtain ⟨R,hR⟩:∃ R,refL s.rules (svF s) z.eras t=R:=⟨_,rfl⟩;rw [hR];have HR:=hid hR;clear h hz hs hx hR;obtain ⟨rs,zs,ls⟩:=s;obtain ⟨z0,es,Az,cz⟩:=z;simp only [ZoneM.cells] at HPh HEn HEc HR hne ⊢;have hb3:=box3 w 26 65 30 #[.slice A rs.length c,.slice A2 zs.length c2,.slice A3 ls.length c3] #[.string z0,.slice Az es.length cz] #[.int .i64 0,.int .i64 0,.string ⟨#[]⟩];obtain ⟨W,hW⟩:∃ W,((w.alloc (.cells #[.slice A rs.length c,.slice A2 zs.length c2,.slice A3 ls.length c3] 26)).alloc (.cells #[.string z0,.slice Az es.length cz] 65)).alloc (.cells #[.int .i64 0,.int .i64 0,.string ⟨#[]⟩] 30)=W:=⟨_,rfl⟩;rw [hW] at hb3;obtain ⟨b0,b1,b2,hbw,hsz⟩:=hb3;have HP:Hid (At3 w #[.slice A rs.length c,.slice A2 zs.length c2,.slice A3 ls.length c3] #[.string z0,.slice Az es.length cz] W):=⟨b0,b1,b2,hbw⟩;clear b0 b1 b2 hbw;go_enter func47,ntmps47
 go_wp2_with fail
 try rw [hW]
 go_loopw [7] (fun i wr=>∃ k:Nat,k<=es.length/\i= .int .i64 k/\refL rs (svF ⟨rs,zs,ls⟩) (es.drop k) t=R/\At3 w #[.slice A rs.length c,.slice A2 zs.length c2,.slice A3 ls.length c3] #[.string z0,.slice Az es.length cz] wr) (fun i _=>es.length - (intOf i).toNat)
 case atStart=>exact ⟨0,Nat.zero_le _,rfl,by rw [List.drop_zero];exact HR.out,HP.out⟩
 case round=>
  clear HP HR hW;obtain ⟨k,hk,rfl,hq,hp⟩:=hrel;have HP:=hid hp;have cz:=hp.zon.cell;have cr:=hp.res.cell;have fr:=hp.res.frozen;clear hp
  by_cases hkn:k<es.length
  ·obtain ⟨ae,hAe,_,a0,a1,a2,a3,a4,a5,a6,a7,a8,a9,a10,a11,a12⟩:=HEc.out _ HP.out.bel k hkn
   subst hAe;rw [List.drop_eq_getElem_cons hkn] at hq
   have hkb:decide ((k:Int)<(es.length:Nat))=true:=decide_eq_true (by omega)
   have hph:=HPh.out es[k] (List.getElem_mem hkn);have hen:=HEn.out es[k] (List.getElem_mem hkn);unfold refL at hq
   have hep:(es[k]'hkn).till=true->endP (svF ⟨rs,zs,ls⟩) (es[k]'hkn)=endI (es[k]'hkn) (svF ⟨rs,zs,ls⟩ (es[k]'hkn)):=fun h=>by unfold endP;rw [if_pos h]
   generalize (es[k]'hkn)=x at*;obtain ⟨E,hE⟩:∃ E,endI x (svF ⟨rs,zs,ls⟩ x)=E:=⟨_,rfl⟩;obtain ⟨F,hF⟩:∃ F,phaseE rs x t=F:=⟨_,rfl⟩;rw [hE] at hen hep;rw [hF] at hph hq
   have hq2:(x.till=true/\E<=t)/\refL rs (svF ⟨rs,zs,ls⟩) (es.drop (k+1)) t=R\/((x.till=false\/¬ E<=t)/\F=R):=by
    by_cases hc:x.till=true/\endP (svF ⟨rs,zs,ls⟩) x<=t
    ·rw [if_pos hc] at hq
     exact .inl ⟨⟨hc.1,by rw [<-hep hc.1];exact hc.2⟩,hq⟩
    ·rw [if_neg hc] at hq
     refine .inr ⟨?_,hq⟩
     cases hxt:x.till with
     |false=>exact .inl rfl
     |true=>exact .inr fun hle=>hc ⟨hxt,by rw [hep hxt];exact hle⟩
   obtain ⟨x0,x1,x2,x3,x4,x5,x6,⟨y0,y1,y2,y3,y4,y5⟩⟩:=x;simp only [Era.cells] at hph hen hq2 a0 a1 a2 a3 a4 a5 a6 a7 a8 a9 a10 a11 a12;have HPx:=hid hph;have HEx:=hid hen;clear hph hen hE hF hep hq HPh HEn
   rcases hq2 with ⟨⟨rfl,hle⟩,hq⟩|⟨hor,rfl⟩
   ·have ha:=HP.out.step ((Below.refl wr.heap.size wr).alloc (Nat.le_refl _) (.cells #[.int .i64 x0,.int .i64 x1,.int .i64 x2,.string x3,.string x4,.bool true,.int .i64 x6,.int .i64 y0,.int .i64 y1,.int .i64 y2,.int .i64 y3,.int .i64 y4,.int .i64 y5] 84))
    have hxb:=Blk.new wr 84 #[.int .i64 x0,.int .i64 x1,.int .i64 x2,.string x3,.string x4,.bool true,.int .i64 x6,.int .i64 y0,.int .i64 y1,.int .i64 y2,.int .i64 y3,.int .i64 y4,.int .i64 y5];have cx:=hxb.cell;have ca:=ha.src.cell;have cra:=ha.res.cell;have fra:=ha.res.frozen;have HA:=hid ha;have HXb:=hid hxb;clear ha hxb
    have hlb:decide (t<E)=false:=decide_eq_false (by omega)
    have HQ:=hid hq;clear hq hle
    go_wp2_with ((go_at_call 104;refine (HEx.out _ HA.out.bel).mono ?_;rintro e w5 ⟨rfl,hb⟩;have h5:=HA.out.step hb;have hx5:=HXb.out.below hb HXb.out.lt;have c5:=h5.src.cell;have cx5:=hx5.cell;have cr5:=h5.res.cell;have fr5:=h5.res.frozen;have HA5:=hid h5;clear hb h5 hx5 cx ca cra fra))
    exact ⟨⟨k+1,by omega,by go_num,HQ.out,HA5.out⟩,by simp [intOf];omega⟩
   ·obtain ⟨f0,f1,f2⟩:=F
    simp only at HPx ⊢
    cases hx5:x5
    ·subst hx5
     have ha:=HP.out.step ((Below.refl wr.heap.size wr).alloc (Nat.le_refl _) (.cells #[.int .i64 x0,.int .i64 x1,.int .i64 x2,.string x3,.string x4,.bool false,.int .i64 x6,.int .i64 y0,.int .i64 y1,.int .i64 y2,.int .i64 y3,.int .i64 y4,.int .i64 y5] 84));have hxb:=Blk.new wr 84 #[.int .i64 x0,.int .i64 x1,.int .i64 x2,.string x3,.string x4,.bool false,.int .i64 x6,.int .i64 y0,.int .i64 y1,.int .i64 y2,.int .i64 y3,.int .i64 y4,.int .i64 y5];have cx:=hxb.cell;have ca:=ha.src.cell;have cra:=ha.res.cell;have fra:=ha.res.frozen;have HA:=hid ha;have HXb:=hid hxb;clear ha hxb
     go_wp2_with (first
      |(go_at_call 105;refine (HPx.out _ HA.out.bel).mono ?_;rintro e w6 ⟨rfl,hb⟩;have h6:=HA.out.step hb;have cr6:=h6.res.cell;have fr6:=h6.res.frozen;have HA6:=hid h6;clear hb h6))
     refine bodyPost_ret (rat_results (((HA6.out.res.set_ 0 (.int .i64 f0)).set_ 1 (.int .i64 f1)).set_ 2 (.string f2)) _ rfl) rfl ?_
     exact ⟨rfl,((HA6.out.bel.setCell (by simp;omega) _).setCell (by simp;omega) _).setCell (by simp;omega) _⟩
    ·subst hx5
     have hlt:¬ E<=t:=by simpa using hor
     have hlb:decide (t<E)=true:=decide_eq_true (by omega)
     clear hlt hor;have ha:=HP.out.step ((Below.refl wr.heap.size wr).alloc (Nat.le_refl _) (.cells #[.int .i64 x0,.int .i64 x1,.int .i64 x2,.string x3,.string x4,.bool true,.int .i64 x6,.int .i64 y0,.int .i64 y1,.int .i64 y2,.int .i64 y3,.int .i64 y4,.int .i64 y5] 84));have hxb:=Blk.new wr 84 #[.int .i64 x0,.int .i64 x1,.int .i64 x2,.string x3,.string x4,.bool true,.int .i64 x6,.int .i64 y0,.int .i64 y1,.int .i64 y2,.int .i64 y3,.int .i64 y4,.int .i64 y5];have cx:=hxb.cell;have ca:=ha.src.cell;have cra:=ha.res.cell;have fra:=ha.res.frozen;have HA:=hid ha;have HXb:=hid hxb;clear ha hxb
     go_wp2_with (first
      |(go_at_call 104;refine (HEx.out _ HA.out.bel).mono ?_;rintro e w5 ⟨rfl,hb⟩;have h5:=HA.out.step hb;have hx5:=HXb.out.below hb HXb.out.lt;have c5:=h5.src.cell;have cx5:=hx5.cell;have cr5:=h5.res.cell;have fr5:=h5.res.frozen;have HA5:=hid h5;clear hb h5 hx5 cx ca cra fra)
      |(go_at_call 105;refine (HPx.out _ HA5.out.bel).mono ?_;rintro e w6 ⟨rfl,hb⟩;have h6:=HA5.out.step hb;have cr6:=h6.res.cell;have fr6:=h6.res.frozen;have HA6:=hid h6;clear hb h6))
     refine bodyPost_ret (rat_results (((HA6.out.res.set_ 0 (.int .i64 f0)).set_ 1 (.int .i64 f1)).set_ 2 (.string f2)) _ rfl) rfl ?_
     exact ⟨rfl,((HA6.out.bel.setCell (by simp;omega) _).setCell (by simp;omega) _).setCell (by simp;omega) _⟩
  ·obtain rfl:k=es.length:=by omega
   rw [List.drop_length] at hq;unfold refL at hq;subst hq
   have hkb:decide (((es.length:Nat):Int)<(es.length:Nat))=false:=decide_eq_false (by omega)
   go_wp2_with fail
   refine bodyPost_ret (rat_results (((HP.out.res.set_ 0 (.int .i64 0)).set_ 1 (.int .i64 0)).set_ 2 (.string ⟨#[]⟩)) _ rfl) rfl ?_
   exact ⟨rfl,((HP.out.bel.setCell (by simp;omega) _).setCell (by simp;omega) _).setCell (by simp;omega) _⟩
end Cmq
end
end
end Go.Proofs.YtadamccojdocbaaGreatDoor
