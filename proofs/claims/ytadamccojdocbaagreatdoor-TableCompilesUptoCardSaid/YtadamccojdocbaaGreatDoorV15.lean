/-
  Contracts of the code that the law reaches, and plain laws. Conditions: as each says.
-/
import Derived.Test.YtadamccojdocbaaGreatDoorV14
set_option linter.all false
set_option maxHeartbeats 40000000
set_option maxRecDepth 100000
namespace Go.Proofs.YtadamccojdocbaaGreatDoor
open Lib (hid)
open Tryz
section
section
namespace Snd
open Go.RowKit Mem Civ Mom Img Plc Rul Src Go.Maps
def setL (rs:List Rule) (nm:ByteArray):List Rule:=rs.filter fun r=>decide (r.name=nm)
theorem setL_step {rs:List Rule} {nm:ByteArray} {k:Nat} (hk:k<rs.length):setL (rs.take (k+1)) nm=if decide (rs[k].name=nm)=true then setL (rs.take k) nm++[rs[k]] else setL (rs.take k) nm:=by
 unfold setL;rw [List.take_succ_eq_append_getElem hk,List.filter_append]
 split
 ·next h=>simp [h]
 ·next h=>simp [h]
theorem setL_len (rs:List Rule) (nm:ByteArray):(setL rs nm).length<=rs.length:=List.length_filter_le _ _
theorem info_rule:(prog.info? 69).map (fun i=>(i.zero,i.size,i.bytes))=some (some (.agg #[.string ⟨#[]⟩,.int .i64 0,.int .i64 0,.int .i64 0,.int .i64 0,.int .i64 0,.int .i64 0,.int .i64 0,.int .i64 0,.int .i64 0,.string ⟨#[]⟩]),11,104):=by kernel_rfl
theorem one_rule {x0 x10:ByteArray} {x1 x2 x3 x4 x5 x6 x7 x8 x9:Int}:∀ u∈(#[Value.string x0,.int .i64 x1,.int .i64 x2,.int .i64 x3,.int .i64 x4,.int .i64 x5,.int .i64 x6,.int .i64 x7,.int .i64 x8,.int .i64 x9,.string x10]:Array Value).toList,u.oneCell'=true:=by
 intro u hu;simp at hu
 rcases hu with rfl|rfl|rfl|rfl|rfl|rfl|rfl|rfl|rfl|rfl|rfl<;>rfl
theorem eset_any (s:Src) (A A2 A3:Option Addr) (c c2 c3:Nat) (nm:ByteArray) (w:World) (h:SrcOk s A A2 A3 w):
  Calls prog 41 #[.agg #[.slice A s.rules.length c,.slice A2 s.zones.length c2,.slice A3 s.links.length c3],.string nm] w fun e w'=>∃ v,e= .returned v/\w'.ownsRow w.heap.size 69 11 v (setL s.rules nm).length ((setL s.rules nm).flatMap Rule.cells)/\Below w.heap.size w w':=by
 obtain ⟨i1,hi1,hy0,hy1,hy2⟩:=info_parts info_rule;have hrr:=h.rr;have nr:=h.nr;clear h;obtain ⟨rs,zs,ls⟩:=s;simp only at hrr nr ⊢;have hone:=One.new w 26 #[.slice A rs.length c,.slice A2 zs.length c2,.slice A3 ls.length c3];obtain ⟨W,hW⟩:∃ W,w.alloc (.cells #[.slice A rs.length c,.slice A2 zs.length c2,.slice A3 ls.length c3] 26)=W:=⟨_,rfl⟩;rw [hW] at hone;have HO:=hid hone;have HR:=hid hrr;have c0:=hone.1.cell;clear hone hrr;go_enter func41,ntmps41
 go_wp2_with fail
 clear c0
 go_loopw [5,11] (fun v i wr=>∃ k:Nat,k<=rs.length/\i= .int .i64 k/\wr.ownsRow w.heap.size 69 11 v (setL (rs.take k) nm).length ((setL (rs.take k) nm).flatMap Rule.cells)/\Below w.heap.size w wr) (fun _ i _=>rs.length - (intOf i).toNat)
 case atStart=>exact ⟨0,Nat.zero_le _,rfl,World.ownsRow_nil _ _ _ _,HO.out.2⟩
 case round=>
  clear HO;obtain ⟨k,hk,rfl,hown,hb⟩:=hrel;have hsl:=setL_len (rs.take k) nm;rw [List.length_take] at hsl;have HOw:=hid hown;have HB:=hid hb;have Hsz:=hid hb.size;clear hown hb
  by_cases hkn:k<rs.length
  ·obtain ⟨ad,hA,hadb,a0,a1,a2,a3,a4,a5,a6,a7,a8,a9,a10⟩:=rule_cells (HR.out.below HB.out) hkn
   subst hA;have hst:=setL_step (nm:=nm) hkn;have hbq:=tl_beq rs[k].name nm;have HSt:=hid hst;clear hst;generalize rs[k]=x at*;obtain ⟨x0,x1,x2,x3,x4,x5,x6,x7,x8,x9,x10⟩:=x;simp only at a0 a1 a2 a3 a4 a5 a6 a7 a8 a9 a10 HSt hbq
   have m1:(setL (rs.take k) nm).length+1<=maxLen:=by unfold maxLen;omega
   have m2:((setL (rs.take k) nm).length+1)*104<=140737488355328:=by omega
   have M1:=hid m1;have M2:=hid m2;clear m1 m2 hsl
   cases hd:decide (x0=nm)
   ·rw [hd] at HSt hbq
    go_wp2_with fail
    refine ⟨⟨k+1,by omega,by go_num,?_,HB.out.alloc Hsz.out _⟩,by simp [intOf];omega⟩
    rw [HSt.out];simp only [Bool.false_eq_true,if_false];exact HOw.out.alloc _
   ·rw [hd] at HSt hbq
    have HOa:=hid (HOw.out.alloc (.cells #[.string x0,.int .i64 x1,.int .i64 x2,.int .i64 x3,.int .i64 x4,.int .i64 x5,.int .i64 x6,.int .i64 x7,.int .i64 x8,.int .i64 x9,.string x10] 69));have HBa:=hid (HB.out.alloc Hsz.out (.cells #[.string x0,.int .i64 x1,.int .i64 x2,.int .i64 x3,.int .i64 x4,.int .i64 x5,.int .i64 x6,.int .i64 x7,.int .i64 x8,.int .i64 x9,.string x10] 69));have HSa:=hid HBa.out.size;generalize setL (rs.take k) nm=l1 at*
    go_wp2_with ((at_builtin;refine wpList_append1g (wr.alloc (.cells #[.string x0,.int .i64 x1,.int .i64 x2,.int .i64 x3,.int .i64 x4,.int .i64 x5,.int .i64 x6,.int .i64 x7,.int .i64 x8,.int .i64 x9,.string x10] 69)) rfl (.tmp 19) (.tmp 21) 22 rfl w.heap.size 69 i1 _ 11 104 underlying22 hi1 hy0 hy1 hy2 rfl (by decide) _ l1.length (l1.flatMap Rule.cells) rfl HOa.out (by simp [Act.eval]) rfl one_rule M1.out M2.out HSa.out ?_;intro v' wB hown8 hg8;have HO2:=hid hown8;have HB2:=hid ((HBa.out.alloc HSa.out _).grown hg8 (by simp;have:=HSa.out;simp at this;omega) (fun j hj=>(HOa.out.lt j hj).1));clear hown8 hg8))
    refine ⟨⟨k+1,by omega,by go_num,?_,HB2.out⟩,by simp [intOf];omega⟩
    rw [HSt.out];simp only [if_true]
    simpa [Rule.cells] using HO2.out
  ·obtain rfl:k=rs.length:=by omega
   rw [List.take_length] at HOw
   go_wp2_with fail
   go_ret;exact ⟨_,rfl,HOw.out,HB.out⟩
end Snd
namespace Snd
open Go.RowKit Mem Civ Mom Img Plc Rul Src Go.Maps
def everN (l:List Rule):Nat:=(l.filter fun r=>decide (r.hi=1000000)).length
def setErr (l:List Rule):Int:=if crowdB l=true then 12 else if 2<everN l then 15 else if nearB l=true then 17 else 0
def setsL (all:List Rule):List ByteArray->List Rule->Nat->Flaw
 |_,[],_=>noFlaw
 |seen,x :: t,i=>if inL seen x.name=true then setsL all seen t (i+1) else if setErr (setL all x.name)=0 then setsL all (seen++[x.name]) t (i+1) else ⟨setErr (setL all x.name),1,i,0⟩
def setsB (s:Src):Flaw:=setsL s.rules [] s.rules 0
theorem sets_results {w:World} {R0:Nat} {a0 a1 a2 a3:Value} (h:Blk w R0 72 #[a0,a1,a2,a3]) (tmps:Array Value) (ht:tmps[2]?=some (.pointer (some ⟨R0,0,none⟩))):(results Tryz.f76 tmps).run prog w= .ok (.agg #[a0,a1,a2,a3]) w:=by
 have hc:=h.cell;simp [results,Tryz.results76,go_sem,hc,ht]
theorem MapOf.below {w w':World} {b n:Nat} {l:List ByteArray} (h:MapOf w b n l) (hb:Below w.heap.size w w'):MapOf w' b n l:=h.kept (gr_of_below hb) (by simp)
theorem ever_step {l:List Rule} {k:Nat} (hk:k<l.length):everN (l.take (k+1))=everN (l.take k)+if decide (l[k].hi=1000000)=true then 1 else 0:=by
 unfold everN;rw [List.take_succ_eq_append_getElem hk,List.filter_append,List.length_append]
 split
 ·next h=>simp [h]
 ·next h=>simp [h]
theorem ever_le (l:List Rule) (k:Nat):everN (l.take k)<=k:=by
 unfold everN;have h1:=List.length_filter_le (fun r:Rule=>decide (r.hi=1000000)) (l.take k);rw [List.length_take] at h1;omega
structure Sd (w:World) (cs:Array Value) (b n:Nat) (ns:List ByteArray) (wr:World):Prop where
 two:Two w cs #[.int .i64 0,.int .i64 0,.int .i64 0,.int .i64 0] wr
 map:MapOf wr b n ns
theorem Sd.step {w wr w':World} {cs:Array Value} {b n:Nat} {ns:List ByteArray} (h:Sd w cs b n ns wr) (hb:Below wr.heap.size wr w'):Sd w cs b n ns w':=⟨h.two.step hb,h.map.below hb⟩
theorem Sd.alloc {w wr:World} {cs:Array Value} {b n:Nat} {ns:List ByteArray} (h:Sd w cs b n ns wr) (o:Obj):Sd w cs b n ns (wr.alloc o):=⟨h.two.alloc o,h.map.alloc o⟩
theorem sets_any (s:Src) (A A2 A3:Option Addr) (c c2 c3:Nat) (w:World) (h:SrcOk s A A2 A3 w):
  Calls prog 76 #[.agg #[.slice A s.rules.length c,.slice A2 s.zones.length c2,.slice A3 s.links.length c3]] w fun e w'=>e= .returned (.agg (setsB s).cells.toArray)/\Below w.heap.size w w':=by
 have hE:=fun nm z (hb:Below w.heap.size w z)=>eset_any s A A2 A3 c c2 c3 nm z (h.below hb);have hrr:=h.rr;have nr:=h.nr;have tr:=h.tr;clear h;obtain ⟨Q,hQ⟩:∃ Q,setsB s=Q:=⟨_,rfl⟩;rw [hQ];unfold setsB at hQ;obtain ⟨rs,zs,ls⟩:=s;simp only at hE hrr nr tr hQ ⊢;have hmm:=@run_makeMap prog;have hst:=Two.start w #[.slice A rs.length c,.slice A2 zs.length c2,.slice A3 ls.length c3];obtain ⟨W,hW⟩:∃ W,(w.alloc (.cells #[.slice A rs.length c,.slice A2 zs.length c2,.slice A3 ls.length c3] 26)).alloc (.cells #[.int .i64 0,.int .i64 0,.int .i64 0,.int .i64 0] 72)=W:=⟨_,rfl⟩;rw [hW] at hst;have hsz:w.heap.size+1<W.heap.size:=hst.res.lt;have HT:=hid hst;have HR:=hid hrr;have HQ:=hid hQ;have HE:=hid hE;have Htr:=hid tr;have HM0:=hid (World.ownsMap_made W prog 9 (plainElem (H:=Unit) prog 4));have ca:=fun o i=>(hst.src.alloc o).cell i;clear hst hrr hQ hE tr;go_enter func76,ntmps76
 go_wp2_with fail
 clear ca;obtain ⟨b,hb⟩:∃ b,b=W.heap.size:=⟨_,rfl⟩
 have HS0:Hid (Sd w #[.slice A rs.length c,.slice A2 zs.length c2,.slice A3 ls.length c3] b 0 [] (W.alloc (.map #[] 0))):=by
  rw [hb];exact ⟨HT.out.alloc _,⟨_,HM0.out,SM.empty⟩⟩
 rw [<-hb] at hsz ⊢;clear hb HT HM0 hW
 go_loopw [15] (fun i wr=>∃ (k:Nat) (seen:List ByteArray) (n:Nat),k<=rs.length/\n<=k/\i= .int .i64 k/\setsL rs seen (rs.drop k) k=Q/\Sd w #[.slice A rs.length c,.slice A2 zs.length c2,.slice A3 ls.length c3] b n seen wr) (fun i _=>rs.length - (intOf i).toNat)
 case atStart=>exact ⟨0,[],0,Nat.zero_le _,Nat.le_refl _,rfl,by rw [List.drop_zero];exact HQ.out,HS0.out⟩
 case round=>
  clear HS0 HQ;obtain ⟨k,seen,n,hk,hnk,rfl,hq,hsd⟩:=hrel;have HS:=hid hsd;have Hq:=hid hq;clear hsd hq
  by_cases hkn:k<rs.length
  ·obtain ⟨ad,hA,hadb,a0,a1,a2,a3,a4,a5,a6,a7,a8,a9,a10⟩:=rule_cells (HR.out.below HS.out.two.bel) hkn
   subst hA;have hsz2:=(Htr.out rs[k] (List.getElem_mem hkn)).1;have hkey:=nm_key hsz2;have hlook:=fun o=>(HS.out.map.alloc o).look hsz2;have hdr:rs.drop k=rs[k] :: rs.drop (k+1):=List.drop_eq_getElem_cons hkn;have hq:=Hq.out;rw [hdr,setsL] at hq;have Hq2:=hid hq;clear hq hdr Hq hsz2;obtain ⟨x,hx⟩:∃ x,x=rs[k]:=⟨_,rfl⟩;rw [<-hx] at a0 a1 a2 a3 a4 a5 a6 a7 a8 a9 a10 hkey hlook Hq2;clear hx;obtain ⟨x0,x1,x2,x3,x4,x5,x6,x7,x8,x9,x10⟩:=x;simp only at a0 a1 a2 a3 a4 a5 a6 a7 a8 a9 a10 hkey hlook Hq2;have HSa:=hid (HS.out.alloc (.cells #[.string x0,.int .i64 x1,.int .i64 x2,.int .i64 x3,.int .i64 x4,.int .i64 x5,.int .i64 x6,.int .i64 x7,.int .i64 x8,.int .i64 x9,.string x10] 69));obtain ⟨q,hqq⟩:∃ q,inL seen x0=q:=⟨_,rfl⟩;simp only [hqq] at hlook Hq2;clear hqq
   cases q
   rotate_left
   ·have hq:=Hq2.out
    simp only [if_true] at hq;have Hq3:=hid hq;clear hq
    go_wp2_with fail
    exact ⟨⟨k+1,seen,n,by omega,by omega,by go_num,Hq3.out,HSa.out⟩,by simp [intOf];omega⟩
   ·have hq:=Hq2.out
    simp only [Bool.false_eq_true,if_false] at hq;have Hq3:=hid hq;obtain ⟨D,hown,hsm⟩:=HS.out.map;have Hown:=hid hown;have Hsm:=hid hsm;have Hbw:=hid hsz;have hblk:=Blk.new wr 69 #[.string x0,.int .i64 x1,.int .i64 x2,.int .i64 x3,.int .i64 x4,.int .i64 x5,.int .i64 x6,.int .i64 x7,.int .i64 x8,.int .i64 x9,.string x10];have Hblk:=hid hblk;have hblt:=HS.out.map.lt;clear hq hown hsm Hq2 hblk;obtain ⟨l,hl⟩:∃ l,l=setL rs x0:=⟨_,rfl⟩;rw [<-hl] at Hq3;have HEs:=HE.out x0;rw [<-hl] at HEs
    have hll:l.length<=1000000:=by rw [hl];exact Nat.le_trans (setL_len _ _) nr
    have HEs:=hid HEs;clear hl
    go_upto_region 7 with ((at_mapUpdate;refine wpList_mapUpdate_own (H:=Unit) _ rfl _ _ _ 171 rfl 9 4 setLaw underlying171 (plainElem prog 4) b n D rfl (Hown.out.alloc _) (by unfold maxLen;omega) _ _ _ rfl rfl hkey (.lit (.bool true)) [] (plainElem_bool underlying4 true) ?_;intro w1 hmap1 hg1;have Hmap1:=hid hmap1;have Hg1:=hid hg1;clear hmap1 hg1))
    have HS1:Hid (Sd w #[.slice (some ad) rs.length c,.slice A2 zs.length c2,.slice A3 ls.length c3] b (n+1) (seen++[x0]) w1):=by
     have ht:=HSa.out.two
     refine ⟨⟨?_,?_,?_⟩,⟨_,Hmap1.out,?_⟩⟩
     ·exact ht.src.grown Hg1.out (by have:=Hbw.out;intro e;injection e with e;omega)
     ·exact ht.res.grown Hg1.out (by have:=Hbw.out;intro e;injection e with e;omega)
     ·exact ht.bel.grown Hg1.out ht.bel.size (fun j hj=>by have:=Hbw.out;injection hj with hj;omega)
     ·rw [keyL,List.map_append]
      exact Hsm.out.put _
    have hx1:=Hblk.out.grown Hg1.out (by intro e;injection e with e;omega)
    have cx:=hx1.cell;have cS:=HS1.out.two.src.cell;clear a0 a1 a2 a3 a4 a5 a6 a7 a8 a9 a10 hlook hx1 Hblk HSa HS Hown Hsm hkey HE
    go_wp2_with fail
    go_at_call 41
    refine (HEs.out _ HS1.out.two.bel).mono ?_
    rintro e w2 ⟨v,rfl,hown,hb⟩;obtain ⟨Av,cv,rfl⟩:=own_slice hown;have HRl:=hid (Reads.of_own hown);have HS2:=hid (HS1.out.step hb);clear hown hb cx cS HS1 HEs
    go_wp2_with fail
    go_loopw [7,33] (fun v i wz=>∃ j:Nat,j<=l.length/\v= .int .i64 (everN (l.take j))/\i= .int .i64 j/\Sd w #[.slice (some ad) rs.length c,.slice A2 zs.length c2,.slice A3 ls.length c3] b (n+1) (seen++[x0]) wz/\Below w2.heap.size w2 wz) (fun _ i _=>l.length - (intOf i).toNat)
    case atStart=>exact ⟨0,Nat.zero_le _,rfl,rfl,HS2.out,Below.refl _ _⟩
    case round=>
     clear HS2;obtain ⟨j,hj,rfl,rfl,hsd,hb⟩:=hrel;have HS3:=hid hsd;have HB3:=hid hb;have hev:=ever_le l j;clear hsd hb
     by_cases hjn:j<l.length
     ·obtain ⟨ad2,hA2,hadb2,d0,d1,d2,d3,d4,d5,d6,d7,d8,d9,d10⟩:=rule_cells (HRl.out.below HB3.out) hjn
      subst hA2;have hst:=ever_step hjn;have HSt:=hid hst;have HBs:=hid HB3.out.size;clear hst;obtain ⟨y,hy⟩:∃ y,y=l[j]:=⟨_,rfl⟩;rw [<-hy] at d0 d1 d2 d3 d4 d5 d6 d7 d8 d9 d10 HSt;clear hy;obtain ⟨y0,y1,y2,y3,y4,y5,y6,y7,y8,y9,y10⟩:=y;simp only at d0 d1 d2 d3 d4 d5 d6 d7 d8 d9 d10 HSt;obtain ⟨m,hm⟩:∃ m,m=everN (l.take j):=⟨_,rfl⟩;rw [<-hm] at HSt hev ⊢;clear hm
      by_cases h6:y2=1000000
      ·subst h6
       have hs:=HSt.out
       rw [if_pos (by simp)] at hs
       have HSt2:=hid hs;clear hs HSt
       go_wp2_with fail
       exact ⟨⟨j+1,by omega,by rw [HSt2.out];go_num,by go_num,HS3.out.alloc _,HB3.out.alloc HBs.out _⟩,by simp [intOf];omega⟩
      ·have h6b:(y2 == 1000000)=false:=by simp [h6]
       have hs:=HSt.out
       rw [if_neg (by simp [h6])] at hs
       have HSt2:=hid hs;clear hs HSt h6
       go_wp2_with fail
       exact ⟨⟨j+1,by omega,by rw [HSt2.out];rfl,by go_num,HS3.out.alloc _,HB3.out.alloc HBs.out _⟩,by simp [intOf];omega⟩
     ·obtain rfl:j=l.length:=by omega
      rw [List.take_length];have Hcr:=hid (fun z (hb:Below w2.heap.size w2 z)=>crowded_any l Av cv z ((HRl.out.below hb).more hb.size) hll);have Hnr:=hid (fun z (hb:Below w2.heap.size w2 z)=>near_any l Av cv z ((HRl.out.below hb).more hb.size) hll)
      have hse:setErr l=if crowdB l=true then 12 else if 2<everN l then 15 else if nearB l=true then 17 else 0:=rfl
      have Hse:=hid hse;clear hse HRl;generalize crowdB l=q1 at*;generalize nearB l=q3 at*;obtain ⟨m,hm⟩:∃ m,m=everN l:=⟨_,rfl⟩;rw [<-hm] at Hse ⊢;clear hm hev;obtain ⟨E,hE⟩:∃ E,E=setErr l:=⟨_,rfl⟩;rw [<-hE] at Hse Hq3;clear hE
      cases q1 with
      |true=>
       have he:E=12:=by have:=Hse.out;simpa using this
       subst he;have hq:=Hq3.out
       rw [if_neg (by decide)] at hq
       subst hq;clear Hse Hq3
       go_wp2_with (go_at_call 134;refine (Hcr.out _ HB3.out).mono ?_;rintro e w4 ⟨rfl,hb⟩;have ht:=(HS3.out.step hb).two;have fR:=ht.res.frozen;have cR:=ht.res.cell;have HF:=hid (ht.fill (.int .i64 12) (.int .i64 1) (.int .i64 k) (.int .i64 0));clear hb ht)
       refine bodyPost_ret (sets_results HF.out.res _ rfl) rfl ?_
       exact ⟨rfl,HF.out.bel⟩
      |false=>
       by_cases h2:2<m
       ·have h2b:decide ((2:Int)<(m:Nat))=true:=decide_eq_true (by omega)
        have he:E=15:=by have:=Hse.out;simpa [h2] using this
        subst he;have hq:=Hq3.out
        rw [if_neg (by decide)] at hq
        subst hq;clear Hse Hq3
        go_wp2_with (go_at_call 134;refine (Hcr.out _ HB3.out).mono ?_;rintro e w4 ⟨rfl,hb⟩;have ht:=(HS3.out.step hb).two;have fR:=ht.res.frozen;have cR:=ht.res.cell;have HF:=hid (ht.fill (.int .i64 15) (.int .i64 1) (.int .i64 k) (.int .i64 0));clear hb ht)
        refine bodyPost_ret (sets_results HF.out.res _ rfl) rfl ?_
        exact ⟨rfl,HF.out.bel⟩
       ·have h2b:decide ((2:Int)<(m:Nat))=false:=decide_eq_false (by omega)
        cases q3 with
        |true=>
         have he:E=17:=by have:=Hse.out;simpa [h2] using this
         subst he;have hq:=Hq3.out
         rw [if_neg (by decide)] at hq
         subst hq;clear Hse Hq3
         go_wp2_with (first
          |(go_at_call 134;refine (Hcr.out _ HB3.out).mono ?_;rintro e w4 ⟨rfl,hb⟩;have HS4:=hid (HS3.out.step hb);have HB4:=hid (HB3.out.trans (hb.mono HB3.out.size));clear hb)
          |(go_at_call 131;refine (Hnr.out _ HB4.out).mono ?_;rintro e w5 ⟨rfl,hb⟩;have ht:=(HS4.out.step hb).two;have fR:=ht.res.frozen;have cR:=ht.res.cell;have HF:=hid (ht.fill (.int .i64 17) (.int .i64 1) (.int .i64 k) (.int .i64 0));clear hb ht))
         refine bodyPost_ret (sets_results HF.out.res _ rfl) rfl ?_
         exact ⟨rfl,HF.out.bel⟩
        |false=>
         have he:E=0:=by have:=Hse.out;simpa [h2] using this
         subst he;have hq:=Hq3.out;rw [if_pos rfl] at hq;have Hq4:=hid hq;clear Hse Hq3 hq
         go_wp2_with (first
          |(go_at_call 134;refine (Hcr.out _ HB3.out).mono ?_;rintro e w4 ⟨rfl,hb⟩;have HS4:=hid (HS3.out.step hb);have HB4:=hid (HB3.out.trans (hb.mono HB3.out.size));clear hb)
          |(go_at_call 131;refine (Hnr.out _ HB4.out).mono ?_;rintro e w5 ⟨rfl,hb⟩;have HS5:=hid (HS4.out.step hb);clear hb))
         exact ⟨⟨k+1,seen++[x0],n+1,by omega,by omega,by go_num,Hq4.out,HS5.out⟩,by simp [intOf];omega⟩
  ·obtain rfl:k=rs.length:=by omega
   have hq:=Hq.out;rw [List.drop_length,setsL] at hq;subst hq;have ht:=HS.out.two;have fR:=ht.res.frozen;have cR:=ht.res.cell;have HF:=hid (ht.fill (.int .i64 0) (.int .i64 0) (.int .i64 0) (.int .i64 0));clear Hq ht
   go_wp2_with fail
   refine bodyPost_ret (sets_results HF.out.res _ rfl) rfl ?_
   exact ⟨rfl,HF.out.bel⟩
end Snd
end
end
section
section
namespace Snd
open Go.RowKit Mem Civ Mom Img Plc Rul Src Go.Maps
def eraV (x:Era) (A:Option Addr) (n c:Nat):Array Value:=
 #[.int .i64 x.off,.int .i64 x.kind,.int .i64 x.save,.string x.rules,.string x.format,.bool x.till,.int .i64 x.year,.int .i64 x.spot.month,.int .i64 x.spot.kind,.int .i64 x.spot.weekday,.int .i64 x.spot.day,.int .i64 x.spot.time,.int .i64 x.spot.ref,.slice A n c]
def AheadAt (A:Option Addr) (n c:Nat) (t sv:Int) (w:World):Prop:=
 ∀ z,Below w.heap.size w z->Calls prog 126 #[.slice A n c,.int .i64 t] z fun e w'=>∃ (a r:Int) (s:ByteArray) (b:Bool),e= .returned (.tuple #[.agg #[.int .i64 a,.int .i64 r,.int .i64 sv,.string s],.bool b])/\Below z.heap.size z w'
def savI (x:Era) (sv:Int):Int:=if x.kind=2 then sv else x.save
theorem ahead_any (x:Era) (A:Option Addr) (n c:Nat) (t sv:Int) (w:World) (hA:x.kind=2->AheadAt A n c t sv w):
  Calls prog 143 #[.agg (eraV x A n c),.int .i64 t] w fun e w'=>e= .returned (.int .i64 (savI x sv))/\Below w.heap.size w w':=by
 have hone:=One.new w 120 (eraV x A n c);obtain ⟨x0,x1,x2,x3,x4,x5,x6,⟨y0,y1,y2,y3,y4,y5⟩⟩:=x;unfold savI;simp only [eraV] at hone hA ⊢;obtain ⟨W,hW⟩:∃ W,w.alloc (.cells #[.int .i64 x0,.int .i64 x1,.int .i64 x2,.string x3,.string x4,.bool x5,.int .i64 x6,.int .i64 y0,.int .i64 y1,.int .i64 y2,.int .i64 y3,.int .i64 y4,.int .i64 y5,.slice A n c] 120)=W:=⟨_,rfl⟩;rw [hW] at hone;have HO:=hid hone;have c0:=hone.1.cell;clear hone;go_enter func143,ntmps143
 by_cases h2:x1=2
 ·have HA:=hid (hA h2)
  rw [if_pos h2];subst h2;clear hA
  go_wp2_with (go_at_call 126;refine (HA.out _ HO.out.2).mono ?_;rintro e w1 ⟨a,r,s,b,rfl,hb⟩;have HB:=hid (HO.out.step hb);clear hb)
  go_ret;exact ⟨rfl,HB.out.2.alloc HB.out.2.size _⟩
 ·have h2b:(x1 == 2)=false:=by simp [h2]
  rw [if_neg h2];clear hA h2
  go_wp2_with fail
  go_ret;exact ⟨rfl,HO.out.2⟩
def endT (x:Era):Int:=(localO x.spot x.year).getD 0
def endA (x:Era):Int:=if x.spot.ref=2 then endT x else wrap64 (endT x - x.off)
def endI (x:Era) (sv:Int):Int:=if x.spot.ref=0 then wrap64 (endA x - savI x sv) else endA x
def endO (x:Era) (sv:Int):Value:=if x.till=true then .tuple #[.int .i64 (endI x sv),.bool true] else .tuple #[.int .i64 0,.bool false]
theorem end_any (x:Era) (A:Option Addr) (n c:Nat) (sv:Int) (w:World) (hA:x.till=true->x.kind=2->AheadAt A n c (endT x) sv w):
  Calls prog 84 #[.agg (eraV x A n c)] w fun e w'=>e= .returned (endO x sv)/\Below w.heap.size w w':=by
 have hone:=One.new w 120 (eraV x A n c);have HAh:=hid (fun (ht:x.till=true) z (hb:Below w.heap.size w z)=>ahead_any x A n c (endT x) sv z (fun hk z2 hb2=>hA ht hk z2 (hb.trans (hb2.mono hb.size))));have HL:=hid (fun z=>local_any x.spot x.year z);clear hA;obtain ⟨T,hT⟩:∃ T,endT x=T:=⟨_,rfl⟩;obtain ⟨S,hS⟩:∃ S,savI x sv=S:=⟨_,rfl⟩;unfold endO endI endA;rw [hT,hS] at HAh;rw [hT,hS];obtain ⟨q,hq⟩:∃ q,(localO x.spot x.year).isSome=q:=⟨_,rfl⟩
 have hd:dayV (localO x.spot x.year)= .tuple #[.int .i64 T,.bool q]:=by
  rw [<-hT,<-hq];unfold endT
  cases localO x.spot x.year<;>rfl
 rw [hd] at HL;clear hd hq hT hS;obtain ⟨x0,x1,x2,x3,x4,x5,x6,⟨y0,y1,y2,y3,y4,y5⟩⟩:=x;simp only [eraV,Spot.cells] at hone HAh HL ⊢;obtain ⟨W,hW⟩:∃ W,w.alloc (.cells #[.int .i64 x0,.int .i64 x1,.int .i64 x2,.string x3,.string x4,.bool x5,.int .i64 x6,.int .i64 y0,.int .i64 y1,.int .i64 y2,.int .i64 y3,.int .i64 y4,.int .i64 y5,.slice A n c] 120)=W:=⟨_,rfl⟩;rw [hW] at hone;have HO:=hid hone;have c0:=hone.1.cell;clear hone;go_enter func84,ntmps84
 cases x5
 ·go_wp2_with fail
  go_ret2
  exact ⟨rfl,HO.out.2⟩
 ·have HA:=hid (HAh.out rfl)
  clear HAh
  by_cases h2:y5=2
  ·subst h2
   go_wp2_with (go_at_call 142;refine (HL.out _).mono ?_;rintro e w1 ⟨rfl,hb⟩;have ho:=HO.out.step hb;have c1:=ho.1.cell;have HO1:=hid ho;clear hb ho)
   go_ret2
   exact ⟨rfl,HO1.out.2⟩
  ·have h2b:(y5 == 2)=false:=by simp [h2]
   by_cases h0:y5=0
   ·subst h0
    clear h2 h2b
    go_wp2_with (first
     |(go_at_call 142;refine (HL.out _).mono ?_;rintro e w1 ⟨rfl,hb⟩;have ho:=HO.out.step hb;have c1:=ho.1.cell;have HO1:=hid ho;clear hb ho)
     |(go_at_call 143;refine (HA.out _ HO1.out.2).mono ?_;rintro e w2 ⟨rfl,hb⟩;have HO2:=hid (HO1.out.step hb);clear hb))
    go_ret2
    exact ⟨rfl,HO2.out.2⟩
   ·have h0b:(y5 == 0)=false:=by simp [h0]
    simp only [if_neg h2,if_neg h0];clear h2 h0
    go_wp2_with (go_at_call 142;refine (HL.out _).mono ?_;rintro e w1 ⟨rfl,hb⟩;have ho:=HO.out.step hb;have c1:=ho.1.cell;have HO1:=hid ho;clear hb ho)
    go_ret2
    exact ⟨rfl,HO1.out.2⟩
end Snd
namespace Snd
open Go.RowKit Mem Civ Mom Img Plc Rul Src Go.Maps
theorem row_to {w1:World} {X:Nat} {t:TypeId} {cx cy:Array Value} (h:Blk w1 X t cx):Blk (w1.setRow X cy) X t cy:=setRow_heap w1 X cx cy t (0,0) h
theorem grown_row (w:World) (b:Nat) (c:Array Value):w.grownBy (w.setRow b c) (some b):=⟨rfl,rfl,rfl,by simp,fun k _ hk=>setRow_other w b k _ (fun e=>hk (by simp [e]))⟩
theorem grown_setCell (w:World) (p:Addr) (v:Value) {g:Nat} (hp:p.block=g):w.grownBy (w.setCell p v) (some g):=
 ⟨rfl,rfl,rfl,by simp [World.setCell],fun k _ hk=>Below.heap_setCell _ _ _ _ (fun e=>hk (by rw [e,hp]))⟩
theorem own_set1 {w:World} {base size n b:Nat} {e:TypeId} {v:Value} {xs:List Value} (h:w.ownsRow base e size v n xs) (hne:v.ownBlock≠some b) (i:Nat) (u:Value):(w.setCell ⟨b,i,none⟩ u).ownsRow base e size v n xs:=
 h.kept (grown_setCell w ⟨b,i,none⟩ u rfl) (.inr hne)
def NewB (B:Nat) (A:Option Addr) (n:Nat):Prop:=0<n->∃ b,A=some ⟨b,0,none⟩/\B<=b
theorem size_era:(prog.info? 120).map (·.size)=some 14:=by kernel_rfl
def setOf (rs:List Rule) (x:Era):List Rule:=if x.kind=2 then setL rs x.rules else []
theorem of_results {w:World} {R0:Nat} {a0 a1 a2 a3 a4 a5 a6 a7 a8 a9 a10 a11 a12 a13:Value} (h:Blk w R0 120 #[a0,a1,a2,a3,a4,a5,a6,a7,a8,a9,a10,a11,a12,a13]) (tmps:Array Value) (ht:tmps[4]?=some (.pointer (some ⟨R0,0,none⟩))):(results Tryz.f140 tmps).run prog w= .ok (.agg #[a0,a1,a2,a3,a4,a5,a6,a7,a8,a9,a10,a11,a12,a13]) w:=by
 have hc:=h.cell;simp [results,Tryz.results140,go_sem,hc,ht]
theorem era_cells1 {x0 x1 x2 x6 y0 y1 y2 y3 y4 y5:Int} {x3 x4:ByteArray} {x5:Bool} {A:Option Addr} {n c:Nat}:(#[.int .i64 x0,.int .i64 x1,.int .i64 x2,.string x3,.string x4,.bool x5,.int .i64 x6,.int .i64 y0,.int .i64 y1,.int .i64 y2,.int .i64 y3,.int .i64 y4,.int .i64 y5,.slice A n c]:Array Value).all (·.oneCell')=true:=by
 simp [Value.oneCell']
theorem of_any (s:Src) (A A2 A3:Option Addr) (c c2 c3:Nat) (x:Era) (w:World) (h:SrcOk s A A2 A3 w):
  Calls prog 140 #[.agg #[.slice A s.rules.length c,.slice A2 s.zones.length c2,.slice A3 s.links.length c3],.agg #[.int .i64 x.off,.int .i64 x.kind,.int .i64 x.save,.string x.rules,.string x.format,.bool x.till,.int .i64 x.year,.int .i64 x.spot.month,.int .i64 x.spot.kind,.int .i64 x.spot.weekday,.int .i64 x.spot.day,.int .i64 x.spot.time,.int .i64 x.spot.ref]] w fun e w'=>
   ∃ Ae ce,e= .returned (.agg (eraV x Ae (setOf s.rules x).length ce))/\Reads w' w'.heap.size 11 Ae (setOf s.rules x).length ((setOf s.rules x).flatMap Rule.cells)/\NewB w.heap.size Ae (setOf s.rules x).length/\Below w.heap.size w w':=by
 have hE:=fun nm z (hb:Below w.heap.size w z)=>eset_any s A A2 A3 c c2 c3 nm z (h.below hb);clear h;obtain ⟨rs,zs,ls⟩:=s;obtain ⟨x0,x1,x2,x3,x4,x5,x6,⟨y0,y1,y2,y3,y4,y5⟩⟩:=x;unfold setOf;simp only [eraV] at hE ⊢;have hb3:=box3 w 26 84 120 #[.slice A rs.length c,.slice A2 zs.length c2,.slice A3 ls.length c3] #[.int .i64 x0,.int .i64 x1,.int .i64 x2,.string x3,.string x4,.bool x5,.int .i64 x6,.int .i64 y0,.int .i64 y1,.int .i64 y2,.int .i64 y3,.int .i64 y4,.int .i64 y5] #[.int .i64 0,.int .i64 0,.int .i64 0,.string ⟨#[]⟩,.string ⟨#[]⟩,.bool false,.int .i64 0,.int .i64 0,.int .i64 0,.int .i64 0,.int .i64 0,.int .i64 0,.int .i64 0,.slice none 0 0];obtain ⟨W,hW⟩:∃ W,(((w.alloc (.cells #[.slice A rs.length c,.slice A2 zs.length c2,.slice A3 ls.length c3] 26)).alloc (.cells #[.int .i64 x0,.int .i64 x1,.int .i64 x2,.string x3,.string x4,.bool x5,.int .i64 x6,.int .i64 y0,.int .i64 y1,.int .i64 y2,.int .i64 y3,.int .i64 y4,.int .i64 y5] 84)).alloc (.cells #[.int .i64 0,.int .i64 0,.int .i64 0,.string ⟨#[]⟩,.string ⟨#[]⟩,.bool false,.int .i64 0,.int .i64 0,.int .i64 0,.int .i64 0,.int .i64 0,.int .i64 0,.int .i64 0,.slice none 0 0] 120))=W:=⟨_,rfl⟩;rw [hW] at hb3;obtain ⟨b0,b1,b2,hbw,hsz⟩:=hb3;have HE:=hid hE;have HB0:=hid b0;have HB1:=hid b1;have HB2:=hid b2;have HBw:=hid hbw;have c1:=b1.cell;have ca1:=fun o i=>(b1.alloc o).cell i;have ca0:=fun o i=>(b0.alloc o).cell i;clear hE b0 b1 b2 hbw;go_enter func140,ntmps140
 by_cases h2:x1=2
 ·subst h2
  simp only [if_true];obtain ⟨Wa,hWa⟩:∃ Wa,Wa=W.alloc (.cells #[.int .i64 x0,.int .i64 2,.int .i64 x2,.string x3,.string x4,.bool x5,.int .i64 x6,.int .i64 y0,.int .i64 y1,.int .i64 y2,.int .i64 y3,.int .i64 y4,.int .i64 y5,.slice none 0 0] 120):=⟨_,rfl⟩;have HB1a:=hid (HB1.out.alloc (.cells #[.int .i64 x0,.int .i64 2,.int .i64 x2,.string x3,.string x4,.bool x5,.int .i64 x6,.int .i64 y0,.int .i64 y1,.int .i64 y2,.int .i64 y3,.int .i64 y4,.int .i64 y5,.slice none 0 0] 120));have HB2a:=hid (HB2.out.alloc (.cells #[.int .i64 x0,.int .i64 2,.int .i64 x2,.string x3,.string x4,.bool x5,.int .i64 x6,.int .i64 y0,.int .i64 y1,.int .i64 y2,.int .i64 y3,.int .i64 y4,.int .i64 y5,.slice none 0 0] 120));have HBwa:=hid (HBw.out.alloc HBw.out.size (.cells #[.int .i64 x0,.int .i64 2,.int .i64 x2,.string x3,.string x4,.bool x5,.int .i64 x6,.int .i64 y0,.int .i64 y1,.int .i64 y2,.int .i64 y3,.int .i64 y4,.int .i64 y5,.slice none 0 0] 120));have HX:=hid (Blk.new W 120 #[.int .i64 x0,.int .i64 2,.int .i64 x2,.string x3,.string x4,.bool x5,.int .i64 x6,.int .i64 y0,.int .i64 y1,.int .i64 y2,.int .i64 y3,.int .i64 y4,.int .i64 y5,.slice none 0 0])
  go_wp2_with fail
  go_at_call 41
  refine (HE.out x3 _ HBwa.out).mono ?_
  rintro e w2 ⟨v,rfl,hown,hb⟩;obtain ⟨Av,cv,rfl⟩:=own_slice hown;have hx:=HX.out.below hb HX.out.lt;have h2:=HB2a.out.below hb HB2a.out.lt;have hbe:=HBwa.out.trans (hb.mono HBwa.out.size);have fx:=hx.frozen;have cx:=hx.cell;have hxs:=hx.set_ 13 (.slice Av (setL rs x3).length cv);simp only [List.setIfInBounds_toArray,List.set_cons_succ,List.set_cons_zero] at hxs;have cxs:=hxs.cell
  have h2s:=h2.far (p:=⟨W.heap.size,13,none⟩) (by simp;omega) (.slice Av (setL rs x3).length cv)
  have hos:=own_set1 hown (own_blk_ne hown hx (by decide)) 13 (.slice Av (setL rs x3).length cv)
  have hbs:=hbe.setCell (p:=⟨W.heap.size,13,none⟩) HBw.out.size (.slice Av (setL rs x3).length cv);have H2s:=hid h2s;have Hos:=hid hos;have Hbs:=hid hbs;clear hown hb hx h2 hbe hxs h2s hos hbs hWa c1 ca1 ca0
  go_wp2_with ((refine wpList_store_row rfl 120 (.tmp 4) (.tmp 16) rfl (w.heap.size+1+1) #[.int .i64 x0,.int .i64 2,.int .i64 x2,.string x3,.string x4,.bool x5,.int .i64 x6,.int .i64 y0,.int .i64 y1,.int .i64 y2,.int .i64 y3,.int .i64 y4,.int .i64 y5,.slice Av (setL rs x3).length cv] rfl rfl 120 _ H2s.out size_era rfl era_cells1 ?_))
  refine bodyPost_ret (of_results (row_to H2s.out) _ rfl) rfl ?_
  exact ⟨Av,cv,rfl,Reads.of_own (Hos.out.kept (grown_row _ _ _) (.inr (own_blk_ne Hos.out H2s.out (by decide)))),(fun hn=>by obtain ⟨b,cap,e1,h1,h2⟩:=Hos.out.form hn;injection e1 with e1 _ _;exact ⟨b,e1,Nat.le_trans HBwa.out.size h1⟩),Hbs.out.grown (grown_row _ _ _) Hbs.out.size (fun k e=>by injection e with e;omega)⟩
 ·have h2b:(x1 == 2)=false:=by simp [h2]
  simp only [if_neg h2];clear h2;have HB2a:=hid (HB2.out.alloc (.cells #[.int .i64 x0,.int .i64 x1,.int .i64 x2,.string x3,.string x4,.bool x5,.int .i64 x6,.int .i64 y0,.int .i64 y1,.int .i64 y2,.int .i64 y3,.int .i64 y4,.int .i64 y5,.slice none 0 0] 120));have HBwa:=hid (HBw.out.alloc HBw.out.size (.cells #[.int .i64 x0,.int .i64 x1,.int .i64 x2,.string x3,.string x4,.bool x5,.int .i64 x6,.int .i64 y0,.int .i64 y1,.int .i64 y2,.int .i64 y3,.int .i64 y4,.int .i64 y5,.slice none 0 0] 120))
  go_wp2_with ((refine wpList_store_row rfl 120 (.tmp 4) (.tmp 16) rfl (w.heap.size+1+1) #[.int .i64 x0,.int .i64 x1,.int .i64 x2,.string x3,.string x4,.bool x5,.int .i64 x6,.int .i64 y0,.int .i64 y1,.int .i64 y2,.int .i64 y3,.int .i64 y4,.int .i64 y5,.slice none 0 0] rfl rfl 120 _ HB2a.out size_era rfl era_cells1 ?_))
  refine bodyPost_ret (of_results (row_to HB2a.out) _ rfl) rfl ?_
  exact ⟨none,0,rfl,Reads.none_,(fun hn=>absurd hn (by simp)),HBwa.out.grown (grown_row _ _ _) HBwa.out.size (fun k e=>by injection e with e;omega)⟩
end Snd
namespace Snd
open Go.RowKit Mem Civ Mom Img Plc Rul Src Go.Maps
theorem find_results {w:World} {R0:Nat} {b:Bool} {a0 a1 a2 a3 a4 a5 a6 a7 a8 a9 a10 a11 a12 a13:Value} (h:Blk w R0 120 #[a0,a1,a2,a3,a4,a5,a6,a7,a8,a9,a10,a11,a12,a13]) (tmps:Array Value) (ht:tmps[6]?=some (.pointer (some ⟨R0,0,none⟩))) (h7:tmps[7]?=some (.bool b)):(results Tryz.f82 tmps).run prog w= .ok (.tuple #[.agg #[a0,a1,a2,a3,a4,a5,a6,a7,a8,a9,a10,a11,a12,a13],.bool b]) w:=by
 have hc:=h.cell;simp [results,Tryz.results82,go_sem,hc,ht,h7]
def noEra:Array Value:=#[.int .i64 0,.int .i64 0,.int .i64 0,.string ⟨#[]⟩,.string ⟨#[]⟩,.bool false,.int .i64 0,.int .i64 0,.int .i64 0,.int .i64 0,.int .i64 0,.int .i64 0,.int .i64 0,.slice none 0 0]
theorem find_no (s:Src) (A A2 A3:Option Addr) (c c2 c3:Nat) (m:Int) (i:Nat) (w:World) (h:SrcOk s A A2 A3 w) (hm:w.cell? ⟨0,0,none⟩=some (.int .i64 m)) (hs:srcB s=true) (hi:i<s.zones.length):
  Calls prog 82 #[.agg #[.slice A s.rules.length c,.slice A2 s.zones.length c2,.slice A3 s.links.length c3],.int .i64 i,.int .i64 (-1)] w fun e w'=>e= .returned (.tuple #[.agg noEra,.bool false])/\Below w.heap.size w w':=by
 have hR:=fun z (hb:Below w.heap.size w z)=>Src.right_any s A A2 A3 c c2 c3 m z (h.below hb) (cell_later hb hm);have nz:=h.nz;rw [hs] at hR;clear h hm hs;obtain ⟨rs,zs,ls⟩:=s;unfold noEra;simp only at hR nz hi ⊢;have hb2:=box2 w 26 120 #[.slice A rs.length c,.slice A2 zs.length c2,.slice A3 ls.length c3] #[.int .i64 0,.int .i64 0,.int .i64 0,.string ⟨#[]⟩,.string ⟨#[]⟩,.bool false,.int .i64 0,.int .i64 0,.int .i64 0,.int .i64 0,.int .i64 0,.int .i64 0,.int .i64 0,.slice none 0 0];obtain ⟨W,hW⟩:∃ W,(w.alloc (.cells #[.slice A rs.length c,.slice A2 zs.length c2,.slice A3 ls.length c3] 26)).alloc (.cells #[.int .i64 0,.int .i64 0,.int .i64 0,.string ⟨#[]⟩,.string ⟨#[]⟩,.bool false,.int .i64 0,.int .i64 0,.int .i64 0,.int .i64 0,.int .i64 0,.int .i64 0,.int .i64 0,.slice none 0 0] 120)=W:=⟨_,rfl⟩;rw [hW] at hb2;obtain ⟨b0,b1,hbw,hsz⟩:=hb2;have HB0:=hid b0;have HB1:=hid b1;have HBw:=hid hbw;have HR:=hid hR;have c0:=b0.cell
 have hd:decide (((i:Nat):Int)<0)=false:=decide_eq_false (by omega)
 have hd2:decide (((zs.length:Nat):Int)<=(i:Nat))=false:=decide_eq_false (by omega)
 clear b0 b1 hbw hR hsz;go_enter func82,ntmps82
 go_wp2_with (first
  |(go_at_call 74;refine (HR.out _ HBw.out).mono ?_;rintro e w1 ⟨rfl,hb⟩;have hx0:=HB0.out.below hb HB0.out.lt;have c1:=hx0.cell;have HX1:=hid (HB1.out.below hb HB1.out.lt);have HBx:=hid (HBw.out.trans (hb.mono HBw.out.size));clear hb hx0)
  |(refine wpList_store_row rfl 120 (.tmp 6) (.tmp 37) rfl (w.heap.size+1) #[.int .i64 0,.int .i64 0,.int .i64 0,.string ⟨#[]⟩,.string ⟨#[]⟩,.bool false,.int .i64 0,.int .i64 0,.int .i64 0,.int .i64 0,.int .i64 0,.int .i64 0,.int .i64 0,.slice none 0 0] rfl rfl 120 _ HX1.out size_era rfl era_cells1 ?_))
 refine bodyPost_ret (find_results (row_to HX1.out) _ rfl rfl) rfl ?_
 exact ⟨rfl,HBx.out.grown (grown_row _ _ _) HBx.out.size (fun k e=>by injection e with e;omega)⟩
end Snd
namespace Snd
open Go.RowKit Mem Civ Mom Img Plc Rul Src Go.Maps
structure Fl (w:World) (X:Nat) (cs:Array Value) (A:Option Addr) (n:Nat) (xs:List Value) (wr:World):Prop where
 blk:Blk wr X 120 cs
 bel:Below w.heap.size w wr
 rd:Reads wr wr.heap.size 11 A n xs
theorem Fl.set {w wr:World} {X n:Nat} {cs:Array Value} {A:Option Addr} {xs:List Value} (h:Fl w X cs A n xs wr) (hX:w.heap.size<=X) (hn:NewB (X+1) A n) (i:Nat) (u:Value):Fl w X (cs.setIfInBounds i u) A n xs (wr.setCell ⟨X,i,none⟩ u):=by
 refine ⟨h.blk.set_ i u,h.bel.setCell hX u,?_⟩
 have hr:Reads (wr.setCell ⟨X,i,none⟩ u) wr.heap.size 11 A n xs:=⟨h.rd.1,fun h0=>by
  obtain ⟨ad,e,hb,hc⟩:=h.rd.2 h0;obtain ⟨b,e2,hx⟩:=hn h0;rw [e] at e2
  injection e2 with e2
  refine ⟨ad,e,hb,fun j v hv=>?_⟩
  rw [<-hc j v hv]
  have hbk:(ad.add j).block=b:=by rw [block_of_add,e2]
  exact World.cell?_of_block (w:=wr) (Below.heap_setCell wr ⟨X,i,none⟩ u _ (by rw [hbk];show b≠X;omega))⟩
 exact hr.more (by simp)
theorem find_yes (s:Src) (A A2 A3:Option Addr) (c c2 c3:Nat) (m:Int) (i j:Nat) (w:World) (h:SrcOk s A A2 A3 w) (hm:w.cell? ⟨0,0,none⟩=some (.int .i64 m)) (hs:srcB s=true) (hi:i<s.zones.length) (hj:j<(s.zones[i]'hi).eras.length):
  Calls prog 82 #[.agg #[.slice A s.rules.length c,.slice A2 s.zones.length c2,.slice A3 s.links.length c3],.int .i64 i,.int .i64 j] w fun e w'=>
   ∃ Ae ce,e= .returned (.tuple #[.agg (eraV ((s.zones[i]'hi).eras[j]'hj) Ae (setOf s.rules ((s.zones[i]'hi).eras[j]'hj)).length ce),.bool true])/\Reads w' w'.heap.size 11 Ae (setOf s.rules ((s.zones[i]'hi).eras[j]'hj)).length ((setOf s.rules ((s.zones[i]'hi).eras[j]'hj)).flatMap Rule.cells)/\Below w.heap.size w w':=by
 have hR:=fun z (hb:Below w.heap.size w z)=>Src.right_any s A A2 A3 c c2 c3 m z (h.below hb) (cell_later hb hm);have hOf:=fun x z (hb:Below w.heap.size w z)=>of_any s A A2 A3 c c2 c3 x z (h.below hb);have nz:=h.nz;have hrz:=h.rz;have hre:=h.re (s.zones[i]'hi) (List.getElem_mem hi);rw [hs] at hR;clear h hm hs;obtain ⟨rs,zs,ls⟩:=s;simp only at hR hOf nz hrz hre hi hj ⊢;obtain ⟨az,hA2,hazb,z0,z1⟩:=zone_cells hrz hi rfl;subst hA2;obtain ⟨ae,hAe,haeb,e0,e1,e2,e3,e4,e5,e6,e7,e8,e9,e10,e11,e12⟩:=era_cells hre hj rfl;rw [hAe] at z1;obtain ⟨N,hN⟩:∃ N,N=(zs[i]'hi).eras.length:=⟨_,rfl⟩;obtain ⟨x,hx⟩:∃ x,x=(zs[i]'hi).eras[j]'hj:=⟨_,rfl⟩;rw [<-hN] at z1 hj;rw [<-hx] at e0 e1 e2 e3 e4 e5 e6 e7 e8 e9 e10 e11 e12 ⊢;have HOf:=hid (hOf x);obtain ⟨cz,hcz⟩:∃ cz,cz=(zs[i]'hi).c:=⟨_,rfl⟩;rw [<-hcz] at z1;clear hN hx hcz hOf hre hrz hAe z0;obtain ⟨x0,x1,x2,x3,x4,x5,x6,⟨y0,y1,y2,y3,y4,y5⟩⟩:=x;simp only [eraV] at HOf e0 e1 e2 e3 e4 e5 e6 e7 e8 e9 e10 e11 e12 ⊢;generalize setOf rs _=L at*;have hb2:=box2 w 26 120 #[.slice A rs.length c,.slice (some az) zs.length c2,.slice A3 ls.length c3] #[.int .i64 0,.int .i64 0,.int .i64 0,.string ⟨#[]⟩,.string ⟨#[]⟩,.bool false,.int .i64 0,.int .i64 0,.int .i64 0,.int .i64 0,.int .i64 0,.int .i64 0,.int .i64 0,.slice none 0 0];obtain ⟨W,hW⟩:∃ W,(w.alloc (.cells #[.slice A rs.length c,.slice (some az) zs.length c2,.slice A3 ls.length c3] 26)).alloc (.cells #[.int .i64 0,.int .i64 0,.int .i64 0,.string ⟨#[]⟩,.string ⟨#[]⟩,.bool false,.int .i64 0,.int .i64 0,.int .i64 0,.int .i64 0,.int .i64 0,.int .i64 0,.int .i64 0,.slice none 0 0] 120)=W:=⟨_,rfl⟩;rw [hW] at hb2;obtain ⟨b0,b1,hbw,hsz⟩:=hb2;have HB0:=hid b0;have HB1:=hid b1;have HBw:=hid hbw;have HR:=hid hR;have c0:=b0.cell
 have hd:decide (((i:Nat):Int)<0)=false:=decide_eq_false (by omega)
 have hd2:decide (((zs.length:Nat):Int)<=(i:Nat))=false:=decide_eq_false (by omega)
 have hd3:decide (((j:Nat):Int)<0)=false:=decide_eq_false (by omega)
 have hd4:decide (((N:Nat):Int)<=(j:Nat))=false:=decide_eq_false (by omega)
 have hk:∀ (z:World) (p:Addr) (u:Value),Below w.heap.size w z->p.block<w.heap.size->w.cell? p=some u->z.cell? p=some u:=fun z p u hb hp hc=>(hb.cell hp).trans hc
 have HZ:=hid (fun (z:World) (hb:Below w.heap.size w z)=>hk z _ _ hb (by rw [block_of_add];exact hazb) z1)
 have HEr:=hid (fun (z:World) (hb:Below w.heap.size w z)=>And.intro (hk z _ _ hb (by rw [block_of_add];exact haeb) e0) (And.intro (hk z _ _ hb (by rw [block_of_add];exact haeb) e1) (And.intro (hk z _ _ hb (by rw [block_of_add];exact haeb) e2) (And.intro (hk z _ _ hb (by rw [block_of_add];exact haeb) e3) (And.intro (hk z _ _ hb (by rw [block_of_add];exact haeb) e4) (And.intro (hk z _ _ hb (by rw [block_of_add];exact haeb) e5) (And.intro (hk z _ _ hb (by rw [block_of_add];exact haeb) e6) (And.intro (hk z _ _ hb (by rw [block_of_add];exact haeb) e7) (And.intro (hk z _ _ hb (by rw [block_of_add];exact haeb) e8) (And.intro (hk z _ _ hb (by rw [block_of_add];exact haeb) e9) (And.intro (hk z _ _ hb (by rw [block_of_add];exact haeb) e10) (And.intro (hk z _ _ hb (by rw [block_of_add];exact haeb) e11) (hk z _ _ hb (by rw [block_of_add];exact haeb) e12)))))))))))))
 clear b0 b1 hbw hR hsz hk z1 e0 e1 e2 e3 e4 e5 e6 e7 e8 e9 e10 e11 e12;go_enter func82,ntmps82
 go_upto_region 3 with (go_at_call 74;refine (HR.out _ HBw.out).mono ?_;rintro e w1 ⟨rfl,hb⟩;have hx0:=HB0.out.below hb HB0.out.lt;have c1:=hx0.cell;have HX0:=hid hx0;have HX1:=hid (HB1.out.below hb HB1.out.lt);have hbx:=HBw.out.trans (hb.mono HBw.out.size);have z1:=HZ.out _ hbx;have HBx:=hid hbx;clear hb hx0 hbx)
 obtain ⟨e0,e1,e2,e3,e4,e5,e6,e7,e8,e9,e10,e11,e12⟩:=HEr.out _ HBx.out;have Hz:=hid HX1.out.lt;clear HZ HEr HR c0
 go_region_law (go_simp;go_at_call 140;refine (HOf.out _ HBx.out.drew).mono ?_;rintro e wA ⟨Ae,ce,rfl,hrd,hnb,hb⟩;have hx1:=HX1.out.drew.below hb HX1.out.drew.lt;have fA:=hx1.frozen;have cA:=hx1.cell;have HXA:=hid hx1;have HRd:=hid hrd;have HNb:=hid hnb;have HBA:=hid (HBx.out.drew.trans (hb.mono HBx.out.drew.size));clear hx1 hrd hnb hb)
 all_goals
  have HF0:Fl w (w.heap.size+1) _ Ae L.length _ wA:=⟨HXA.out,HBA.out,HRd.out⟩;have hX:w.heap.size<=w.heap.size+1:=Nat.le_succ _
  have hn:NewB (w.heap.size+1+1) Ae L.length:=fun h0=>by
   obtain ⟨b,e1,h1⟩:=HNb.out h0;have:=Hz.out
   exact ⟨b,e1,Nat.le_trans (by simp;omega) h1⟩
  have hf:=((((((((((((((HF0.set hX hn 0 (.int .i64 x0)).set hX hn 1 (.int .i64 x1)).set hX hn 2 (.int .i64 x2)).set hX hn 3 (.string x3)).set hX hn 4 (.string x4)).set hX hn 5 (.bool x5)).set hX hn 6 (.int .i64 x6)).set hX hn 7 (.int .i64 y0)).set hX hn 8 (.int .i64 y1)).set hX hn 9 (.int .i64 y2)).set hX hn 10 (.int .i64 y3)).set hX hn 11 (.int .i64 y4)).set hX hn 12 (.int .i64 y5)).set hX hn 13 (.slice Ae L.length ce));simp only [List.setIfInBounds_toArray,List.set_cons_succ,List.set_cons_zero] at hf;have HF:=hid hf;clear hf HF0 hn hX fA cA;go_wp2
  refine bodyPost_ret (find_results HF.out.blk _ rfl rfl) rfl ?_
  exact ⟨Ae,ce,rfl,HF.out.rd,HF.out.bel⟩
end Snd
namespace Snd
open Go.RowKit Mem Civ Mom Img Plc Rul Src Go.Maps
theorem eend_no (s:Src) (A A2 A3:Option Addr) (c c2 c3:Nat) (m:Int) (i:Nat) (w:World) (h:SrcOk s A A2 A3 w) (hm:w.cell? ⟨0,0,none⟩=some (.int .i64 m)) (hs:srcB s=true) (hi:i<s.zones.length):
  Calls prog 39 #[.agg #[.slice A s.rules.length c,.slice A2 s.zones.length c2,.slice A3 s.links.length c3],.int .i64 i,.int .i64 (-1)] w fun e w'=>e= .returned (.tuple #[.int .i64 0,.bool false])/\Below w.heap.size w w':=by
 have hF:=fun z (hb:Below w.heap.size w z)=>find_no s A A2 A3 c c2 c3 m i z (h.below hb) (cell_later hb hm) hs hi;clear h hm hs hi;obtain ⟨rs,zs,ls⟩:=s;simp only [noEra] at hF ⊢;have hone:=One.new w 26 #[.slice A rs.length c,.slice A2 zs.length c2,.slice A3 ls.length c3];obtain ⟨W,hW⟩:∃ W,w.alloc (.cells #[.slice A rs.length c,.slice A2 zs.length c2,.slice A3 ls.length c3] 26)=W:=⟨_,rfl⟩;rw [hW] at hone;have HO:=hid hone;have HF:=hid hF;have c0:=hone.1.cell;clear hone hF;go_enter func39,ntmps39
 go_wp2_with (go_at_call 82;refine (HF.out _ HO.out.2).mono ?_;rintro e w1 ⟨rfl,hb⟩;have HO1:=hid (HO.out.step hb);clear hb)
 go_ret2
 exact ⟨rfl,HO1.out.2.alloc HO1.out.2.size _⟩
theorem eend_yes (s:Src) (A A2 A3:Option Addr) (c c2 c3:Nat) (m sv:Int) (i j:Nat) (w:World) (h:SrcOk s A A2 A3 w) (hm:w.cell? ⟨0,0,none⟩=some (.int .i64 m)) (hs:srcB s=true) (hi:i<s.zones.length) (hj:j<(s.zones[i]'hi).eras.length) (x:Era) (hx:x=(s.zones[i]'hi).eras[j]'hj)
  (hA:x.till=true->x.kind=2->∀ Ae ce z,Reads z z.heap.size 11 Ae (setOf s.rules x).length ((setOf s.rules x).flatMap Rule.cells)->AheadAt Ae (setOf s.rules x).length ce (endT x) sv z):
  Calls prog 39 #[.agg #[.slice A s.rules.length c,.slice A2 s.zones.length c2,.slice A3 s.links.length c3],.int .i64 i,.int .i64 j] w fun e w'=>e= .returned (endO x sv)/\Below w.heap.size w w':=by
 have hF:=fun z (hb:Below w.heap.size w z)=>find_yes s A A2 A3 c c2 c3 m i j z (h.below hb) (cell_later hb hm) hs hi hj;rw [<-hx] at hF;have hEnd:=fun Ae ce z (hr:Reads z z.heap.size 11 Ae (setOf s.rules x).length ((setOf s.rules x).flatMap Rule.cells))=>end_any x Ae (setOf s.rules x).length ce sv z (fun h1 h2=>hA h1 h2 Ae ce z hr);clear h hm hs hx hA;generalize setOf s.rules x=L at*
 have hq:∃ r b,endO x sv= .tuple #[.int .i64 r,.bool b]:=by
  unfold endO
  split
  ·exact ⟨_,_,rfl⟩
  ·exact ⟨_,_,rfl⟩
 obtain ⟨r,b,hq⟩:=hq;rw [hq] at hEnd ⊢;obtain ⟨x0,x1,x2,x3,x4,x5,x6,⟨y0,y1,y2,y3,y4,y5⟩⟩:=x;simp only [eraV] at hF hEnd;have HEnd:=hid hEnd;have hone:=One.new w 26 #[.slice A s.rules.length c,.slice A2 s.zones.length c2,.slice A3 s.links.length c3];obtain ⟨W,hW⟩:∃ W,w.alloc (.cells #[.slice A s.rules.length c,.slice A2 s.zones.length c2,.slice A3 s.links.length c3] 26)=W:=⟨_,rfl⟩;rw [hW] at hone;have HO:=hid hone;have HF:=hid hF;have c0:=hone.1.cell;clear hone hF hEnd hq;go_enter func39,ntmps39
 go_wp2_with (first
  |(go_at_call 82;refine (HF.out _ HO.out.2).mono ?_;rintro e w1 ⟨Ae,ce,rfl,hrd,hb⟩;have HO1:=hid (HO.out.step hb);have HRd:=hid hrd;clear hb hrd)
  |(go_at_call 84;refine (HEnd.out _ _ _ ((HRd.out.below ((Below.refl _ _).alloc (Nat.le_refl _) _)).more (by simp))).mono ?_;rintro e w2 ⟨rfl,hb⟩;have HB2:=hid ((HO1.out.2.alloc HO1.out.2.size _).trans (hb.mono (by have:=HO1.out.2.size;simp;omega)));clear hb))
 go_ret2
 exact ⟨rfl,HB2.out⟩
end Snd
namespace Snd
open Go.RowKit Mem Civ Mom Img Plc Rul Src Go.Maps
theorem day_any (n:Int) (w:World):Calls prog 192 #[.int .i64 n] w fun e w'=>e= .returned (.bool (Rgt.dayB n))/\w'=w:=by
 unfold Rgt.dayB;go_enter func192,ntmps192
 cases h1:decide (-86400<n)<;>cases h2:decide (n<86400)
 all_goals go_wp2_with fail
 all_goals go_ret
 all_goals exact ⟨rfl,rfl⟩
theorem era1_any (r:Rule) (off:Int) (b:Nat) (w:World) (hc:w.cell? ⟨b,0,none⟩=some (.int .i64 off)):
  Calls prog 191 #[.agg r.cells.toArray,.pointer (some ⟨b,0,none⟩)] w fun e w'=>e= .returned (.bool (!Rgt.dayB (wrap64 (off+r.save))))/\Below w.heap.size w w':=by
 have HD:=hid (fun n z=>day_any n z);have hone:=One.new w 69 r.cells.toArray;obtain ⟨x0,x1,x2,x3,x4,x5,x6,x7,x8,x9,x10⟩:=r;simp only [Rule.cells] at hone ⊢;obtain ⟨W,hW⟩:∃ W,w.alloc (.cells #[.string x0,.int .i64 x1,.int .i64 x2,.int .i64 x3,.int .i64 x4,.int .i64 x5,.int .i64 x6,.int .i64 x7,.int .i64 x8,.int .i64 x9,.string x10] 69)=W:=⟨_,rfl⟩;rw [hW] at hone;have c2:W.cell? ⟨b,0,none⟩=some (.int .i64 off):=cell_later hone.2 hc;have HO:=hid hone;have c0:=hone.1.cell;clear hone hc;go_enter func191,ntmps191
 go_wp2_with (go_at_call 192;refine (HD.out _ _).mono ?_;rintro e w1 ⟨rfl,rfl⟩)
 go_ret;exact ⟨rfl,HO.out.2⟩
end Snd
namespace Snd
open Go.RowKit Mem Civ Mom Img Plc Rul Src Go.Maps
def farB (off:Int) (rs:List Rule):Bool:= !rs.all fun r=>Rgt.dayB (wrap64 (off+r.save))
def FarP (off:Int) (rs:List Rule) (w:World) (e:Ending) (w':World):Prop:=∃ i:Int,e= .returned (.int .i64 i)/\decide (0<=i)=farB off rs/\-1<=i/\i<=1000000/\Below w.heap.size w w'
theorem farIndex_any (off:Int) (b:Nat) (rs:List Rule) (A:Option Addr) (c:Nat) (w:World) (h:Reads w w.heap.size 11 A rs.length (rs.flatMap Rule.cells)) (hn:rs.length<=1000000) (hc:w.cell? ⟨b,0,none⟩=some (.int .i64 off)):
  Calls prog 220 #[.slice A rs.length c,.func (Fn.func 191) #[] #[.pointer (some ⟨b,0,none⟩)]] w (FarP off rs w):=by
 have H:=hid h;have HC:=hid hc;clear h hc;go_enter func220,ntmps220;go_wp2
 go_loopw [8] (fun i wr=>∃ k:Nat,k<=rs.length/\i= .int .i64 k/\((rs.take k).all fun r=>Rgt.dayB (wrap64 (off+r.save)))=true/\Below w.heap.size w wr) (fun i _=>rs.length - (intOf i).toNat)
 case atStart=>exact ⟨0,Nat.zero_le _,rfl,rfl,Below.refl _ _⟩
 case round=>
  obtain ⟨k,hk,rfl,hall,hb⟩:=hrel;have Hall:=hid hall;have HB:=hid hb;clear hall hb
  by_cases hkn:k<rs.length
  ·obtain ⟨ad,rfl,hadb,a0,a1,a2,a3,a4,a5,a6,a7,a8,a9,a10⟩:=rule_cells (H.out.below HB.out) hkn
   have Hc:=hid (fun z (hb:Below w.heap.size w z)=>era1_any rs[k] off b z (cell_later hb HC.out))
   have hq:((rs.take (k+1)).all fun r=>Rgt.dayB (wrap64 (off+r.save)))=Rgt.dayB (wrap64 (off+rs[k].save)):=by
    rw [List.take_succ_eq_append_getElem hkn,List.all_append,Hall.out];simp
   have hq2:Rgt.dayB (wrap64 (off+rs[k].save))=false->farB off rs=true:=fun e=>by
    unfold farB
    rw [List.all_eq_false.2 ⟨rs[k],List.getElem_mem hkn,by rw [e];decide⟩]
    rfl
   have HQ:=hid hq;have HQ2:=hid hq2;clear hq hq2;simp only [Rule.cells] at Hc;generalize hb:Rgt.dayB (wrap64 (off+rs[k].save))=b at*;clear hb;generalize rs[k]=s at*
   cases b
   ·go_wp2_with (go_at_call 191;refine (Hc.out _ HB.out).mono ?_;rintro e w1 ⟨rfl,hb1⟩;have HB1:=hid (HB.out.trans (hb1.mono HB.out.size));clear hb1)
    go_ret
    exact ⟨k,rfl,by rw [HQ2.out trivial];simp,by omega,by omega,HB1.out⟩
   ·go_wp2_with (go_at_call 191;refine (Hc.out _ HB.out).mono ?_;rintro e w1 ⟨rfl,hb1⟩;have HB1:=hid (HB.out.trans (hb1.mono HB.out.size));clear hb1)
    exact ⟨⟨k+1,by omega,by go_num,HQ.out,HB1.out⟩,by simp [intOf];omega⟩
  ·obtain rfl:k=rs.length:=by omega
   have hall:=Hall.out;rw [List.take_length] at hall
   have hf:farB off rs=false:=by unfold farB;rw [hall];rfl
   have HF:=hid hf;clear hall Hall hf;go_wp2;go_ret
   exact ⟨-1,rfl,by rw [HF.out];rfl,by omega,by omega,HB.out⟩
theorem far_any (off:Int) (b:Nat) (rs:List Rule) (A:Option Addr) (c:Nat) (w:World) (h:Reads w w.heap.size 11 A rs.length (rs.flatMap Rule.cells)) (hn:rs.length<=1000000) (hc:w.cell? ⟨b,0,none⟩=some (.int .i64 off)):
  Calls prog 176 #[.slice A rs.length c,.func (Fn.func 191) #[] #[.pointer (some ⟨b,0,none⟩)]] w fun e w'=>e= .returned (.bool (farB off rs))/\Below w.heap.size w w':=by
 have Hi:=hid (farIndex_any off b rs A c w h hn hc);clear h hc;go_enter func176,ntmps176
 go_wp2_with (go_at_call 220;refine Hi.out.mono ?_;rintro e w1 ⟨i,rfl,hq,hi1,hi2,hb⟩;have HQ:=hid hq;have HB:=hid hb;clear hq hb)
 go_ret
 exact ⟨by rw [<-HQ.out];rfl,HB.out⟩
end Snd
end
end
end Go.Proofs.YtadamccojdocbaaGreatDoor
