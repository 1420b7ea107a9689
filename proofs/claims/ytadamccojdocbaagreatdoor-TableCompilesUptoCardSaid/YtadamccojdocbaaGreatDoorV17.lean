/-
  Contracts of the code that the law reaches, and plain laws. Conditions: as each says.
-/
import Derived.Test.YtadamccojdocbaaGreatDoorV16
set_option linter.all false
set_option maxHeartbeats 40000000
set_option maxRecDepth 100000
namespace Go.Proofs.YtadamccojdocbaaGreatDoor
open Lib (hid)
open Tryz
section
section
namespace Trn
open Go.RowKit Mem Civ Mom Img Rul Ahd Rgt
theorem minCmp_any (a b:Rule) (w:World) (ha:1<=a.lo/\a.lo<=9999) (hb:1<=b.lo/\b.lo<=9999):
  Calls prog 88 #[.agg a.cells.toArray,.agg b.cells.toArray] w fun e w'=>e= .returned (.int .i64 (a.lo - b.lo))/\Below w.heap.size w w':=by
 have hb2:=box2 w 69 69 a.cells.toArray b.cells.toArray;obtain ⟨a0,a1,a2,a3,a4,a5,a6,a7,a8,a9,a10⟩:=a;obtain ⟨b0,b1,b2,b3,b4,b5,b6,b7,b8,b9,b10⟩:=b;simp only [Rule.cells] at hb2 ha hb ⊢;obtain ⟨W,hW⟩:∃ W,(w.alloc (.cells #[.string a0,.int .i64 a1,.int .i64 a2,.int .i64 a3,.int .i64 a4,.int .i64 a5,.int .i64 a6,.int .i64 a7,.int .i64 a8,.int .i64 a9,.string a10] 69)).alloc (.cells #[.string b0,.int .i64 b1,.int .i64 b2,.int .i64 b3,.int .i64 b4,.int .i64 b5,.int .i64 b6,.int .i64 b7,.int .i64 b8,.int .i64 b9,.string b10] 69)=W:=⟨_,rfl⟩;rw [hW] at hb2;obtain ⟨k1,k2,hbb,hz⟩:=hb2;have c1:=k1.cell;have c2:=k2.cell;have HB:=hid hbb;clear k1 k2 hbb;obtain ⟨h1,h2⟩:=ha;obtain ⟨h3,h4⟩:=hb;go_enter func88,ntmps88
 go_wp2_with fail
 go_ret;exact ⟨rfl,HB.out⟩
theorem minf_results {w:World} {R0:Nat} {a0 a1 a2 a3 a4 a5 a6 a7 a8 a9 a10:Value} (h:Blk w R0 69 #[a0,a1,a2,a3,a4,a5,a6,a7,a8,a9,a10]) (tmps:Array Value) (ht:tmps[4]?=some (.pointer (some ⟨R0,0,none⟩))):(results Tryz.f87 tmps).run prog w= .ok (.agg #[a0,a1,a2,a3,a4,a5,a6,a7,a8,a9,a10]) w:=by
 have hc:=h.cell;simp [results,Tryz.results87,go_sem,hc,ht]
theorem firstY_one {rs:List Rule} (h:rulesB rs=true) (h0:0<rs.length):firstY (rs.take 1)=rs[0].lo:=by
 have hb:=ruleB_bd (List.all_eq_true.1 h _ (List.getElem_mem h0));rw [firstY_succ rs 0 h0];simp only [List.take_zero,firstY,List.foldl_nil];omega
def MinP (rs:List Rule) (w:World) (e:Ending) (w':World):Prop:=∃ r:Rule,e= .returned (.agg #[.string r.name,.int .i64 r.lo,.int .i64 r.hi,.int .i64 r.month,.int .i64 r.kind,.int .i64 r.weekday,.int .i64 r.day,.int .i64 r.time,.int .i64 r.ref,.int .i64 r.save,.string r.letter])/\r.lo=firstY rs/\Below w.heap.size w w'
theorem le1 (n:Nat):n<=n+1:=by omega
theorem below_set11 {B b:Nat} {w w':World} (h:Below B w w') (hb:B<=b) (v0 v1 v2 v3 v4 v5 v6 v7 v8 v9 v10:Value):
  Below B w (((((((((((w'.setCell ⟨b,0,none⟩ v0).setCell ⟨b,1,none⟩ v1).setCell ⟨b,2,none⟩ v2).setCell ⟨b,3,none⟩ v3).setCell ⟨b,4,none⟩ v4).setCell ⟨b,5,none⟩ v5).setCell ⟨b,6,none⟩ v6).setCell ⟨b,7,none⟩ v7).setCell ⟨b,8,none⟩ v8).setCell ⟨b,9,none⟩ v9).setCell ⟨b,10,none⟩ v10):=
 ((((((((((h.setCell hb _).setCell hb _).setCell hb _).setCell hb _).setCell hb _).setCell hb _).setCell hb _).setCell hb _).setCell hb _).setCell hb _).setCell hb _
theorem blk_set11 {b:Nat} {t:TypeId} {w:World} {x0 x1 x2 x3 x4 x5 x6 x7 x8 x9 x10:Value} (h:Blk w b t #[x0,x1,x2,x3,x4,x5,x6,x7,x8,x9,x10]) (v0 v1 v2 v3 v4 v5 v6 v7 v8 v9 v10:Value):
  Blk (((((((((((w.setCell ⟨b,0,none⟩ v0).setCell ⟨b,1,none⟩ v1).setCell ⟨b,2,none⟩ v2).setCell ⟨b,3,none⟩ v3).setCell ⟨b,4,none⟩ v4).setCell ⟨b,5,none⟩ v5).setCell ⟨b,6,none⟩ v6).setCell ⟨b,7,none⟩ v7).setCell ⟨b,8,none⟩ v8).setCell ⟨b,9,none⟩ v9).setCell ⟨b,10,none⟩ v10) b t #[v0,v1,v2,v3,v4,v5,v6,v7,v8,v9,v10]:=by
 have:=(((((((((((h.set_ 0 v0).set_ 1 v1).set_ 2 v2).set_ 3 v3).set_ 4 v4).set_ 5 v5).set_ 6 v6).set_ 7 v7).set_ 8 v8).set_ 9 v9).set_ 10 v10)
 simpa using this
theorem blk_far11 {b g:Nat} {t:TypeId} {cs:Array Value} {w:World} (h:Blk w g t cs) (hne:g≠b) (v0 v1 v2 v3 v4 v5 v6 v7 v8 v9 v10:Value):
  Blk (((((((((((w.setCell ⟨b,0,none⟩ v0).setCell ⟨b,1,none⟩ v1).setCell ⟨b,2,none⟩ v2).setCell ⟨b,3,none⟩ v3).setCell ⟨b,4,none⟩ v4).setCell ⟨b,5,none⟩ v5).setCell ⟨b,6,none⟩ v6).setCell ⟨b,7,none⟩ v7).setCell ⟨b,8,none⟩ v8).setCell ⟨b,9,none⟩ v9).setCell ⟨b,10,none⟩ v10) g t cs:=
 ((((((((((h.far hne _).far hne _).far hne _).far hne _).far hne _).far hne _).far hne _).far hne _).far hne _).far hne _).far hne _
theorem minFunc_any (rs:List Rule) (A:Option Addr) (c:Nat) (w:World) (h:Reads w w.heap.size 11 A rs.length (rs.flatMap Rule.cells)) (hn:rs.length<=1000000) (h0:0<rs.length) (hr:rulesB rs=true):
  Calls prog 87 #[.slice A rs.length c,.func (.func 88) #[] #[]] w (MinP rs w):=by
 have HR:=hid h;have hfo:=firstY_one hr h0;have hlo:=fun k (hk:k<rs.length)=>ruleB_bd (List.all_eq_true.1 hr _ (List.getElem_mem hk));have hfs:=fun k (hk:k<rs.length)=>firstY_succ rs k hk;obtain ⟨ad,hA,hadb,a0,a1,a2,a3,a4,a5,a6,a7,a8,a9,a10⟩:=rule_cells (h.alloc (Nat.le_refl _) (.cells #[.string ⟨#[]⟩,.int .i64 0,.int .i64 0,.int .i64 0,.int .i64 0,.int .i64 0,.int .i64 0,.int .i64 0,.int .i64 0,.int .i64 0,.string ⟨#[]⟩] 69)) h0;subst hA
 have ead:ad.add (0*11)=ad:=by unfold Addr.add;simp
 rw [ead] at a0 a1 a2 a3 a4 a5 a6 a7 a8 a9 a10;have HLo:=hid hlo;have HFs:=hid hfs
 have h1b:decide ((rs.length:Int)<1)=false:=decide_eq_false (by omega)
 have hxb:=ruleB_bd (List.all_eq_true.1 hr _ (List.getElem_mem h0));generalize hx:rs[0]=x at*;have Hfo:=hid hfo;clear h hfo hlo hfs hx hr ead;obtain ⟨x0,x1,x2,x3,x4,x5,x6,x7,x8,x9,x10⟩:=x;simp only at a0 a1 a2 a3 a4 a5 a6 a7 a8 a9 a10 Hfo hxb;obtain ⟨hxb1,hxb2,_⟩:=hxb;have hb2:=box2 w 69 69 #[.string ⟨#[]⟩,.int .i64 0,.int .i64 0,.int .i64 0,.int .i64 0,.int .i64 0,.int .i64 0,.int .i64 0,.int .i64 0,.int .i64 0,.string ⟨#[]⟩] #[.string x0,.int .i64 x1,.int .i64 x2,.int .i64 x3,.int .i64 x4,.int .i64 x5,.int .i64 x6,.int .i64 x7,.int .i64 x8,.int .i64 x9,.string x10];go_enter func87,ntmps87
 go_wp2_with fail
 obtain ⟨k0,k1,hbw,_⟩:=hb2
 go_loopw [6] (fun s6 wr=>∃ (k:Nat) (y:Rule),1<=k/\k<=rs.length/\s6= .int .i64 k/\(y.lo=firstY (rs.take k)/\1<=y.lo/\y.lo<=9999)/\Blk wr w.heap.size 69 #[.string ⟨#[]⟩,.int .i64 0,.int .i64 0,.int .i64 0,.int .i64 0,.int .i64 0,.int .i64 0,.int .i64 0,.int .i64 0,.int .i64 0,.string ⟨#[]⟩]/\Blk wr (w.heap.size+1) 69 #[.string y.name,.int .i64 y.lo,.int .i64 y.hi,.int .i64 y.month,.int .i64 y.kind,.int .i64 y.weekday,.int .i64 y.day,.int .i64 y.time,.int .i64 y.ref,.int .i64 y.save,.string y.letter]/\Below w.heap.size w wr) (fun s6 _=>rs.length - (intOf s6).toNat)
 case atStart=>exact ⟨1,⟨x0,x1,x2,x3,x4,x5,x6,x7,x8,x9,x10⟩,Nat.le_refl _,h0,rfl,⟨Hfo.out.symm,hxb1,hxb2⟩,k0,k1,hbw⟩
 case round=>
  clear k0 k1 hbw a0 a1 a2 a3 a4 a5 a6 a7 a8 a9 a10;obtain ⟨k,y,hk1,hk,rfl,⟨hy,hyb1,hyb2⟩,hb0,hb1,hbw⟩:=hrel;have HB0:=hid hb0;have HB1:=hid hb1;have HBw:=hid hbw;have Hy:=hid hy;have cy:=hb1.cell;clear hb0 hb1 hbw hy
  by_cases hkn:k<rs.length
  ·obtain ⟨ad',hA,hadb',b0,b1,b2,b3,b4,b5,b6,b7,b8,b9,b10⟩:=rule_cells ((HR.out.below HBw.out).more HBw.out.size) hkn
   obtain rfl:ad=ad':=by injection hA
   have hlt:(ad.add (k*11)).block<wr.heap.size:=by rw [block_of_add];exact hadb'
   have hfs:=HFs.out k hkn;rw [<-Hy.out] at hfs;have hrb:=HLo.out k hkn;generalize rs[k]=r at*;have hcmp:=fun z=>minCmp_any r y z ⟨hrb.1,hrb.2.1⟩ ⟨hyb1,hyb2⟩;obtain ⟨r0,r1,r2,r3,r4,r5,r6,r7,r8,r9,r10⟩:=r;obtain ⟨y0,y1,y2,y3,y4,y5,y6,y7,y8,y9,y10⟩:=y;simp only [Rule.cells] at b0 b1 b2 b3 b4 b5 b6 b7 b8 b9 b10 hcmp hrb hfs cy HB1 hyb1 hyb2 Hy;obtain ⟨hrb1,hrb2,_⟩:=hrb;have Hfs:=hid hfs;have HC:Hid (∀ z,Below wr.heap.size wr z->Calls prog 88 #[.agg #[.string r0,.int .i64 r1,.int .i64 r2,.int .i64 r3,.int .i64 r4,.int .i64 r5,.int .i64 r6,.int .i64 r7,.int .i64 r8,.int .i64 r9,.string r10],.agg #[.string y0,.int .i64 y1,.int .i64 y2,.int .i64 y3,.int .i64 y4,.int .i64 y5,.int .i64 y6,.int .i64 y7,.int .i64 y8,.int .i64 y9,.string y10]] z fun e z'=>e= .returned (.int .i64 (r1 - y1))/\Below wr.heap.size wr z'):=fun z h=>(hcmp z).mono fun e z' ⟨he,hb⟩=>⟨he,h.trans (hb.mono h.size)⟩;have inst:Nonempty (Qt.In (Below wr.heap.size wr)):=⟨⟨_,Below.refl _ _⟩⟩;have zr0:∀ z:Qt.In (Below wr.heap.size wr),z.w.cell? (ad.add (k*11))=some (.string r0):=fun z=>(z.h.cell hlt).trans b0;have zr1:∀ z:Qt.In (Below wr.heap.size wr),z.w.cell? ⟨(ad.add (k*11)).block,(ad.add (k*11)).off+1,none⟩=some (.int .i64 r1):=fun z=>(z.h.cell (p:=⟨(ad.add (k*11)).block,(ad.add (k*11)).off+1,none⟩) hlt).trans b1;have zr2:∀ z:Qt.In (Below wr.heap.size wr),z.w.cell? ⟨(ad.add (k*11)).block,(ad.add (k*11)).off+2,none⟩=some (.int .i64 r2):=fun z=>(z.h.cell (p:=⟨(ad.add (k*11)).block,(ad.add (k*11)).off+2,none⟩) hlt).trans b2;have zr3:∀ z:Qt.In (Below wr.heap.size wr),z.w.cell? ⟨(ad.add (k*11)).block,(ad.add (k*11)).off+3,none⟩=some (.int .i64 r3):=fun z=>(z.h.cell (p:=⟨(ad.add (k*11)).block,(ad.add (k*11)).off+3,none⟩) hlt).trans b3;have zr4:∀ z:Qt.In (Below wr.heap.size wr),z.w.cell? ⟨(ad.add (k*11)).block,(ad.add (k*11)).off+4,none⟩=some (.int .i64 r4):=fun z=>(z.h.cell (p:=⟨(ad.add (k*11)).block,(ad.add (k*11)).off+4,none⟩) hlt).trans b4;have zr5:∀ z:Qt.In (Below wr.heap.size wr),z.w.cell? ⟨(ad.add (k*11)).block,(ad.add (k*11)).off+5,none⟩=some (.int .i64 r5):=fun z=>(z.h.cell (p:=⟨(ad.add (k*11)).block,(ad.add (k*11)).off+5,none⟩) hlt).trans b5;have zr6:∀ z:Qt.In (Below wr.heap.size wr),z.w.cell? ⟨(ad.add (k*11)).block,(ad.add (k*11)).off+6,none⟩=some (.int .i64 r6):=fun z=>(z.h.cell (p:=⟨(ad.add (k*11)).block,(ad.add (k*11)).off+6,none⟩) hlt).trans b6;have zr7:∀ z:Qt.In (Below wr.heap.size wr),z.w.cell? ⟨(ad.add (k*11)).block,(ad.add (k*11)).off+7,none⟩=some (.int .i64 r7):=fun z=>(z.h.cell (p:=⟨(ad.add (k*11)).block,(ad.add (k*11)).off+7,none⟩) hlt).trans b7;have zr8:∀ z:Qt.In (Below wr.heap.size wr),z.w.cell? ⟨(ad.add (k*11)).block,(ad.add (k*11)).off+8,none⟩=some (.int .i64 r8):=fun z=>(z.h.cell (p:=⟨(ad.add (k*11)).block,(ad.add (k*11)).off+8,none⟩) hlt).trans b8;have zr9:∀ z:Qt.In (Below wr.heap.size wr),z.w.cell? ⟨(ad.add (k*11)).block,(ad.add (k*11)).off+9,none⟩=some (.int .i64 r9):=fun z=>(z.h.cell (p:=⟨(ad.add (k*11)).block,(ad.add (k*11)).off+9,none⟩) hlt).trans b9;have zr10:∀ z:Qt.In (Below wr.heap.size wr),z.w.cell? ⟨(ad.add (k*11)).block,(ad.add (k*11)).off+10,none⟩=some (.string r10):=fun z=>(z.h.cell (p:=⟨(ad.add (k*11)).block,(ad.add (k*11)).off+10,none⟩) hlt).trans b10;have hl1:=HB1.out.lt;have zy:∀ (z:Qt.In (Below wr.heap.size wr)) (i:Nat),z.w.cell? ⟨w.heap.size+1,i,none⟩=#[.string y0,.int .i64 y1,.int .i64 y2,.int .i64 y3,.int .i64 y4,.int .i64 y5,.int .i64 y6,.int .i64 y7,.int .i64 y8,.int .i64 y9,.string y10][i]?:=fun z i=>(z.h.cell (p:=⟨w.heap.size+1,i,none⟩) hl1).trans (HB1.out.cell i)
   have hkb:decide ((k:Int)<(rs.length:Nat))=true:=decide_eq_true (by omega)
   clear hcmp hfs cy hA
   go_wp2_with fail
   refine Qt.wp_region_cls (Below wr.heap.size wr) (by kernel_rfl) (by kernel_rfl) (below_dr (n:=1) (Below.refl _ _)) ?_
   repeat (go_big_quiet_step ((go_at_call 88;exact Qt.quiet_cls (HC.out _ (Qt.In.h _)))))
   refine wpQuiet_nil ?_
   rintro wq ⟨⟨w9,hq⟩,e9⟩
   have hq2:Below wr.heap.size wr wq:=by rw [e9];exact hq
   have HQ0:=hid (HB0.out.below hq2 HB0.out.lt);have HQ1:=hid (HB1.out.below hq2 HB1.out.lt);have HQw:=hid (HBw.out.trans (hq2.mono HBw.out.size));have HW:=hid hq2;clear hq e9 zr0 zr1 zr2 zr3 zr4 zr5 zr6 zr7 zr8 zr9 zr10 zy inst hq2
   by_cases hl:r1<y1
   ·have hlb:r1 - y1<0:=by omega
    have qr0:wq.cell? (ad.add (k*11))=some (.string r0):=(HW.out.cell hlt).trans b0;have qr1:wq.cell? ⟨(ad.add (k*11)).block,(ad.add (k*11)).off+1,none⟩=some (.int .i64 r1):=(HW.out.cell (p:=⟨(ad.add (k*11)).block,(ad.add (k*11)).off+1,none⟩) hlt).trans b1;have qr2:wq.cell? ⟨(ad.add (k*11)).block,(ad.add (k*11)).off+2,none⟩=some (.int .i64 r2):=(HW.out.cell (p:=⟨(ad.add (k*11)).block,(ad.add (k*11)).off+2,none⟩) hlt).trans b2;have qr3:wq.cell? ⟨(ad.add (k*11)).block,(ad.add (k*11)).off+3,none⟩=some (.int .i64 r3):=(HW.out.cell (p:=⟨(ad.add (k*11)).block,(ad.add (k*11)).off+3,none⟩) hlt).trans b3;have qr4:wq.cell? ⟨(ad.add (k*11)).block,(ad.add (k*11)).off+4,none⟩=some (.int .i64 r4):=(HW.out.cell (p:=⟨(ad.add (k*11)).block,(ad.add (k*11)).off+4,none⟩) hlt).trans b4;have qr5:wq.cell? ⟨(ad.add (k*11)).block,(ad.add (k*11)).off+5,none⟩=some (.int .i64 r5):=(HW.out.cell (p:=⟨(ad.add (k*11)).block,(ad.add (k*11)).off+5,none⟩) hlt).trans b5;have qr6:wq.cell? ⟨(ad.add (k*11)).block,(ad.add (k*11)).off+6,none⟩=some (.int .i64 r6):=(HW.out.cell (p:=⟨(ad.add (k*11)).block,(ad.add (k*11)).off+6,none⟩) hlt).trans b6;have qr7:wq.cell? ⟨(ad.add (k*11)).block,(ad.add (k*11)).off+7,none⟩=some (.int .i64 r7):=(HW.out.cell (p:=⟨(ad.add (k*11)).block,(ad.add (k*11)).off+7,none⟩) hlt).trans b7;have qr8:wq.cell? ⟨(ad.add (k*11)).block,(ad.add (k*11)).off+8,none⟩=some (.int .i64 r8):=(HW.out.cell (p:=⟨(ad.add (k*11)).block,(ad.add (k*11)).off+8,none⟩) hlt).trans b8;have qr9:wq.cell? ⟨(ad.add (k*11)).block,(ad.add (k*11)).off+9,none⟩=some (.int .i64 r9):=(HW.out.cell (p:=⟨(ad.add (k*11)).block,(ad.add (k*11)).off+9,none⟩) hlt).trans b9;have qr10:wq.cell? ⟨(ad.add (k*11)).block,(ad.add (k*11)).off+10,none⟩=some (.string r10):=(HW.out.cell (p:=⟨(ad.add (k*11)).block,(ad.add (k*11)).off+10,none⟩) hlt).trans b10;have fq:=HQ1.out.frozen;have cq:=HQ1.out.cell
    have hmin:r1=firstY (rs.take (k+1)):=by rw [Hfs.out];omega
    have Hmin:=hid hmin;clear hmin b0 b1 b2 b3 b4 b5 b6 b7 b8 b9 b10 hl
    go_wp2_with fail
    exact ⟨⟨k+1,⟨r0,r1,r2,r3,r4,r5,r6,r7,r8,r9,r10⟩,by omega,by omega,by go_num,⟨Hmin.out,hrb1,hrb2⟩,blk_far11 HQ0.out (by omega) _ _ _ _ _ _ _ _ _ _ _,blk_set11 HQ1.out _ _ _ _ _ _ _ _ _ _ _,below_set11 HQw.out (le1 _) _ _ _ _ _ _ _ _ _ _ _⟩,by simp [intOf];omega⟩
   ·have hlb:¬ r1 - y1<0:=by omega
    have hmin:y1=firstY (rs.take (k+1)):=by rw [Hfs.out];omega
    have Hmin:=hid hmin;clear hmin b0 b1 b2 b3 b4 b5 b6 b7 b8 b9 b10 hl
    go_wp2_with fail
    exact ⟨⟨k+1,⟨y0,y1,y2,y3,y4,y5,y6,y7,y8,y9,y10⟩,by omega,by omega,by go_num,⟨Hmin.out,hyb1,hyb2⟩,HQ0.out,HQ1.out,HQw.out⟩,by simp [intOf];omega⟩
  ·obtain rfl:k=rs.length:=by omega
   have hy:=Hy.out;rw [List.take_length] at hy;have Hy2:=hid hy;clear hy;obtain ⟨y0,y1,y2,y3,y4,y5,y6,y7,y8,y9,y10⟩:=y;simp only at cy HB1 hyb1 hyb2 Hy Hy2;have f0:=HB0.out.frozen;have c0:=HB0.out.cell
   go_wp2_with fail
   refine bodyPost_ret (minf_results (blk_set11 HB0.out (.string y0) (.int .i64 y1) (.int .i64 y2) (.int .i64 y3) (.int .i64 y4) (.int .i64 y5) (.int .i64 y6) (.int .i64 y7) (.int .i64 y8) (.int .i64 y9) (.string y10)) _ rfl) rfl ?_
   exact ⟨⟨y0,y1,y2,y3,y4,y5,y6,y7,y8,y9,y10⟩,rfl,Hy2.out,below_set11 HBw.out (Nat.le_refl _) _ _ _ _ _ _ _ _ _ _ _⟩
end Trn
end
end
section
section
namespace Cmq
open Go.RowKit Mem Civ Mom Img Rul Ahd Trn Src Snd Att Rgt Abr
def savV (x:Era) (f:Int×ByteArray):Int×ByteArray:=if x.kind=2 then f else if x.kind=1 then (x.save,⟨#[]⟩) else (0,⟨#[]⟩)
def ForceAt (A:Option Addr) (n c:Nat) (off t:Int) (f:Int×ByteArray) (w:World):Prop:=
 ∀ z,Below w.heap.size w z->Calls prog 66 #[.slice A n c,.int .i64 off,.int .i64 t] z fun e w'=>e= .returned (.tuple #[.int .i64 f.1,.string f.2])/\Below z.heap.size z w'
section
variable (x:Era) (A:Option Addr) (n c:Nat) (t:Int) (w:World)
theorem none_any:Calls prog 197 #[.agg (eraV x A n c),.int .i64 t] w fun e w'=>e= .returned (.tuple #[.int .i64 0,.string ⟨#[]⟩])/\Below w.heap.size w w':=by
 simp only [eraV];go_enter func197,ntmps197
 go_wp2_with fail
 go_ret2
 exact ⟨rfl,(Below.refl _ _).alloc (Nat.le_refl _) _⟩
theorem fixed_any:Calls prog 198 #[.agg (eraV x A n c),.int .i64 t] w fun e w'=>e= .returned (.tuple #[.int .i64 x.save,.string ⟨#[]⟩])/\Below w.heap.size w w':=by
 have hone:=One.new w 120 (eraV x A n c);simp only [eraV] at hone ⊢;obtain ⟨W,hW⟩:∃ W,w.alloc (.cells #[.int .i64 x.off,.int .i64 x.kind,.int .i64 x.save,.string x.rules,.string x.format,.bool x.till,.int .i64 x.year,.int .i64 x.spot.month,.int .i64 x.spot.kind,.int .i64 x.spot.weekday,.int .i64 x.spot.day,.int .i64 x.spot.time,.int .i64 x.spot.ref,.slice A n c] 120)=W:=⟨_,rfl⟩;rw [hW] at hone;have HO:=hid hone;have c0:=hone.1.cell;clear hone;go_enter func198,ntmps198
 go_wp2_with fail
 go_ret2
 exact ⟨rfl,HO.out.2⟩
theorem ruled_any (f:Int×ByteArray) (hF:ForceAt A n c x.off t f w):Calls prog 199 #[.agg (eraV x A n c),.int .i64 t] w fun e w'=>e= .returned (.tuple #[.int .i64 f.1,.string f.2])/\Below w.heap.size w w':=by
 have hone:=One.new w 120 (eraV x A n c);simp only [eraV] at hone ⊢;obtain ⟨W,hW⟩:∃ W,w.alloc (.cells #[.int .i64 x.off,.int .i64 x.kind,.int .i64 x.save,.string x.rules,.string x.format,.bool x.till,.int .i64 x.year,.int .i64 x.spot.month,.int .i64 x.spot.kind,.int .i64 x.spot.weekday,.int .i64 x.spot.day,.int .i64 x.spot.time,.int .i64 x.spot.ref,.slice A n c] 120)=W:=⟨_,rfl⟩;rw [hW] at hone;have HO:=hid hone;have HF:=hid hF;have c0:=hone.1.cell;clear hone hF;go_enter func199,ntmps199
 go_wp2_with (go_at_call 66;refine (HF.out _ HO.out.2).mono ?_;rintro e w1 ⟨rfl,hb⟩;have HB:=hid (HO.out.step hb);clear hb)
 go_ret2
 exact ⟨rfl,HB.out.2⟩
end
theorem sav0 (w:World):(Instr.index 219 (.agg #[Value.func (Fn.func 197) #[] #[],Value.func (Fn.func 198) #[] #[],Value.func (Fn.func 199) #[] #[]]) (.int .i64 0)).run prog w= .ok (Value.func (Fn.func 197) #[] #[]) w:=by kernel_rfl
theorem sav1 (w:World):(Instr.index 219 (.agg #[Value.func (Fn.func 197) #[] #[],Value.func (Fn.func 198) #[] #[],Value.func (Fn.func 199) #[] #[]]) (.int .i64 1)).run prog w= .ok (Value.func (Fn.func 198) #[] #[]) w:=by kernel_rfl
theorem sav2 (w:World):(Instr.index 219 (.agg #[Value.func (Fn.func 197) #[] #[],Value.func (Fn.func 198) #[] #[],Value.func (Fn.func 199) #[] #[]]) (.int .i64 2)).run prog w= .ok (Value.func (Fn.func 199) #[] #[]) w:=by kernel_rfl
theorem saving_any (x:Era) (A:Option Addr) (n c:Nat) (t:Int) (f:Int×ByteArray) (w:World) (hk:x.kind=0\/x.kind=1\/x.kind=2) (hF:x.kind=2->ForceAt A n c x.off t f w):
  Calls prog 141 #[.agg (eraV x A n c),.int .i64 t] w fun e w'=>e= .returned (.tuple #[.int .i64 (savV x f).1,.string (savV x f).2])/\Below w.heap.size w w':=by
 have hone:=One.new w 120 (eraV x A n c);have hN:∀ z,Calls _ _ _ z _:=fun z=>none_any x A n c t z;have hX:∀ z,Calls _ _ _ z _:=fun z=>fixed_any x A n c t z;have hR:=fun (h:x.kind=2) z (hb:Below w.heap.size w z)=>ruled_any x A n c t z f (fun z2 hb2=>hF h z2 (hb.trans (hb2.mono hb.size)));clear hF;obtain ⟨x0,x1,x2,x3,x4,x5,x6,⟨y0,y1,y2,y3,y4,y5⟩⟩:=x;unfold savV;simp only [eraV] at hone hk hN hX hR ⊢;obtain ⟨W,hW⟩:∃ W,w.alloc (.cells #[.int .i64 x0,.int .i64 x1,.int .i64 x2,.string x3,.string x4,.bool x5,.int .i64 x6,.int .i64 y0,.int .i64 y1,.int .i64 y2,.int .i64 y3,.int .i64 y4,.int .i64 y5,.slice A n c] 120)=W:=⟨_,rfl⟩;rw [hW] at hone;have hOb:=hone.2;have inst:Nonempty (Qt.In (Below W.heap.size W)):=⟨⟨_,Below.refl _ _⟩⟩;have hlt:=hone.1.lt
 rcases hk with rfl|rfl|rfl
 ·have zc:∀ (z:Qt.In (Below W.heap.size W)) (i:Nat),z.w.cell? ⟨w.heap.size,i,none⟩=#[Value.int .i64 x0,.int .i64 0,.int .i64 x2,.string x3,.string x4,.bool x5,.int .i64 x6,.int .i64 y0,.int .i64 y1,.int .i64 y2,.int .i64 y3,.int .i64 y4,.int .i64 y5,.slice A n c][i]?:=fun z i=>(z.h.cell (p:=⟨w.heap.size,i,none⟩) hlt).trans (hone.1.cell i)
  have HC:Hid (∀ z,Below W.heap.size W z->Calls prog 197 #[.agg #[.int .i64 x0,.int .i64 0,.int .i64 x2,.string x3,.string x4,.bool x5,.int .i64 x6,.int .i64 y0,.int .i64 y1,.int .i64 y2,.int .i64 y3,.int .i64 y4,.int .i64 y5,.slice A n c],.int .i64 t] z fun e z'=>e= .returned (.tuple #[.int .i64 0,.string ⟨#[]⟩])/\Below W.heap.size W z'):=fun z h=>(hN z).mono fun e z' ⟨he,hb⟩=>⟨he,h.trans (hb.mono h.size)⟩;have hs:=sav0;have HOb:=hid hOb
  rw [if_neg (by decide),if_neg (by decide)]
  clear hN hX hR hone hOb;go_enter func141,ntmps141
  go_wp2_with fail
  refine Qt.wp_region_cls (Below W.heap.size W) (by kernel_rfl) (by kernel_rfl) (below_dr (n:=1) (Below.refl _ _)) ?_
  repeat (go_big_quiet_step ((go_at_call 197;exact Qt.quiet_cls (HC.out _ (Qt.In.h _)))))
  refine wpQuiet_nil ?_
  rintro wq ⟨⟨w9,hq⟩,e9⟩
  have HQ:Hid (Below w.heap.size w wq):=HOb.out.trans ((show Below W.heap.size W wq by rw [e9];exact hq).mono HOb.out.size)
  clear hq e9 zc hs inst;go_wp2
  go_ret2
  exact ⟨rfl,HQ.out⟩
 ·have zc:∀ (z:Qt.In (Below W.heap.size W)) (i:Nat),z.w.cell? ⟨w.heap.size,i,none⟩=#[Value.int .i64 x0,.int .i64 1,.int .i64 x2,.string x3,.string x4,.bool x5,.int .i64 x6,.int .i64 y0,.int .i64 y1,.int .i64 y2,.int .i64 y3,.int .i64 y4,.int .i64 y5,.slice A n c][i]?:=fun z i=>(z.h.cell (p:=⟨w.heap.size,i,none⟩) hlt).trans (hone.1.cell i)
  have HC:Hid (∀ z,Below W.heap.size W z->Calls prog 198 #[.agg #[.int .i64 x0,.int .i64 1,.int .i64 x2,.string x3,.string x4,.bool x5,.int .i64 x6,.int .i64 y0,.int .i64 y1,.int .i64 y2,.int .i64 y3,.int .i64 y4,.int .i64 y5,.slice A n c],.int .i64 t] z fun e z'=>e= .returned (.tuple #[.int .i64 x2,.string ⟨#[]⟩])/\Below W.heap.size W z'):=fun z h=>(hX z).mono fun e z' ⟨he,hb⟩=>⟨he,h.trans (hb.mono h.size)⟩;have hs:=sav1;have HOb:=hid hOb
  rw [if_neg (by decide),if_pos rfl]
  clear hN hX hR hone hOb;go_enter func141,ntmps141
  go_wp2_with fail
  refine Qt.wp_region_cls (Below W.heap.size W) (by kernel_rfl) (by kernel_rfl) (below_dr (n:=1) (Below.refl _ _)) ?_
  repeat (go_big_quiet_step ((go_at_call 198;exact Qt.quiet_cls (HC.out _ (Qt.In.h _)))))
  refine wpQuiet_nil ?_
  rintro wq ⟨⟨w9,hq⟩,e9⟩
  have HQ:Hid (Below w.heap.size w wq):=HOb.out.trans ((show Below W.heap.size W wq by rw [e9];exact hq).mono HOb.out.size)
  clear hq e9 zc hs inst;go_wp2
  go_ret2
  exact ⟨rfl,HQ.out⟩
 ·have zc:∀ (z:Qt.In (Below W.heap.size W)) (i:Nat),z.w.cell? ⟨w.heap.size,i,none⟩=#[Value.int .i64 x0,.int .i64 2,.int .i64 x2,.string x3,.string x4,.bool x5,.int .i64 x6,.int .i64 y0,.int .i64 y1,.int .i64 y2,.int .i64 y3,.int .i64 y4,.int .i64 y5,.slice A n c][i]?:=fun z i=>(z.h.cell (p:=⟨w.heap.size,i,none⟩) hlt).trans (hone.1.cell i)
  have HC:Hid (∀ z,Below W.heap.size W z->Calls prog 199 #[.agg #[.int .i64 x0,.int .i64 2,.int .i64 x2,.string x3,.string x4,.bool x5,.int .i64 x6,.int .i64 y0,.int .i64 y1,.int .i64 y2,.int .i64 y3,.int .i64 y4,.int .i64 y5,.slice A n c],.int .i64 t] z fun e z'=>e= .returned (.tuple #[.int .i64 f.1,.string f.2])/\Below W.heap.size W z'):=fun z h=>(hR rfl z (hOb.trans (h.mono hOb.size))).mono fun e z' ⟨he,hb⟩=>⟨he,h.trans (hb.mono h.size)⟩;have hs:=sav2;have HOb:=hid hOb;rw [if_pos rfl];clear hN hX hR hone hOb;go_enter func141,ntmps141
  go_wp2_with fail
  refine Qt.wp_region_cls (Below W.heap.size W) (by kernel_rfl) (by kernel_rfl) (below_dr (n:=1) (Below.refl _ _)) ?_
  repeat (go_big_quiet_step ((go_at_call 199;exact Qt.quiet_cls (HC.out _ (Qt.In.h _)))))
  refine wpQuiet_nil ?_
  rintro wq ⟨⟨w9,hq⟩,e9⟩
  have HQ:Hid (Below w.heap.size w wq):=HOb.out.trans ((show Below W.heap.size W wq by rw [e9];exact hq).mono HOb.out.size)
  clear hq e9 zc hs inst;go_wp2
  go_ret2
  exact ⟨rfl,HQ.out⟩
theorem phase_results {w:World} {R0:Nat} {a0 a1 a2:Value} (h:Blk w R0 30 #[a0,a1,a2]) (tmps:Array Value) (ht:tmps[4]?=some (.pointer (some ⟨R0,0,none⟩))):(results Tryz.f83 tmps).run prog w= .ok (.agg #[a0,a1,a2]) w:=by
 have hc:=h.cell;simp [results,Tryz.results83,go_sem,hc,ht]
theorem ephase_results {w:World} {R0:Nat} {b:Bool} {a0 a1 a2:Value} (h:Blk w R0 30 #[a0,a1,a2]) (tmps:Array Value) (ht:tmps[8]?=some (.pointer (some ⟨R0,0,none⟩))) (h9:tmps[9]?=some (.bool b)):(results Tryz.f38 tmps).run prog w= .ok (.tuple #[.agg #[a0,a1,a2],.bool b]) w:=by
 have hc:=h.cell;simp [results,Tryz.results38,go_sem,hc,ht,h9]
def phaseV (x:Era) (f:Int×ByteArray):Phase:=⟨x.off+(savV x f).1,(savV x f).1,abbrB x.format (savV x f).2 (x.off+(savV x f).1) (savV x f).1⟩
theorem phase_any (x:Era) (A:Option Addr) (n c:Nat) (t m:Int) (f:Int×ByteArray) (w:World) (hm:w.cell? ⟨0,0,none⟩=some (.int .i64 m)) (hk:x.kind=0\/x.kind=1\/x.kind=2) (hF:x.kind=2->ForceAt A n c x.off t f w)
  (ho: -86400<x.off/\x.off<86400) (hs: -43200<=(savV x f).1/\(savV x f).1<=43200) (hl:(savV x f).2.size<=2097152) (hfm:x.format.size<=2097152):
  Calls prog 83 #[.agg (eraV x A n c),.int .i64 t] w fun e w'=>e= .returned (.agg #[.int .i64 (phaseV x f).off,.int .i64 (phaseV x f).save,.string (phaseV x f).abbr])/\Below w.heap.size w w':=by
 have hS:=fun z (hb:Below w.heap.size w z)=>saving_any x A n c t f z hk (fun h z2 hb2=>hF h z2 (hb.trans (hb2.mono hb.size)))
 have hAb:=fun z (hb:Below w.heap.size w z)=>abbr_any x.format (savV x f).2 (x.off+(savV x f).1) (savV x f).1 m z hfm hl (by omega) (by omega) (cell_later hb hm)
 unfold phaseV;clear hF hk hm;generalize (savV x f).1=sv at*;generalize (savV x f).2=lt at*
 have hw: -9223372036854775808<=x.off+sv/\x.off+sv<=9223372036854775807:=by omega
 obtain ⟨x0,x1,x2,x3,x4,x5,x6,⟨y0,y1,y2,y3,y4,y5⟩⟩:=x;have hb2:=box2 w 120 30 (eraV ⟨x0,x1,x2,x3,x4,x5,x6,⟨y0,y1,y2,y3,y4,y5⟩⟩ A n c) #[.int .i64 0,.int .i64 0,.string ⟨#[]⟩];simp only [eraV] at hb2 hS hAb ho hw ⊢;generalize abbrB x4 lt (x0+sv) sv=ab at*;obtain ⟨W,hW⟩:∃ W,(w.alloc (.cells #[.int .i64 x0,.int .i64 x1,.int .i64 x2,.string x3,.string x4,.bool x5,.int .i64 x6,.int .i64 y0,.int .i64 y1,.int .i64 y2,.int .i64 y3,.int .i64 y4,.int .i64 y5,.slice A n c] 120)).alloc (.cells #[.int .i64 0,.int .i64 0,.string ⟨#[]⟩] 30)=W:=⟨_,rfl⟩;rw [hW] at hb2;obtain ⟨b0,b1,hbw,hsz⟩:=hb2;have HB0:=hid b0;have HB1:=hid b1;have HBw:=hid hbw;have HS:=hid hS;have HAb:=hid hAb;have c0:=b0.cell;obtain ⟨hw1,hw2⟩:=hw;obtain ⟨ho1,ho2⟩:=ho;obtain ⟨hs1,hs2⟩:=hs;clear b0 b1 hbw hS hAb hl hfm;go_enter func83,ntmps83
 go_wp2_with (first
  |(go_at_call 141;refine (HS.out _ HBw.out).mono ?_;rintro e w1 ⟨rfl,hb⟩;have hx0:=HB0.out.below hb HB0.out.lt;have d0:=hx0.cell;have HX0:=hid hx0;have HX1:=hid (HB1.out.below hb HB1.out.lt);have HBx:=hid (HBw.out.trans (hb.mono HBw.out.size));clear hb hx0 c0)
  |(go_at_call 43;refine (HAb.out _ HBx.out).mono ?_;rintro e w2 ⟨rfl,hb⟩;have hx1:=HX1.out.below hb HX1.out.lt;have d1:=hx1.cell;have f1:=hx1.frozen;have HY1:=hid hx1;have HBy:=hid (HBx.out.trans (hb.mono HBx.out.size));clear hb hx1 d0))
 refine bodyPost_ret (phase_results (((HY1.out.set_ 0 (.int .i64 (x0+sv))).set_ 1 (.int .i64 sv)).set_ 2 (.string ab)) _ rfl) rfl ?_
 exact ⟨rfl,(((HBy.out.setCell (le1 _) _).setCell (le1 _) _).setCell (le1 _) _)⟩
theorem ephase_any (s:Src) (A A2 A3:Option Addr) (c c2 c3:Nat) (m t:Int) (f:Int×ByteArray) (i j:Nat) (w:World) (h:SrcOk s A A2 A3 w) (hm:w.cell? ⟨0,0,none⟩=some (.int .i64 m)) (hs:srcB s=true) (hi:i<s.zones.length) (hj:j<(s.zones[i]'hi).eras.length) (x:Era) (hx:x=(s.zones[i]'hi).eras[j]'hj)
  (hF:x.kind=2->∀ Ae ce z,Reads z z.heap.size 11 Ae (setOf s.rules x).length ((setOf s.rules x).flatMap Rule.cells)->ForceAt Ae (setOf s.rules x).length ce x.off t f z)
  (hk:x.kind=0\/x.kind=1\/x.kind=2) (ho: -86400<x.off/\x.off<86400) (hsv: -43200<=(savV x f).1/\(savV x f).1<=43200) (hl:(savV x f).2.size<=2097152) (hfm:x.format.size<=2097152):
  Calls prog 38 #[.agg #[.slice A s.rules.length c,.slice A2 s.zones.length c2,.slice A3 s.links.length c3],.int .i64 i,.int .i64 j,.int .i64 t] w fun e w'=>
   e= .returned (.tuple #[.agg #[.int .i64 (phaseV x f).off,.int .i64 (phaseV x f).save,.string (phaseV x f).abbr],.bool true])/\Below w.heap.size w w':=by
 have hFi:=fun z (hb:Below w.heap.size w z)=>find_yes s A A2 A3 c c2 c3 m i j z (h.below hb) (cell_later hb hm) hs hi hj;rw [<-hx] at hFi;have hPh:=fun Ae ce z (hbz:Below w.heap.size w z) (hr:Reads z z.heap.size 11 Ae (setOf s.rules x).length ((setOf s.rules x).flatMap Rule.cells))=>phase_any x Ae (setOf s.rules x).length ce t m f z (cell_later hbz hm) hk (fun h=>hF h Ae ce z hr) ho hsv hl hfm;clear h hm hs hx hF hk ho hsv hl hfm;generalize setOf s.rules x=L at*;generalize phaseV x f=ph at*;obtain ⟨p0,p1,p2⟩:=ph;obtain ⟨x0,x1,x2,x3,x4,x5,x6,⟨y0,y1,y2,y3,y4,y5⟩⟩:=x;simp only [eraV] at hFi hPh ⊢;have HPh:=hid hPh;have hb2:=box2 w 26 30 #[.slice A s.rules.length c,.slice A2 s.zones.length c2,.slice A3 s.links.length c3] #[.int .i64 0,.int .i64 0,.string ⟨#[]⟩];obtain ⟨W,hW⟩:∃ W,(w.alloc (.cells #[.slice A s.rules.length c,.slice A2 s.zones.length c2,.slice A3 s.links.length c3] 26)).alloc (.cells #[.int .i64 0,.int .i64 0,.string ⟨#[]⟩] 30)=W:=⟨_,rfl⟩;rw [hW] at hb2;obtain ⟨b0,b1,hbw,hsz⟩:=hb2;have HB1:=hid b1;have HBw:=hid hbw;have HFi:=hid hFi;have c0:=b0.cell;clear b0 b1 hbw hFi hPh hsz;go_enter func38,ntmps38
 go_wp2_with (first
  |(go_at_call 82;refine (HFi.out _ HBw.out).mono ?_;rintro e w1 ⟨Ae,ce,rfl,hrd,hb⟩;have hbx:=HBw.out.trans (hb.mono HBw.out.size);have HX1:=hid (HB1.out.below hb HB1.out.lt);have HBx:=hid hbx;have HRd:=hid hrd;clear hb hrd hbx c0)
  |(go_at_call 83;refine (HPh.out _ _ _ (HBx.out.alloc HBx.out.size _) ((HRd.out.below ((Below.refl _ _).alloc (Nat.le_refl _) _)).more (by simp))).mono ?_;rintro e w2 ⟨rfl,hb⟩;have hx1:=(HX1.out.alloc _).below hb (by have:=HX1.out.lt;simp;omega);have d1:=hx1.cell;have f1:=hx1.frozen;have HY1:=hid hx1;have HBy:=hid ((HBx.out.alloc HBx.out.size _).trans (hb.mono (by have:=HBx.out.size;simp;omega)));clear hb hx1))
 refine bodyPost_ret (ephase_results (((HY1.out.set_ 0 (.int .i64 p0)).set_ 1 (.int .i64 p1)).set_ 2 (.string p2)) _ rfl rfl) rfl ?_
 exact ⟨rfl,(((HBy.out.setCell (le1 _) _).setCell (le1 _) _).setCell (le1 _) _)⟩
end Cmq
end
end
end Go.Proofs.YtadamccojdocbaaGreatDoor
