/-
  Contracts of the code that the law reaches, and plain laws. Conditions: as each says.
-/
import Derived.Test.YtmlejgdohcpmjaaGreatDoorV06
import Derived.Test.YtmlejgdohcpmjaaGreatDoorV04
set_option linter.all false
set_option maxHeartbeats 40000000
set_option maxRecDepth 100000
namespace Go.Proofs.YtmlejgdohcpmjaaGreatDoor
open Lib (hid)
open Tryz
section
section
namespace Src
open Go.RowKit Mem Civ Mom Img Plc Rul
theorem flat_cells {α:Type} (f:α->List Value) (m:Nat) (hf:∀ x,(f x).length=m) {w:World} {B n:Nat} {A:Option Addr} {ss:List α} (h:Reads w B m A n (ss.flatMap f)) {k:Nat} (hk:k<ss.length) (hn:ss.length=n) (hm:0<m):
  ∃ ad,A=some ad/\ad.block<B/\(∀ u,(f ss[k])[0]?=some u->w.cell? (ad.add (k*m))=some u)/\∀ j u,0<j->j<m->(f ss[k])[j]?=some u->w.cell? ⟨(ad.add (k*m)).block,(ad.add (k*m)).off+j,none⟩=some u:=by
 obtain ⟨ad,e,hb,hc⟩:=h.2 (by omega)
 have g:∀ j,j<m->(ss.flatMap f)[k*m+j]?=(f ss[k])[j]?:=fun j hj=>by
  rw [flat_get f m hf ss k j hj,List.getElem?_eq_getElem hk];rfl
 refine ⟨ad,e,hb,fun u hu=>hc (k*m) u (by rw [<-hu];exact g 0 hm),fun j u h0 hj hu=>?_⟩
 rw [<-add_pos _ h0,add_of_add]
 exact hc _ _ (by rw [<-hu];exact g j hj)
theorem zone_cells {w:World} {B n:Nat} {A:Option Addr} {ss:List ZoneM} (h:Reads w B 2 A n (ss.flatMap ZoneM.cells)) {k:Nat} (hk:k<ss.length) (hn:ss.length=n):
  ∃ ad,A=some ad/\ad.block<B/\w.cell? (ad.add (k*2))=some (.string ss[k].name)/\w.cell? ⟨(ad.add (k*2)).block,(ad.add (k*2)).off+1,none⟩=some (.slice ss[k].A ss[k].eras.length ss[k].c):=by
 obtain ⟨ad,e,hb,h0,h1⟩:=flat_cells ZoneM.cells 2 (fun _=>rfl) h hk hn (by omega)
 exact ⟨ad,e,hb,h0 _ rfl,h1 1 _ (by omega) (by omega) rfl⟩
theorem link_cells {w:World} {B n:Nat} {A:Option Addr} {ss:List Link} (h:Reads w B 2 A n (ss.flatMap Link.cells)) {k:Nat} (hk:k<ss.length) (hn:ss.length=n):
  ∃ ad,A=some ad/\ad.block<B/\w.cell? (ad.add (k*2))=some (.string ss[k].target)/\w.cell? ⟨(ad.add (k*2)).block,(ad.add (k*2)).off+1,none⟩=some (.string ss[k].name):=by
 obtain ⟨ad,e,hb,h0,h1⟩:=flat_cells Link.cells 2 (fun _=>rfl) h hk hn (by omega)
 exact ⟨ad,e,hb,h0 _ rfl,h1 1 _ (by omega) (by omega) rfl⟩
theorem era_cells {w:World} {B n:Nat} {A:Option Addr} {ss:List Era} (h:Reads w B 13 A n (ss.flatMap Era.cells)) {k:Nat} (hk:k<ss.length) (hn:ss.length=n):
  ∃ ad,A=some ad/\ad.block<B/\w.cell? (ad.add (k*13))=some (.int .i64 ss[k].off)/\
   w.cell? ⟨(ad.add (k*13)).block,(ad.add (k*13)).off+1,none⟩=some (.int .i64 ss[k].kind)/\w.cell? ⟨(ad.add (k*13)).block,(ad.add (k*13)).off+2,none⟩=some (.int .i64 ss[k].save)/\
   w.cell? ⟨(ad.add (k*13)).block,(ad.add (k*13)).off+3,none⟩=some (.string ss[k].rules)/\w.cell? ⟨(ad.add (k*13)).block,(ad.add (k*13)).off+4,none⟩=some (.string ss[k].format)/\
   w.cell? ⟨(ad.add (k*13)).block,(ad.add (k*13)).off+5,none⟩=some (.bool ss[k].till)/\w.cell? ⟨(ad.add (k*13)).block,(ad.add (k*13)).off+6,none⟩=some (.int .i64 ss[k].year)/\
   w.cell? ⟨(ad.add (k*13)).block,(ad.add (k*13)).off+7,none⟩=some (.int .i64 ss[k].spot.month)/\w.cell? ⟨(ad.add (k*13)).block,(ad.add (k*13)).off+8,none⟩=some (.int .i64 ss[k].spot.kind)/\
   w.cell? ⟨(ad.add (k*13)).block,(ad.add (k*13)).off+9,none⟩=some (.int .i64 ss[k].spot.weekday)/\w.cell? ⟨(ad.add (k*13)).block,(ad.add (k*13)).off+10,none⟩=some (.int .i64 ss[k].spot.day)/\
   w.cell? ⟨(ad.add (k*13)).block,(ad.add (k*13)).off+11,none⟩=some (.int .i64 ss[k].spot.time)/\w.cell? ⟨(ad.add (k*13)).block,(ad.add (k*13)).off+12,none⟩=some (.int .i64 ss[k].spot.ref):=by
 obtain ⟨ad,e,hb,h0,h1⟩:=flat_cells Era.cells 13 (fun _=>rfl) h hk hn (by omega)
 exact ⟨ad,e,hb,h0 _ rfl,h1 1 _ (by omega) (by omega) rfl,h1 2 _ (by omega) (by omega) rfl,h1 3 _ (by omega) (by omega) rfl,h1 4 _ (by omega) (by omega) rfl,h1 5 _ (by omega) (by omega) rfl,h1 6 _ (by omega) (by omega) rfl,h1 7 _ (by omega) (by omega) rfl,h1 8 _ (by omega) (by omega) rfl,h1 9 _ (by omega) (by omega) rfl,h1 10 _ (by omega) (by omega) rfl,h1 11 _ (by omega) (by omega) rfl,h1 12 _ (by omega) (by omega) rfl⟩
theorem all_step {α:Type} (p:α->Bool) (l:List α) (k:Nat) (hk:k<l.length) (h:(l.take k).all p=true):(l.take (k+1)).all p=p l[k]:=by
 rw [List.take_succ_eq_append_getElem hk,List.all_append,h];simp
theorem all_no {α:Type} (p:α->Bool) (l:List α) (k:Nat) (hk:k<l.length) (h:p l[k]=false):l.all p=false:=
 List.all_eq_false.2 ⟨l[k],List.getElem_mem hk,by rw [h];decide⟩
theorem erasOk_no {es:List Era} {j:Nat} (hj:j<es.length) (h:erasOk es (j+1)=false):erasOk es es.length=false:=by
 obtain ⟨d,hd⟩:∃ d,es.length=j+1+d:=⟨es.length - (j+1),by omega⟩
 have:∀ d,erasOk es (j+1+d)=false:=by
  intro d
  induction d with
  |zero=>exact h
  |succ d ih=>rw [<-Nat.add_assoc,erasOk,ih,Bool.false_and]
 rw [hd];exact this d
theorem right_any (s:Src) (A A2 A3:Option Addr) (c c2 c3:Nat) (m:Int) (w:World) (h:SrcOk s A A2 A3 w) (hm:w.cell? ⟨0,0,none⟩=some (.int .i64 m)):
  Calls prog 85 #[.agg #[.slice A s.rules.length c,.slice A2 s.zones.length c2,.slice A3 s.links.length c3]] w fun e w'=>e= .returned (.bool (srcB s))/\Below w.heap.size w w':=by
 have hone:=One.new w 82 #[.slice A s.rules.length c,.slice A2 s.zones.length c2,.slice A3 s.links.length c3];have H:=hid h;have HM:=hid hm;have nr:=h.nr;have nz:=h.nz;have nl:=h.nl;clear h hm;obtain ⟨Q,hQ⟩:∃ Q,srcB s=Q:=⟨_,rfl⟩;rw [hQ];unfold srcB at hQ;obtain ⟨rs,zs,ls⟩:=s;simp only at H nr nz nl hQ hone ⊢;obtain ⟨W,hW⟩:∃ W,w.alloc (.cells #[.slice A rs.length c,.slice A2 zs.length c2,.slice A3 ls.length c3] 82)=W:=⟨_,rfl⟩;rw [hW] at hone;have HO:=hid hone;have c0:=hone.1.cell;clear hone;go_enter func85,ntmps85
 by_cases g1:200<rs.length
 ·rw [decide_eq_true g1] at hQ
  have hq:Q=false:=hQ.symm;subst hq;clear hQ;go_wp2;go_ret;exact ⟨rfl,HO.out.2⟩
 by_cases g2:50<zs.length
 ·rw [decide_eq_false g1,decide_eq_true g2] at hQ
  have hq:Q=false:=hQ.symm;subst hq;clear hQ;go_wp2;go_ret;exact ⟨rfl,HO.out.2⟩
 by_cases g3:100<ls.length
 ·rw [decide_eq_false g1,decide_eq_false g2,decide_eq_true g3] at hQ
  have hq:Q=false:=hQ.symm;subst hq;clear hQ;go_wp2;go_ret;exact ⟨rfl,HO.out.2⟩
 rw [decide_eq_false g1,decide_eq_false g2,decide_eq_false g3] at hQ;have HQ:Hid ((rs.all ruleR && (zs.all zoneB && ls.all linkB))=Q):=hQ;clear hQ
 go_wp2_with fail
 clear c0;obtain ⟨CS,hCS⟩:∃ CS:Array Value,#[Value.slice A rs.length c,.slice A2 zs.length c2,.slice A3 ls.length c3]=CS:=⟨_,rfl⟩;rw [hCS] at HO;have HCS:=hid hCS;clear hCS
 go_loopw [30] (fun i wr=>∃ k:Nat,k<=rs.length/\i= .int .i64 k/\(rs.take k).all ruleR=true/\One w w.heap.size 82 CS wr) (fun i _=>rs.length - (intOf i).toNat)
 case atStart=>exact ⟨0,Nat.zero_le _,rfl,rfl,HO.out⟩
 case round=>
  obtain ⟨k,hk,rfl,hall,hone⟩:=hrel;have Hall:=hid hall;have HOr:=hid hone;clear hall hone HO;obtain ⟨wo,rfl⟩:∃ wo:World,wo=wr:=⟨_,rfl⟩
  by_cases hkn:k<rs.length
  ·obtain ⟨ad,hA,hadb,a0,a1,a2,a3,a4,a5,a6,a7,a8,a9,a10⟩:=rule_cells (H.out.rr.below HOr.out.2) hkn
   subst hA;have hst:=all_step ruleR rs k hkn Hall.out;have hno:=all_no ruleR rs k hkn;have htr:=H.out.tr rs[k] (List.getElem_mem hkn);have Hr:=hid (fun z=>ruleRight_any rs[k] z htr.1 htr.2);have Hst:=hid hst;have Hno:=hid hno;clear hst hno htr;simp only [Rule.cells] at Hr;generalize ruleR rs[k]=b at*;generalize rs[k]=x at*;have hox:=HOr.out.step ((Below.refl _ _).alloc (Nat.le_refl _) (.cells #[.string x.name,.int .i64 x.lo,.int .i64 x.hi,.int .i64 x.month,.int .i64 x.kind,.int .i64 x.weekday,.int .i64 x.day,.int .i64 x.time,.int .i64 x.ref,.int .i64 x.save,.string x.letter] 69));have HOx:=hid hox;clear hox
   cases b
   ·have hq:Q=false:=by rw [<-HQ.out,Hno.out rfl,Bool.false_and]
    subst hq;clear HQ
    go_wp2_with (go_at_call 118;refine (Hr.out _).mono ?_;rintro e w2 ⟨rfl,hb⟩;have HB:=hid (HOx.out.step hb);clear hb)
    go_ret;exact ⟨rfl,HB.out.2⟩
   ·go_wp2_with (go_at_call 118;refine (Hr.out _).mono ?_;rintro e w2 ⟨rfl,hb⟩;have HB:=hid (HOx.out.step hb);clear hb)
    exact ⟨⟨k+1,by omega,by go_num,Hst.out,HB.out⟩,by simp [intOf];omega⟩
  ·obtain rfl:k=rs.length:=by omega
   have hq:=HQ.out;rw [List.take_length] at Hall;rw [Hall.out,Bool.true_and] at hq;have HQ2:=hid hq;clear hq HQ Hall;have c0:=HOr.out.1.cell;rw [<-HCS.out] at c0
   go_wp2_with fail
   clear c0
   go_loopw [41] (fun i wr=>∃ k:Nat,k<=zs.length/\i= .int .i64 k/\(zs.take k).all zoneB=true/\One w w.heap.size 82 CS wr) (fun i _=>zs.length - (intOf i).toNat)
   case atStart=>exact ⟨0,Nat.zero_le _,rfl,rfl,HOr.out⟩
   case round=>
    obtain ⟨k,hk,rfl,hall,hone⟩:=hrel;have Hall:=hid hall;have HOr2:=hid hone;clear hall hone HOr;clear wo;obtain ⟨wo,rfl⟩:∃ wo:World,wo=wr:=⟨_,rfl⟩
    by_cases hkn:k<zs.length
    ·obtain ⟨ad,hA,hadb,a0,a1⟩:=zone_cells (H.out.rz.below HOr2.out.2) hkn rfl
     subst hA;have hst:=all_step zoneB zs k hkn Hall.out;have hno:=all_no zoneB zs k hkn;have htz:=H.out.tz zs[k] (List.getElem_mem hkn);have hte:=H.out.te zs[k] (List.getElem_mem hkn);have hre:=H.out.re zs[k] (List.getElem_mem hkn);have hne:=H.out.ne zs[k] (List.getElem_mem hkn);have Hst:=hid hst;have Hno:=hid hno;have Hte:=hid hte;have Hre:=hid hre;clear hst hno hte hre;generalize hz:zs[k]=z at*;have hzb:zoneB z=(placeB z.name && (!(((z.eras.length:Nat):Int) == 0) && (!decide ((40:Int)<(z.eras.length:Nat)) && erasOk z.eras z.eras.length))):=rfl;generalize zoneB z=b at*;have Hzb:=hid hzb;clear hzb hz;obtain ⟨zn,es,zA,zc⟩:=z;simp only at a0 a1 htz hne Hte Hre Hzb;have Hp:=hid (fun z (h:z.cell? ⟨0,0,none⟩=some (.int .i64 m))=>place_any zn m z htz h);have hox:=HOr2.out.step ((Below.refl _ _).alloc (Nat.le_refl _) (.cells #[.string zn,.slice zA es.length zc] 124));have hzblk:=Blk.new wo 124 #[.string zn,.slice zA es.length zc];have HOx:=hid hox;have HZ:=hid hzblk;have HMx:=hid (cell_later hox.2 HM.out);have cz:=hzblk.cell;clear hox hzblk;generalize placeB zn=b1 at*
     cases b1
     ·have hbf:b=false:=by rw [Hzb.out];rfl
      have hq:Q=false:=by rw [<-HQ2.out,Hno.out hbf,Bool.false_and]
      subst hq;clear HQ2 Hst Hno Hzb
      go_wp2_with (go_at_call 52;refine (Hp.out _ HMx.out).mono ?_;rintro e w2 ⟨rfl,hb⟩;have HB:=hid (HOx.out.step hb);clear hb)
      go_ret;exact ⟨rfl,HB.out.2⟩
     by_cases he0:es.length=0
     ·have he1:(((es.length:Nat):Int) == 0)=true:=by rw [he0];rfl
      have hbf:b=false:=by rw [Hzb.out,he1];rfl
      have hq:Q=false:=by rw [<-HQ2.out,Hno.out hbf,Bool.false_and]
      subst hq;clear HQ2 Hst Hno Hzb he0
      go_wp2_with (go_at_call 52;refine (Hp.out _ HMx.out).mono ?_;rintro e w2 ⟨rfl,hb⟩;have cz2:=fun i=>(HZ.out.below hb HZ.out.lt).cell i;have HB:=hid (HOx.out.step hb);clear hb)
      go_ret;exact ⟨rfl,HB.out.2⟩
     have he1:(((es.length:Nat):Int) == 0)=false:=by rw [beq_eq_false_iff_ne];omega
     by_cases he2:40<es.length
     ·have hbf:b=false:=by rw [Hzb.out,he1,decide_eq_true (show (40:Int)<(es.length:Nat) by omega)];rfl
      have hq:Q=false:=by rw [<-HQ2.out,Hno.out hbf,Bool.false_and]
      subst hq;clear HQ2 Hst Hno Hzb
      go_wp2_with (go_at_call 52;refine (Hp.out _ HMx.out).mono ?_;rintro e w2 ⟨rfl,hb⟩;have cz2:=fun i=>(HZ.out.below hb HZ.out.lt).cell i;have HB:=hid (HOx.out.step hb);clear hb)
      go_ret;exact ⟨rfl,HB.out.2⟩
     have hzb:b=erasOk es es.length:=by rw [Hzb.out,he1,decide_eq_false (show ¬ (40:Int)<(es.length:Nat) by omega)];rfl
     have Hzb2:=hid hzb;clear hzb Hzb
     go_wp2_with (go_at_call 52;refine (Hp.out _ HMx.out).mono ?_;rintro e w2 ⟨rfl,hb⟩;have cz2:=fun i=>(HZ.out.below hb HZ.out.lt).cell i;have HZ2:=hid (HZ.out.below hb HZ.out.lt);have HB:=hid (HOx.out.step hb);clear hb)
     clear cz2;have hcut:Below w.heap.size w wo:=HOr2.out.2;have HBo:=hid hcut;clear hcut
     go_loopw [64] (fun i wr=>∃ j:Nat,j<=es.length/\i= .int .i64 j/\erasOk es j=true/\One w w.heap.size 82 CS wr/\Blk wr wo.heap.size 124 #[.string zn,.slice zA es.length zc]) (fun i _=>es.length - (intOf i).toNat)
     case atStart=>exact ⟨0,Nat.zero_le _,rfl,rfl,HB.out,HZ2.out⟩
     case round=>
      obtain ⟨j,hj,rfl,hok,hone,hzk⟩:=hrel;have Hok:=hid hok;have HOj:=hid hone;have HZj:=hid hzk;clear hok hone hzk HB HZ2;obtain ⟨wi,rfl⟩:∃ wi:World,wi=wr:=⟨_,rfl⟩
      by_cases hjn:j<es.length
      ·obtain ⟨ad3,hA3,had3,d0,d1,d2,d3,d4,d5,d6,d7,d8,d9,d10,d11,d12⟩:=era_cells (Hre.out.below HOj.out.2) hjn rfl
       subst hA3;have hte:=Hte.out es[j] (List.getElem_mem hjn)
       have hst:erasOk es (j+1)=(eraB es[j] && (es[j].till == decide (((j:Nat):Int)<(es.length:Int) - 1))):=by rw [erasOk,Hok.out,List.getElem?_eq_getElem hjn,Bool.true_and]
       have hno:erasOk es (j+1)=false->b=false:=fun e=>by rw [Hzb2.out];exact erasOk_no hjn e
       have He:=hid (fun z (h:z.cell? ⟨0,0,none⟩=some (.int .i64 m))=>eraRight_any es[j] m z hte.1 hte.2 h);have Hst2:=hid hst;have Hno2:=hid hno;clear hst hno hte;simp only [Era.cells] at He;generalize eraB es[j]=be at*;generalize es[j]=x at*;obtain ⟨x0,x1,x2,x3,x4,x5,x6,⟨y0,y1,y2,y3,y4,y5⟩⟩:=x;simp only at d0 d1 d2 d3 d4 d5 d6 d7 d8 d9 d10 d11 d12 He Hst2;have hbe:=(Below.refl wi.heap.size wi).alloc (Nat.le_refl _) (.cells #[.int .i64 x0,.int .i64 x1,.int .i64 x2,.string x3,.string x4,.bool x5,.int .i64 x6,.int .i64 y0,.int .i64 y1,.int .i64 y2,.int .i64 y3,.int .i64 y4,.int .i64 y5] 84);have hox:=HOj.out.step hbe;have heb:=Blk.new wi 84 #[.int .i64 x0,.int .i64 x1,.int .i64 x2,.string x3,.string x4,.bool x5,.int .i64 x6,.int .i64 y0,.int .i64 y1,.int .i64 y2,.int .i64 y3,.int .i64 y4,.int .i64 y5];have HOe:=hid hox;have HE:=hid heb;have HZe:=hid (HZj.out.below hbe HZj.out.lt);have HMe:=hid (cell_later hox.2 HM.out);clear hbe hox heb
       have hwl:IntKind.i64.wrap ((es.length:Int) - 1)=(es.length:Int) - 1:=IntWalk.i64_in _ (by omega)
       obtain ⟨lb,hlb⟩:∃ lb,decide (((j:Nat):Int)<(es.length:Int) - 1)=lb:=⟨_,rfl⟩;rw [hlb] at Hst2
       cases be
       ·have hq:Q=false:=by rw [<-HQ2.out,Hno.out (Hno2.out (by rw [Hst2.out];rfl)),Bool.false_and]
        subst hq;clear HQ2 Hno Hno2 Hst2 Hst
        go_wp2_with (go_at_call 119;refine (He.out _ HMe.out).mono ?_;rintro e w3 ⟨rfl,hb⟩;have HB3:=hid (HOe.out.step hb);clear hb)
        go_ret;exact ⟨rfl,HB3.out.2⟩
       ·cases hx:(x5 == lb)
        ·have hq:Q=false:=by rw [<-HQ2.out,Hno.out (Hno2.out (by rw [Hst2.out,hx];rfl)),Bool.false_and]
         subst hq;clear HQ2 Hno Hno2 Hst2 Hst
         go_wp2_with (go_at_call 119;refine (He.out _ HMe.out).mono ?_;rintro e w3 ⟨rfl,hb⟩;have HB3:=hid (HOe.out.step hb);have ce:=fun i=>(HE.out.below hb HE.out.lt).cell i;have cz:=fun i=>(HZe.out.below hb HZe.out.lt).cell i;clear hb)
         go_ret;exact ⟨rfl,HB3.out.2⟩
        ·have hst3:erasOk es (j+1)=true:=by rw [Hst2.out,hx];rfl
         have Hst3:=hid hst3;clear Hst2 hst3 Hno2
         go_wp2_with (go_at_call 119;refine (He.out _ HMe.out).mono ?_;rintro e w3 ⟨rfl,hb⟩;have HB3:=hid (HOe.out.step hb);have ce:=fun i=>(HE.out.below hb HE.out.lt).cell i;have cz:=fun i=>(HZe.out.below hb HZe.out.lt).cell i;have HZ3:=hid (HZe.out.below hb HZe.out.lt);clear hb)
         exact ⟨⟨j+1,by omega,by go_num,Hst3.out,HB3.out,HZ3.out⟩,by simp [intOf];omega⟩
      ·obtain rfl:j=es.length:=by omega
       have hbt:b=true:=by rw [Hzb2.out,Hok.out]
       have hst2:(zs.take (k+1)).all zoneB=true:=by rw [Hst.out,hbt]
       have Hst2:=hid hst2;clear hst2 Hst Hno Hzb2;go_wp2
       exact ⟨⟨k+1,by omega,by go_num,Hst2.out,HOj.out⟩,by simp [intOf];omega⟩
    ·obtain rfl:k=zs.length:=by omega
     have hq:=HQ2.out;rw [List.take_length] at Hall;rw [Hall.out,Bool.true_and] at hq;have HQ3:=hid hq;clear hq HQ2 Hall;have c0:=HOr2.out.1.cell;rw [<-HCS.out] at c0
     go_wp2_with fail
     clear c0
     go_loopw [88] (fun i wr=>∃ k:Nat,k<=ls.length/\i= .int .i64 k/\(ls.take k).all linkB=true/\Below w.heap.size w wr) (fun i _=>ls.length - (intOf i).toNat)
     case atStart=>exact ⟨0,Nat.zero_le _,rfl,rfl,HOr2.out.2⟩
     case round=>
      obtain ⟨k,hk,rfl,hall,hb⟩:=hrel;have Hall:=hid hall;have HB:=hid hb;clear hall hb HOr2;clear wo;obtain ⟨wo,rfl⟩:∃ wo:World,wo=wr:=⟨_,rfl⟩
      by_cases hkn:k<ls.length
      ·obtain ⟨ad,hA,hadb,a0,a1⟩:=link_cells (H.out.rl.below HB.out) hkn rfl
       subst hA;have hst:=all_step linkB ls k hkn Hall.out;have hno:=all_no linkB ls k hkn;have htl:=H.out.tl ls[k] (List.getElem_mem hkn);have Hst:=hid hst;have Hno:=hid hno;clear hst hno;generalize hl:ls[k]=l at*;have hlb:linkB l=(placeB l.target && placeB l.name):=rfl;generalize linkB l=b at*;have Hlb:=hid hlb;clear hlb hl;obtain ⟨lt,ln⟩:=l;simp only at a0 a1 htl Hlb;have Hp1:=hid (fun z (h:z.cell? ⟨0,0,none⟩=some (.int .i64 m))=>place_any lt m z htl.1 h);have Hp2:=hid (fun z (h:z.cell? ⟨0,0,none⟩=some (.int .i64 m))=>place_any ln m z htl.2 h);have hzb:=HB.out.size;have hbx:=HB.out.alloc hzb (.cells #[.string lt,.string ln] 155);have HL:=hid (Blk.new wo 155 #[.string lt,.string ln]);have HBx:=hid hbx;have HMx:=hid (cell_later hbx HM.out);have cl:=HL.out.cell;clear hbx;generalize placeB lt=b1 at*;generalize placeB ln=b2 at*
       cases b1
       ·have hq:Q=false:=by rw [<-HQ3.out,Hno.out (by rw [Hlb.out];rfl)]
        subst hq;clear HQ3 Hno Hst Hlb
        go_wp2_with (go_at_call 52;refine (Hp1.out _ HMx.out).mono ?_;rintro e w2 ⟨rfl,hb⟩;have HB2:=hid (HBx.out.trans (hb.mono HBx.out.size));clear hb)
        go_ret;exact ⟨rfl,HB2.out⟩
       ·cases b2
        ·have hq:Q=false:=by rw [<-HQ3.out,Hno.out (by rw [Hlb.out];rfl)]
         subst hq;clear HQ3 Hno Hst Hlb
         go_wp2_with (first
          |(go_at_call 52;have tk:=tok;refine (Hp2.out _ HM2.out).mono ?_;rintro e w3 ⟨rfl,hb⟩;have HB3:=hid (HB2.out.trans (hb.mono HB2.out.size));clear hb)
          |(go_at_call 52;refine (Hp1.out _ HMx.out).mono ?_;rintro e w2 ⟨rfl,hb⟩;have HB2:=hid (HBx.out.trans (hb.mono HBx.out.size));have cl2:=fun i=>(HL.out.below hb HL.out.lt).cell i;have HM2:=hid (cell_later HB2.out HM.out);clear hb;have tok:True:=trivial))
         go_ret;exact ⟨rfl,HB3.out⟩
        ·have hst2:(ls.take (k+1)).all linkB=true:=by rw [Hst.out,Hlb.out];rfl
         have Hst2:=hid hst2;clear Hno Hst Hlb hst2
         go_wp2_with (first
          |(go_at_call 52;have tk:=tok;refine (Hp2.out _ HM2.out).mono ?_;rintro e w3 ⟨rfl,hb⟩;have HB3:=hid (HB2.out.trans (hb.mono HB2.out.size));clear hb)
          |(go_at_call 52;refine (Hp1.out _ HMx.out).mono ?_;rintro e w2 ⟨rfl,hb⟩;have HB2:=hid (HBx.out.trans (hb.mono HBx.out.size));have cl2:=fun i=>(HL.out.below hb HL.out.lt).cell i;have HM2:=hid (cell_later HB2.out HM.out);clear hb;have tok:True:=trivial))
         exact ⟨⟨k+1,by omega,by go_num,Hst2.out,HB3.out⟩,by simp [intOf];omega⟩
      ·obtain rfl:k=ls.length:=by omega
       rw [List.take_length] at Hall
       have hq:Q=true:=by rw [<-HQ3.out,Hall.out]
       subst hq;clear HQ3;go_wp2;go_ret;exact ⟨rfl,HB.out⟩
end Src
end
end
section
section
namespace R11
open Go.RowKit Mem Civ Mom Img Rul Src
def turnV (o:Option Turn):Value:=match o with
 |some t=> .tuple #[.agg t.cells.toArray,.bool true]
 |none=> .tuple #[.agg #[.int .i64 0,.int .i64 0,.int .i64 0,.string ⟨#[]⟩],.bool false]
theorem turnL_out {r:Rule} {y:Int} (h:y<r.lo\/r.hi<y):turnL y r=none:=by
 unfold turnL turnO;rw [if_neg]
 rw [decide_eq_false (by omega),Bool.and_false]
 exact Bool.false_ne_true
theorem turnL_in {r:Rule} {y:Int} (h1:r.lo<=y) (h2:y<=r.hi):turnL y r=(localO (spotOf r) y).map fun n=>⟨n,r.ref,r.save,r.letter⟩:=by
 unfold turnL turnO;rw [decide_eq_true (And.intro h1 h2),Bool.and_true]
 cases localO (spotOf r) y<;>rfl
theorem turn_results {w:World} {R0:Nat} {a0 a1 a2 a3:Value} {b:Bool} (h:Blk w R0 90 #[a0,a1,a2,a3]) (tmps:Array Value) (ht:tmps[4]?=some (.pointer (some ⟨R0,0,none⟩))) (h5:tmps[5]?=some (.bool b)):(results Tryz.f80 tmps).run prog w= .ok (.tuple #[.agg #[a0,a1,a2,a3],.bool b]) w:=by
 have hc:=h.cell;simp [results,Tryz.results80,go_sem,hc,ht,h5]
theorem turn_any (r:Rule) (y:Int) (w:World):Calls prog 80 #[.agg r.cells.toArray,.int .i64 y] w fun e w'=>e= .returned (turnV (turnL y r))/\Below w.heap.size w w':=by
 have HL:=hid (fun z=>R09.local_any (spotOf r) y z);have hb2:=box2 w 69 90 r.cells.toArray #[.int .i64 0,.int .i64 0,.int .i64 0,.string ⟨#[]⟩];have hout:=@turnL_out r y;have hin:=@turnL_in r y;obtain ⟨R,hR⟩:∃ R,turnL y r=R:=⟨_,rfl⟩;rw [hR] at hout hin ⊢;have HIn:=hid hin;have HOut:=hid hout;clear hR hin hout
 cases hl:localO (spotOf r) y
 all_goals rw [hl] at HL HIn
 all_goals clear hl
 all_goals obtain ⟨r0,r1,r2,r3,r4,r5,r6,r7,r8,r9,r10⟩:=r
 all_goals simp only [Rule.cells,Spot.cells,spotOf,dayV,Option.map_none,Option.map_some] at HL hb2 HIn HOut ⊢
 all_goals obtain ⟨W,hW⟩:∃ W,(w.alloc (.cells #[.string r0,.int .i64 r1,.int .i64 r2,.int .i64 r3,.int .i64 r4,.int .i64 r5,.int .i64 r6,.int .i64 r7,.int .i64 r8,.int .i64 r9,.string r10] 69)).alloc (.cells #[.int .i64 0,.int .i64 0,.int .i64 0,.string ⟨#[]⟩] 90)=W:=⟨_,rfl⟩
 all_goals rw [hW] at hb2
 all_goals obtain ⟨b1,b2,hb,hz⟩:=hb2
 all_goals have HB1:=hid b1;have HB2:=hid b2;have HB:=hid hb
 all_goals have c1:=b1.cell
 all_goals have e2:=b2.cell
 all_goals have f2:=b2.frozen
 all_goals clear b1 b2 hb
 all_goals go_enter func80,ntmps80
 rotate_left
 rename_i n
 ·by_cases h1:y<r1
  ·have hr:R=none:=HOut.out (.inl h1)
   subst hr;clear HOut HIn;go_wp2;have hf:=(((HB2.out.set_ 0 (.int .i64 0)).set_ 1 (.int .i64 0)).set_ 2 (.int .i64 0)).set_ 3 (.string ⟨#[]⟩);simp only [List.setIfInBounds_toArray,List.set_cons_succ,List.set_cons_zero] at hf
   have hbe:=(((HB.out.setCell (p:=⟨w.heap.size+1,0,none⟩) (by simp) (.int .i64 0)).setCell (p:=⟨w.heap.size+1,1,none⟩) (by simp) (.int .i64 0)).setCell (p:=⟨w.heap.size+1,2,none⟩) (by simp) (.int .i64 0)).setCell (p:=⟨w.heap.size+1,3,none⟩) (by simp) (.string ⟨#[]⟩)
   refine bodyPost_ret (turn_results hf _ rfl rfl) rfl ?_
   exact ⟨rfl,hbe⟩
  ·by_cases h2:r2<y
   ·have hr:R=none:=HOut.out (.inr h2)
    subst hr;clear HOut HIn;go_wp2;have hf:=(((HB2.out.set_ 0 (.int .i64 0)).set_ 1 (.int .i64 0)).set_ 2 (.int .i64 0)).set_ 3 (.string ⟨#[]⟩);simp only [List.setIfInBounds_toArray,List.set_cons_succ,List.set_cons_zero] at hf
    have hbe:=(((HB.out.setCell (p:=⟨w.heap.size+1,0,none⟩) (by simp) (.int .i64 0)).setCell (p:=⟨w.heap.size+1,1,none⟩) (by simp) (.int .i64 0)).setCell (p:=⟨w.heap.size+1,2,none⟩) (by simp) (.int .i64 0)).setCell (p:=⟨w.heap.size+1,3,none⟩) (by simp) (.string ⟨#[]⟩)
    refine bodyPost_ret (turn_results hf _ rfl rfl) rfl ?_
    exact ⟨rfl,hbe⟩
   ·have hr:R=some ⟨n,r8,r9,r10⟩:=HIn.out (by omega) (by omega)
    subst hr;clear HOut HIn
    go_wp2_with (go_at_call 113;refine (HL.out _).mono ?_;rintro e w1 ⟨rfl,hb⟩;have d1:=HB1.out.below hb HB1.out.lt;have d2:=HB2.out.below hb HB2.out.lt;have e3:=d1.cell;have e4:=d2.cell;have f4:=d2.frozen;have D2:=hid d2;have HBB:=hid (HB.out.trans (hb.mono HB.out.size));clear hb d1 d2)
    have hz1:=HBB.out.size;have hf:=(((D2.out.set_ 0 (.int .i64 n)).set_ 1 (.int .i64 r8)).set_ 2 (.int .i64 r9)).set_ 3 (.string r10);simp only [List.setIfInBounds_toArray,List.set_cons_succ,List.set_cons_zero] at hf
    have hbe:=(((HBB.out.setCell (p:=⟨w.heap.size+1,0,none⟩) (by simp) (.int .i64 n)).setCell (p:=⟨w.heap.size+1,1,none⟩) (by simp) (.int .i64 r8)).setCell (p:=⟨w.heap.size+1,2,none⟩) (by simp) (.int .i64 r9)).setCell (p:=⟨w.heap.size+1,3,none⟩) (by simp) (.string r10)
    refine bodyPost_ret (turn_results hf _ rfl rfl) rfl ?_
    exact ⟨rfl,hbe⟩
 ·by_cases h1:y<r1
  ·have hr:R=none:=HOut.out (.inl h1)
   subst hr;clear HOut HIn;go_wp2;have hf:=(((HB2.out.set_ 0 (.int .i64 0)).set_ 1 (.int .i64 0)).set_ 2 (.int .i64 0)).set_ 3 (.string ⟨#[]⟩);simp only [List.setIfInBounds_toArray,List.set_cons_succ,List.set_cons_zero] at hf
   have hbe:=(((HB.out.setCell (p:=⟨w.heap.size+1,0,none⟩) (by simp) (.int .i64 0)).setCell (p:=⟨w.heap.size+1,1,none⟩) (by simp) (.int .i64 0)).setCell (p:=⟨w.heap.size+1,2,none⟩) (by simp) (.int .i64 0)).setCell (p:=⟨w.heap.size+1,3,none⟩) (by simp) (.string ⟨#[]⟩)
   refine bodyPost_ret (turn_results hf _ rfl rfl) rfl ?_
   exact ⟨rfl,hbe⟩
  ·by_cases h2:r2<y
   ·have hr:R=none:=HOut.out (.inr h2)
    subst hr;clear HOut HIn;go_wp2;have hf:=(((HB2.out.set_ 0 (.int .i64 0)).set_ 1 (.int .i64 0)).set_ 2 (.int .i64 0)).set_ 3 (.string ⟨#[]⟩);simp only [List.setIfInBounds_toArray,List.set_cons_succ,List.set_cons_zero] at hf
    have hbe:=(((HB.out.setCell (p:=⟨w.heap.size+1,0,none⟩) (by simp) (.int .i64 0)).setCell (p:=⟨w.heap.size+1,1,none⟩) (by simp) (.int .i64 0)).setCell (p:=⟨w.heap.size+1,2,none⟩) (by simp) (.int .i64 0)).setCell (p:=⟨w.heap.size+1,3,none⟩) (by simp) (.string ⟨#[]⟩)
    refine bodyPost_ret (turn_results hf _ rfl rfl) rfl ?_
    exact ⟨rfl,hbe⟩
   ·have hr:R=none:=HIn.out (by omega) (by omega)
    subst hr;clear HOut HIn
    go_wp2_with (go_at_call 113;refine (HL.out _).mono ?_;rintro e w1 ⟨rfl,hb⟩;have d1:=HB1.out.below hb HB1.out.lt;have d2:=HB2.out.below hb HB2.out.lt;have e3:=d1.cell;have e4:=d2.cell;have f4:=d2.frozen;have D2:=hid d2;have HBB:=hid (HB.out.trans (hb.mono HB.out.size));clear hb d1 d2)
    have hz1:=HBB.out.size;have hf:=(((D2.out.set_ 0 (.int .i64 0)).set_ 1 (.int .i64 0)).set_ 2 (.int .i64 0)).set_ 3 (.string ⟨#[]⟩);simp only [List.setIfInBounds_toArray,List.set_cons_succ,List.set_cons_zero] at hf
    have hbe:=(((HBB.out.setCell (p:=⟨w.heap.size+1,0,none⟩) (by simp) (.int .i64 0)).setCell (p:=⟨w.heap.size+1,1,none⟩) (by simp) (.int .i64 0)).setCell (p:=⟨w.heap.size+1,2,none⟩) (by simp) (.int .i64 0)).setCell (p:=⟨w.heap.size+1,3,none⟩) (by simp) (.string ⟨#[]⟩)
    refine bodyPost_ret (turn_results hf _ rfl rfl) rfl ?_
    exact ⟨rfl,hbe⟩
end R11
namespace R11
open Go.RowKit Mem Civ Mom Img Rul
theorem reads_pre {w:World} {B size n j:Nat} {A:Option Addr} {xs:List Value} (h:Reads w B size A n xs) (hj:j<=n):Reads w B size A j (xs.take (j*size)):=by
 refine ⟨by rw [List.length_take,h.1];exact Nat.min_eq_left (Nat.mul_le_mul_right _ hj),fun h0=>?_⟩
 obtain ⟨ad,e,hb,hc⟩:=h.2 (by omega)
 refine ⟨ad,e,hb,fun i u hu=>hc i u ?_⟩
 rw [List.getElem?_take] at hu
 split at hu
 ·exact hu
 ·cases hu
theorem flat_take {α:Type} {f:α->List Value} {m:Nat} (hf:∀ a,(f a).length=m):∀ (l:List α) (j:Nat),(l.flatMap f).take (j*m)=(l.take j).flatMap f
 |[],j=>by simp
 |a :: t,0=>by simp
 |a :: t,j+1=>by
  rw [List.flatMap_cons,List.take_succ_cons,List.flatMap_cons,Nat.succ_mul,Nat.add_comm,List.take_append,hf,List.take_of_length_le (by rw [hf];omega),show m+j*m - m=j*m by omega,flat_take hf t j]
theorem flat_drop {α:Type} {f:α->List Value} {m:Nat} (hf:∀ a,(f a).length=m):∀ (l:List α) (j:Nat),(l.flatMap f).drop (j*m)=(l.drop j).flatMap f
 |[],j=>by simp
 |a :: t,0=>by simp
 |a :: t,j+1=>by
  rw [List.flatMap_cons,List.drop_succ_cons,Nat.succ_mul,Nat.add_comm,List.drop_append,hf,List.drop_eq_nil_of_le (by rw [hf];omega),List.nil_append,show m+j*m - m=j*m by omega,flat_drop hf t j]
theorem posT_step {x:Turn} {S:List Turn} {j:Nat} (hj:j<S.length):posT x S (j+1)=if x.at_<S[j].at_ then posT x S j else j+1:=by
 rw [posT,List.getElem?_eq_getElem hj]
theorem all_one {ts:List Turn}:∀ u∈ts.flatMap Turn.cells,u.oneCell'=true:=by
 intro u hu;obtain ⟨t,_,ht⟩:=List.mem_flatMap.1 hu;simp only [Turn.cells,List.mem_cons,List.not_mem_nil,or_false] at ht
 rcases ht with rfl|rfl|rfl|rfl<;>rfl
theorem sort_next (rs:List Rule) (y:Int) (k:Nat) (hk:k<rs.length):sortT ((rs.take (k+1)).filterMap (turnL y))=match turnL y rs[k] with
  |some t=>insT (sortT ((rs.take k).filterMap (turnL y))) t
  |none=>sortT ((rs.take k).filterMap (turnL y)):=by
 rw [List.take_succ_eq_append_getElem hk,List.filterMap_append,List.filterMap_cons,List.filterMap_nil]
 cases turnL y rs[k] with
 |none=>simp
 |some t=>simp [sortT_snoc]
theorem sort_le (rs:List Rule) (y:Int) (k:Nat):(sortT ((rs.take k).filterMap (turnL y))).length<=k:=by
 rw [sortT_length]
 exact Nat.le_trans (List.length_filterMap_le _ _) (by simp;omega)
theorem turns_any (rs:List Rule) (A:Option Addr) (c:Nat) (y:Int) (w:World) (h:Reads w w.heap.size 11 A rs.length (rs.flatMap Rule.cells)) (hn:rs.length<=1000000):
  Calls prog 50 #[.slice A rs.length c,.int .i64 y] w (TurnsP (sortT (rs.filterMap (turnL y))) w):=by
 have H:=hid h;clear h;obtain ⟨i0,hi0,hz0,hz1,hz2⟩:=info_parts info_turn;go_enter func50,ntmps50
 go_wp2_with fail
 go_loopw [5,6] (fun v i wr=>∃ k:Nat,k<=rs.length/\i= .int .i64 k/\wr.ownsRow w.heap.size 90 4 v (sortT ((rs.take k).filterMap (turnL y))).length ((sortT ((rs.take k).filterMap (turnL y))).flatMap Turn.cells)/\Below w.heap.size w wr) (fun _ i _=>rs.length - (intOf i).toNat)
 case atStart=>exact ⟨0,Nat.zero_le _,rfl,World.ownsRow_nil _ _ _ _,Below.refl _ _⟩
 case round=>
  obtain ⟨k,hk,rfl,hown,hb⟩:=hrel;have Hown:=hid hown;have HBr:=hid hb;clear hown hb;obtain ⟨wo,rfl⟩:∃ wo:World,wo=wr:=⟨_,rfl⟩
  by_cases hkn:k<rs.length
  ·obtain ⟨ad,hA,hadb,a0,a1,a2,a3,a4,a5,a6,a7,a8,a9,a10⟩:=rule_cells (H.out.below HBr.out) hkn
   subst hA;have hst:=sort_next rs y k hkn;have hle:=sort_le rs y k;have Ht:=hid (fun z=>turn_any rs[k] y z);generalize hto:turnL y rs[k]=tt at*;clear hto;have Hst:=hid hst;clear hst;simp only [Rule.cells] at Ht;generalize rs[k]=x at*;obtain ⟨L,hL⟩:∃ L,sortT ((rs.take k).filterMap (turnL y))=L:=⟨_,rfl⟩;rw [hL] at Hst Hown hle;clear hL;have hzo:=HBr.out.size;obtain ⟨A2,c2,hv⟩:=own_slice Hown.out;subst hv
   cases tt with
   |none=>
    simp only [turnV] at Ht
    go_wp2_with (go_at_call 80;refine (Ht.out _).mono ?_;rintro e w2 ⟨rfl,hb2⟩;have HB2:=hid hb2;clear hb2)
    have hs:=HB2.out.size
    refine ⟨⟨k+1,by omega,by go_num,?_,(HBr.out.trans (HB2.out.mono hzo)).alloc (by omega) _⟩,by simp [intOf];omega⟩
    rw [Hst.out];exact (Rul.own_below Hown.out HB2.out).alloc _
   |some t=>
    obtain ⟨t0,t1,t2,t3⟩:=t;simp only [turnV,Turn.cells] at Ht;have Hst2:Hid (sortT ((rs.take (k+1)).filterMap (turnL y))=insT L ⟨t0,t1,t2,t3⟩):=Hst.out;clear Hst
    go_wp2_with (go_at_call 80;refine (Ht.out _).mono ?_;rintro e w2 ⟨rfl,hb2⟩;have HO2:=hid (Rul.own_below Hown.out hb2);have HB2:=hid (HBr.out.trans (hb2.mono hzo));clear hb2)
    have hT3:=Blk.new w2 90 #[.int .i64 t0,.int .i64 t1,.int .i64 t2,.string t3];have hO3:=HO2.out.alloc (.cells #[.int .i64 t0,.int .i64 t1,.int .i64 t2,.string t3] 90);have hzw:=HB2.out.size;have hB3:=HB2.out.alloc hzw (.cells #[.int .i64 t0,.int .i64 t1,.int .i64 t2,.string t3] 90);obtain ⟨W3,hW3⟩:∃ W3,w2.alloc (.cells #[.int .i64 t0,.int .i64 t1,.int .i64 t2,.string t3] 90)=W3:=⟨_,rfl⟩;rw [hW3] at hT3 hO3 hB3;have HT3:=hid hT3;have HO3:=hid hO3;have HB3:=hid hB3;clear hT3 hO3 hB3 HO2 Ht
    go_loopw [9] (fun q wr=>∃ (j n:Nat),j<=L.length/\q= .int .i64 j/\posT ⟨t0,t1,t2,t3⟩ L j=posT ⟨t0,t1,t2,t3⟩ L L.length/\wr=W3.drewN n) (fun q _=>(intOf q).toNat)
    case atStart=>exact ⟨L.length,0,Nat.le_refl _,rfl,rfl,by rw [hW3];rfl⟩
    case round=>
     clear a0 a1 a2 a3 a4 a5 a6 a7 a8 a9 a10;obtain ⟨j,n,hj,rfl,hpos,rfl⟩:=hrel;have HPos:=hid hpos;clear hpos;obtain ⟨Cls,hCls⟩:∃ C:World->Prop,C=fun z=>∃ n,z=W3.drewN n:=⟨_,rfl⟩
     have hst:Cls (W3.drewN n).drew:=by rw [hCls];exact ⟨n+1,rfl⟩
     have hC:∀ z,Cls z->∃ n,z=W3.drewN n:=fun z h=>by rw [hCls] at h;exact h
     have inst:Nonempty (Qt.In Cls):=⟨⟨_,hst⟩⟩
     have zT:∀ z:Qt.In Cls,z.w.cell? ⟨w2.heap.size,0,none⟩=some (.int .i64 t0):=fun z=>by
      obtain ⟨n,e⟩:=hC z.w z.h;rw [e];exact (HT3.out.drewN n).cell 0
     have HC:=hid hC
     cases j with
     |zero=>
      clear hC hCls;go_wp2
      refine Qt.wp_region_cls Cls (by kernel_rfl) (by kernel_rfl) hst ?_
      repeat (go_big_quiet_step (fail))
      refine wpQuiet_nil ?_
      rintro wq ⟨⟨w9,hq⟩,e9⟩
      obtain ⟨nq,hnq⟩:=HC.out wq (by rw [e9];exact hq)
      clear hq e9 zT;subst hnq;have HPos':Hid (0=posT ⟨t0,t1,t2,t3⟩ L L.length):=HPos.out
      cases A2 with
      |none=>
       have hcap:=own_cap HO3.out;have hrd4:Reads (W3.drewN nq) (W3.drewN nq).heap.size 4 none L.length (L.flatMap Turn.cells):=(Reads.of_own HO3.out).drewN nq
       have hpre:=reads_pre (j:=0) hrd4 (by omega)
       rw [flat_take (m:=4) (fun _=>rfl)] at hpre;have hsuf:Reads (W3.drewN nq) (W3.drewN nq).heap.size 4 none (L.length - 0) ((L.drop 0).flatMap Turn.cells):=hrd4;have ht4:=HT3.out.drewN nq;have hb4:Below w.heap.size w (W3.drewN nq):=below_dr HB3.out;generalize W3.drewN nq=W4 at*;have HSuf:=hid hsuf;have HPre:=hid hpre;have HT4:=hid ht4;have HB4:=hid hb4;clear hrd4 hpre ht4 hb4 hsuf
       go_wp2_with (first
        |(at_builtin;refine wpList_append_any W4 rfl (.tmp 45) (.tmp 48) 86 rfl W4.heap.size 90 i0 _ 4 40 underlying86 hi0 hz0 hz1 hz2 rfl (by decide) _ 0 [] rfl (World.ownsRow_nil _ _ _ _) W4.heap.size none (0) c2 _ rfl HPre.out all_one (by unfold maxLen;omega) (by omega) (Nat.le_refl _) ?_;intro v5 w5 ho5 hg5 _;have hg5':W4.grownBy w5 none:=hg5;have hb5:=(Below.refl W4.heap.size W4).grown hg5' (Nat.le_refl _) (fun k e=>by cases e);have ht5:=HT4.out.grown hg5' (by simp);have c5:=ht5.cell;have HB5:=hid hb5;have HO5:=hid ho5;clear ho5 hg5 hg5' hb5 ht5)
        |(at_builtin;refine wpList_append1g w5 rfl (.tmp 50) (.tmp 52) 86 rfl W4.heap.size 90 i0 _ 4 40 underlying86 hi0 hz0 hz1 hz2 rfl (by decide) v5 _ _ rfl HO5.out rfl rfl turn_oneCell (by unfold maxLen;omega) (by omega) HB5.out.size ?_;intro v6 w6 ho6 hg6;have hb6:=(HB5.out.alloc HB5.out.size _).grown hg6 (by have:=HB5.out.size;simp;omega) (fun j hj=>(HO5.out.lt j hj).1);have HB6:=hid hb6;have HO6:=hid ho6;have hs6:=(HSuf.out.below hb6).more hb6.size;have HS6:=hid hs6;clear ho6 hg6 hb6 hs6)
        |(at_builtin;refine wpList_append_any w6 rfl (.tmp 54) (.tmp 57) 86 rfl W4.heap.size 90 i0 _ 4 40 underlying86 hi0 hz0 hz1 hz2 rfl (by decide) v6 _ _ rfl HO6.out w6.heap.size _ (L.length - (0)) _ _ rfl HS6.out all_one (by unfold maxLen;omega) (by omega) HB6.out.size ?_;intro v7 w7 ho7 hg7 _;have hb7:=HB6.out.grown hg7 HB6.out.size (fun j hj=>(HO6.out.lt j hj).1);have HB7:=hid hb7;have HO7:=hid ho7;clear ho7 hg7 hb7))
       have hz4:=HB4.out.size
       have hown:w7.ownsRow w.heap.size 90 4 v7 (insT L ⟨t0,t1,t2,t3⟩).length ((insT L ⟨t0,t1,t2,t3⟩).flatMap Turn.cells):=by
        have h1:=own_base HO7.out hz4
        have e1:insT L ⟨t0,t1,t2,t3⟩=L.take (0)++⟨t0,t1,t2,t3⟩ :: L.drop (0):=by unfold insT;rw [<-HPos'.out];rfl
        rw [e1]
        have e2:(L.take (0)++(⟨t0,t1,t2,t3⟩:Turn) :: L.drop (0)).length=0+(0)+1+(L.length - (0)):=by simp;omega
        rw [e2]
        simpa [Turn.cells] using h1
       exact ⟨⟨k+1,by omega,by go_num,by rw [Hst2.out];exact hown,HB4.out.trans (HB7.out.mono hz4)⟩,by simp [intOf];omega⟩
      |some a2=>
       have hcap:=own_cap HO3.out;have hrd4:Reads (W3.drewN nq) (W3.drewN nq).heap.size 4 (some a2) L.length (L.flatMap Turn.cells):=(Reads.of_own HO3.out).drewN nq
       have hpre:=reads_pre (j:=0) hrd4 (by omega)
       rw [flat_take (m:=4) (fun _=>rfl)] at hpre;have hsuf:Reads (W3.drewN nq) (W3.drewN nq).heap.size 4 (some a2) (L.length - 0) ((L.drop 0).flatMap Turn.cells):=hrd4;have ht4:=HT3.out.drewN nq;have hb4:Below w.heap.size w (W3.drewN nq):=below_dr HB3.out;generalize W3.drewN nq=W4 at*;have HSuf:=hid hsuf;have HPre:=hid hpre;have HT4:=hid ht4;have HB4:=hid hb4;clear hrd4 hpre ht4 hb4 hsuf
       go_wp2_with (first
        |(at_builtin;refine wpList_append_any W4 rfl (.tmp 45) (.tmp 48) 86 rfl W4.heap.size 90 i0 _ 4 40 underlying86 hi0 hz0 hz1 hz2 rfl (by decide) _ 0 [] rfl (World.ownsRow_nil _ _ _ _) W4.heap.size (some a2) (0) c2 _ rfl HPre.out all_one (by unfold maxLen;omega) (by omega) (Nat.le_refl _) ?_;intro v5 w5 ho5 hg5 _;have hg5':W4.grownBy w5 none:=hg5;have hb5:=(Below.refl W4.heap.size W4).grown hg5' (Nat.le_refl _) (fun k e=>by cases e);have ht5:=HT4.out.grown hg5' (by simp);have c5:=ht5.cell;have HB5:=hid hb5;have HO5:=hid ho5;clear ho5 hg5 hg5' hb5 ht5)
        |(at_builtin;refine wpList_append1g w5 rfl (.tmp 50) (.tmp 52) 86 rfl W4.heap.size 90 i0 _ 4 40 underlying86 hi0 hz0 hz1 hz2 rfl (by decide) v5 _ _ rfl HO5.out rfl rfl turn_oneCell (by unfold maxLen;omega) (by omega) HB5.out.size ?_;intro v6 w6 ho6 hg6;have hb6:=(HB5.out.alloc HB5.out.size _).grown hg6 (by have:=HB5.out.size;simp;omega) (fun j hj=>(HO5.out.lt j hj).1);have HB6:=hid hb6;have HO6:=hid ho6;have hs6:=(HSuf.out.below hb6).more hb6.size;have HS6:=hid hs6;clear ho6 hg6 hb6 hs6)
        |(at_builtin;refine wpList_append_any w6 rfl (.tmp 54) (.tmp 57) 86 rfl W4.heap.size 90 i0 _ 4 40 underlying86 hi0 hz0 hz1 hz2 rfl (by decide) v6 _ _ rfl HO6.out w6.heap.size _ (L.length - (0)) _ _ rfl HS6.out all_one (by unfold maxLen;omega) (by omega) HB6.out.size ?_;intro v7 w7 ho7 hg7 _;have hb7:=HB6.out.grown hg7 HB6.out.size (fun j hj=>(HO6.out.lt j hj).1);have HB7:=hid hb7;have HO7:=hid ho7;clear ho7 hg7 hb7))
       have hz4:=HB4.out.size
       have hown:w7.ownsRow w.heap.size 90 4 v7 (insT L ⟨t0,t1,t2,t3⟩).length ((insT L ⟨t0,t1,t2,t3⟩).flatMap Turn.cells):=by
        have h1:=own_base HO7.out hz4
        have e1:insT L ⟨t0,t1,t2,t3⟩=L.take (0)++⟨t0,t1,t2,t3⟩ :: L.drop (0):=by unfold insT;rw [<-HPos'.out];rfl
        rw [e1]
        have e2:(L.take (0)++(⟨t0,t1,t2,t3⟩:Turn) :: L.drop (0)).length=0+(0)+1+(L.length - (0)):=by simp;omega
        rw [e2]
        simpa [Turn.cells] using h1
       exact ⟨⟨k+1,by omega,by go_num,by rw [Hst2.out];exact hown,HB4.out.trans (HB7.out.mono hz4)⟩,by simp [intOf];omega⟩
     |succ j=>
      have hjl:j<L.length:=by omega
      obtain ⟨a2,hA2,hadb2,b0,b1,b2,b3⟩:=turn_cells (Reads.of_own HO3.out) hjl rfl;subst hA2
      have zE:∀ z:Qt.In Cls,z.w.cell? (a2.add (j*4))=some (.int .i64 L[j].at_):=fun z=>by
       obtain ⟨n,e⟩:=hC z.w z.h;rw [e];exact b0
      have hw1:wrap64 (((j+1:Nat):Int) - 1)=(j:Int):=by unfold wrap64;omega
      have hps:=posT_step (x:=⟨t0,t1,t2,t3⟩) hjl;have HPs:=hid hps;clear hC hCls hps b0 b1 b2 b3;generalize hea:L[j].at_=ea at*
      cases hlt:decide (t0<ea)
      ·have hp1:j+1=posT ⟨t0,t1,t2,t3⟩ L L.length:=by rw [<-HPos.out,HPs.out,if_neg (by simpa using hlt)]
       have HPos':=hid hp1;clear hp1;go_wp2
       refine Qt.wp_region_cls Cls (by kernel_rfl) (by kernel_rfl) hst ?_
       repeat (go_big_quiet_step (fail))
       refine wpQuiet_nil ?_
       rintro wq ⟨⟨w9,hq⟩,e9⟩
       obtain ⟨nq,hnq⟩:=HC.out wq (by rw [e9];exact hq)
       clear hq e9 zT zE;subst hnq;have hcap:=own_cap HO3.out;have hrd4:Reads (W3.drewN nq) (W3.drewN nq).heap.size 4 (some a2) L.length (L.flatMap Turn.cells):=(Reads.of_own HO3.out).drewN nq
       have hpre:=reads_pre (j:=j+1) hrd4 (by omega)
       rw [flat_take (m:=4) (fun _=>rfl)] at hpre
       have hsuf:=hrd4.cut (k:=j+1) (cap:=c2) (by omega) (own_cap HO3.out)
       rw [flat_drop (m:=4) (fun _=>rfl)] at hsuf;have ht4:=HT3.out.drewN nq;have hb4:Below w.heap.size w (W3.drewN nq):=below_dr HB3.out;generalize W3.drewN nq=W4 at*;have HSuf:=hid hsuf;have HPre:=hid hpre;have HT4:=hid ht4;have HB4:=hid hb4;clear hrd4 hpre ht4 hb4 hsuf
       go_wp2_with (first
        |(at_builtin;refine wpList_append_any W4 rfl (.tmp 45) (.tmp 48) 86 rfl W4.heap.size 90 i0 _ 4 40 underlying86 hi0 hz0 hz1 hz2 rfl (by decide) _ 0 [] rfl (World.ownsRow_nil _ _ _ _) W4.heap.size (some a2) (j+1) c2 _ rfl HPre.out all_one (by unfold maxLen;omega) (by omega) (Nat.le_refl _) ?_;intro v5 w5 ho5 hg5 _;have hg5':W4.grownBy w5 none:=hg5;have hb5:=(Below.refl W4.heap.size W4).grown hg5' (Nat.le_refl _) (fun k e=>by cases e);have ht5:=HT4.out.grown hg5' (by simp);have c5:=ht5.cell;have HB5:=hid hb5;have HO5:=hid ho5;clear ho5 hg5 hg5' hb5 ht5)
        |(at_builtin;refine wpList_append1g w5 rfl (.tmp 50) (.tmp 52) 86 rfl W4.heap.size 90 i0 _ 4 40 underlying86 hi0 hz0 hz1 hz2 rfl (by decide) v5 _ _ rfl HO5.out rfl rfl turn_oneCell (by unfold maxLen;omega) (by omega) HB5.out.size ?_;intro v6 w6 ho6 hg6;have hb6:=(HB5.out.alloc HB5.out.size _).grown hg6 (by have:=HB5.out.size;simp;omega) (fun j hj=>(HO5.out.lt j hj).1);have HB6:=hid hb6;have HO6:=hid ho6;have hs6:=(HSuf.out.below hb6).more hb6.size;have HS6:=hid hs6;clear ho6 hg6 hb6 hs6)
        |(at_builtin;refine wpList_append_any w6 rfl (.tmp 54) (.tmp 57) 86 rfl W4.heap.size 90 i0 _ 4 40 underlying86 hi0 hz0 hz1 hz2 rfl (by decide) v6 _ _ rfl HO6.out w6.heap.size _ (L.length - (j+1)) _ _ rfl HS6.out all_one (by unfold maxLen;omega) (by omega) HB6.out.size ?_;intro v7 w7 ho7 hg7 _;have hb7:=HB6.out.grown hg7 HB6.out.size (fun j hj=>(HO6.out.lt j hj).1);have HB7:=hid hb7;have HO7:=hid ho7;clear ho7 hg7 hb7))
       have hz4:=HB4.out.size
       have hown:w7.ownsRow w.heap.size 90 4 v7 (insT L ⟨t0,t1,t2,t3⟩).length ((insT L ⟨t0,t1,t2,t3⟩).flatMap Turn.cells):=by
        have h1:=own_base HO7.out hz4
        have e1:insT L ⟨t0,t1,t2,t3⟩=L.take (j+1)++⟨t0,t1,t2,t3⟩ :: L.drop (j+1):=by unfold insT;rw [<-HPos'.out];rfl
        rw [e1]
        have e2:(L.take (j+1)++(⟨t0,t1,t2,t3⟩:Turn) :: L.drop (j+1)).length=0+(j+1)+1+(L.length - (j+1)):=by simp;omega
        rw [e2]
        simpa [Turn.cells] using h1
       exact ⟨⟨k+1,by omega,by go_num,by rw [Hst2.out];exact hown,HB4.out.trans (HB7.out.mono hz4)⟩,by simp [intOf];omega⟩
      ·have hp1:posT ⟨t0,t1,t2,t3⟩ L j=posT ⟨t0,t1,t2,t3⟩ L L.length:=by rw [<-HPos.out,HPs.out,if_pos (by simpa using hlt)]
       have HP1:=hid hp1;clear hp1;go_wp2
       refine Qt.wp_region_cls Cls (by kernel_rfl) (by kernel_rfl) hst ?_
       repeat (go_big_quiet_step (fail))
       refine wpQuiet_nil ?_
       rintro wq ⟨⟨w9,hq⟩,e9⟩
       obtain ⟨nq,hnq⟩:=HC.out wq (by rw [e9];exact hq)
       clear hq e9 zT zE;subst hnq;go_wp2
       exact ⟨⟨j,nq,by omega,by first|rfl|rw [hw1],HP1.out,rfl⟩,by simp [intOf]⟩
  ·obtain rfl:k=rs.length:=by omega
   rw [List.take_length] at Hown;obtain ⟨A2,c2,hv⟩:=own_slice Hown.out;subst hv;go_wp2;go_ret;exact ⟨A2,c2,rfl,Hown.out,HBr.out⟩
end R11
namespace R11
open Go.RowKit Mem Civ Mom Img Rul
def firstR (rs:List Rule):Int:=rs.foldl (fun m r=>if r.lo<m then r.lo else m) 10000
def hiStep (m:Int) (r:Rule):Int:=if r.hi≠1000000/\(if m<r.lo then r.lo else m)<r.hi then r.hi else (if m<r.lo then r.lo else m)
def hiR (rs:List Rule):Int:=rs.foldl hiStep 0
def yearR (rs:List Rule) (y:Int):List Turn:=sortT (rs.filterMap (turnL y))
def nearYearsR (rs:List Rule):Nat->Int->List Turn->Bool
 |0,_,_=>false
 |n+1,y,had=>nearUpto (had++yearR rs y) [] (had++yearR rs y).length || nearYearsR rs n (y+1) (yearR rs y)
def nearR (rs:List Rule):Bool:=nearYearsR rs (hiR rs+402 - firstR rs+1).toNat (firstR rs) []
theorem firstR_succ (rs:List Rule) (k:Nat) (hk:k<rs.length):firstR (rs.take (k+1))=if rs[k].lo<firstR (rs.take k) then rs[k].lo else firstR (rs.take k):=by
 rw [List.take_succ_eq_append_getElem hk,firstR,firstR,List.foldl_append];rfl
theorem hiR_succ (rs:List Rule) (k:Nat) (hk:k<rs.length):hiR (rs.take (k+1))=hiStep (hiR (rs.take k)) rs[k]:=by
 rw [List.take_succ_eq_append_getElem hk,hiR,hiR,List.foldl_append];rfl
theorem rule_years {r:Rule} (h:Rul.ruleB r=true):1<=r.lo/\r.lo<=9999/\(1<=r.hi/\r.hi<=9999\/r.hi=1000000):=ruleB_bd h
theorem years_in (rs:List Rule) (h:rulesB rs=true) (k:Nat):(1<=firstR (rs.take k)/\firstR (rs.take k)<=10000)/\(0<=hiR (rs.take k)/\hiR (rs.take k)<=9999):=by
 induction k with
 |zero=>exact ⟨⟨by show (1:Int)<=10000;decide,by show (10000:Int)<=10000;decide⟩,by show (0:Int)<=0;decide,by show (0:Int)<=9999;decide⟩
 |succ k ih=>
  by_cases hk:k<rs.length
  ·have hr:=rule_years (List.all_eq_true.1 h rs[k] (List.getElem_mem hk))
   rw [firstR_succ rs k hk,hiR_succ rs k hk];unfold hiStep
   refine ⟨?_,?_⟩
   ·split<;>omega
   ·split<;>split<;>omega
  ·rw [List.take_of_length_le (by omega)] at ih ⊢
   exact ih
theorem yearR_bd {rs:List Rule} {y:Int}:bdT (yearR rs y):=fun t ht=>by
 obtain ⟨r,_,hr⟩:=List.mem_filterMap.1 (mem_sortT ht);unfold turnL at hr
 split at hr
 ·next h=>
  obtain rfl:=Option.some.inj hr;exact turnO_bd h
 ·cases hr
theorem yearR_le (rs:List Rule) (y:Int):(yearR rs y).length<=rs.length:=by
 unfold yearR;rw [sortT_length];exact List.length_filterMap_le _ _
theorem own_empty (w:World):(w.alloc (.cells #[] 90)).ownsRow w.heap.size 90 4 (.slice (some ⟨w.heap.size,0,none⟩) 0 0) 0 []:=
 ⟨rfl,.inr ⟨w.heap.size,0,#[],rfl,Nat.le_refl _,Blk.new w 90 #[],Nat.le_refl _,Nat.zero_le _,rfl,rfl⟩⟩
theorem near_any (rs:List Rule) (A:Option Addr) (c:Nat) (w:World) (h:Reads w w.heap.size 11 A rs.length (rs.flatMap Rule.cells)) (hn:rs.length<=1000) (hr:rulesB rs=true):
  Calls prog 40 #[.slice A rs.length c] w fun e w'=>e= .returned (.bool (nearR rs))/\Below w.heap.size w w':=by
 have H:=hid h;clear h;obtain ⟨i0,hi0,hz0,hz1,hz2⟩:=info_parts info_turn;have HYr:=hid (years_in rs hr);obtain ⟨Q,hQ⟩:∃ Q,nearR rs=Q:=⟨_,rfl⟩;rw [hQ];have HQ:=hid hQ;clear hQ hr;go_enter func40,ntmps40
 go_wp2_with fail
 go_loopw [3,4,5] (fun l g i wr=>∃ k:Nat,k<=rs.length/\i= .int .i64 k/\l= .int .i64 (firstR (rs.take k))/\g= .int .i64 (hiR (rs.take k))/\wr=w) (fun _ _ i _=>rs.length - (intOf i).toNat)
 case atStart=>exact ⟨0,Nat.zero_le _,rfl,rfl,rfl,rfl⟩
 case round=>
  obtain ⟨k,hk,rfl,rfl,rfl,hw⟩:=hrel;have hw':=hw.symm;subst hw';clear hw
  by_cases hkn:k<rs.length
  ·obtain ⟨ad,hA,hadb,a0,a1,a2,a3,a4,a5,a6,a7,a8,a9,a10⟩:=rule_cells H.out hkn
   subst hA;have hf:=firstR_succ rs k hkn;have hg:=hiR_succ rs k hkn;unfold hiStep at hg;have HF:=hid (And.intro hf hg);clear hf hg;generalize firstR (rs.take k)=f0 at*;generalize hiR (rs.take k)=g0 at*;generalize rs[k]=x at*;obtain ⟨x0,x1,x2,x3,x4,x5,x6,x7,x8,x9,x10⟩:=x;simp only at a0 a1 a2 a3 a4 a5 a6 a7 a8 a9 a10 HF
   by_cases h1:x1<f0<;>by_cases h2:g0<x1<;>by_cases h3:x2=1000000<;>by_cases h4:(if g0<x1 then x1 else g0)<x2
   all_goals simp only [h2,if_true,if_false] at h4
   all_goals have h3b:(x2 == 1000000)=decide (x2=1000000):=by rw [Bool.eq_iff_iff];simp
   all_goals have h3n:(x2 != 1000000)= !(x2 == 1000000):=rfl
   all_goals rw [h3b] at h3n
   all_goals simp only [h3,decide_true,decide_false,Bool.not_true,Bool.not_false] at h3b h3n
   all_goals clear HYr
   all_goals go_wp2
   all_goals refine ⟨⟨k+1,by omega,by go_num,?_,?_,trivial⟩,by simp [intOf];omega⟩
   all_goals first
    |(rw [HF.out.1];simp [h1];done)
    |(rw [HF.out.2];simp [h2,h3,h4];done)
    |(rw [HF.out.2];simp_all;done)
  ·obtain rfl:k=rs.length:=by omega
   rw [List.take_length];have hy:=HYr.out rs.length;rw [List.take_length] at hy;have hq:=HQ.out;unfold nearR at hq;generalize firstR rs=F at*;generalize hiR rs=G at*;have HQ2:=hid hq;have HY:=hid hy
   have hw1:wrap64 (G+402)=G+402:=by unfold wrap64;omega
   clear hq hy HQ HYr
   go_wp2_with fail
   go_loopw [6,7] (fun v yv wr=>∃ (ahead:List Turn) (Y:Int),yv= .int .i64 Y/\F<=Y/\Y<=10500/\nearYearsR rs (G+402 - Y+1).toNat Y ahead=Q/\ahead.length<=rs.length/\bdT ahead/\wr.ownsRow w.heap.size 90 4 v ahead.length (ahead.flatMap Turn.cells)/\Below w.heap.size w wr) (fun _ yv _=>(G+403 - intOf yv).toNat)
   case atStart=>exact ⟨[],F,rfl,Int.le_refl _,by have:=HY.out;omega,HQ2.out,Nat.zero_le _,fun t ht=>absurd ht (List.not_mem_nil),World.ownsRow_nil _ _ _ _,Below.refl _ _⟩
   case round=>
    obtain ⟨had,Y,rfl,hY1,hY2,hny,hlen,hbd,hown,hb⟩:=hrel;have HBd:=hid hbd;have Hown:=hid hown;have HB:=hid hb;have HNy:=hid hny;clear hbd hown hb hny HQ2;obtain ⟨A2,c2,hv⟩:=own_slice Hown.out;subst hv
    by_cases hyg:Y<=G+402
    ·have hT:=turns_any rs A c Y wr ((H.out.below HB.out).more HB.out.size) (by omega)
     have HT:=hid hT
     have hst:nearUpto (had++yearR rs Y) [] (had++yearR rs Y).length=true\/(nearUpto (had++yearR rs Y) [] (had++yearR rs Y).length=false/\nearYearsR rs (G+402 - (Y+1)+1).toNat (Y+1) (yearR rs Y)=Q):=by
      have h1:=HNy.out
      rw [show (G+402 - Y+1).toNat=(G+402 - (Y+1)+1).toNat+1 by omega,nearYearsR] at h1
      cases hn:nearUpto (had++yearR rs Y) [] (had++yearR rs Y).length
      ·rw [hn,Bool.false_or] at h1
       exact .inr ⟨rfl,h1⟩
      ·exact .inl rfl
     have hq1:nearUpto (had++yearR rs Y) [] (had++yearR rs Y).length=true->Q=true:=fun h=>by
      have h1:=HNy.out
      rw [show (G+402 - Y+1).toNat=(G+402 - (Y+1)+1).toNat+1 by omega,nearYearsR,h,Bool.true_or] at h1
      exact h1.symm
     have hnow:=yearR_bd (rs:=rs) (y:=Y);have hnl:=yearR_le rs Y;have hsz:sortT (rs.filterMap (turnL Y))=yearR rs Y:=rfl;rw [hsz] at HT;generalize hyr:yearR rs Y=now at*;have HSt:=hid hst;have HQ1:=hid hq1;have HNow:=hid hnow;clear hst hq1 hnow hT hsz hyr HNy
     have hw2:wrap64 (Y+1)=Y+1:=by have:=HY.out;unfold wrap64;omega
     go_wp2_with (first
      |(go_at_call 50;refine HT.out.mono ?_;rintro e w1 ⟨A3,c3,rfl,ho1,hb1⟩;have HO1:=hid ho1;have hoa:=Rul.own_below Hown.out hb1;have HB1:=hid (HB.out.trans (hb1.mono HB.out.size));have HR1:=hid (((Reads.of_own hoa).alloc (Nat.le_refl _) (.cells #[] 90)).more (by simp):Reads (w1.alloc (.cells #[] 90)) (w1.alloc (.cells #[] 90)).heap.size 4 A2 had.length (had.flatMap Turn.cells));clear ho1 hb1 hoa)
      |(at_builtin;refine wpList_append_any (w1.alloc (.cells #[] 90)) rfl (.tmp 73) (.tmp 74) 86 rfl w1.heap.size 90 i0 _ 4 40 underlying86 hi0 hz0 hz1 hz2 rfl (by decide) _ 0 [] rfl (own_empty w1) _ A2 had.length c2 _ rfl HR1.out all_one (by unfold maxLen;omega) (by omega) (by simp) ?_;intro v5 w5 ho5 hg5 _;have hb5:=((Below.refl w1.heap.size w1).alloc (Nat.le_refl _) (.cells #[] 90)).grown hg5 (by simp) (fun j hj=>((own_empty w1).lt j hj).1);have HB5:=hid hb5;have HO5:=hid ho5;have HR5:=hid (((Reads.of_own HO1.out).below hb5).more hb5.size);clear ho5 hg5 hb5)
      |(at_builtin;refine wpList_append_any w5 rfl (.tmp 75) (.tmp 76) 86 rfl w1.heap.size 90 i0 _ 4 40 underlying86 hi0 hz0 hz1 hz2 rfl (by decide) v5 _ _ rfl HO5.out _ A3 now.length c3 _ rfl HR5.out all_one (by unfold maxLen;omega) (by omega) HB5.out.size ?_;intro v6 w6 ho6 hg6 _;have hb6:=HB5.out.grown hg6 HB5.out.size (fun j hj=>(HO5.out.lt j hj).1);have HB6:=hid hb6;have HO6:=hid ho6;obtain ⟨A6,c6,hv6⟩:=own_slice ho6;clear ho6 hg6 hb6))
     subst hv6
     have hL:w6.ownsRow w1.heap.size 90 4 (.slice A6 (had.length+now.length) c6) (had.length+now.length) ((had++now).flatMap Turn.cells):=by
      have h1:=HO6.out;rw [Nat.zero_add] at h1
      simpa using h1
     have hrl:=Reads.of_own hL;have hLl:(had++now).length=had.length+now.length:=List.length_append
     have hbL:bdT (had++now):=fun t ht=>by
      rcases List.mem_append.1 ht with h1|h1
      ·exact HBd.out t h1
      ·exact HNow.out t h1
     have hno:w6.ownsRow wr.heap.size 90 4 (.slice A3 now.length c3) now.length (now.flatMap Turn.cells):=Rul.own_below HO1.out HB6.out;have hb6:Below w.heap.size w w6:=HB1.out.trans (HB6.out.mono HB1.out.size);have hz6:=HB.out.size;generalize had++now=L at*;have HRl:=hid hrl;have HLl:=hid hLl;have HbL:=hid hbL;have HNo:=hid hno;have HB6':=hid hb6;clear hL hrl hLl hbL hno hb6 HO6 HB5 HO5 HR5 HR1 HO1
     go_loopw [10] (fun i wr2=>∃ (a n:Nat),a<=L.length/\i= .int .i64 a/\nearUpto L [] a=false/\wr2=w6.drewN n) (fun i _=>L.length - (intOf i).toNat)
     case atStart=>exact ⟨0,0,Nat.zero_le _,rfl,rfl,rfl⟩
     case round=>
      obtain ⟨a,n,ha,rfl,hup,hw6⟩:=hrel;have Hup:=hid hup;have HL2:=hid HLl.out;clear hup;subst hw6
      by_cases han:a<L.length
      ·have hlt:(a:Int)<(had.length:Int)+(now.length:Int):=by have:=HLl.out;omega
       have hux:nearUpto L [] (a+1)=(L.take a).any (nearT L[a]):=by
        rw [nearUpto,Hup.out,List.getElem?_eq_getElem han,Bool.false_or,List.append_nil]
       obtain ⟨ad,hA6,hadb,d0,d1,d2,d3⟩:=turn_cells HRl.out han HLl.out;have Hd0:=hid d0;have Hba:=hid (HbL.out L[a] (List.getElem_mem han));generalize hx:L[a]=x at*;have Hux:=hid hux;have Hx:=hid hx;clear hux hx d0 d1 d2 d3;subst hA6;obtain ⟨x0,x1,x2,x3⟩:=x
       go_wp2_with fail
       go_loopw [11] (fun i wr3=>∃ (b n:Nat),b<=a/\i= .int .i64 b/\(L.take b).any (nearT ⟨x0,x1,x2,x3⟩)=false/\wr3=w6.drewN n) (fun i _=>a - (intOf i).toNat)
       case atStart=>exact ⟨0,n,Nat.zero_le _,rfl,rfl,rfl⟩
       case round=>
        obtain ⟨b,n,hb,rfl,hany,hw6⟩:=hrel;have Hany:=hid hany;clear hany;subst hw6
        by_cases hbn:b<a
        ·have hbl:b<L.length:=by omega
         obtain ⟨ad',hA6,_,e0,e1,e2,e3⟩:=turn_cells HRl.out hbl HLl.out
         obtain rfl:ad=ad':=by injection hA6
         have hby:=HbL.out L[b] (List.getElem_mem hbl)
         have hsn:(L.take (b+1)).any (nearT ⟨x0,x1,x2,x3⟩)=nearT ⟨x0,x1,x2,x3⟩ L[b]:=by
          rw [List.take_succ_eq_append_getElem hbl,List.any_append,Hany.out];simp
         have hyes:nearT ⟨x0,x1,x2,x3⟩ L[b]=true->(L.take a).any (nearT ⟨x0,x1,x2,x3⟩)=true:=fun h=>List.any_eq_true.2 ⟨L[b],by
          rw [List.mem_iff_getElem]
          exact ⟨b,by simp;omega,by simp⟩,h⟩
         obtain ⟨Cls,hCls⟩:∃ C:World->Prop,C=fun z=>∃ n,z=w6.drewN n:=⟨_,rfl⟩
         have hst:Cls (w6.drewN n).drew:=by rw [hCls];exact ⟨n+1,rfl⟩
         have hC:∀ z,Cls z->∃ n,z=w6.drewN n:=fun z h=>by rw [hCls] at h;exact h
         have inst:Nonempty (Qt.In Cls):=⟨⟨_,hst⟩⟩
         have zA:∀ z:Qt.In Cls,z.w.cell? (ad.add (a*4))=some (.int .i64 x0):=fun z=>by
          obtain ⟨n,e⟩:=hC z.w z.h;rw [e];exact Hd0.out
         have zB:∀ z:Qt.In Cls,z.w.cell? (ad.add (b*4))=some (.int .i64 L[b].at_):=fun z=>by
          obtain ⟨n,e⟩:=hC z.w z.h;rw [e];exact e0
         have HC:=hid hC;have HSn:=hid hsn;have HYes:=hid hyes;have hba:=Hba.out;clear hC hCls hsn hyes e0 e1 e2 e3 hA6;generalize L[b]=y at*;obtain ⟨y0,y1,y2,y3⟩:=y;simp only [nearT] at HSn HYes zB hby
         have hwr:wrap64 (x0 - y0)=x0 - y0:=by unfold wrap64;omega
         have hla:(a:Int)<(had.length:Int)+(now.length:Int):=by have:=HLl.out;omega
         have hlb:(b:Int)<(had.length:Int)+(now.length:Int):=by have:=HLl.out;omega
         go_wp2
         refine Qt.wp_region_cls Cls (by kernel_rfl) (by kernel_rfl) hst ?_
         repeat (go_big_quiet_step (fail))
         refine wpQuiet_nil ?_
         rintro wq ⟨⟨w9,hq⟩,e9⟩
         obtain ⟨nq,hnq⟩:=HC.out wq (by rw [e9];exact hq)
         clear hq e9 zA zB hwr hba hby;subst hnq
         cases h1:decide (x0 - y0<172800)<;>cases h2:decide (-172800<x0 - y0)
         all_goals rw [h1,h2] at HSn HYes
         rotate_right
         ·have hy:=HYes.out rfl
          have hq:Q=true:=HQ1.out (nearUpto_true han (by rw [Hux.out];exact hy))
          subst hq;clear hy HYes HSn HQ1;go_wp2;go_ret;exact ⟨rfl,below_dr HB6'.out⟩
         all_goals
          have Hs:Hid ((L.take (b+1)).any (nearT ⟨x0,x1,x2,x3⟩)=false):=HSn.out;clear HSn HYes;go_wp2
          exact ⟨⟨b+1,nq,by omega,by go_num,Hs.out,rfl⟩,by simp [intOf];omega⟩
        ·obtain rfl:b=a:=by omega
         have hn2:nearUpto L [] (b+1)=false:=by rw [Hux.out];exact Hany.out
         have Hn2:=hid hn2;clear hn2;go_wp2
         exact ⟨⟨b+1,n,by omega,by go_num,Hn2.out,rfl⟩,by simp [intOf];omega⟩
      ·obtain rfl:a=L.length:=by omega
       have hlt:¬ ((L.length:Int)<(had.length:Int)+(now.length:Int)):=by have:=HLl.out;omega
       have hs:=HSt.out;rw [Hup.out] at hs
       have hs2:nearYearsR rs (G+402 - (Y+1)+1).toNat (Y+1) now=Q:=by
        rcases hs with h1|h1
        ·cases h1
        ·exact h1.2
       have HS2:=hid hs2;clear hs hs2;go_wp2
       exact ⟨⟨now,Y+1,by rw [hw2],by omega,by have:=HY.out;omega,HS2.out,hnl,HNow.out,own_base (w:=w6.drewN n) HNo.out hz6,below_dr HB6'.out⟩,by rw [hw2];simp [intOf];omega⟩
    ·have hq:Q=false:=by
      have h1:=HNy.out
      rw [show (G+402 - Y+1).toNat=0 by omega] at h1
      exact h1.symm
     subst hq;clear HNy;go_wp2;go_ret;exact ⟨rfl,HB.out⟩
end R11
namespace R11
open Go.RowKit Mem Civ Mom Img Rul
theorem upto_pre (had now:List Turn) (k:Nat) (hk:k<=had.length):nearUpto (had++now) [] k=nearUpto had [] k:=by
 induction k with
 |zero=>rfl
 |succ k ih=>
  rw [nearUpto,nearUpto,ih (by omega),List.getElem?_append_left (by omega),List.take_append_of_le_length (by omega)]
theorem upto_both (had now:List Turn) (k:Nat) (hk:k<=now.length):nearUpto (had++now) [] (had.length+k)=(nearUpto had [] had.length || nearUpto now had k):=by
 induction k with
 |zero=>rw [Nat.add_zero,upto_pre had now _ (Nat.le_refl _),nearUpto,Bool.or_false]
 |succ k ih=>
  rw [<-Nat.add_assoc,nearUpto,nearUpto,ih (by omega),List.getElem?_append_right (by omega),Nat.add_sub_cancel_left,List.take_length_add_append,Bool.or_assoc,List.append_nil]
  cases now[k]? with
  |none=>rfl
  |some x=>simp only [List.any_append,Bool.or_comm]
theorem upto_mono (now had:List Turn) (k:Nat) (h:nearUpto now had k=false):nearUpto now [] k=false:=by
 induction k with
 |zero=>rfl
 |succ k ih=>
  rw [nearUpto,Bool.or_eq_false_iff] at h ⊢
  refine ⟨ih h.1,?_⟩
  have h2:=h.2
  revert h2
  cases now[k]? with
  |none=>exact id
  |some x=>
   simp only [List.any_append,List.append_nil,Bool.or_eq_false_iff];exact fun h=>h.1
theorem turnsL_yearR {rs:List Rule} (h:rulesB rs=true) (y:Int):turnsL rs y=yearR rs y:=by rw [turnsL,if_pos h,yearR]
theorem years_same {rs:List Rule} (h:rulesB rs=true) (n:Nat):∀ (y:Int) (had:List Turn),nearUpto had [] had.length=false->nearYearsR rs n y had=nearYears rs n y had:=by
 induction n with
 |zero=>intro y had _;rfl
 |succ n ih=>
  intro y had hf;rw [nearYearsR,nearYears,List.length_append,upto_both _ _ _ (Nat.le_refl _),hf,Bool.false_or,turnsL_yearR h,nearerB]
  cases hn:nearUpto (yearR rs y) had (yearR rs y).length
  ·rw [Bool.false_or,Bool.false_or,ih _ _ (upto_mono _ _ _ hn)]
  ·rfl
theorem years_more (rs:List Rule) (n:Nat):∀ (y:Int) (had:List Turn),nearYears rs (n+2) y had=(nearYears rs (n+1) y had || nearerB (turnsL rs (y+n+1)) (turnsL rs (y+n))):=by
 induction n with
 |zero=>
  intro y had;simp only [nearYears,Bool.or_false,Int.natCast_zero,Int.add_zero]
 |succ n ih=>
  intro y had
  rw [show nearYears rs (n+1+2) y had=(nearerB (turnsL rs y) had || nearYears rs (n+2) (y+1) (turnsL rs y)) from rfl,show nearYears rs (n+1+1) y had=(nearerB (turnsL rs y) had || nearYears rs (n+1) (y+1) (turnsL rs y)) from rfl,ih,Bool.or_assoc]
  rw [show y+1+(n:Int)+1=y+((n+1:Nat):Int)+1 by omega,show y+1+(n:Int)=y+((n+1:Nat):Int) by omega]
theorem years_step (rs:List Rule) (n:Nat):∀ (i:Nat) (y:Int) (had:List Turn),i+1<n->nearerB (turnsL rs (y+i+1)) (turnsL rs (y+i))=true->nearYears rs n y had=true:=by
 induction n with
 |zero=>intro i y had hi;omega
 |succ n ih=>
  intro i y had hi h;rw [nearYears]
  rcases i with _|i
  ·obtain ⟨n,rfl⟩:∃ k,n=k+1:=⟨n - 1,by omega⟩
   rw [nearYears];simp only [Int.natCast_zero,Int.add_zero] at h;rw [h];simp
  ·rw [ih i (y+1) (turnsL rs y) (by omega) (by rw [<-h];congr 2<;>omega),Bool.or_true]
def later (c:Int) (t:Turn):Turn:=⟨t.at_+c,t.ref,t.save,t.letter⟩
theorem posT_later (c:Int) (x:Turn) (S:List Turn) (j:Nat):posT (later c x) (S.map (later c)) j=posT x S j:=by
 induction j with
 |zero=>rfl
 |succ j ih=>
  rw [posT,posT,List.getElem?_map,ih]
  cases S[j]? with
  |none=>rfl
  |some e=>
   show (if x.at_+c<e.at_+c then posT x S j else j+1)=(if x.at_<e.at_ then posT x S j else j+1)
   by_cases h:x.at_<e.at_
   ·rw [if_pos h,if_pos (by omega)]
   ·rw [if_neg h,if_neg (by omega)]
theorem insT_later (c:Int) (S:List Turn) (x:Turn):insT (S.map (later c)) (later c x)=(insT S x).map (later c):=by
 unfold insT putT;rw [List.length_map,posT_later,List.map_append,List.map_cons,List.map_take,List.map_drop]
theorem sortT_later (c:Int) (l:List Turn):sortT (l.map (later c))=(sortT l).map (later c):=by
 have:∀ (l S:List Turn),(l.map (later c)).foldl insT (S.map (later c))=(l.foldl insT S).map (later c):=by
  intro l
  induction l with
  |nil=>intro S;rfl
  |cons a l ih=>intro S;rw [List.map_cons,List.foldl_cons,List.foldl_cons,insT_later,ih]
 exact this l []
theorem nearT_later (c:Int) (a b:Turn):nearT (later c a) (later c b)=nearT a b:=by
 unfold nearT later
 show (decide (a.at_+c - (b.at_+c)<172800) && decide (-172800<a.at_+c - (b.at_+c)))=_
 rw [show a.at_+c - (b.at_+c)=a.at_ - b.at_ by omega]
theorem upto_later (c:Int) (now had:List Turn) (k:Nat):nearUpto (now.map (later c)) (had.map (later c)) k=nearUpto now had k:=by
 induction k with
 |zero=>rfl
 |succ k ih=>
  rw [nearUpto,nearUpto,ih,List.getElem?_map]
  congr 1
  cases now[k]? with
  |none=>rfl
  |some x=>
   show ((now.map (later c)).take k++had.map (later c)).any (nearT (later c x))=(now.take k++had).any (nearT x)
   rw [<-List.map_take,<-List.map_append,List.any_map]
   congr 1
   funext t
   exact nearT_later c x t
theorem nearer_later (c:Int) (now had:List Turn):nearerB (now.map (later c)) (had.map (later c))=nearerB now had:=by
 rw [nearerB,nearerB,List.length_map,upto_later]
theorem leap_again (y:Int):leapB (y+400)=leapB y:=by
 unfold leapB
 rw [show (y+400) % 4=y % 4 by omega,show (y+400) % 100=y % 100 by omega,show (y+400) % 400=y % 400 by omega]
theorem mlen_again (y m:Int):mlen (y+400) m=mlen y m:=by unfold mlen;rw [leap_again]
theorem count_again (y m d:Int):countI (y+400) m d=countI y m d+146097:=by
 unfold countI
 dsimp only
 split<;>omega
theorem count_in {y m:Int} (hy:1<=y/\y<=20000) (hm:1<=m/\m<=12): -1000000<=countI y m 1/\countI y m 1<=10000000:=by
 unfold countI
 dsimp only
 split<;>omega
theorem days_again {y m:Int} (hy:1<=y/\y<=19000) (hm:1<=m/\m<=12):daysO (y+400) m 1=(daysO y m 1).map (·+146097):=by
 have h1:=count_in (y:=y) ⟨by omega,by omega⟩ hm
 have h2:=count_in (y:=y+400) ⟨by omega,by omega⟩ hm
 unfold daysO;rw [mlen_again]
 by_cases h:mlen y m<1
 ·rw [if_pos (by omega),if_pos (by omega)];rfl
 ·rw [if_neg (by omega),if_neg (by omega),if_neg (by omega),if_neg (by omega),count_again];rfl
theorem back_again (n wd:Int):backI (n+146097) wd=backI n wd:=by unfold backI;omega
theorem day_again (s:Spot) (f l:Int):spotDay s (f+146097) l=spotDay s f l+146097:=by
 unfold spotDay
 rw [show f+146097+l - 1=f+l - 1+146097 by omega,show f+146097+s.day+5=f+s.day+5+146097 by omega,show f+146097+s.day - 1=f+s.day - 1+146097 by omega,back_again,back_again,back_again]
 split
 ·rfl
 ·split
  ·omega
  ·split<;>omega
theorem on_again {s:Spot} {y:Int} (hy:1<=y/\y<=19000):onO s (y+400)=(onO s y).map (·+146097):=by
 cases hs:spotB s
 ·unfold onO
  rw [if_pos (.inl hs),if_pos (.inl hs)];rfl
 ·have hok:=spotB_ok hs
  have hm:1<=s.month/\s.month<=12:=⟨hok.1,hok.2.1⟩
  have hc:=count_in (y:=y) (m:=s.month) ⟨by omega,by omega⟩ hm
  unfold onO
  rw [if_neg (by rw [hs];simp;omega),if_neg (by rw [hs];simp;omega),days_again hy hm,mlen_again]
  cases hd:daysO y s.month 1 with
  |none=>rfl
  |some f=>
   have hf:f=countI y s.month 1:=by
    unfold daysO at hd
    split at hd
    ·cases hd
    ·split at hd
     ·cases hd
     ·exact (Option.some.inj hd).symm
   rw [Option.map_some,Option.bind_some,Option.bind_some,day_again];have hml:=mlen_bd y s.month
   have hb:spotDay s f (mlen y s.month)<=90000000:=by
    obtain ⟨_,_,_,_,_,_,_,_,ho1,ho2,ho3⟩:=hok;have b1:=backI_bd (f+mlen y s.month - 1) s.weekday;have b2:=backI_bd (f+s.day+5) s.weekday;have b3:=backI_bd (f+s.day - 1) s.weekday;unfold spotDay
    split
    ·have:=ho1 (by omega);omega
    ·split
     ·have:=ho2 (by omega);omega
     ·split
      ·have:=ho3 (by omega);omega
      ·have:=ho3 (by omega);omega
   rw [if_neg (by omega),if_neg (by omega)];rfl
theorem local_again {s:Spot} {y:Int} (hy:1<=y/\y<=19000):localO s (y+400)=(localO s y).map (·+12622780800):=by
 unfold localO;rw [on_again hy]
 cases onO s y with
 |none=>rfl
 |some n=>show some _=some _;congr 1;show (n+146097)*86400+s.time=n*86400+s.time+12622780800;omega
theorem turn_again {r:Rule} {y:Int} (hy:1<=y/\y<=19000) (hr:r.lo<=y/\(r.hi<y\/r.hi=1000000)):turnL (y+400) r=(turnL y r).map (later 12622780800):=by
 unfold turnL turnO;simp only [local_again hy]
 rw [show decide (r.lo<=y+400/\y+400<=r.hi)=decide (r.lo<=y/\y<=r.hi) by rw [decide_eq_decide];omega]
 cases localO (spotOf r) y with
 |none=>rfl
 |some n=>
  cases decide (r.lo<=y/\y<=r.hi)<;>rfl
theorem filter_again {rs:List Rule} {y:Int} (hy:1<=y/\y<=19000) (hr:∀ r∈rs,r.lo<=y/\(r.hi<y\/r.hi=1000000)):rs.filterMap (turnL (y+400))=(rs.filterMap (turnL y)).map (later 12622780800):=by
 induction rs with
 |nil=>rfl
 |cons a l ih=>
  rw [List.filterMap_cons,List.filterMap_cons,turn_again hy (hr a List.mem_cons_self),ih fun r hm=>hr r (List.mem_cons_of_mem _ hm)]
  cases turnL y a<;>rfl
theorem years_again {rs:List Rule} {y:Int} (hy:1<=y/\y<=19000) (hr:∀ r∈rs,r.lo<=y/\(r.hi<y\/r.hi=1000000)):turnsL rs (y+400)=(turnsL rs y).map (later 12622780800):=by
 unfold turnsL
 split
 ·rw [filter_again hy hr,sortT_later]
 ·rfl
theorem last_ge (l:List Rule):∀ m:Int,m<=l.foldl lastY1 m/\∀ r∈l,r.lo<=l.foldl lastY1 m/\(r.hi<=l.foldl lastY1 m\/r.hi=1000000):=by
 induction l with
 |nil=>intro m;exact ⟨Int.le_refl _,fun r h=>absurd h List.not_mem_nil⟩
 |cons a l ih=>
  intro m;have h:=ih (lastY1 m a)
  have h1:m<=lastY1 m a/\a.lo<=lastY1 m a/\(a.hi<=lastY1 m a\/a.hi=1000000):=by
   unfold lastY1
   split<;>omega
  rw [List.foldl_cons]
  refine ⟨by omega,fun r hr=>?_⟩
  rcases List.mem_cons.1 hr with rfl|hr
  ·omega
  ·exact h.2 r hr
theorem ends_same {rs:List Rule} (h:rulesB rs=true) (k:Nat) (hk:k<rs.length):firstR (rs.take (k+1))=firstY (rs.take (k+1))/\hiR (rs.take (k+1))=lastY (rs.take (k+1)):=by
 induction k with
 |zero=>
  have hr:=rule_years (List.all_eq_true.1 h rs[0] (List.getElem_mem hk));rw [firstR_succ rs 0 hk,firstY_succ rs 0 hk,hiR_succ rs 0 hk,lastY_succ rs 0 hk]
  show (if _<(10000:Int) then _ else (10000:Int))=min (9999:Int) _/\hiStep 0 _=lastY1 1 _
  unfold hiStep lastY1
  refine ⟨by split<;>omega,?_⟩
  split<;>split<;>(try split)<;>omega
 |succ k ih=>
  have hr:=rule_years (List.all_eq_true.1 h rs[k+1] (List.getElem_mem hk))
  obtain ⟨h1,h2⟩:=ih (by omega)
  rw [firstR_succ rs _ hk,firstY_succ rs _ hk,hiR_succ rs _ hk,lastY_succ rs _ hk,h1,h2];unfold hiStep lastY1
  refine ⟨by split<;>omega,?_⟩
  split<;>split<;>(try split)<;>omega
theorem ends_all {rs:List Rule} (h:rulesB rs=true) (hne:rs≠[]):firstR rs=firstY rs/\hiR rs=lastY rs:=by
 have hl:=List.length_pos_iff.2 hne
 have hs:=ends_same h (rs.length - 1) (by omega)
 rw [Nat.sub_add_cancel hl,List.take_length] at hs;exact hs
theorem near_same {rs:List Rule} (h:rulesB rs=true) (hc:crowdB rs=false) (hne:rs≠[]):nearR rs=nearB rs:=by
 have hy:=years_bd rs h rs.length;rw [List.take_length] at hy;have hfl:=first_last hne;unfold nearR nearB;rw [h,hc,(ends_all h hne).1,(ends_all h hne).2,years_same h _ _ _ rfl,List.isEmpty_eq_false_iff.2 hne];simp only [Bool.true_and,Bool.not_false];generalize firstY rs=F at*;have hall:∀ r∈rs,r.lo<=lastY rs/\(r.hi<=lastY rs\/r.hi=1000000):=(last_ge rs 1).2;generalize lastY rs=L at*
 obtain ⟨n,hn⟩:∃ n:Nat,L+401 - F+1=n+1:=⟨(L+401 - F).toNat,by omega⟩
 rw [show (L+402 - F+1).toNat=n+2 by omega,show (L+401 - F+1).toNat=n+1 by omega,years_more]
 cases hv:nearerB (turnsL rs (F+n+1)) (turnsL rs (F+n))
 ·exact Bool.or_false _
 ·rw [show F+(n:Int)+1=L+2+400 by omega,show F+(n:Int)=L+1+400 by omega,years_again ⟨by omega,by omega⟩ (fun r hm=>by have:=hall r hm;omega),years_again ⟨by omega,by omega⟩ (fun r hm=>by have:=hall r hm;omega),nearer_later] at hv
  rw [years_step rs (n+1) (L+1 - F).toNat F [] (by omega) (by rw [show F+((L+1 - F).toNat:Int)=L+1 by omega,show L+1+1=L+2 by omega];exact hv)]
  rfl
end R11
end
end
end Go.Proofs.YtmlejgdohcpmjaaGreatDoor
