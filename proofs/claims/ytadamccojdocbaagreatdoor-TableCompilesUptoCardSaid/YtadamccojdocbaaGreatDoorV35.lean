/-
  Contracts of the code that the law reaches, and plain laws. Conditions: as each says.
-/
import Derived.Test.YtadamccojdocbaaGreatDoorV34
set_option linter.all false
set_option maxHeartbeats 40000000
set_option maxRecDepth 100000
namespace Go.Proofs.YtadamccojdocbaaGreatDoor
open Lib (hid)
open Tryz
section
section
namespace Cmq
open Go.RowKit Mem Civ Mom Img Plc Rul Ahd Trn Src Snd Att Rgt Abr Srd Sch
theorem Kx.step {b:Nat} {w W W':World} (h:Kx b w W) (hb:Below W.heap.size W W'):Kx b w W':=
 ⟨Nat.le_trans h.size hb.size,fun k h1 h2=>(hb.block k (Nat.lt_of_lt_of_le h1 h.size)).trans (h.same k h1 h2)⟩
theorem reads_kx {bx size n:Nat} {w W:World} {A:Option Addr} {xs:List Value} (h:Reads w w.heap.size size A n xs) (hk:Kx bx w W) (hn:∀ ad,A=some ad->ad.block≠bx):Reads W W.heap.size size A n xs:=
 ⟨h.1,fun h0=>by
  obtain ⟨ad,e,hb,hc⟩:=h.2 h0
  refine ⟨ad,e,Nat.lt_of_lt_of_le hb hk.size,fun j u hu=>?_⟩
  rw [World.cell?_of_block (hk.same (ad.add j).block (by rw [block_of_add];exact hb) (by rw [block_of_add];exact hn ad e))]
  exact hc j u hu⟩
theorem frc_kx {w w7 W:World} {src tab zon:Array Value} {bz bx:Nat} (h:FrC w src tab zon bz w7) (hk:Kx bx w7 W) (hb:bz<bx) (hw:Below w.heap.size w W):FrC w src tab zon bz W:=
 ⟨hk.blk h.src (by have:=h.lo;omega),hk.blk h.res (by have:=h.lo;omega),hk.blk h.zon (by omega),hw,h.lo⟩
theorem frc_set {w W:World} {src tab zon:Array Value} {bz:Nat} (h:FrC w src tab zon bz W) {p:Addr} (hp:bz<p.block) (u:Value):FrC w src tab zon bz (W.setCell p u):=
 ⟨h.src.far (by have:=h.lo;omega) u,h.res.far (by have:=h.lo;omega) u,h.zon.far (by omega) u,h.bel.setCell (by have:=h.lo;omega) u,h.lo⟩
theorem frc_set9 {w W:World} {src tab zon:Array Value} {bz R0:Nat} (h:FrC w src tab zon bz W) (hp:bz<R0) (a0 a1 a2 a3 a4 a5 a6 a7 a8:Value):FrC w src tab zon bz (((((((((W.setCell ⟨R0,0,none⟩ a0).setCell ⟨R0,1,none⟩ a1).setCell ⟨R0,2,none⟩ a2).setCell ⟨R0,3,none⟩ a3).setCell ⟨R0,4,none⟩ a4).setCell ⟨R0,5,none⟩ a5).setCell ⟨R0,6,none⟩ a6).setCell ⟨R0,7,none⟩ a7).setCell ⟨R0,8,none⟩ a8):=
 frc_set (frc_set (frc_set (frc_set (frc_set (frc_set (frc_set (frc_set (frc_set h (p:=⟨R0,0,none⟩) hp _) (p:=⟨R0,1,none⟩) hp _) (p:=⟨R0,2,none⟩) hp _) (p:=⟨R0,3,none⟩) hp _) (p:=⟨R0,4,none⟩) hp _) (p:=⟨R0,5,none⟩) hp _) (p:=⟨R0,6,none⟩) hp _) (p:=⟨R0,7,none⟩) hp _) (p:=⟨R0,8,none⟩) hp _
theorem eraD_ok {x:Era} (h:eraB x=true):EraD x:=by
 obtain ⟨h1,h2,h3,h4,_,h6,_⟩:=era_parts h
 exact ⟨h1,h4,fun a b=>by
  have h0:x.kind=0:=by omega
  exact h6 (.inl h0),by omega⟩
theorem eraRef_ok {x:Era} (h:eraB x=true):0<=x.spot.ref/\x.spot.ref<=2:=by
 unfold eraB tillB at h;simp only [Bool.and_eq_true] at h;obtain ⟨_,_,h4⟩:=h
 split at h4
 ·rw [Bool.and_eq_true] at h4
  have hp:x.spot.okP:=of_decide_eq_true h4.2;unfold Spot.okP at hp;omega
 ·rw [Bool.and_eq_true,decide_eq_true_eq,decide_eq_true_eq] at h4
  rw [h4.2]
  exact ⟨by decide,by decide⟩
theorem first_ref {rs:List Rule} {sv:Era->Int}:∀ {es:List Era},EndsOk sv everT es->refL rs sv es everT=firstZ rs es
 |[],h=>h.elim
 |[x],h=>by
  have h1:x.till=false:=h
  show (if x.till=true/\endP sv x<=everT then refL rs sv [] everT else phaseE rs x everT)=_
  rw [if_neg (by rw [h1];simp)]
  rfl
 |x :: y :: es,h=>by
  have h1:everT<endP sv x:=h.2.1
  show (if x.till=true/\endP sv x<=everT then refL rs sv (y :: es) everT else phaseE rs x everT)=_
  rw [if_neg (by omega)]
  rfl
theorem flat_len {α β:Type} (f:α->List β) (n:Nat):∀ (l:List α),(∀ x∈l,(f x).length<=n)->(l.flatMap f).length<=l.length*n
 |[],_=>by simp
 |a :: l,h=>by
  have h1:=h a (by simp)
  have h2:=flat_len f n l fun x hx=>h x (by simp [hx])
  rw [List.flatMap_cons,List.length_append,List.length_cons,Nat.add_mul];omega
theorem secs_len {s:Src} (h:checkB s=noFlaw) {z:ZoneM} (hz:z∈s.zones):(secsZ s (lastZ s.rules z.eras) z.eras).length<=1000000000:=by
 have hs:=(clean_parts h).1;have hy:=zone_year h hz;have hw:=(zone_w h hz).le;obtain ⟨hn,_,_⟩:=right_nr hs
 have h1:∀ x∈z.eras,(secsE s (loE s.rules (lastZ s.rules z.eras)) (lastZ s.rules z.eras) x).length<=10003*200+1:=fun x hx=>by
  have hr:=src_right hs x.rules;have hl:=Nat.le_trans (setL_len s.rules x.rules) hn
  have hlo:1<=loE s.rules (lastZ s.rules z.eras) x:=lo_ge _ _ (by omega) fun r hr=>by
   have hp:ruleP r:=of_decide_eq_true (ruleR_parts (src_rules hs r (setL_mem.1 hr).1)).2;exact hp.1.1
  unfold secsE;rw [List.length_append]
  have a1:(if x.till=true then [endP (svF s) x] else []).length<=1:=by split<;>simp
  have a2:(if x.kind=2 then (List.range (lastZ s.rules z.eras+4 - loE s.rules (lastZ s.rules z.eras) x).toNat).flatMap fun (i:Nat)=>(turnsL (setL s.rules x.rules) (loE s.rules (lastZ s.rules z.eras) x+i)).map (uniT (setL s.rules x.rules) x.off) else []).length<=10003*200:=by
   split
   ·refine Nat.le_trans (flat_len _ 200 _ fun i _=>?_) ?_
    ·rw [List.length_map,(turnsL_perm hr _).length_eq]
     exact Nat.le_trans (List.length_filterMap_le _ _) hl
    ·rw [List.length_range]
     exact Nat.mul_le_mul_right _ (by omega)
   ·simp
  omega
 have h2:=flat_len _ _ z.eras h1;unfold secsZ;have h3:z.eras.length*(10003*200+1)<=40*(10003*200+1):=Nat.mul_le_mul_right _ hw;omega
theorem secs_bd {s:Src} (h:checkB s=noFlaw) {z:ZoneM} (hz:z∈s.zones):∀ t∈secsZ s (lastZ s.rules z.eras) z.eras,-9223372036854775807<=t/\t<=9223372036854775807:=by
 intro t ht;have hs:=(clean_parts h).1;have hy:=zone_year h hz;unfold secsZ at ht;obtain ⟨x,hx,ht⟩:=List.mem_flatMap.1 ht;have he:=era_ok h hz hx;unfold secsE at ht
 rcases List.mem_append.1 ht with ht|ht
 ·split at ht
  ·have e:t=endP (svF s) x:=by simpa using ht
   have:=(era_w h hz hx).fin;omega
  ·simp at ht
 ·split at ht
  ·obtain ⟨k,hk,ht⟩:=List.mem_flatMap.1 ht
   obtain ⟨u,hu,e⟩:=List.mem_map.1 ht;have hu2:=(turnsL_perm he.right _).subset hu;obtain ⟨r,hr,hur⟩:=rawT_mem.1 hu2;have hn:=uni_near he.right he.off.1 he.off.2 hr hur
   have hlo:1<=loE s.rules (lastZ s.rules z.eras) x:=lo_ge _ _ (by omega) fun r hr=>by
    have hp:ruleP r:=of_decide_eq_true (ruleR_parts (src_rules hs r (setL_mem.1 hr).1)).2;exact hp.1.1
   have hkl:=List.mem_range.1 hk
   have j1:janI 1= -719162:=by decide
   have j2:janI 20001=6585688:=by decide
   have j3:=jan_mono (a:=1) (b:=loE s.rules (lastZ s.rules z.eras) x+(k:Int)) (by omega)
   have j4:=jan_mono (a:=loE s.rules (lastZ s.rules z.eras) x+(k:Int)) (b:=20001) (by omega)
   omega
  ·simp at ht
theorem own_set9c {W:World} {B n size:Nat} {e:TypeId} {v:Value} {xs:List Value} {R0:Nat} (h:W.ownsRow B e size v n xs) (hR:R0<B) (a0 a1 a2 a3 a4 a5 a6 a7 a8:Value):(((((((((W.setCell ⟨R0,0,none⟩ a0).setCell ⟨R0,1,none⟩ a1).setCell ⟨R0,2,none⟩ a2).setCell ⟨R0,3,none⟩ a3).setCell ⟨R0,4,none⟩ a4).setCell ⟨R0,5,none⟩ a5).setCell ⟨R0,6,none⟩ a6).setCell ⟨R0,7,none⟩ a7).setCell ⟨R0,8,none⟩ a8).ownsRow B e size v n xs:=by
 have hne:v.ownBlock≠some R0:=fun e=>by have:=(h.lt _ e).1;omega
 exact own_set1 (own_set1 (own_set1 (own_set1 (own_set1 (own_set1 (own_set1 (own_set1 (own_set1 h hne 0 _) hne 1 _) hne 2 _) hne 3 _) hne 4 _) hne 5 _) hne 6 _) hne 7 _) hne 8 _
theorem comp14_yes (s:Src) (A A2 A3:Option Addr) (c c2 c3:Nat) (i:Nat) (w:World) (h:SrcOk s A A2 A3 w) (hck:checkB s=noFlaw) (hi:i<s.zones.length) (hcn:cntE s.rules (svF s) (lastZ s.rules (s.zones[i]'hi).eras) everT (s.zones[i]'hi).eras<=29999):
  Calls prog 13 #[.agg #[.slice A s.rules.length c,.slice A2 s.zones.length c2,.slice A3 s.links.length c3],.int .i64 i] w (CompP (tableZ s (s.zones[i]'hi)) 0 w):=by
 have hC:=fun z (hb:Below w.heap.size w z)=>rcheck_any s A A2 A3 c c2 c3 z (h.below hb);have heq:=fun z=>eq_flaw (checkB s) noFlaw z;rw [decide_eq_true hck] at heq;rw [hck] at hC heq;simp only [Flaw.cells,noFlaw] at hC heq;have hs:=(clean_parts hck).1;have hru:=right_rules hs;have hzm:=List.getElem_mem hi;have hre:=h.re _ hzm;have hw:=zone_w hck hzm;have hy:=zone_year hck hzm;have hxa:∀ x∈(s.zones[i]'hi).eras,EraD x/\(0<=x.spot.ref/\x.spot.ref<=2):=fun x hx=>⟨eraD_ok (hw.era x hx),eraRef_ok (hw.era x hx)⟩;have hL:=fun z (hb:Below w.heap.size w z)=>rlast_any s A A2 A3 c c2 c3 (s.zones[i]'hi) z (h.below hb) hzm (fun x hx=>(era_ok hck hzm hx).none_);have hAt:=fun (t:Int) (h1: -9223372036854775808<=t) (h2:t<=9223372036854775807) z (hb:Below w.heap.size w z)=>refAt_any s A A2 A3 c c2 c3 (s.zones[i]'hi) t z (h.below hb) hzm hru hxa h1 h2
 have hSe:=fun z (hb:Below w.heap.size w z)=>seconds_any s A A2 A3 c c2 c3 (s.zones[i]'hi) (lastZ s.rules (s.zones[i]'hi).eras) z (h.below hb) hzm hru (by omega) hy.2 (fun x hx=>(hxa x hx).2) (secs_len hck hzm)
 have hll:=secs_len hck hzm;have hSt:=fun nm z (hb:Below w.heap.size w z)=>rset_any s A A2 A3 c c2 c3 nm z (h.below hb);have hSh:=fun l hl hp=>shifts_are hck hzm hcn (l:=l) hl hp;have hF1:=first_ref (rs:=s.rules) (ends_ok hck hzm);have hbd:∀ t∈secsZ s (lastZ s.rules (s.zones[i]'hi).eras) (s.zones[i]'hi).eras,-9223372036854775807<=t/\t<=9223372036854775807:=secs_bd hck hzm
 have hms:(madeZ s (s.zones[i]'hi)).1.1.length<=29999:=(zone_told (s:=s) (z:=s.zones[i]'hi) (by omega) (by omega) (ends_ok hck hzm) (fun x hx=>era_ok hck hzm hx) hcn).2.2.1
 have hno:∀ x∈(s.zones[i]'hi).eras,x.kind≠2->setL s.rules x.rules=[]:=fun x hx=>(era_ok hck hzm hx).none_;obtain ⟨az,hA2,hazb,z0,z1⟩:=zone_cells h.rz hi rfl;have hne:=hw.ne;have hne2:=hw.le;have hnz:=h.nz;have hnr:=h.nr;obtain ⟨Z,hZ⟩:∃ Z,Z=s.zones[i]'hi:=⟨_,rfl⟩;obtain ⟨T,hT⟩:∃ T,T=tableZ s (s.zones[i]'hi):=⟨_,rfl⟩;rw [<-hT];have hT2:T=⟨(s.zones[i]'hi).name,firstZ s.rules (s.zones[i]'hi).eras,(madeZ s (s.zones[i]'hi)).1.1,untilZ (lastZ s.rules (s.zones[i]'hi).eras),tailZ s.rules (s.zones[i]'hi).eras,offZ s.rules (s.zones[i]'hi).eras,formatZ s.rules (s.zones[i]'hi).eras⟩:=hT;obtain ⟨SS,hSS⟩:∃ SS,SS=(madeZ s (s.zones[i]'hi)).1.1:=⟨_,rfl⟩;rw [<-hSS] at hT2 hSh hms;rw [<-hZ] at hre hL hAt hSe hll hSh hF1 hbd hno z0 z1 hne hne2 hy hT2;clear h hck hcn hs hru hzm hw hxa hT hSS hZ;obtain ⟨year,hyear⟩:∃ y,lastZ s.rules Z.eras=y:=⟨_,rfl⟩;rw [hyear] at hL hSe hll hSh hbd hy hT2
 obtain ⟨hj1,hj2,hj3⟩:=jan_there (y:=year+3) (by omega) (by omega)
 have hD:=fun z=>R05.days_any (year+3) 1 1 z
 have hU:untilZ year=countI (year+3) 1 1*86400:=by unfold untilZ;rw [hj1];rfl
 rw [hj1] at hD;simp only [dayV] at hD;rw [hU] at hSh hT2;obtain ⟨dd,hdd⟩:∃ dd,countI (year+3) 1 1=dd:=⟨_,rfl⟩;rw [hdd] at hj2 hj3 hD hSh hT2;obtain ⟨F,hF⟩:∃ F,refL s.rules (svF s) Z.eras=F:=⟨_,rfl⟩;rw [hF] at hAt hSh hF1;rw [<-hF1] at hT2;obtain ⟨G,hG⟩:∃ G,secsZ s year Z.eras=G:=⟨_,rfl⟩;rw [hG] at hSe hll hSh hbd
 have hAt0:=hAt everT (by unfold everT;omega) (by unfold everT;omega)
 obtain ⟨rs,zs,ls⟩:=s;subst hA2;simp only at hC hL hAt hAt0 hSe hSt hi hre hnz hnr hT2 hno ⊢;obtain ⟨F0,hF0⟩:∃ F0,F everT=F0:=⟨_,rfl⟩;rw [hF0] at hAt0 hT2;obtain ⟨f0,f1,f2⟩:=F0;simp only [everT] at hAt0;have hb2:=box2 w 26 33 #[.slice A rs.length c,.slice (some az) zs.length c2,.slice A3 ls.length c3] #[.string ⟨#[]⟩,.int .i64 0,.int .i64 0,.string ⟨#[]⟩,.slice none 0 0,.int .i64 0,.slice none 0 0,.int .i64 0,.string ⟨#[]⟩];obtain ⟨W,hW2⟩:∃ W,(w.alloc (.cells #[.slice A rs.length c,.slice (some az) zs.length c2,.slice A3 ls.length c3] 26)).alloc (.cells #[.string ⟨#[]⟩,.int .i64 0,.int .i64 0,.string ⟨#[]⟩,.slice none 0 0,.int .i64 0,.slice none 0 0,.int .i64 0,.string ⟨#[]⟩] 33)=W:=⟨_,rfl⟩;rw [hW2] at hb2;obtain ⟨b0,b1,hbw,hsz⟩:=hb2;have HB0:=hid b0;have HB1:=hid b1;have HBw:=hid hbw;have HC:=hid hC;have HL:=hid hL;have HD:=hid hD;have HAt:=hid hAt;have HA0:=hid hAt0;have HSe:=hid hSe;have HSt:=hid hSt;have HRe:=hid hre;have HT2:=hid hT2;have HSh:=hid hSh;have HBd:=hid hbd;have HNo:=hid hno;have Hll:=hid hll;have Hms:=hid hms;have c0:=b0.cell
 have hd:decide (((i:Nat):Int)<0)=false:=decide_eq_false (by omega)
 have hd2:decide (((zs.length:Nat):Int)<=((i:Nat):Int))=false:=decide_eq_false (by omega)
 have hk:∀ (z:World) (p:Addr) (u:Value),Below w.heap.size w z->p.block<w.heap.size->w.cell? p=some u->z.cell? p=some u:=fun z p u hb hp hc=>(hb.cell hp).trans hc
 have HZ:=hid (fun (z:World) (hb:Below w.heap.size w z)=>And.intro (hk z _ _ hb (by rw [block_of_add];exact hazb) z0) (hk z _ _ hb (by rw [block_of_add];exact hazb) z1))
 clear b0 b1 hbw hC hL hD hAt hAt0 hSe hSt hre hT2 hSh hbd hno hll hms hk z0 z1 hyear hdd hj1 hF hG hF0 hU hF1;go_enter func13,ntmps13
 go_wp2_with (first
  |(go_at_call 44;refine (HC.out _ HBw.out).mono ?_;rintro e w1 ⟨rfl,hb⟩;have hx0:=HB0.out.below hb HB0.out.lt;have d0:=fun o i=>(hx0.alloc o).cell i;have d0b:=hx0.cell;have HX0:=hid hx0;have HX1:=hid (HB1.out.below hb HB1.out.lt);have hbx:=HBw.out.trans (hb.mono HBw.out.size);have HBx:=hid hbx;obtain ⟨z0,z1⟩:=HZ.out _ hbx;clear hb hx0 hbx c0)
  |(go_at_call 45;have hfr:FrC w #[.slice A rs.length c,.slice (some az) zs.length c2,.slice A3 ls.length c3] #[.string ⟨#[]⟩,.int .i64 0,.int .i64 0,.string ⟨#[]⟩,.slice none 0 0,.int .i64 0,.slice none 0 0,.int .i64 0,.string ⟨#[]⟩] #[.string Z.name,.slice Z.A Z.eras.length Z.c] w1.heap.size (w1.alloc (.cells #[.string Z.name,.slice Z.A Z.eras.length Z.c] 65)):=⟨HX0.out.alloc _,HX1.out.alloc _,Blk.new _ _ _,HBx.out.alloc HBx.out.size _,by have:=HX1.out.lt;omega⟩;refine (HL.out _ hfr.bel).mono ?_;rintro e w2 ⟨rfl,hb⟩;have HFr:=hid (hfr.step hb);clear hb hfr d0 d0b z0 z1)
  |(go_at_call 46;refine (HD.out _).mono ?_;rintro e w3 ⟨rfl,hb⟩;have hfr:=HFr.out.step hb;have HF3:=hid hfr;clear hb hfr))
 obtain ⟨bz,hbz⟩:∃ b,w1.heap.size=b:=⟨_,rfl⟩;rw [hbz] at HF3 ⊢;clear hbz HBx HX0 HX1 HFr HB0 HB1 HBw hW2 HZ HC HL HD
 go_cut [10] from 48 to 55 (fun s10 wx=>∃ bx,s10= .pointer (some ⟨bx,0,none⟩)/\FrC w #[.slice A rs.length c,.slice (some az) zs.length c2,.slice A3 ls.length c3] #[.string ⟨#[]⟩,.int .i64 0,.int .i64 0,.string ⟨#[]⟩,.slice none 0 0,.int .i64 0,.slice none 0 0,.int .i64 0,.string ⟨#[]⟩] #[.string Z.name,.slice Z.A Z.eras.length Z.c] bz wx/\Blk wx bx 33 #[.string Z.name,.int .i64 f0,.int .i64 f1,.string f2,.slice none 0 0,.int .i64 (dd*86400),.slice none 0 0,.int .i64 0,.string ⟨#[]⟩]/\bz<bx)
 case first=>
  have hKe:∀ w',Below w3.heap.size w3 w'->w'.cell? ⟨w.heap.size,0,none⟩=some (.slice A rs.length c)/\w'.cell? ⟨w.heap.size,1,none⟩=some (.slice (some az) zs.length c2)/\w'.cell? ⟨w.heap.size,2,none⟩=some (.slice A3 ls.length c3)/\w'.cell? ⟨bz,0,none⟩=some (.string Z.name)/\w'.cell? ⟨bz,1,none⟩=some (.slice Z.A Z.eras.length Z.c):=fun w' h=>⟨(HF3.out.step h).src.cell 0,(HF3.out.step h).src.cell 1,(HF3.out.step h).src.cell 2,(HF3.out.step h).zon.cell 0,(HF3.out.step h).zon.cell 1⟩;have HKe:=hid hKe;have kb0:Below w3.heap.size w3 w3.drew:=below_drew w3;have hAW:∀ y,Below w3.heap.size w3 y->_:=fun y (hb:Below w3.heap.size w3 y)=>HA0.out y (HF3.out.bel.trans (hb.mono HF3.out.bel.size));have HAW:=hid hAW;have hz3:=HF3.out.zon.lt
  have hwd:IntKind.i64.wrap (dd*86400)=dd*86400:=by rw [IntKind.wrap_i64];omega
  clear hKe hAW
  go_region_held3 (fun w'=>w'.cell? ⟨w.heap.size,0,none⟩=some (.slice A rs.length c)/\w'.cell? ⟨w.heap.size,1,none⟩=some (.slice (some az) zs.length c2)/\w'.cell? ⟨w.heap.size,2,none⟩=some (.slice A3 ls.length c3)/\w'.cell? ⟨bz,0,none⟩=some (.string Z.name)/\w'.cell? ⟨bz,1,none⟩=some (.slice Z.A Z.eras.length Z.c)) (exact HKe.out _ (by go_grown)) ((go_at_call 47;refine (HAW.out _ (by go_grown)).mono ?_;rintro e w4 ⟨rfl,hb⟩;have kb4:=bel_next (W:=w3) (by go_grown) hb;have ks4:=kb4.size;first|(have hz:Blk w4 w3.heap.size 33 #[.string ⟨#[]⟩,.int .i64 0,.int .i64 0,.string ⟨#[]⟩,.slice none 0 0,.int .i64 0,.slice none 0 0,.int .i64 0,.string ⟨#[]⟩]:=(Blk.new w3.drew 33 #[.string ⟨#[]⟩,.int .i64 0,.int .i64 0,.string ⟨#[]⟩,.slice none 0 0,.int .i64 0,.slice none 0 0,.int .i64 0,.string ⟨#[]⟩]).below hb (Blk.new w3.drew 33 #[.string ⟨#[]⟩,.int .i64 0,.int .i64 0,.string ⟨#[]⟩,.slice none 0 0,.int .i64 0,.slice none 0 0,.int .i64 0,.string ⟨#[]⟩]).lt;have c5:=hz.cell;have f5:=hz.frozen;have HZ5:=hid hz;clear hz)|skip))
  all_goals go_wp2
  all_goals go_meet
  ·exact ⟨_,rfl,(HF3.out.step kb4).alloc (.cells #[.string Z.name,.int .i64 f0,.int .i64 f1,.string f2,.slice none 0 0,.int .i64 (dd*86400),.slice none 0 0,.int .i64 0,.string ⟨#[]⟩] 33),Blk.new _ _ _,by omega⟩
  ·exact ⟨_,rfl,frc_set9 (HF3.out.step kb4) hz3 _ _ _ _ _ _ _ _ _,tab_set HZ5.out _ _ _ _ _ _ _ _ _,hz3⟩
 case rest=>
  obtain ⟨bx,rfl,hfr,hxb,hzx⟩:=hcut;have HF4:=hid hfr;have HX4:=hid hxb;have a4:=hfr.src.cell;have b4:=hfr.zon.cell;clear hfr hxb HF3 HA0
  go_wp2_with (go_at_call 48;refine (HSe.out _ HF4.out.bel).mono ?_;rintro e w7 ⟨AL,cl,L,rfl,hr7,hs7,hm7,hl7,hb7,hf7⟩;have HF7:=hid (HF4.out.step hb7);have HX7:=hid (HX4.out.below hb7 HX4.out.lt);have HR7:=hid hr7;have HL7:=hid (HSh.out L hs7 hm7);have HBL:=hid (fun t ht=>HBd.out t ((hm7 t).1 ht));have hl9:L.length<=1000000000:=(by rw [hl7];exact Hll.out);have hne7:∀ ad,AL=some ad->ad.block≠bx:=(fun ad e=>hf7.elim (fun e2=>by rw [e2] at e;cases e) (fun h9=>by have:=h9 ad e;have:=HX4.out.lt;omega));have HNe:=hid hne7;clear a4 b4 hr7 hs7 hm7 hl7 hb7 hf7 hne7)
  clear HSe HSh HBd Hll HF4 HX4
  go_loopw [12] (fun v12 wr=>∃ (k:Nat) (o:List Shift) (v:Value) (p:Option Int),k<=L.length/\v12= .int .i64 k/\o++pickD F (dd*86400) p (L.drop k)=SS/\p=(if k=0 then none else L[k - 1]?)/\wr.ownsRow w7.heap.size 97 4 v o.length (o.flatMap Shift.cells)/\Blk wr bx 33 #[.string Z.name,.int .i64 f0,.int .i64 f1,.string f2,v,.int .i64 (dd*86400),.slice none 0 0,.int .i64 0,.string ⟨#[]⟩]/\Kx bx w7 wr/\Below w.heap.size w wr) (fun v12 _=>L.length - (intOf v12).toNat)
  case atStart=>exact ⟨0,[],.slice none 0 0,none,Nat.zero_le _,rfl,by rw [List.drop_zero];exact HL7.out,rfl,World.ownsRow_nil _ _ _ _,HX7.out,Kx.refl _ _,HF7.out.bel⟩
  case round=>
   clear HL7 HX7;obtain ⟨k,o,v,p,hk,rfl,hq,hp,hown,hx,hkx,hbel⟩:=hrel;have HQ:=hid hq;have HOw:=hid hown;have HX:=hid hx;have HKx:=hid hkx;have HBe:=hid hbel;clear hq hown hx hkx hbel
   by_cases hkn:k<L.length
   ·have hkb:decide ((k:Int)<(L.length:Nat))=true:=decide_eq_true (by omega)
    obtain ⟨al,hAl,halb,l0⟩:=int_at (reads_kx HR7.out HKx.out HNe.out) hkn;subst hAl
    have hprev:∀ j,k=j+1->∃ u,p=some u/\wr.cell? (al.add j)=some (.int .i64 u):=fun j hj=>by
     subst hj
     obtain ⟨al2,e,_,l1⟩:=int_at (reads_kx HR7.out HKx.out HNe.out) (show j<L.length by omega)
     injection e with e
     subst e
     refine ⟨L[j],?_,l1⟩
     rw [hp,if_neg (by omega),Nat.add_sub_cancel,List.getElem?_eq_getElem]
    have hp0:k=0->p=none:=fun h0=>by rw [hp,if_pos h0]
    have hq:=HQ.out;rw [List.drop_eq_getElem_cons hkn,pickD] at hq
    have hpn:(some L[k]:Option Int)=if k+1=0 then none else L[k+1 - 1]?:=by rw [if_neg (by omega),Nat.add_sub_cancel,List.getElem?_eq_getElem hkn]
    have htb:=HBL.out L[k] (List.getElem_mem hkn);have HPn:=hid hpn;generalize L[k]=t at*;clear hpn hp HQ
    by_cases hst:dd*86400<=t\/p=some t
    ·rw [if_pos (by rcases hst with h9|h9;exact .inl h9;exact .inr (.inl h9))] at hq
     have HQ:=hid hq;clear hq
     go_wp2_with fail
     go_cut [88] from 66 to 87 (fun s88 wx=>s88= .bool true/\Below wr.heap.size wr wx)
     case first=>
      by_cases hA:dd*86400<=t
      ·have hdA:decide (dd*86400<=t)=true:=decide_eq_true hA
       clear hst hprev hp0 HQ;obtain ⟨Cls,hCls⟩:∃ C:World->Prop,C=fun z=>Below wr.heap.size wr z:=⟨_,rfl⟩
       have hC:∀ z,Cls z->Below wr.heap.size wr z:=fun z h=>by rw [hCls] at h;exact h
       have hstart:Cls wr.drew:=by rw [hCls];exact below_drew wr
       have inst:Nonempty (Qt.In Cls):=⟨⟨_,hstart⟩⟩;have gx:∀ (z:Qt.In Cls) (i:Nat),z.w.cell? ⟨bx,i,none⟩=#[.string Z.name,.int .i64 f0,.int .i64 f1,.string f2,v,.int .i64 (dd*86400),.slice none 0 0,.int .i64 0,.string ⟨#[]⟩][i]?:=fun z i=>(HX.out.below (hC z.w z.h) HX.out.lt).cell i
       have gl:∀ z:Qt.In Cls,z.w.cell? (al.add k)=some (.int .i64 t):=fun z=>((hC z.w z.h).cell (by rw [block_of_add];exact halb)).trans l0
       have HCx:=hid hC;have HS:=hid hstart;clear hC hCls hstart
       refine Qt.wp_region_cls Cls (by kernel_rfl) (by kernel_rfl) HS.out ?_
       repeat (go_big_quiet_step (fail))
       refine wpQuiet_nil ?_
       rintro wq ⟨⟨w9,hq9⟩,e9⟩
       have HW:=hid (HCx.out wq (by rw [e9];exact hq9))
       clear hq9 e9 gx gl;go_wp2;go_meet;exact ⟨rfl,HW.out⟩
      ·have hdA:decide (dd*86400<=t)=false:=decide_eq_false hA
       obtain ⟨j,hkj⟩:∃ j,k=j+1:=⟨k - 1,by
        rcases Nat.eq_zero_or_pos k with h0|h0
        ·have:=hst.resolve_left hA
         rw [hp0 h0] at this
         cases this
        ·omega⟩
       obtain ⟨u,hu,lp⟩:=hprev j hkj
       obtain rfl:u=t:=by
        have:=hst.resolve_left hA;rw [hu] at this;injection this
       have hjL:j<L.length:=by omega
       have hjw:wrap64 ((k:Int) - 1)=(j:Int):=by unfold wrap64;omega
       have hk0:decide ((0:Int)<(k:Int))=true:=decide_eq_true (by omega)
       have hk1:decide (0<k)=true:=decide_eq_true (by omega)
       have hk2:0<k:=by omega
       have hjb:decide ((j:Int)<(L.length:Nat))=true:=decide_eq_true (by omega)
       have HKj:=hid hkj;clear hkj
       have htt:(u == u)=true:=by simp
       clear hst hprev hp0 HQ;obtain ⟨Cls,hCls⟩:∃ C:World->Prop,C=fun z=>Below wr.heap.size wr z:=⟨_,rfl⟩
       have hC:∀ z,Cls z->Below wr.heap.size wr z:=fun z h=>by rw [hCls] at h;exact h
       have hstart:Cls wr.drew:=by rw [hCls];exact below_drew wr
       have inst:Nonempty (Qt.In Cls):=⟨⟨_,hstart⟩⟩;have gx:∀ (z:Qt.In Cls) (i:Nat),z.w.cell? ⟨bx,i,none⟩=#[.string Z.name,.int .i64 f0,.int .i64 f1,.string f2,v,.int .i64 (dd*86400),.slice none 0 0,.int .i64 0,.string ⟨#[]⟩][i]?:=fun z i=>(HX.out.below (hC z.w z.h) HX.out.lt).cell i
       have gl:∀ z:Qt.In Cls,z.w.cell? (al.add k)=some (.int .i64 u):=fun z=>((hC z.w z.h).cell (by rw [block_of_add];exact halb)).trans l0
       have gp:∀ z:Qt.In Cls,z.w.cell? (al.add j)=some (.int .i64 u):=fun z=>((hC z.w z.h).cell (by rw [block_of_add];exact halb)).trans lp
       have gp2:∀ z:Qt.In Cls,z.w.cell? (al.add (k - 1))=some (.int .i64 u):=fun z=>by rw [HKj.out,Nat.add_sub_cancel];exact ((hC z.w z.h).cell (by rw [block_of_add];exact halb)).trans lp
       have gp3:∀ z:Qt.In Cls,z.w.cell? (al.add ((k:Int) - 1).toNat)=some (.int .i64 u):=fun z=>by rw [show ((k:Int) - 1).toNat=j from by have:=HKj.out;omega];exact ((hC z.w z.h).cell (by rw [block_of_add];exact halb)).trans lp
       have HCx:=hid hC;have HS:=hid hstart;clear hC hCls hstart
       refine Qt.wp_region_cls Cls (by kernel_rfl) (by kernel_rfl) HS.out ?_
       repeat (go_big_quiet_step (fail))
       refine wpQuiet_nil ?_
       rintro wq ⟨⟨w9,hq9⟩,e9⟩
       have HW:=hid (HCx.out wq (by rw [e9];exact hq9))
       clear hq9 e9 gx gl;go_wp2;go_meet;exact ⟨rfl,HW.out⟩
     case rest=>
      obtain ⟨rfl,hwb⟩:=hcut;have HOw2:=hid (Rul.own_below HOw.out hwb);have HX2:=hid (HX.out.below hwb HX.out.lt);have HKx2:=hid (HKx.out.step hwb);have HBe2:=hid (HBe.out.trans (hwb.mono HBe.out.size));clear hwb HOw HX HKx HBe hprev hp0 hst
      go_wp2_with fail
      exact ⟨⟨k+1,o,v,some t,by omega,by go_num,HQ.out,HPn.out,HOw2.out,HX2.out,HKx2.out,HBe2.out⟩,by simp [intOf];omega⟩
    ·have hA:¬ dd*86400<=t:=fun h=>hst (.inl h)
     have hnp:p≠some t:=fun h=>hst (.inr h)
     have hq2:(F t=F (t - 1)/\o++pickD F (dd*86400) (some t) (L.drop (k+1))=SS)\/(F t≠F (t - 1)/\o++⟨t,F t⟩ :: pickD F (dd*86400) (some t) (L.drop (k+1))=SS):=by
      by_cases hf:F t=F (t - 1)
      ·rw [if_pos (.inr (.inr hf))] at hq
       exact .inl ⟨hf,hq⟩
      ·rw [if_neg (by rintro (h|h|h);exact hA h;exact hnp h;exact hf h)] at hq
       exact .inr ⟨hf,hq⟩
     have HQ2:=hid hq2;have hdA:decide (dd*86400<=t)=false:=decide_eq_false hA;clear hq hq2 hst hA
     go_wp2_with fail
     go_cut [88] from 66 to 87 (fun s88 wx=>s88= .bool false/\Below wr.heap.size wr wx)
     case first=>
      obtain ⟨Cls,hCls⟩:∃ C:World->Prop,C=fun z=>Below wr.heap.size wr z:=⟨_,rfl⟩
      have hC:∀ z,Cls z->Below wr.heap.size wr z:=fun z h=>by rw [hCls] at h;exact h
      have hstart:Cls wr.drew:=by rw [hCls];exact below_drew wr
      have inst:Nonempty (Qt.In Cls):=⟨⟨_,hstart⟩⟩;have gx:∀ (z:Qt.In Cls) (i:Nat),z.w.cell? ⟨bx,i,none⟩=#[.string Z.name,.int .i64 f0,.int .i64 f1,.string f2,v,.int .i64 (dd*86400),.slice none 0 0,.int .i64 0,.string ⟨#[]⟩][i]?:=fun z i=>(HX.out.below (hC z.w z.h) HX.out.lt).cell i
      have gl:∀ z:Qt.In Cls,z.w.cell? (al.add k)=some (.int .i64 t):=fun z=>((hC z.w z.h).cell (by rw [block_of_add];exact halb)).trans l0
      have HCx:=hid hC;have HS:=hid hstart
      rcases Nat.eq_zero_or_pos k with hk0|hk0
      ·have hb0:decide ((0:Int)<(k:Int))=false:=decide_eq_false (by omega)
       have hb1:decide (0<k)=false:=decide_eq_false (by omega)
       have hb2:¬ 0<k:=by omega
       clear hC hCls hstart hprev hp0 hnp hk0
       refine Qt.wp_region_cls Cls (by kernel_rfl) (by kernel_rfl) HS.out ?_
       repeat (go_big_quiet_step (fail))
       refine wpQuiet_nil ?_
       rintro wq ⟨⟨w9,hq9⟩,e9⟩
       have HW:=hid (HCx.out wq (by rw [e9];exact hq9))
       clear hq9 e9 gx gl;go_wp2;go_meet;exact ⟨rfl,HW.out⟩
      ·obtain ⟨j,hkj⟩:∃ j,k=j+1:=⟨k - 1,by omega⟩
       obtain ⟨u,hu,lp⟩:=hprev j hkj
       have hut:u≠t:=fun h=>hnp (by rw [hu,h])
       have hjL:j<L.length:=by omega
       have hjw:wrap64 ((k:Int) - 1)=(j:Int):=by unfold wrap64;omega
       have hk0:decide ((0:Int)<(k:Int))=true:=decide_eq_true (by omega)
       have hk1:decide (0<k)=true:=decide_eq_true (by omega)
       have hk2:0<k:=by omega
       have hjb:decide ((j:Int)<(L.length:Nat))=true:=decide_eq_true (by omega)
       have HKj:=hid hkj
       have htt:(t == u)=false:=by rw [beq_eq_false_iff_ne];exact fun h=>hut h.symm
       have gp:∀ z:Qt.In Cls,z.w.cell? (al.add j)=some (.int .i64 u):=fun z=>((hC z.w z.h).cell (by rw [block_of_add];exact halb)).trans lp
       have gp2:∀ z:Qt.In Cls,z.w.cell? (al.add (k - 1))=some (.int .i64 u):=fun z=>by rw [HKj.out,Nat.add_sub_cancel];exact ((hC z.w z.h).cell (by rw [block_of_add];exact halb)).trans lp
       have gp3:∀ z:Qt.In Cls,z.w.cell? (al.add ((k:Int) - 1).toNat)=some (.int .i64 u):=fun z=>by rw [show ((k:Int) - 1).toNat=j from by have:=HKj.out;omega];exact ((hC z.w z.h).cell (by rw [block_of_add];exact halb)).trans lp
       clear hC hCls hstart hprev hp0 hnp hkj hut hu
       refine Qt.wp_region_cls Cls (by kernel_rfl) (by kernel_rfl) HS.out ?_
       repeat (go_big_quiet_step (fail))
       refine wpQuiet_nil ?_
       rintro wq ⟨⟨w9,hq9⟩,e9⟩
       have HW:=hid (HCx.out wq (by rw [e9];exact hq9))
       clear hq9 e9 gx gl;go_wp2;go_meet;exact ⟨rfl,HW.out⟩
     case rest=>
      obtain ⟨rfl,hwb⟩:=hcut;obtain ⟨wx,rfl⟩:∃ wx,wx=wc:=⟨_,rfl⟩;have HOw2:=hid (Rul.own_below HOw.out hwb);have HX2:=hid (HX.out.below hwb HX.out.lt);have HKx2:=hid (HKx.out.step hwb);have HBe2:=hid (HBe.out.trans (hwb.mono HBe.out.size));have HFz:=hid (frc_kx HF7.out HKx2.out hzx HBe2.out)
      have HLk:=hid (((hwb.cell (by rw [block_of_add];exact halb)).trans l0:wx.cell? (al.add k)=some (.int .i64 t)))
      have halx:(al.add k).block<wx.heap.size:=by rw [block_of_add];exact Nat.lt_of_lt_of_le halb hwb.size
      have Halx:=hid halx;clear hwb HOw HX HKx HBe hprev hp0 hnp hdA l0 halx
      have hAt1:=HAt.out t (by omega) (by omega)
      have hAt2:=HAt.out (t - 1) (by omega) (by omega)
      have hq2:=HQ2.out;obtain ⟨P,hP⟩:∃ P,F t=P:=⟨_,rfl⟩;obtain ⟨Q,hQ⟩:∃ Q,F (t - 1)=Q:=⟨_,rfl⟩;rw [hP] at hAt1 hq2;rw [hQ] at hAt2 hq2;have heq:=fun z=>Sam.eq_phase P Q z;obtain ⟨p0,p1,p2⟩:=P;obtain ⟨q0,q1,q2⟩:=Q;simp only [Phase.cells] at heq;simp only at hAt1 hAt2;have HA1:=hid hAt1;have HA2:=hid hAt2;have HQ3:=hid hq2;clear hAt1 hAt2 hq2 hP hQ HQ2;have hKe:∀ w',Below wx.heap.size wx w'->w'.cell? ⟨w.heap.size,0,none⟩=some (.slice A rs.length c)/\w'.cell? ⟨w.heap.size,1,none⟩=some (.slice (some az) zs.length c2)/\w'.cell? ⟨w.heap.size,2,none⟩=some (.slice A3 ls.length c3)/\w'.cell? ⟨bz,0,none⟩=some (.string Z.name)/\w'.cell? ⟨bz,1,none⟩=some (.slice Z.A Z.eras.length Z.c)/\w'.cell? (al.add k)=some (.int .i64 t):=fun w' h=>⟨(HFz.out.step h).src.cell 0,(HFz.out.step h).src.cell 1,(HFz.out.step h).src.cell 2,(HFz.out.step h).zon.cell 0,(HFz.out.step h).zon.cell 1,(h.cell Halx.out).trans HLk.out⟩;have HKe:=hid hKe;have hAW:∀ y,Below wx.heap.size wx y->_:=fun y (hb:Below wx.heap.size wx y)=>HA1.out y (HBe2.out.trans (hb.mono HBe2.out.size));have HAW:=hid hAW;clear hKe hAW
      go_wp2_with fail
      go_cut [13] from 89 to 95 (fun s13 wy=>∃ bp,s13= .pointer (some ⟨bp,0,none⟩)/\Blk wy bp 30 #[.int .i64 p0,.int .i64 p1,.string p2]/\Below wx.heap.size wx wy)
      case first=>
       have kb0:Below wx.heap.size wx wx.drew:=below_drew wx
       go_region_held3 (fun w'=>w'.cell? ⟨w.heap.size,0,none⟩=some (.slice A rs.length c)/\w'.cell? ⟨w.heap.size,1,none⟩=some (.slice (some az) zs.length c2)/\w'.cell? ⟨w.heap.size,2,none⟩=some (.slice A3 ls.length c3)/\w'.cell? ⟨bz,0,none⟩=some (.string Z.name)/\w'.cell? ⟨bz,1,none⟩=some (.slice Z.A Z.eras.length Z.c)/\w'.cell? (al.add k)=some (.int .i64 t)) (exact HKe.out _ (by go_grown)) ((go_at_call 47;refine (HAW.out _ (by go_grown)).mono ?_;rintro e w4 ⟨rfl,hb⟩;have kb4:=bel_next (W:=wx) (by go_grown) hb;have ks4:=kb4.size;first|(have hz:Blk w4 wx.heap.size 30 #[.int .i64 0,.int .i64 0,.string ⟨#[]⟩]:=(Blk.new wx.drew 30 #[.int .i64 0,.int .i64 0,.string ⟨#[]⟩]).below hb (Blk.new wx.drew 30 #[.int .i64 0,.int .i64 0,.string ⟨#[]⟩]).lt;have c5:=hz.cell;have f5:=hz.frozen;have HZ5:=hid hz;clear hz)|skip))
       all_goals go_wp2
       all_goals go_meet
       ·exact ⟨_,rfl,Blk.new _ _ _,kb4.alloc kb4.size _⟩
       ·exact ⟨_,rfl,by simpa using ((HZ5.out.set_ 0 (.int .i64 p0)).set_ 1 (.int .i64 p1)).set_ 2 (.string p2),((kb4.setCell (Nat.le_refl _) _).setCell (Nat.le_refl _) _).setCell (Nat.le_refl _) _⟩
      case rest=>
       obtain ⟨bp,rfl,hpb,hby⟩:=hcut;obtain ⟨wy,rfl⟩:∃ wy,wy=wc:=⟨_,rfl⟩;have HPb:=hid hpb;have HBy:=hid hby;clear hpb hby HKe HAW;obtain ⟨e13,he13⟩:∃ b,decide ((⟨p0,p1,p2⟩:Phase)=⟨q0,q1,q2⟩)=b:=⟨_,rfl⟩;rw [he13] at heq;have HE13:=hid he13;clear he13
       go_wp2_with fail
       obtain ⟨Cls,hCls⟩:∃ C:World->Prop,C=fun z=>Below wy.heap.size wy z:=⟨_,rfl⟩
       have hC:∀ z,Cls z->Below wy.heap.size wy z:=fun z h=>by rw [hCls] at h;exact h
       have hxz:∀ z,Cls z->Below wx.heap.size wx z:=fun z h=>HBy.out.trans ((hC z h).mono HBy.out.size)
       have hstart:Cls wy.drew:=by rw [hCls];exact below_drew wy
       have inst:Nonempty (Qt.In Cls):=⟨⟨_,hstart⟩⟩;have gp:∀ (z:Qt.In Cls) (i:Nat),z.w.cell? ⟨bp,i,none⟩=#[.int .i64 p0,.int .i64 p1,.string p2][i]?:=fun z i=>(HPb.out.below (hC z.w z.h) HPb.out.lt).cell i;have gs:∀ (z:Qt.In Cls) (i:Nat),z.w.cell? ⟨w.heap.size,i,none⟩=#[.slice A rs.length c,.slice (some az) zs.length c2,.slice A3 ls.length c3][i]?:=fun z i=>(HFz.out.step (hxz z.w z.h)).src.cell i;have gz:∀ (z:Qt.In Cls) (i:Nat),z.w.cell? ⟨bz,i,none⟩=#[.string Z.name,.slice Z.A Z.eras.length Z.c][i]?:=fun z i=>(HFz.out.step (hxz z.w z.h)).zon.cell i;have gl:∀ z:Qt.In Cls,z.w.cell? (al.add k)=some (.int .i64 t):=fun z=>((hxz z.w z.h).cell Halx.out).trans HLk.out
       have hAc:∀ z,Cls z->Calls prog 47 #[.agg #[.slice A rs.length c,.slice (some az) zs.length c2,.slice A3 ls.length c3],.agg #[.string Z.name,.slice Z.A Z.eras.length Z.c],.int .i64 (t - 1)] z fun e z'=>e= .returned (.agg #[.int .i64 q0,.int .i64 q1,.string q2])/\Cls z':=fun z h=>(HA2.out z (HBe2.out.trans ((hxz z h).mono HBe2.out.size))).mono fun e z' ⟨he,hb⟩=>⟨he,by rw [hCls];exact (hC z h).trans (hb.mono (hC z h).size)⟩
       have HAc:=hid hAc;have HCx:=hid hC;have HS:=hid hstart;clear hC hCls hstart hxz hAc
       refine Qt.wp_region_cls Cls (by kernel_rfl) (by kernel_rfl) HS.out ?_
       repeat (go_big_quiet_step ((go_at_call 47;exact Qt.quiet_cls (HAc.out _ (Qt.In.h _)))))
       refine wpQuiet_nil ?_
       rintro V ⟨⟨w9,hq9⟩,e9⟩
       have HW:=hid (HCx.out V (by rw [e9];exact hq9))
       clear hq9 e9 gp gs gz gl inst HAc HCx HS;have hbv:Below wx.heap.size wx V:=HBy.out.trans (HW.out.mono HBy.out.size);have HBv:=hid hbv;have HO3:=hid (Rul.own_below HOw2.out hbv);have HX3:=hid (HX2.out.below hbv HX2.out.lt);have HK3:=hid (HKx2.out.step hbv);have HB3:=hid (HBe2.out.trans (hbv.mono HBe2.out.size));clear hbv HOw2 HX2 HKx2 HBe2
       cases e13
       ·have hq:=HQ3.out.resolve_left (fun h=>of_decide_eq_false HE13.out h.1)
        have HQ:=hid hq.2;clear hq HQ3 HE13;have P4:=hid (HPb.out.below HW.out HPb.out.lt);obtain ⟨i0,hi0,hz0,hz1,hz2⟩:=info_parts info_shift
        have hol:o.length+1<=29999:=by
         have h1:=congrArg List.length HQ.out;have h2:=Hms.out;rw [List.length_append,List.length_cons] at h1;omega
        have M1:=hid (show o.length+1<=maxLen by unfold maxLen;omega)
        have M2:=hid (show (o.length+1)*40<=140737488355328 by omega)
        have M3:=hid (show w7.heap.size<=V.drew.heap.size from HK3.out.size);have c4:=HX3.out.cell;have c4a:=fun ob i=>(HX3.out.alloc ob).cell i;have p4:=P4.out.cell;have p4a:=fun ob i=>(P4.out.alloc ob).cell i;have l4:V.cell? (al.add k)=some (.int .i64 t):=(HBv.out.cell Halx.out).trans HLk.out
        have l4a:∀ ob,(V.alloc ob).cell? (al.add k)=some (.int .i64 t):=fun ob=>(World.cell?_alloc_lt V ob (al.add k) (Nat.lt_of_lt_of_le Halx.out HBv.out.size)).trans l4
        clear hol
        go_wp2_with fail
        go_region_law (refine step_append1 V.drew rfl (.tmp 107) (.tmp 114) 31 rfl w7.heap.size 97 i0 _ 4 40 underlying31 hi0 hz0 hz1 hz2 rfl (by decide) _ o.length (o.flatMap Shift.cells) (by simp [Act.eval]) HO3.out.drew (by simp [Act.eval]) rfl one_shift M1.out M2.out M3.out ?_;intro v' wB ho5 hg5;obtain ⟨gt,capt,rfl,_,_⟩:=ho5.form (Nat.succ_pos _);have hb5:=Blk.grown (HX3.out.drew.alloc _) hg5 (fun e=>own_blk_ne HO3.out HX3.out (by decide) e.symm);have c5:=hb5.cell;have f5:=hb5.frozen;have HB5:=hid hb5;have HO5:=hid ho5;have HG5:=hid hg5;clear hb5 ho5 hg5 c4 c4a p4 p4a l4 l4a)
        all_goals
         have hw5:=HF7.out.bel.size
         have hx6:Blk (wB.setCell ⟨bx,4,none⟩ (.slice (some ⟨gt,0,none⟩) (o.length+1) capt)) bx 33 #[.string Z.name,.int .i64 f0,.int .i64 f1,.string f2,.slice (some ⟨gt,0,none⟩) (o.length+1) capt,.int .i64 (dd*86400),.slice none 0 0,.int .i64 0,.string ⟨#[]⟩]:=by simpa using HB5.out.set_ 4 (.slice (some ⟨gt,0,none⟩) (o.length+1) capt)
         have ho6:=own_set1 HO5.out (b:=bx) (own_blk_ne HO5.out HB5.out (by decide)) 4 (.slice (some ⟨gt,0,none⟩) (o.length+1) capt)
         have hk6:=((HK3.out.drew.alloc (.cells #[.int .i64 t,.int .i64 p0,.int .i64 p1,.string p2] 97)).grown HG5.out (fun r e=>(HO3.out.lt r e).1)).set 4 (.slice (some ⟨gt,0,none⟩) (o.length+1) capt)
         have hl6:=((HB3.out.drew.alloc HB3.out.size (.cells #[.int .i64 t,.int .i64 p0,.int .i64 p1,.string p2] 97)).grown HG5.out (by have:=HB3.out.size;simp;omega) (fun r e=>Nat.le_trans hw5 (HO3.out.lt r e).1)).setCell (p:=⟨bx,4,none⟩) (by have:=HF7.out.lo;show w.heap.size<=bx;omega) (.slice (some ⟨gt,0,none⟩) (o.length+1) capt)
         have HX6:=hid hx6;have HO6:=hid ho6;have HK6:=hid hk6;have HL6:=hid hl6;clear hx6 ho6 hk6 hl6 hw5
         go_wp2_with fail
         refine ⟨⟨k+1,o++[⟨t,⟨p0,p1,p2⟩⟩],.slice (some ⟨gt,0,none⟩) (o.length+1) capt,some t,by omega,by go_num,by rw [List.append_assoc];exact HQ.out,HPn.out,?_,HX6.out,HK6.out,HL6.out⟩,by simp [intOf];omega⟩
         have h6:=HO6.out
         simpa [Shift.cells,List.flatMap_append] using h6
       ·have hq:=HQ3.out.resolve_right (fun h=>h.1 (of_decide_eq_true HE13.out))
        have HQ:=hid hq.2;clear hq HQ3 HE13
        go_wp2_with fail
        exact ⟨⟨k+1,o,v,some t,by omega,by go_num,HQ.out,HPn.out,HO3.out,HX3.out,HK3.out,HB3.out⟩,by simp [intOf];omega⟩
   ·obtain rfl:k=L.length:=by omega
    have hoS:o=SS:=by
     have:=HQ.out;rw [List.drop_length] at this
     simpa [pickD] using this
    subst hoS
    have hkb:decide (((L.length:Nat):Int)<(L.length:Nat))=false:=decide_eq_false (by omega)
    have hm3:decide ((30000:Int)<(o.length:Nat))=false:=decide_eq_false (by have:=Hms.out;omega)
    obtain ⟨Avs,cvs,rfl⟩:=own_sl HOw.out;have HFz:=hid (frc_kx HF7.out HKx.out hzx HBe.out)
    have hlt:Z.eras.length - 1<Z.eras.length:=by omega
    obtain ⟨ad,hA,hadb,a0,a1,a2,a3,a4,a5,a6,a7,a8,a9,a10,a11,a12⟩:=era_cells (HRe.out.below HBe.out) hlt rfl;obtain ⟨x,hx⟩:∃ x,Z.eras[Z.eras.length - 1]=x:=⟨_,rfl⟩;rw [hx] at a0 a1 a2 a3 a4 a5 a6 a7 a8 a9 a10 a11 a12
    have hlast:Z.eras.getLast?=some x:=by rw [List.getLast?_eq_getElem?,List.getElem?_eq_getElem hlt,hx]
    have hno:=HNo.out x (by rw [<-hx];exact List.getElem_mem hlt)
    have hci:((Z.eras.length:Nat):Int) - 1=((Z.eras.length - 1:Nat):Int):=by omega
    obtain ⟨N1,hN1⟩:∃ N1,N1=Z.eras.length - 1:=⟨_,rfl⟩;rw [<-hN1] at hlt hci a0 a1 a2 a3 a4 a5 a6 a7 a8 a9 a10 a11 a12
    have hT:T=⟨Z.name,⟨f0,f1,f2⟩,o,dd*86400,evT (setL rs x.rules),offT (setL rs x.rules) x.off,fmT (setL rs x.rules) x.format⟩:=by
     have h1:tailZ rs Z.eras=evT (setL rs x.rules):=by unfold tailZ;rw [hlast];rfl
     have h2:offZ rs Z.eras=offT (setL rs x.rules) x.off:=by unfold offZ;rw [hlast];simp only [h1];rfl
     have h3:formatZ rs Z.eras=fmT (setL rs x.rules) x.format:=by unfold formatZ;rw [hlast];simp only [h1];rfl
     rw [HT2.out,h1,h2,h3]
    clear hx hlast hN1 HQ hp HT2;obtain ⟨x0,x1,x2,x3,x4,x5,x6,⟨s0,s1,s2,s3,s4,s5⟩⟩:=x;simp only at a0 a1 a2 a3 a4 a5 a6 a7 a8 a9 a10 a11 a12 hno hT;have hLl:(setL rs x3).length<=1000000:=Nat.le_trans (setL_len rs x3) hnr;have hse:=HSt.out x3;obtain ⟨Ls,hLs⟩:∃ Ls,setL rs x3=Ls:=⟨_,rfl⟩;rw [hLs] at hse hLl hno hT;subst hT;clear hLs;have k3:=fun o i=>(HFz.out.src.alloc o).cell i;have y3:=HFz.out.zon.cell;have x3c:=HX.out.cell;have hEB:Blk (wr.alloc (.cells #[.int .i64 x0,.int .i64 x1,.int .i64 x2,.string x3,.string x4,.bool x5,.int .i64 x6,.int .i64 s0,.int .i64 s1,.int .i64 s2,.int .i64 s3,.int .i64 s4,.int .i64 s5] 84)) wr.heap.size 84 #[.int .i64 x0,.int .i64 x1,.int .i64 x2,.string x3,.string x4,.bool x5,.int .i64 x6,.int .i64 s0,.int .i64 s1,.int .i64 s2,.int .i64 s3,.int .i64 s4,.int .i64 s5]:=Blk.new _ _ _;have ke:=hEB.cell;have HFa:=hid (HFz.out.alloc (.cells #[.int .i64 x0,.int .i64 x1,.int .i64 x2,.string x3,.string x4,.bool x5,.int .i64 x6,.int .i64 s0,.int .i64 s1,.int .i64 s2,.int .i64 s3,.int .i64 s4,.int .i64 s5] 84));have HXa:=hid (HX.out.alloc (.cells #[.int .i64 x0,.int .i64 x1,.int .i64 x2,.string x3,.string x4,.bool x5,.int .i64 x6,.int .i64 s0,.int .i64 s1,.int .i64 s2,.int .i64 s3,.int .i64 s4,.int .i64 s5] 84));have HOa:=hid (HOw.out.alloc (.cells #[.int .i64 x0,.int .i64 x1,.int .i64 x2,.string x3,.string x4,.bool x5,.int .i64 x6,.int .i64 s0,.int .i64 s1,.int .i64 s2,.int .i64 s3,.int .i64 s4,.int .i64 s5] 84));have HEB:=hid hEB;have hxlt:=HX.out.lt;have HSe:=hid hse;have HNo2:=hid hno;clear hEB hse hno
    go_wp2_with (go_at_call 49;refine (HSe.out _ HFa.out.bel).mono ?_;rintro e w8 ⟨v,rfl,hlown,hb⟩;obtain ⟨Av,cv,rfl⟩:=own_slice hlown;have HF8:=hid (HFa.out.step hb);have HX8:=hid (HXa.out.below hb HXa.out.lt);have HO8:=hid (Rul.own_below HOa.out hb);have HE8:=hid (HEB.out.below hb HEB.out.lt);have HLo:=hid hlown;clear hb hlown k3 y3 x3c ke)
    have hneL:=own_blk_ne HLo.out HX8.out (by decide)
    have HneL:=hid hneL
    have hneO:=own_blk_ne HO8.out HX8.out (by decide)
    have HneO:=hid hneO;have hEl:=HE8.out.lt;have hb8:=HF8.out.bel.size;have hx8:=HX8.out.lt;have hlo8:=HF8.out.lo;have hw7:=HF7.out.bel.size;have hz8:=HF8.out.res.lt;have hz7:=HF7.out.res.lt;clear hneL hneO HFz HX HOw HKx HBe HFa HXa HOa HEB
    go_loopw [16] (fun v16 W=>∃ (j:Nat) (tv:Value),j<=Ls.length/\v16= .int .i64 j/\Kx bx w8 W/\Below w.heap.size w W/\Blk W bx 33 #[.string Z.name,.int .i64 f0,.int .i64 f1,.string f2,.slice Avs o.length cvs,.int .i64 (dd*86400),tv,.int .i64 (offT (Ls.take j) x0),.string (fmT (Ls.take j) x4)]/\W.ownsRow w8.heap.size 69 11 tv (evT (Ls.take j)).length ((evT (Ls.take j)).flatMap Rule.cells)) (fun v16 _=>Ls.length - (intOf v16).toNat)
    case atStart=>exact ⟨0,.slice none 0 0,Nat.zero_le _,rfl,Kx.refl _ _,HF8.out.bel,HX8.out,⟨by simp [evT],.inl ⟨rfl,rfl⟩⟩⟩
    case round=>
     obtain ⟨j,tv,hj,rfl,hkx,hbel,hxb,hrow⟩:=hrel;obtain ⟨W,rfl⟩:∃ W,W=wr:=⟨_,rfl⟩;have HKx:=hid hkx;have HBel:=hid hbel;have HXb:=hid hxb;have HRow:=hid hrow
     have e6:=fun i=>(hkx.blk HE8.out (by omega)).cell i
     have b6:=hxb.cell;clear hkx hbel hxb hrow
     by_cases hjn:j<Ls.length
     ·have hk2:x1=2:=by
       by_cases h:x1=2
       ·exact h
       ·have:=HNo2.out h
        rw [this] at hjn;simp at hjn
      subst hk2
      have hjb:decide ((j:Int)<(Ls.length:Nat))=true:=decide_eq_true (by omega)
      have hlr:Reads W W.heap.size 11 Av Ls.length (Ls.flatMap Rule.cells):=Reads.of_own (HKx.out.own HLo.out HneL.out);obtain ⟨aq,hAv,_,r0,r1,r2,r3,r4,r5,r6,r7,r8,r9,r10⟩:=rule_cells hlr hjn;have hev:=evT_step hjn;obtain ⟨q,hq⟩:∃ q,Ls[j]=q:=⟨_,rfl⟩;rw [hq] at r0 r1 r2 r3 r4 r5 r6 r7 r8 r9 r10 hev;clear hq hlr;obtain ⟨y0,y1,y2,y3,y4,y5,y6,y7,y8,y9,y10⟩:=q;simp only at r0 r1 r2 r3 r4 r5 r6 r7 r8 r9 r10 hev;subst hAv
      by_cases hy:y2=1000000
      ·rw [if_pos hy] at hev
       subst hy;obtain ⟨Atv,ctv,rfl⟩:=own_sl HRow.out;obtain ⟨i1,hi1,hy0,hy1,hy2⟩:=info_parts info_rule
       have hll:(evT (Ls.take j)).length<=Ls.length:=by
        have h1:=List.length_filter_le (fun r:Rule=>decide (r.hi=1000000)) (Ls.take j);have h2:=List.length_take (i:=j) (l:=Ls);unfold evT;omega
       have hrow:=HRow.out;have hxb:=HXb.out;obtain ⟨Tq,hTq⟩:∃ T,evT (Ls.take j)=T:=⟨_,rfl⟩;obtain ⟨oT,hoT⟩:∃ o,offT (Ls.take j) x0=o:=⟨_,rfl⟩;obtain ⟨fT,hfT⟩:∃ o,fmT (Ls.take j) x4=o:=⟨_,rfl⟩;rw [hTq] at hll hev hrow hxb;rw [hoT,hfT] at hxb b6;rw [hTq] at b6;have Hev:=hid hev;have HRV:=hid hrow;have HXV:=hid hxb;have b6a:=fun ob i=>(hxb.alloc ob).cell i
       have M1:=hid (show Tq.length+1<=maxLen by unfold maxLen;omega)
       have M2:=hid (show (Tq.length+1)*104<=140737488355328 by omega)
       have M3:=hid (show w8.heap.size<=W.drew.heap.size from HKx.out.size)
       have hof:offT (Ls.take (j+1)) x0=x0:=by unfold offT;rw [hev];simp
       have hfm:fmT (Ls.take (j+1)) x4=x4:=by unfold fmT;rw [hev];simp
       have HOf:=hid hof;have HFm:=hid hfm;clear hll hev hrow hxb hoT hfT HXb HRow hof hfm;clear hTq
       go_wp2_with fail
       go_region_law (refine step_append1 W.drew rfl (.tmp 152) (.tmp 157) 22 rfl w8.heap.size 69 i1 _ 11 104 underlying22 hi1 hy0 hy1 hy2 rfl (by decide) _ Tq.length (Tq.flatMap Rule.cells) (by simp [Act.eval]) HRV.out.drew (by simp [Act.eval]) rfl one_rule M1.out M2.out M3.out ?_;intro v' wB ho5 hg5;obtain ⟨gt,capt,rfl,_,_⟩:=ho5.form (Nat.succ_pos _);have hb5:=Blk.grown (HXV.out.drew.alloc _) hg5 (fun e=>own_blk_ne HRV.out HXV.out (by decide) e.symm);have c5:=hb5.cell;have f5:=hb5.frozen;have HB5:=hid hb5;have HO5:=hid ho5;have HG5:=hid hg5;clear hb5 ho5 hg5 b6 b6a)
       all_goals
        have hb6:Blk (wB.setCell ⟨bx,6,none⟩ (.slice (some ⟨gt,0,none⟩) (Tq.length+1) capt)) bx 33 #[.string Z.name,.int .i64 f0,.int .i64 f1,.string f2,.slice Avs o.length cvs,.int .i64 (dd*86400),.slice (some ⟨gt,0,none⟩) (Tq.length+1) capt,.int .i64 oT,.string fT]:=by simpa using HB5.out.set_ 6 (.slice (some ⟨gt,0,none⟩) (Tq.length+1) capt)
        have ho6:=own_set1 HO5.out (b:=bx) (own_blk_ne HO5.out HB5.out (by decide)) 6 (.slice (some ⟨gt,0,none⟩) (Tq.length+1) capt)
        have hk6:=((HKx.out.drew.alloc (.cells #[.string y0,.int .i64 y1,.int .i64 1000000,.int .i64 y3,.int .i64 y4,.int .i64 y5,.int .i64 y6,.int .i64 y7,.int .i64 y8,.int .i64 y9,.string y10] 69)).grown HG5.out (fun r e=>(HRV.out.lt r e).1)).set 6 (.slice (some ⟨gt,0,none⟩) (Tq.length+1) capt)
        have hl6:=((HBel.out.drew.alloc HBel.out.size (.cells #[.string y0,.int .i64 y1,.int .i64 1000000,.int .i64 y3,.int .i64 y4,.int .i64 y5,.int .i64 y6,.int .i64 y7,.int .i64 y8,.int .i64 y9,.string y10] 69)).grown HG5.out (by have:=HBel.out.size;simp;omega) (fun r e=>Nat.le_trans hb8 (HRV.out.lt r e).1)).setCell (p:=⟨bx,6,none⟩) (by show w.heap.size<=bx;omega) (.slice (some ⟨gt,0,none⟩) (Tq.length+1) capt)
        obtain ⟨W5,hW5⟩:∃ W5,wB.setCell ⟨bx,6,none⟩ (.slice (some ⟨gt,0,none⟩) (Tq.length+1) capt)=W5:=⟨_,rfl⟩;rw [hW5] at hb6 ho6 hk6 hl6 ⊢
        have e7:=fun i=>(hk6.blk HE8.out (by omega)).cell i
        have b7:=hb6.cell;have f7:=hb6.frozen;have Hb6:=hid hb6;have Ho6:=hid ho6;have Hk6:=hid hk6;have Hl6:=hid hl6;clear hW5 hb6 ho6 hk6 hl6 e6 r0 r1 r2 r3 r4 r5 r6 r7 r8 r9 r10 c5 f5
        have hwb:¬ wr.heap.size=bx:=by omega
        have hwc:¬ bx=wr.heap.size:=by omega
        go_wp2_with fail
        have hb8':Blk ((W5.setCell ⟨bx,7,none⟩ (.int .i64 x0)).setCell ⟨bx,8,none⟩ (.string x4)) bx 33 #[.string Z.name,.int .i64 f0,.int .i64 f1,.string f2,.slice Avs o.length cvs,.int .i64 (dd*86400),.slice (some ⟨gt,0,none⟩) (Tq.length+1) capt,.int .i64 (offT (Ls.take (j+1)) x0),.string (fmT (Ls.take (j+1)) x4)]:=by
         rw [HOf.out,HFm.out]
         simpa using (Hb6.out.set_ 7 (.int .i64 x0)).set_ 8 (.string x4)
        have hn6:=own_blk_ne Ho6.out Hb6.out (by decide)
        have ho8:=own_set1 (own_set1 Ho6.out hn6 7 (.int .i64 x0)) hn6 8 (.string x4)
        refine ⟨⟨j+1,.slice (some ⟨gt,0,none⟩) (Tq.length+1) capt,by omega,by go_num,(Hk6.out.set 7 _).set 8 _,(Hl6.out.setCell (p:=⟨bx,7,none⟩) (by show w.heap.size<=bx;omega) _).setCell (p:=⟨bx,8,none⟩) (by show w.heap.size<=bx;omega) _,hb8',?_⟩,by simp [intOf];omega⟩
        rw [Hev.out]
        simpa [Rule.cells,List.flatMap_append] using ho8
      ·rw [if_neg hy] at hev
       have hyb:(y2 == 1000000)=false:=by rw [beq_eq_false_iff_ne];exact hy
       have hxb:=HXb.out;have hrow:=HRow.out
       have hof:offT (Ls.take j) x0=offT (Ls.take (j+1)) x0:=by unfold offT;rw [hev]
       have hfm:fmT (Ls.take j) x4=fmT (Ls.take (j+1)) x4:=by unfold fmT;rw [hev]
       rw [hof,hfm] at hxb;rw [<-hev] at hrow;have HX9:=hid hxb;have HR9:=hid hrow;clear hxb hrow hof hfm hev hy
       go_wp2_with fail
       exact ⟨⟨j+1,tv,by omega,by go_num,HKx.out,HBel.out,HX9.out,HR9.out⟩,by simp [intOf];omega⟩
     ·obtain rfl:j=Ls.length:=by omega
      have hjb:decide (((Ls.length:Nat):Int)<(Ls.length:Nat))=false:=decide_eq_false (by omega)
      obtain ⟨Atv,ctv,rfl⟩:=own_sl HRow.out;have HFw:=hid (frc_kx HF8.out HKx.out hzx HBel.out);have d9:=HFw.out.res.cell;have g9:=HFw.out.res.frozen;have hrow:=HRow.out;rw [List.take_length] at hrow b6;have HR9:=hid hrow;clear hrow
      go_wp2_with fail
      refine bodyPost_ret (comp14_results (tab_set HFw.out.res _ _ _ _ _ _ _ _ _) _ rfl rfl) rfl ?_
      refine ⟨.slice Avs o.length cvs,_,rfl,?_,?_,tab_bel HBel.out (Nat.le_succ _) _ _ _ _ _ _ _ _ _⟩
      ·exact own_base (own_set9c (HKx.out.own HO8.out HneO.out) (by omega) _ _ _ _ _ _ _ _ _) (by omega)
      ·exact own_base (own_set9c HR9.out (by omega) _ _ _ _ _ _ _ _ _) (by omega)
end Cmq
end
end
section
section
namespace Sam
open Go.RowKit Mem Img
end Sam
end
end
end Go.Proofs.YtadamccojdocbaaGreatDoor
