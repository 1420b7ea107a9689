/-
  Contracts of the code that the law reaches, and plain laws. Conditions: as each says.
-/
import Derived.Test.YtadamccojdocbaaGreatDoorV22
set_option linter.all false
set_option maxHeartbeats 40000000
set_option maxRecDepth 100000
namespace Go.Proofs.YtadamccojdocbaaGreatDoor
open Lib (hid)
open Tryz
section
section
namespace Cmq
open Go.RowKit Mem Civ Mom Img Plc Rul Ahd Trn Src Snd Att Rgt Abr
theorem reads_blk {w:World} {g:Nat} {t:TypeId} {cs:Array Value} {n size:Nat} (h:Blk w g t cs) (hs:cs.size=n*size) (hn:n<=maxLen):Reads w w.heap.size size (some ⟨g,0,none⟩) n cs.toList:=
 Reads.of_own (own_of_blk h (Nat.le_refl g) hs hn)
def ruC:Array Value:=#[.string ⟨#[69]⟩,.int .i64 1990,.int .i64 1000000,.int .i64 3,.int .i64 1,.int .i64 7,.int .i64 0,.int .i64 3600,.int .i64 2,.int .i64 3600,.string ⟨#[83]⟩,.string ⟨#[69]⟩,.int .i64 1990,.int .i64 1000000,.int .i64 10,.int .i64 1,.int .i64 7,.int .i64 0,.int .i64 3600,.int .i64 2,.int .i64 0,.string ⟨#[]⟩]
def erC:Array Value:=#[.int .i64 3600,.int .i64 2,.int .i64 0,.string ⟨#[69]⟩,.string ⟨#[67,37,115,84]⟩,.bool false,.int .i64 0,.int .i64 0,.int .i64 0,.int .i64 0,.int .i64 0,.int .i64 0,.int .i64 0]
theorem ok_sm {w:World} {ge gr gz:Nat} (hr:Blk w gr 69 ruC) (he:Blk w ge 84 erC) (hz:Blk w gz 65 #[.string nmA,.slice (some ⟨ge,0,none⟩) 1 1]):
  SrcOk (smS (some ⟨ge,0,none⟩) 1) (some ⟨gr,0,none⟩) (some ⟨gz,0,none⟩) none w where
 rr:=reads_blk hr rfl (show 2<=maxLen by decide)
 rz:=reads_blk hz rfl (show 1<=maxLen by decide)
 rl:=Reads.none_
 re:=fun z hz=>by
  rcases List.mem_singleton.1 hz with rfl
  exact reads_blk he rfl (show 1<=maxLen by decide)
 nr:=by simp [smS]
 nz:=by simp [smS]
 nl:=by simp [smS]
 ne:=fun z hz=>by rcases List.mem_singleton.1 hz with rfl;simp [znS]
 tr:=fun r hr=>by
  simp only [smS,List.mem_cons,List.not_mem_nil,or_false] at hr
  rcases hr with rfl|rfl<;>exact ⟨by decide,by decide⟩
 tz:=fun z hz=>by rcases List.mem_singleton.1 hz with rfl;exact (show nmA.size<=2097152 by decide)
 te:=fun z hz e he=>by
  rcases List.mem_singleton.1 hz with rfl
  rcases List.mem_singleton.1 he with rfl
  exact ⟨by decide,by decide⟩
 tl:=fun l hl=>by cases hl
theorem box4s (w:World) (t1 t2 t3 t4:TypeId) (a b c d:Array Value):
  let W:=(((w.alloc (.cells a t1)).alloc (.cells b t2)).alloc (.cells c t3)).alloc (.cells d t4)
  Blk W w.heap.size t1 a/\Blk W (w.heap.size+1) t2 b/\Blk W (w.heap.size+1+1) t3 c/\Blk W (w.heap.size+1+1+1) t4 d/\Below w.heap.size w W:=by
 obtain ⟨h1,h2,h3,h4,h5⟩:=box3 w t1 t2 t3 a b c;have h6:=Blk.new (((w.alloc (.cells a t1)).alloc (.cells b t2)).alloc (.cells c t3)) t4 d;rw [World.size_alloc,World.size_alloc,World.size_alloc] at h6;exact ⟨h1.alloc _,h2.alloc _,h3.alloc _,h6,h4.alloc h4.size _⟩
theorem small_any (w:World):Calls prog 32 #[] w fun e w'=>∃ ge gr gz,e= .returned (.agg #[.slice (some ⟨gr,0,none⟩) 2 2,.slice (some ⟨gz,0,none⟩) 1 1,.slice none 0 0])/\SrcOk (smS (some ⟨ge,0,none⟩) 1) (some ⟨gr,0,none⟩) (some ⟨gz,0,none⟩) none w'/\Below w.heap.size w w':=by
 obtain ⟨h0,h1,h2,h3,hb⟩:=box4s w 26 69 84 65 #[.slice none 0 0,.slice none 0 0,.slice none 0 0] ruC erC #[.string ⟨#[65]⟩,.slice (some ⟨w.heap.size+1+1,0,none⟩) 1 1];unfold ruC erC at*;obtain ⟨W,hW⟩:∃ W,(((w.alloc (.cells #[.slice none 0 0,.slice none 0 0,.slice none 0 0] 26)).alloc (.cells #[.string ⟨#[69]⟩,.int .i64 1990,.int .i64 1000000,.int .i64 3,.int .i64 1,.int .i64 7,.int .i64 0,.int .i64 3600,.int .i64 2,.int .i64 3600,.string ⟨#[83]⟩,.string ⟨#[69]⟩,.int .i64 1990,.int .i64 1000000,.int .i64 10,.int .i64 1,.int .i64 7,.int .i64 0,.int .i64 3600,.int .i64 2,.int .i64 0,.string ⟨#[]⟩] 69)).alloc (.cells #[.int .i64 3600,.int .i64 2,.int .i64 0,.string ⟨#[69]⟩,.string ⟨#[67,37,115,84]⟩,.bool false,.int .i64 0,.int .i64 0,.int .i64 0,.int .i64 0,.int .i64 0,.int .i64 0,.int .i64 0] 84)).alloc (.cells #[.string ⟨#[65]⟩,.slice (some ⟨w.heap.size+1+1,0,none⟩) 1 1] 65)=W:=⟨_,rfl⟩;rw [hW] at h0 h1 h2 h3 hb;have f0:=h0.frozen;have c0:=h0.cell;have hr:=((h0.set_ 0 (.slice (some ⟨w.heap.size+1,0,none⟩) 2 2)).set_ 1 (.slice (some ⟨w.heap.size+1+1+1,0,none⟩) 1 1)).set_ 2 (.slice none 0 0);have g0:=hr.cell
 have hok:=ok_sm (((h1.far (p:=⟨w.heap.size,0,none⟩) (by dsimp only;omega) (.slice (some ⟨w.heap.size+1,0,none⟩) 2 2)).far (p:=⟨w.heap.size,1,none⟩) (by dsimp only;omega) (.slice (some ⟨w.heap.size+1+1+1,0,none⟩) 1 1)).far (p:=⟨w.heap.size,2,none⟩) (by dsimp only;omega) (.slice none 0 0)) (((h2.far (p:=⟨w.heap.size,0,none⟩) (by dsimp only;omega) (.slice (some ⟨w.heap.size+1,0,none⟩) 2 2)).far (p:=⟨w.heap.size,1,none⟩) (by dsimp only;omega) (.slice (some ⟨w.heap.size+1+1+1,0,none⟩) 1 1)).far (p:=⟨w.heap.size,2,none⟩) (by dsimp only;omega) (.slice none 0 0)) (((h3.far (p:=⟨w.heap.size,0,none⟩) (by dsimp only;omega) (.slice (some ⟨w.heap.size+1,0,none⟩) 2 2)).far (p:=⟨w.heap.size,1,none⟩) (by dsimp only;omega) (.slice (some ⟨w.heap.size+1+1+1,0,none⟩) 1 1)).far (p:=⟨w.heap.size,2,none⟩) (by dsimp only;omega) (.slice none 0 0))
 have hbb:=((hb.setCell (p:=⟨w.heap.size,0,none⟩) (Nat.le_refl _) (.slice (some ⟨w.heap.size+1,0,none⟩) 2 2)).setCell (p:=⟨w.heap.size,1,none⟩) (Nat.le_refl _) (.slice (some ⟨w.heap.size+1+1+1,0,none⟩) 1 1)).setCell (p:=⟨w.heap.size,2,none⟩) (Nat.le_refl _) (.slice none 0 0);have HOk:=hid hok;have HB:=hid hbb;have HG:=hid g0;clear h1 h2 h3 hok hb h0 hbb hr g0;go_enter func32,ntmps32
 go_wp2_with fail
 try rw [hW]
 have g0:=HG.out
 refine bodyPost_ret (v:= .agg #[.slice (some ⟨w.heap.size+1,0,none⟩) 2 2,.slice (some ⟨w.heap.size+1+1+1,0,none⟩) 1 1,.slice none 0 0]) (by simp [results,Tryz.results32,go_sem,g0]) rfl ?_
 exact ⟨_,_,_,rfl,HOk.out,HB.out⟩
def eraWB (s:Src) (x:Era):Bool:=decide ((x.kind=0\/x.kind=1\/x.kind=2)/\(-86400<x.off/\x.off<86400)/\(-43200<=x.save/\x.save<=43200)/\x.format.size<=2097152/\rulesB (setL s.rules x.rules)=true/\crowdB (setL s.rules x.rules)=false/\-9000000000000<=endP (svF s) x/\endP (svF s) x<=9000000000000)
theorem eraW_of {s:Src} {x:Era} (h:eraWB s x=true):EraW s x:=by
 obtain ⟨h1,h2,h3,h4,h5,h6,h7,h8⟩:=of_decide_eq_true h;exact ⟨h1,h2,h3,h4,h5,h6,h7,h8⟩
theorem era_sm:eraWB (smS none 0) eraS=true:=by kernel_rfl
theorem last_sm:lastZ (smS none 0).rules [eraS]=2037:=by kernel_rfl
theorem src_sm:srcB (smS none 0)=true:=by kernel_rfl
theorem turns_sm:((turnsE (smS none 0).rules 2037 eraS).all fun u=>decide ((-43200<=u.save/\u.save<=43200)/\u.letter.size<=2097152))=true:=by kernel_rfl
def pwB (p:Phase):Bool:=decide ((-9223372036854775808<=p.off/\p.off<=9223372036854775807)/\(-9223372036854775808<=p.save/\p.save<=9223372036854775807)/\p.abbr.size<=8388608)
theorem pw_of {p:Phase} (h:pwB p=true):PW p:=by
 unfold PW In64;exact of_decide_eq_true h
theorem first_sm:pwB tabS.first=true:=by kernel_rfl
theorem shifts_sm:(tabS.shifts.all fun s=>pwB s.ph)=true:=by kernel_rfl
theorem texts_sm:decide (tabS.name.size<=2097152/\tabS.format.size<=2097152)=true:=by kernel_rfl
theorem small_read (A A2 Ae:Option Addr) (m:Int) (w:World) (h:SrcOk (smS Ae 1) A A2 none w) (hm:w.cell? ⟨0,0,none⟩=some (.int .i64 m)):
  Calls prog 12 #[.agg #[.slice A (smS Ae 1).rules.length 2,.slice A2 (smS Ae 1).zones.length 1,.slice none (smS Ae 1).links.length 0],.int .i64 0] w fun e w'=>
   ∃ A c A2 c2,e= .returned (.tuple #[.agg (tabCells tabS A c A2 c2),.int .i64 0])/\TabOk tabS A A2 w'/\Below w.heap.size w w':=by
 have hy:lastZ (smS Ae 1).rules (znS Ae 1).eras=2037:=last_sm
 have hz:(smS Ae 1).zones[0]'(by simp [smS])=znS Ae 1:=rfl
 have hc:=compile_yes (smS Ae 1) A A2 none 2 1 0 m 0 w h hm (check_sm Ae 1) src_sm (by simp [smS]) (by rw [hz];simp [znS]) (fun x hx=>by
  rw [hz] at hx
  rcases List.mem_singleton.1 hx with rfl
  exact eraW_of era_sm) (by rw [hz,hy];decide) (by rw [hz,hy];decide) (fun x hx u hu=>by
  rw [hz] at hx hu
  rcases List.mem_singleton.1 hx with rfl
  rw [hy] at hu
  exact of_decide_eq_true (List.all_eq_true.1 turns_sm u hu))
 have hcp:compileP (smS Ae 1) ((0:Nat):Int)=(tabS,0):=compile_sm Ae 1;rw [hcp] at hc
 refine hc.mono ?_
 rintro e w' ⟨v,tv,rfl,ho,ht,hb⟩;obtain ⟨A',c',rfl⟩:=own_sl ho;obtain ⟨B',d',rfl⟩:=own_sl ht;have htx:=of_decide_eq_true texts_sm
 refine ⟨A',c',B',d',rfl,⟨Reads.of_own ho,Reads.of_own ht,by rw [len_sm];omega,by rw [tail_sm];decide,htx.1,htx.2,pw_of first_sm,fun s hs=>pw_of (List.all_eq_true.1 shifts_sm s hs),fun r hr=>?_⟩,hb⟩
 rw [tail_sm] at hr;simp only [List.mem_cons,List.not_mem_nil,or_false] at hr
 rcases hr with rfl|rfl<;>exact ⟨by decide,by decide⟩
theorem alive_any (m:Int) (w:World) (hm:w.cell? ⟨0,0,none⟩=some (.int .i64 m)):
  Calls prog 11 #[] w fun e w'=>e= .returned (.bool true)/\Below w.heap.size w w':=by
 obtain ⟨T,hT⟩:∃ T,tabS=T:=⟨_,rfl⟩;have h1:=len_sm;have h2:=tail_sm;have h3:=till_sm;have h4:=right_sm;have h5:=at1_sm;have h6:=at2_sm;rw [hT] at h1 h2 h3 h4 h5 h6
 have h2':T.tail.length=2:=by rw [h2];rfl
 have hC:=fun (A A2:Option Addr) (ge:Nat) z (hs:SrcOk (smS (some ⟨ge,0,none⟩) 1) A A2 none z) (hz:z.cell? ⟨0,0,none⟩=some (.int .i64 m))=>small_read A A2 (some ⟨ge,0,none⟩) m z hs hz;simp only [hT] at hC
 have hA1:=fun A A2 c c2 z (hx:TabOk T A A2 z) (hz:z.cell? ⟨0,0,none⟩=some (.int .i64 m))=>at_any T A A2 c c2 1625097600 m z hx hz (by omega) (by omega)
 have hA2:=fun A A2 c c2 z (hx:TabOk T A A2 z) (hz:z.cell? ⟨0,0,none⟩=some (.int .i64 m))=>at_any T A A2 c c2 32519318400 m z hx hz (by omega) (by omega)
 have hR:=fun A A2 c c2 z (hx:TabOk T A A2 z) (hz:z.cell? ⟨0,0,none⟩=some (.int .i64 m))=>right_t T A A2 c c2 m z hx hz;have hS:=fun A A2 c c2 z (hx:TabOk T A A2 z)=>Sam.same_any T T A A2 A A2 c c2 c c2 z hx hx;simp only [h5,h6,phS] at hA1 hA2;simp only [h4] at hR;simp only [decide_true] at hS;have heq:=fun z=>Sam.eq_phase phS phS z;rw [decide_eq_true rfl] at heq;simp only [phS,Phase.cells] at heq;simp only [tabCells,h1,h2'] at hA1 hA2 hR hS;have HM:=hid hm;have HC:=hid hC;have HA1:=hid hA1;have HA2:=hid hA2;have HR:=hid hR;have HS:=hid hS;clear hm hC hA1 hA2 hR hS h4 h5 h6 h2 hT;obtain ⟨n,p,ss,tl,tt,off,fm⟩:=T;simp only at h1 h2' h3 HA1 HA2 HR HS HC;subst h3;have H1:=hid h1;have H2:=hid h2';clear h1 h2';go_enter func11,ntmps11
 go_wp2_with (first
  |(go_at_call 32;refine (small_any _).mono ?_;rintro e w1 ⟨ge,gr,gz,rfl,hok,hb⟩;have HOk:=hid hok;have HB1:=hid hb;clear hok hb)
  |(go_at_call 12;refine (HC.out _ _ ge _ HOk.out (cell_later HB1.out HM.out)).mono ?_;rintro e w2 ⟨A,c,A2,c2,rfl,hok,hb⟩;simp only [tabCells,H1.out,H2.out];have hb2:=HB1.out.trans (hb.mono HB1.out.size);have hbX:Below w2.heap.size w2 (w2.alloc (.cells #[.string n,.int .i64 p.off,.int .i64 p.save,.string p.abbr,.slice A 100 c,.int .i64 2208988800,.slice A2 2 c2,.int .i64 off,.string fm] 33)):=(Below.refl _ _).alloc (Nat.le_refl _) _;have hX:=Blk.new w2 33 #[.string n,.int .i64 p.off,.int .i64 p.save,.string p.abbr,.slice A 100 c,.int .i64 2208988800,.slice A2 2 c2,.int .i64 off,.string fm];have cX:=hX.cell;have HX2:=hid hX;have HOk2:=hid (hok.below hbX);have HB2:=hid (hb2.trans (hbX.mono hb2.size));clear hok hb hb2 hbX hX)
  |(go_at_call 30;refine (HA1.out A A2 c c2 _ HOk2.out (cell_later HB2.out HM.out)).mono ?_;rintro e w3 ⟨rfl,hb⟩;have hb3:=HB2.out.trans (hb.mono HB2.out.size);have hbP:Below w3.heap.size w3 (w3.alloc (.cells #[.int .i64 7200,.int .i64 3600,.string ⟨#[67,83,84]⟩] 30)):=(Below.refl _ _).alloc (Nat.le_refl _) _;have HP3:=hid (Blk.new w3 30 #[.int .i64 7200,.int .i64 3600,.string ⟨#[67,83,84]⟩]);have hX:=(HX2.out.below hb HX2.out.lt).alloc (.cells #[.int .i64 7200,.int .i64 3600,.string ⟨#[67,83,84]⟩] 30);have cX3:=hX.cell;have HX3:=hid hX;have HOk3:=hid ((HOk2.out.below hb).below hbP);have HB3:=hid (hb3.trans (hbP.mono hb3.size));clear hb hb3 hbP hX cX HX2 HOk2 HB2)
  |(go_at_call 30;refine (HA2.out A A2 c c2 _ HOk3.out (cell_later HB3.out HM.out)).mono ?_;rintro e w4 ⟨rfl,hb⟩;have hb4:=HB3.out.trans (hb.mono HB3.out.size);have hbP:Below w4.heap.size w4 (w4.alloc (.cells #[.int .i64 7200,.int .i64 3600,.string ⟨#[67,83,84]⟩] 30)):=(Below.refl _ _).alloc (Nat.le_refl _) _;have hQ:=Blk.new w4 30 #[.int .i64 7200,.int .i64 3600,.string ⟨#[67,83,84]⟩];have hX:=(HX3.out.below hb HX3.out.lt).alloc (.cells #[.int .i64 7200,.int .i64 3600,.string ⟨#[67,83,84]⟩] 30);have hP:=(HP3.out.below hb HP3.out.lt).alloc (.cells #[.int .i64 7200,.int .i64 3600,.string ⟨#[67,83,84]⟩] 30);have cX4:=hX.cell;have cP4:=hP.cell;have cQ4:=hQ.cell;have HX4:=hid hX;have HOk4:=hid ((HOk3.out.below hb).below hbP);have HB4:=hid (hb4.trans (hbP.mono hb4.size));clear hb hb4 hbP hX hQ hP cX3 HX3 HOk3 HB3 HP3)
  |(go_at_call 33;refine (HR.out A A2 c c2 _ HOk4.out (cell_later HB4.out HM.out)).mono ?_;rintro e w5 ⟨rfl,hb⟩;have hX:=HX4.out.below hb HX4.out.lt;have cX5:=hX.cell;have HOk5:=hid (HOk4.out.below hb);have HB5:=hid (HB4.out.trans (hb.mono HB4.out.size));clear hb hX cX4)
  |(go_at_call 34;refine (HS.out A A2 c c2 _ HOk5.out).mono ?_;rintro e w6 ⟨rfl,hb⟩;have HB6:=hid (HB5.out.trans (hb.mono HB5.out.size));clear hb))
 go_ret;exact ⟨rfl,HB6.out⟩
end Cmq
end
end
section
section
namespace Cmq
open Go.RowKit Mem Civ Mom Img Rul Ahd Trn Src Snd Att Rgt Abr
def tellL (first:Phase) (ss:List Shift) (t:Int):Phase:=ss.foldl (fun p s=>if s.sec<=t then s.ph else p) first
def Diff:Phase->List Shift->Prop
 |_,[]=>True
 |p,s :: ss=>s.ph≠p/\Diff s.ph ss
structure Gd (first:Phase) (till a:Int) (ss:List Shift):Prop where
 rise:ss.Pairwise fun x y=>x.sec<y.sec
 upto:∀ s∈ss,s.sec<=a
 till:∀ s∈ss,s.sec<till
 diff:Diff first ss
theorem tell_snoc (first:Phase) (ss:List Shift) (s:Shift) (t:Int):tellL first (ss++[s]) t=if s.sec<=t then s.ph else tellL first ss t:=by
 unfold tellL;rw [List.foldl_append]
 rfl
theorem lastPh_snoc' (first:Phase):∀ (l:List Shift) (s:Shift),lastPh first (l++[s])=s.ph
 |[],s=>rfl
 |[a],s=>rfl
 |a :: b :: l,s=>by
  have:=lastPh_snoc' first (b :: l) s
  simpa [lastPh] using this
theorem tell_late {first:Phase} {ss:List Shift} {t:Int} (h:∀ s∈ss,s.sec<=t):tellL first ss t=lastPh first ss:=by
 rcases List.eq_nil_or_concat ss with rfl|⟨l,s,rfl⟩
 ·rfl
 ·rw [List.concat_eq_append,lastPh_snoc',tell_snoc,if_pos (h s (by simp))]
theorem diff_snoc {s:Shift}:∀ {ss:List Shift} {first:Phase},Diff first (ss++[s])↔Diff first ss/\s.ph≠lastPh first ss
 |[],first=>by simp [Diff,lastPh]
 |[a],first=>by simp [Diff,lastPh]
 |a :: b :: ss,first=>by
  have ih:=@diff_snoc s (b :: ss) a.ph
  show a.ph≠first/\Diff a.ph ((b :: ss)++[s])↔_
  rw [ih]
  have:lastPh first (a :: b :: ss)=lastPh a.ph (b :: ss):=by
   show lastPh first (b :: ss)=lastPh a.ph (b :: ss)
   have:∀ (l:List Shift) (p q:Phase) (c:Shift),lastPh p (c :: l)=lastPh q (c :: l):=by
    intro l
    induction l with
    |nil=>intro p q c;rfl
    |cons d l ih=>intro p q c;exact ih p q d
   exact this ss _ _ b
  rw [this];simp only [Diff]
  constructor
  ·rintro ⟨h1,h2,h3⟩;exact ⟨⟨h1,h2⟩,h3⟩
  ·rintro ⟨⟨h1,h2⟩,h3⟩;exact ⟨h1,h2,h3⟩
theorem gd_nil (first:Phase) (till a:Int):Gd first till a []:=⟨List.Pairwise.nil,fun _ h=>by simp at h,fun _ h=>by simp at h,trivial⟩
theorem Gd.mono {first:Phase} {till a b:Int} {ss:List Shift} (h:Gd first till a ss) (hab:a<=b):Gd first till b ss:=⟨h.rise,fun s hs=>Int.le_trans (h.upto s hs) hab,h.till,h.diff⟩
theorem gd_init {first:Phase} {till a:Int} {l:List Shift} {s:Shift} (h:Gd first till a (l++[s])):Gd first till a l/\(∀ x∈l,x.sec<s.sec):=by
 have h1:=List.pairwise_append.1 h.rise
 exact ⟨⟨h1.1,fun x hx=>h.upto x (by simp [hx]),fun x hx=>h.till x (by simp [hx]),(diff_snoc.1 h.diff).1⟩,fun x hx=>h1.2.2 x hx s (by simp)⟩
theorem put_spec {first:Phase} {till a at_:Int} {p:Phase} {ss:List Shift} (h:Gd first till a ss) (ha:a<=at_) (hn:ss.length<30000):
  (putP first till (ss,false) at_ p).2=false/\Gd first till at_ (putP first till (ss,false) at_ p).1/\(putP first till (ss,false) at_ p).1.length<=ss.length+1/\
  (∀ t,t<till->tellL first (putP first till (ss,false) at_ p).1 t=if at_<=t then p else tellL first ss t)/\
  (till<=at_->putP first till (ss,false) at_ p=(ss,false)):=by
 have hc:Gd first till at_ (cutAt at_ ss)/\(cutAt at_ ss).length<=ss.length/\(∀ x∈cutAt at_ ss,x.sec<at_)/\(∀ t,t<at_->tellL first (cutAt at_ ss) t=tellL first ss t)/\(till<=at_->cutAt at_ ss=ss):=by
  rcases List.eq_nil_or_concat ss with rfl|⟨l,s,rfl⟩
  ·exact ⟨gd_nil _ _ _,Nat.le_refl _,fun _ h=>by simp [cutAt] at h,fun _ _=>rfl,fun _=>rfl⟩
  ·rw [List.concat_eq_append] at h hn ⊢
   obtain ⟨h1,h2⟩:=gd_init h
   have hs:=h.upto s (by simp)
   have hst:=h.till s (by simp)
   unfold cutAt
   rw [List.getLast?_concat]
   simp only [List.dropLast_concat]
   by_cases he:s.sec=at_
   ·rw [if_pos he]
    refine ⟨h1.mono ha,by simp,fun x hx=>by have:=h2 x hx;omega,fun t ht=>?_,fun ht=>by omega⟩
    rw [tell_snoc,if_neg (by omega)]
   ·rw [if_neg he]
    refine ⟨h.mono ha,Nat.le_refl _,fun x hx=>?_,fun t ht=>rfl,fun _=>rfl⟩
    rcases List.mem_append.1 hx with hx|hx
    ·have:=h2 x hx;omega
    ·have:x=s:=by simpa using hx
     subst this;omega
 obtain ⟨c1,c2,c3,c4,c5⟩:=hc
 have clast:∀ t,at_<=t->tellL first (cutAt at_ ss) t=lastPh first (cutAt at_ ss):=fun t ht=>tell_late fun x hx=>by have:=c3 x hx;omega
 unfold putP
 by_cases h1:till<=at_\/p=lastPh first (cutAt at_ ss)
 ·rw [if_pos h1]
  refine ⟨rfl,c1,Nat.le_trans c2 (Nat.le_succ _),fun t ht=>?_,fun ht=>by rw [c5 ht]⟩
  by_cases hat:at_<=t
  ·rw [if_pos hat]
   rcases h1 with h1|h1
   ·omega
   ·show tellL first (cutAt at_ ss) t=p
    rw [clast t hat,h1]
  ·rw [if_neg hat]
   exact c4 t (by omega)
 ·rw [if_neg h1,if_neg (by simp;omega)]
  have h2:¬ till<=at_:=fun h=>h1 (.inl h)
  refine ⟨rfl,⟨?_,fun x hx=>?_,fun x hx=>?_,diff_snoc.2 ⟨c1.diff,fun h=>h1 (.inr h)⟩⟩,by rw [List.length_append];simp;omega,fun t ht=>?_,fun ht=>absurd ht h2⟩
  ·rw [List.pairwise_append]
   exact ⟨c1.rise,List.pairwise_singleton _ _,fun x hx y hy=>by have:y=⟨at_,p⟩:=by simpa using hy
                                                                subst this;exact c3 x hx⟩
  ·rcases List.mem_append.1 hx with hx|hx
   ·have:=c3 x hx;omega
   ·have:x=⟨at_,p⟩:=by simpa using hx
    subst this;exact Int.le_refl _
  ·rcases List.mem_append.1 hx with hx|hx
   ·exact c1.till x hx
   ·have:x=⟨at_,p⟩:=by simpa using hx
    subst this;show at_<till;omega
  ·show tellL first (cutAt at_ ss++[⟨at_,p⟩]) t=_
   rw [tell_snoc]
   by_cases hat:at_<=t
   ·rw [if_pos hat,if_pos hat]
   ·rw [if_neg hat,if_neg hat]
    exact c4 t (by omega)
end Cmq
end
end
section
section
namespace Trn
open Go.RowKit Mem Civ Mom Img Rul Ahd
def Far (a b:Turn):Prop:=172800<=a.at_ - b.at_\/172800<=b.at_ - a.at_
theorem Far.symm {a b:Turn} (h:Far a b):Far b a:=Or.symm h
theorem far_of {a b:Turn} (h:nearT a b=false):Far a b:=by
 unfold nearT at h;unfold Far;rw [Bool.and_eq_false_iff,decide_eq_false_iff_not,decide_eq_false_iff_not] at h;omega
theorem of_far {a b:Turn} (h:Far a b):nearT a b=false:=by
 unfold nearT;unfold Far at h;rw [Bool.and_eq_false_iff,decide_eq_false_iff_not,decide_eq_false_iff_not];omega
theorem upto_far {now had:List Turn}:∀ {n:Nat},nearUpto now had n=false->∀ k x,k<n->now[k]?=some x->∀ y∈now.take k++had,Far x y
 |0,_,k,_,hk,_,_,_=>by omega
 |n+1,h,k,x,hk,hx,y,hy=>by
  unfold nearUpto at h;rw [Bool.or_eq_false_iff] at h
  by_cases hkn:k=n
  ·subst hkn
   rw [hx] at h;have:=List.any_eq_false.1 h.2 y hy
   exact far_of (by simpa using this)
  ·exact upto_far h.1 k x (by omega) hx y hy
theorem nearer_far {now had:List Turn} (h:nearerB now had=false):now.Pairwise Far/\∀ a∈now,∀ b∈had,Far a b:=by
 unfold nearerB at h;have hu:=@upto_far now had now.length h
 refine ⟨List.pairwise_iff_getElem.2 fun i j hi hj hij=>?_,fun a ha b hb=>?_⟩
 ·refine (hu j now[j] hj (List.getElem?_eq_getElem hj) now[i] (List.mem_append.2 (.inl ?_))).symm
  exact List.mem_take_iff_getElem.2 ⟨i,by omega,rfl⟩
 ·obtain ⟨k,hk⟩:=List.getElem?_of_mem ha
  exact hu k a (List.getElem?_eq_some_iff.1 hk).1 hk b (List.mem_append.2 (.inr hb))
theorem nearer_of {now had:List Turn} (h1:now.Pairwise Far) (h2:∀ a∈now,∀ b∈had,Far a b):nearerB now had=false:=by
 unfold nearerB
 have:∀ n,n<=now.length->nearUpto now had n=false:=by
  intro n
  induction n with
  |zero=>intro _;rfl
  |succ n ih=>
   intro hn;unfold nearUpto
   rw [ih (by omega),Bool.false_or,List.getElem?_eq_getElem (by omega:n<now.length)]
   rw [List.any_eq_false];intro y hy;rw [Bool.not_eq_true]
   refine of_far ?_
   rcases List.mem_append.1 hy with hy|hy
   ·obtain ⟨i,hi,rfl⟩:=List.mem_take_iff_getElem.1 hy
    exact (List.pairwise_iff_getElem.1 h1 i n (by omega) (by omega) (by omega)).symm
   ·exact h2 _ (List.getElem_mem _) y hy
 exact this _ (Nat.le_refl _)
def rawT (rs:List Rule) (y:Int):List Turn:=rs.filterMap (turnL y)
theorem rawT_mem {rs:List Rule} {y:Int} {t:Turn}:t∈rawT rs y↔∃ r∈rs,turnL y r=some t:=by
 unfold rawT;rw [List.mem_filterMap]
def FarY (rs:List Rule) (y:Int):Prop:=(rawT rs y).Pairwise Far/\∀ a∈rawT rs y,∀ b∈rawT rs (y - 1),Far a b
theorem turnsL_perm {rs:List Rule} (hr:rulesB rs=true) (y:Int):(turnsL rs y).Perm (rawT rs y):=by
 unfold turnsL;rw [if_pos hr];exact sortT_perm _
theorem farY_of {rs:List Rule} (hr:rulesB rs=true) {y:Int} (h:nearerB (turnsL rs y) (turnsL rs (y - 1))=false):FarY rs y:=by
 have h2:=nearer_far h;refine ⟨((turnsL_perm hr y).pairwise_iff (fun h=>Far.symm h)).1 h2.1,fun a ha b hb=>h2.2 a ((turnsL_perm hr y).mem_iff.2 ha) b ((turnsL_perm hr (y - 1)).mem_iff.2 hb)⟩
theorem years_far {rs:List Rule}:∀ (n:Nat) (y:Int) (had:List Turn),nearYears rs n y had=false->∀ i:Nat,i<n->nearerB (turnsL rs (y+i)) (if i=0 then had else turnsL rs (y+i - 1))=false
 |0,_,_,_,i,hi=>by omega
 |n+1,y,had,h,i,hi=>by
  unfold nearYears at h;rw [Bool.or_eq_false_iff] at h
  cases i with
  |zero=>simpa using h.1
  |succ i=>
   have:=years_far n (y+1) _ h.2 i (by omega)
   rw [if_neg (by omega),show y+((i+1:Nat):Int)=y+1+i from by omega]
   cases i with
   |zero=>simpa using this
   |succ j=>
    rw [if_neg (by omega)] at this
    exact this
theorem firstY_le {rs:List Rule} {r:Rule} (h:r∈rs):firstY rs<=r.lo:=by
 have:∀ (l:List Rule) (m:Int),(l.foldl (fun m r=>min m r.lo) m<=m)/\∀ r∈l,l.foldl (fun m r=>min m r.lo) m<=r.lo:=by
  intro l
  induction l with
  |nil=>intro m;exact ⟨Int.le_refl _,fun r h=>by simp at h⟩
  |cons a l ih=>
   intro m;obtain ⟨h1,h2⟩:=ih (min m a.lo);rw [List.foldl_cons]
   refine ⟨by omega,fun r hr=>?_⟩
   rcases List.mem_cons.1 hr with rfl|hr
   ·omega
   ·exact h2 r hr
 exact (this rs 9999).2 r h
theorem lastY_le {rs:List Rule} {r:Rule} (h:r∈rs):r.lo<=lastY rs/\(r.hi≠1000000->r.hi<=lastY rs):=by
 have:∀ (l:List Rule) (m:Int),m<=l.foldl lastY1 m/\∀ r∈l,r.lo<=l.foldl lastY1 m/\(r.hi≠1000000->r.hi<=l.foldl lastY1 m):=by
  intro l
  induction l with
  |nil=>intro m;exact ⟨Int.le_refl _,fun r h=>by simp at h⟩
  |cons a l ih=>
   intro m;obtain ⟨h1,h2⟩:=ih (lastY1 m a);rw [List.foldl_cons]
   have ha:m<=lastY1 m a/\a.lo<=lastY1 m a/\(a.hi≠1000000->a.hi<=lastY1 m a):=by
    unfold lastY1
    split<;>omega
   refine ⟨by omega,fun r hr=>?_⟩
   rcases List.mem_cons.1 hr with rfl|hr
   ·exact ⟨by omega,fun h=>by have:=ha.2.2 h;omega⟩
   ·exact h2 r hr
 exact (this rs 1).2 r h
theorem count_again (y m d:Int):countI (y - 400) m d=countI y m d - 146097:=by
 unfold countI
 by_cases h:m<3
 ·simp only [if_pos h]
  rw [show (y - 400 - 1) / 400=(y - 1) / 400 - 1 from by omega,show (y - 400 - 1) % 400=(y - 1) % 400 from by omega]
  omega
 ·simp only [if_neg h]
  rw [show (y - 400) / 400=y / 400 - 1 from by omega,show (y - 400) % 400=y % 400 from by omega]
  omega
theorem leap_again (y:Int):leapB (y - 400)=leapB y:=by
 unfold leapB
 rw [show (y - 400) % 4=y % 4 from by omega,show (y - 400) % 100=y % 100 from by omega,show (y - 400) % 400=y % 400 from by omega]
theorem mlen_again (y m:Int):mlen (y - 400) m=mlen y m:=by
 unfold mlen;rw [leap_again]
theorem back_again (n w:Int):backI (n - 146097) w=backI n w:=by
 unfold backI;omega
theorem spot_again (s:Spot) (f l:Int):spotDay s (f - 146097) l=spotDay s f l - 146097:=by
 unfold spotDay
 rw [show f - 146097+l - 1=f+l - 1 - 146097 from by omega,show f - 146097+s.day+5=f+s.day+5 - 146097 from by omega,show f - 146097+s.day - 1=f+s.day - 1 - 146097 from by omega,back_again,back_again,back_again]
 split
 ·omega
 ·split
  ·omega
  ·split<;>omega
theorem local_form {s:Spot} {y n:Int} (h:localO s y=some n):s.okP/\1<=y/\y<=275760/\n=spotDay s (countI y s.month 1) (mlen y s.month)*86400+s.time:=by
 unfold localO at h
 cases ho:onO s y with
 |none=>rw [ho] at h;cases h
 |some k=>
  rw [ho,Option.map_some,Option.some.injEq] at h;have hok:=(onO_bd ho).2.1;unfold onO at ho
  split at ho
  ·cases ho
  ·next hc=>
   cases hd:daysO y s.month 1 with
   |none=>rw [hd] at ho;cases ho
   |some f=>
    rw [hd,Option.bind_some] at ho;unfold daysO at hd
    split at hd
    ·cases hd
    ·split at hd
     ·cases hd
     ·have hf:=Option.some.inj hd
      split at ho
      ·cases ho
      ·injection ho with ho
       subst hf ho
       exact ⟨hok,by omega,by omega,h.symm⟩
theorem local_again {s:Spot} {y n:Int} (h:localO s y=some n) (h1:1<=y - 400):localO s (y - 400)=some (n - 12622780800):=by
 obtain ⟨hok,h2,h3,rfl⟩:=local_form h
 obtain ⟨k,hk⟩:=local_there (spotB_true hok) h1 (by omega)
 obtain ⟨_,_,_,rfl⟩:=local_form hk;rw [hk,count_again,mlen_again,spot_again]
 congr 1
 omega
def backT (t:Turn):Turn:=⟨t.at_ - 12622780800,t.ref,t.save,t.letter⟩
theorem turn_again {rs:List Rule} {r:Rule} (hm:r∈rs) {y:Int} {t:Turn} (h:turnL y r=some t) (hl:1<=lastY rs) (h1:lastY rs+1<=y - 400):turnL (y - 400) r=some (backT t):=by
 have hb:=lastY_le hm
 have hin:r.lo<=y/\y<=r.hi:=by
  by_cases hc:y<r.lo\/r.hi<y
  ·rw [R11.turnL_out hc] at h;cases h
  ·omega
 have hhi:r.hi=1000000:=by
  by_cases hc:r.hi=1000000
  ·exact hc
  ·have:=hb.2 hc;omega
 rw [R11.turnL_in hin.1 hin.2] at h;obtain ⟨n,hn,ht⟩:=Option.map_eq_some_iff.1 h
 rw [R11.turnL_in (by omega) (by omega),local_again hn (by omega),Option.map_some,<-ht]
 rfl
theorem far_back {a b:Turn}:Far (backT a) (backT b)↔Far a b:=by
 unfold Far backT;simp only;omega
theorem raw_again {rs:List Rule} {y:Int} (hl:1<=lastY rs) (h1:lastY rs+1<=y - 400):((rawT rs y).map backT).Sublist (rawT rs (y - 400)):=by
 have:∀ l:List Rule,(∀ r∈l,r∈rs)->((l.filterMap (turnL y)).map backT).Sublist (l.filterMap (turnL (y - 400))):=by
  intro l
  induction l with
  |nil=>intro _;exact List.Sublist.refl _
  |cons a l ih=>
   intro hl2;have ih2:=ih (fun r hr=>hl2 r (List.mem_cons_of_mem _ hr));rw [List.filterMap_cons,List.filterMap_cons]
   cases ht:turnL y a with
   |none=>
    cases turnL (y - 400) a with
    |none=>exact ih2
    |some u=>exact ih2.cons _
   |some t=>
    rw [turn_again (hl2 a List.mem_cons_self) ht hl h1];exact ih2.cons_cons _
 exact this rs fun r h=>h
theorem far_all {rs:List Rule} (hr:rulesB rs=true) (hn:nearB rs=false) (hc:crowdB rs=false) (y:Int):FarY rs y:=by
 cases hrs:rs with
 |nil=>exact ⟨List.Pairwise.nil,fun a ha=>by simp [rawT] at ha⟩
 |cons a0 l0=>
  rw [<-hrs]
  have hne:rs≠[]:=by rw [hrs];simp
  have hy:=years_bd rs hr rs.length;rw [List.take_length] at hy;have hfl:=first_last hne
  have hlow:∀ y,y<firstY rs->rawT rs y=[]:=by
   intro y hy;unfold rawT;rw [List.filterMap_eq_nil_iff];intro r hr
   exact turnL_low (by have:=firstY_le hr;omega)
  have hnear:nearYears rs (lastY rs+401 - firstY rs+1).toNat (firstY rs) []=false:=by
   unfold nearB at hn;rw [hr,hc] at hn
   have he:rs.isEmpty=false:=by rw [hrs];rfl
   rw [he] at hn
   simpa using hn
  have hbase:∀ y,firstY rs<=y->y<=lastY rs+401->FarY rs y:=by
   intro y h1 h2
   have h3:=years_far _ _ _ hnear (y - firstY rs).toNat (by omega)
   rw [show firstY rs+((y - firstY rs).toNat:Int)=y from by omega] at h3
   by_cases h0:(y - firstY rs).toNat=0
   ·rw [if_pos h0] at h3
    have h4:=nearer_far h3
    refine ⟨((turnsL_perm hr y).pairwise_iff (fun h=>Far.symm h)).1 h4.1,fun a ha b hb=>?_⟩
    rw [hlow (y - 1) (by omega)] at hb
    simp at hb
   ·rw [if_neg h0] at h3
    exact farY_of hr h3
  have hall:∀ (n:Nat) (y:Int),y<=lastY rs+401+n->FarY rs y:=by
   intro n
   induction n with
   |zero=>
    intro y h1
    by_cases h2:firstY rs<=y
    ·exact hbase y h2 (by omega)
    ·unfold FarY
     rw [hlow y (by omega)]
     exact ⟨List.Pairwise.nil,fun a ha=>by simp at ha⟩
   |succ n ih=>
    intro y h1
    by_cases h2:y<=lastY rs+401+n
    ·exact ih y h2
    ·have h3:=ih (y - 400) (by omega)
     have s1:=raw_again (rs:=rs) (y:=y) hy.2.1 (by omega)
     have s2:=raw_again (rs:=rs) (y:=y - 1) hy.2.1 (by omega)
     rw [show y - 1 - 400=y - 400 - 1 from by omega] at s2
     refine ⟨?_,fun a ha b hb=>?_⟩
     ·have h4:=h3.1.sublist s1
      rw [List.pairwise_map] at h4;exact h4.imp fun h=>far_back.1 h
     ·exact far_back.1 (h3.2 _ (s1.subset (List.mem_map_of_mem ha)) _ (s2.subset (List.mem_map_of_mem hb)))
  exact hall (y - lastY rs).toNat y (by omega)
def Gt (rs:List Rule) (t:Turn):Prop:=∃ r∈rs,∃ z,turnL z r=some t
theorem spaced {rs:List Rule} (hf:∀ y,FarY rs y) {a b:Turn} (ha:Gt rs a) (hb:Gt rs b):a=b\/Far a b:=by
 obtain ⟨r,hr,z,hz⟩:=ha;obtain ⟨q,hq,v,hv⟩:=hb;have na:=local_near (turnL_at hz).1;have nb:=local_near (turnL_at hv).1
 have key:∀ {p q:Turn} {z:Int},p∈rawT rs z->q∈rawT rs z->p=q\/Far p q:=by
  intro p q z hp hq
  obtain ⟨i,hi⟩:=List.getElem?_of_mem hp
  obtain ⟨j,hj⟩:=List.getElem?_of_mem hq
  obtain ⟨hi1,rfl⟩:=List.getElem?_eq_some_iff.1 hi
  obtain ⟨hj1,rfl⟩:=List.getElem?_eq_some_iff.1 hj
  have hp:=List.pairwise_iff_getElem.1 (hf z).1
  rcases Nat.lt_trichotomy i j with h|h|h
  ·exact .inr (hp i j hi1 hj1 h)
  ·subst h;exact .inl rfl
  ·exact .inr (hp j i hj1 hi1 h).symm
 by_cases h1:z=v
 ·subst h1
  exact key (rawT_mem.2 ⟨r,hr,hz⟩) (rawT_mem.2 ⟨q,hq,hv⟩)
 ·by_cases h2:v=z - 1
  ·subst h2
   exact .inr ((hf z).2 a (rawT_mem.2 ⟨r,hr,hz⟩) b (rawT_mem.2 ⟨q,hq,hv⟩))
  ·by_cases h3:z=v - 1
   ·subst h3
    exact .inr ((hf v).2 b (rawT_mem.2 ⟨q,hq,hv⟩) a (rawT_mem.2 ⟨r,hr,hz⟩)).symm
   ·right
    unfold Far
    rcases Int.lt_or_le z v with h4|h4
    ·have:=jan_mono (a:=z+2) (b:=v) (by omega)
     have:=jan_next z;have:=jan_next (z+1)
     rw [show z+1+1=z+2 from by omega] at this
     omega
    ·have:=jan_mono (a:=v+2) (b:=z) (by omega)
     have:=jan_next v;have:=jan_next (v+1)
     rw [show v+1+1=v+2 from by omega] at this
     omega
end Trn
end
end
section
section
namespace Trn
open Go.RowKit Mem Civ Mom Img Rul Ahd
theorem year_form (a:Int):janI (a+1)=a / 400*146097+a % 400*365+a % 400 / 4 - a % 400 / 100+306 - 719468:=by
 have:=jan_form (a+1)
 rw [show a+1 - 1=a from by omega] at this
 exact this
theorem count_form (y m:Int):countI y m 1=janI ((if m<3 then y - 1 else y)+1)+(153*(if m<3 then m+9 else m - 3)+2) / 5 - 306:=by
 rw [year_form];unfold countI;simp only;omega
theorem count_next (y m:Int):countI y m 1+365<=countI (y+1) m 1/\countI (y+1) m 1<=countI y m 1+366:=by
 rw [count_form,count_form]
 by_cases h:m<3
 ·simp only [if_pos h]
  have:=jan_next y
  rw [show y - 1+1=y from by omega,show y+1 - 1+1=y+1 from by omega]
  omega
 ·simp only [if_neg h]
  have:=jan_next (y+1);omega
theorem rule_gap {s:Spot} {y a b:Int} (ha:localO s y=some a) (hb:localO s (y+1)=some b):a+350*86400<=b/\b<=a+374*86400:=by
 obtain ⟨hok,_,_,rfl⟩:=local_form ha;obtain ⟨_,_,_,rfl⟩:=local_form hb;have hm:=hok.1;have hm2:=hok.2.1;have hf:=count_next y s.month
 have hl:28<=mlen y s.month/\mlen y s.month<=31/\28<=mlen (y+1) s.month/\mlen (y+1) s.month<=31/\mlen y s.month<=mlen (y+1) s.month+1/\mlen (y+1) s.month<=mlen y s.month+1:=by
  have hc:¬ (s.month<1\/12<s.month):=by omega
  unfold mlen;simp only [if_neg hc]
  by_cases h2:s.month=2
  ·simp only [if_pos h2]
   cases leapB y<;>cases leapB (y+1)<;>simp
  ·simp only [if_neg h2]
   split<;>omega
 generalize countI y s.month 1=f at*;generalize countI (y+1) s.month 1=f' at*;generalize mlen y s.month=l at*;generalize mlen (y+1) s.month=l' at*;have b1:=backI_bd (f+l - 1) s.weekday;have b2:=backI_bd (f+s.day+5) s.weekday;have b3:=backI_bd (f+s.day - 1) s.weekday;have c1:=backI_bd (f'+l' - 1) s.weekday;have c2:=backI_bd (f'+s.day+5) s.weekday;have c3:=backI_bd (f'+s.day - 1) s.weekday;unfold spotDay
 split
 ·omega
 ·split
  ·omega
  ·split<;>omega
theorem rule_less {r:Rule} {z z':Int} {a b:Turn} (ha:turnL z r=some a) (hb:turnL z' r=some b) (h:z<z'):a.at_<b.at_:=by
 have na:=local_near (turnL_at ha).1;have nb:=local_near (turnL_at hb).1
 by_cases h1:z'=z+1
 ·subst h1
  have:=rule_gap (turnL_at ha).1 (turnL_at hb).1;omega
 ·have:=jan_mono (a:=z+2) (b:=z') (by omega)
  have:=jan_next z;have:=jan_next (z+1)
  rw [show z+1+1=z+2 from by omega] at this
  omega
def IsLatest (rs:List Rule) (so:Turn->Bool) (t:Turn):Prop:=Gt rs t/\so t=true/\∀ u,Gt rs u->so u=true->u.at_<=t.at_
theorem descF_none {α:Type} {g:Int->Option α} {top:Int}:∀ {n:Nat},descF g top n=none->∀ i:Nat,i<n->g (top - (i:Nat))=none
 |0,_,i,hi=>by omega
 |n+1,h,i,hi=>by
  unfold descF at h
  cases hd:descF g top n with
  |some v=>rw [hd] at h;simp at h
  |none=>
   rw [hd] at h
   by_cases hn:i=n
   ·subst hn;simpa using h
   ·exact descF_none hd i (by omega)
theorem descF_first {α:Type} {g:Int->Option α} {top:Int} {v:α}:∀ {n:Nat},descF g top n=some v->∃ i:Nat,i<n/\g (top - (i:Nat))=some v/\∀ j:Nat,j<i->g (top - (j:Nat))=none
 |0,h=>by cases h
 |n+1,h=>by
  unfold descF at h
  cases hd:descF g top n with
  |some u=>
   rw [hd] at h
   have hv:u=v:=by simpa using h
   subst hv;obtain ⟨i,h1,h2,h3⟩:=descF_first hd
   exact ⟨i,by omega,h2,h3⟩
  |none=>
   rw [hd] at h
   exact ⟨n,by omega,by simpa using h,fun j hj=>descF_none hd j hj⟩
theorem docF_none {so:Turn->Bool} {r:Rule} {Y:Int} (hm:∀ z t,turnL z r=some t->Y+2<=z->so t=false) (h:docF so r Y=none):∀ z t,turnL z r=some t->so t=false:=by
 intro z t ht
 by_cases hz:Y+2<=z
 ·exact hm z t ht hz
 ·have hin:r.lo<=z/\z<=r.hi:=by
   by_cases hc:z<r.lo\/r.hi<z
   ·rw [R11.turnL_out hc] at ht;cases ht
   ·omega
  have hl:docLast r Y=r.hi\/docLast r Y=Y+2:=by unfold docLast;split<;>simp
  have hge:z<=docLast r Y:=by unfold docLast;split<;>omega
  have:=descF_none (show descF (soL so r) (docLast r Y) (docLast r Y+1 - r.lo).toNat=none from h) (docLast r Y - z).toNat (by omega)
  rw [show docLast r Y - ((docLast r Y - z).toNat:Int)=z from by omega] at this
  unfold soL at this;rw [ht] at this
  by_cases hs:so t=true
  ·simp [Option.filter,hs] at this
  ·simpa using hs
theorem docF_some {so:Turn->Bool} {r:Rule} {Y:Int} {t:Turn} (hm:∀ z t,turnL z r=some t->Y+2<=z->so t=false) (h:docF so r Y=some t):(∃ z,turnL z r=some t)/\so t=true/\∀ z u,turnL z r=some u->so u=true->u.at_<=t.at_:=by
 obtain ⟨i,hi,h1,h2⟩:=descF_first (show descF (soL so r) (docLast r Y) (docLast r Y+1 - r.lo).toNat=some t from h);unfold soL at h1
 cases ht:turnL (docLast r Y - (i:Nat)) r with
 |none=>rw [ht] at h1;cases h1
 |some v=>
  rw [ht] at h1
  by_cases hs:so v=true
  ·have hv:v=t:=by simpa [Option.filter,hs] using h1
   subst hv
   refine ⟨⟨_,ht⟩,hs,fun z u hu hsu=>?_⟩
   rcases Int.lt_trichotomy z (docLast r Y - (i:Nat)) with h3|h3|h3
   ·exact Int.le_of_lt (rule_less hu ht h3)
   ·rw [h3,ht] at hu
    injection hu with hu
    rw [hu];exact Int.le_refl _
   ·exfalso
    by_cases hz:Y+2<=z
    ·rw [hm z u hu hz] at hsu;cases hsu
    ·have hin:r.lo<=z/\z<=r.hi:=by
      by_cases hc:z<r.lo\/r.hi<z
      ·rw [R11.turnL_out hc] at hu;cases hu
      ·omega
     have hge:z<=docLast r Y:=by unfold docLast;split<;>omega
     have:=h2 (docLast r Y - z).toNat (by omega)
     rw [show docLast r Y - ((docLast r Y - z).toNat:Int)=z from by omega] at this
     unfold soL at this;rw [hu] at this;simp [Option.filter,hsu] at this
  ·simp [Option.filter,hs] at h1
theorem docL_spec {so:Turn->Bool} {rs:List Rule} {Y:Int} (hm:∀ r∈rs,∀ z t,turnL z r=some t->Y+2<=z->so t=false):
  (∀ t,docL so Y rs=some t->IsLatest rs so t)/\(docL so Y rs=none->∀ u,Gt rs u->so u=false):=by
 have key:∀ (l:List Rule) (b:Option Turn),(∀ r∈l,∀ z t,turnL z r=some t->Y+2<=z->so t=false)->(∀ t,b=some t->so t=true)->
   (∀ t,l.foldl (fun b x=>joinT b (docF so x Y)) b=some t->((b=some t\/Gt l t)/\so t=true/\(∀ u,b=some u->u.at_<=t.at_)/\∀ u,Gt l u->so u=true->u.at_<=t.at_))/\
   (l.foldl (fun b x=>joinT b (docF so x Y)) b=none->b=none/\∀ u,Gt l u->so u=false):=by
  intro l
  induction l with
  |nil=>
   intro b _ hb
   refine ⟨fun t ht=>⟨.inl ht,hb t ht,fun u hu=>?_,fun u ⟨r,hr,_⟩=>by simp at hr⟩,fun h=>⟨h,fun u ⟨r,hr,_⟩=>by simp at hr⟩⟩
   simp only [List.foldl_nil] at ht;rw [ht] at hu
   injection hu with hu
   rw [hu];exact Int.le_refl _
  |cons a l ih=>
   intro b hl hb;rw [List.foldl_cons];have ha:=hl a List.mem_cons_self;have hl2:∀ r∈l,∀ z t,turnL z r=some t->Y+2<=z->so t=false:=fun r hr=>hl r (List.mem_cons_of_mem _ hr)
   cases hd:docF so a Y with
   |none=>
    have hno:=docF_none ha hd
    have hj:joinT b none=b:=by cases b<;>rfl
    rw [hj];obtain ⟨h1,h2⟩:=ih b hl2 hb
    refine ⟨fun t ht=>?_,fun h=>?_⟩
    ·obtain ⟨p1,p2,p3,p4⟩:=h1 t ht
     refine ⟨p1.imp id fun ⟨r,hr,hz⟩=>⟨r,List.mem_cons_of_mem _ hr,hz⟩,p2,p3,fun u ⟨r,hr,z,hz⟩ hu=>?_⟩
     rcases List.mem_cons.1 hr with rfl|hr
     ·rw [hno z u hz] at hu;cases hu
     ·exact p4 u ⟨r,hr,z,hz⟩ hu
    ·obtain ⟨p1,p2⟩:=h2 h
     refine ⟨p1,fun u ⟨r,hr,z,hz⟩=>?_⟩
     rcases List.mem_cons.1 hr with rfl|hr
     ·exact hno z u hz
     ·exact p2 u ⟨r,hr,z,hz⟩
   |some v=>
    obtain ⟨hv1,hv2,hv3⟩:=docF_some ha hd
    have hj:∃ w,joinT b (some v)=some w/\(w=v\/b=some w)/\v.at_<=w.at_/\∀ u,b=some u->u.at_<=w.at_:=by
     cases b with
     |none=>exact ⟨v,rfl,.inl rfl,Int.le_refl _,fun u hu=>by cases hu⟩
     |some p=>
      by_cases hle:p.at_<=v.at_
      ·exact ⟨v,join_le hle,.inl rfl,Int.le_refl _,fun u hu=>by injection hu with hu;subst hu;exact hle⟩
      ·exact ⟨p,join_gt hle,.inr rfl,by omega,fun u hu=>by injection hu with hu;subst hu;exact Int.le_refl _⟩
    obtain ⟨w,hw,hw1,hw2,hw3⟩:=hj;rw [hw]
    have hws:so w=true:=by
     rcases hw1 with h|h
     ·rw [h];exact hv2
     ·exact hb w h
    obtain ⟨h1,h2⟩:=ih (some w) hl2 (fun t ht=>by injection ht with ht;rw [<-ht];exact hws)
    refine ⟨fun t ht=>?_,fun h=>?_⟩
    ·obtain ⟨p1,p2,p3,p4⟩:=h1 t ht
     have p5:=p3 w rfl
     refine ⟨?_,p2,fun u hu=>Int.le_trans (hw3 u hu) p5,fun u ⟨r,hr,z,hz⟩ hu=>?_⟩
     ·rcases p1 with h|⟨r,hr,hz⟩
      ·injection h with h
       subst h
       rcases hw1 with h|h
       ·right
        obtain ⟨z,hz⟩:=hv1
        exact ⟨a,List.mem_cons_self,z,by rw [h];exact hz⟩
       ·exact .inl h
      ·exact .inr ⟨r,List.mem_cons_of_mem _ hr,hz⟩
     ·rcases List.mem_cons.1 hr with rfl|hr
      ·exact Int.le_trans (hv3 z u hz hu) (Int.le_trans hw2 p5)
      ·exact p4 u ⟨r,hr,z,hz⟩ hu
    ·have:=(h2 h).1
     cases this
 obtain ⟨h1,h2⟩:=key rs none hm (fun t ht=>by cases ht)
 refine ⟨fun t ht=>?_,fun h=>(h2 h).2⟩
 obtain ⟨p1,p2,_,p4⟩:=h1 t ht
 exact ⟨p1.elim (fun h=>by cases h) id,p2,p4⟩
theorem ahead_spec {rs:List Rule} (hr:rulesB rs=true) (a:Int):
  (∀ t,aheadO rs a=some t->IsLatest rs (fun t=>decide (t.at_<a)) t)/\(aheadO rs a=none->∀ u,Gt rs u->¬ u.at_<a):=by
 have hu:aheadO rs a=latestL (fun t=>decide (t.at_<a)) (yearI a) rs:=by unfold aheadO;rw [if_pos hr]
 rcases ahead_mid (rs:=rs) (at_:=a) with hm|⟨_,hno⟩
 ·rw [hu,latest_same hr (yearI_le a) hm]
  obtain ⟨h1,h2⟩:=docL_spec (so:=fun t=>decide (t.at_<a)) (rs:=rs) (Y:=yearI a) (fun r hr z t ht hz=>(hm r hr z t ht).2 hz)
  exact ⟨h1,fun h u hgu=>by have:=h2 h u hgu;simpa using this⟩
 ·have hno2:∀ r∈rs,∀ z t,turnL z r=some t->decide (t.at_<a)=false:=fun r hrm z t ht=>hno r hrm (List.all_eq_true.1 hr r hrm) z t ht
  rw [hu,latest_no hno2]
  exact ⟨fun t ht=>(by cases ht),fun _ u ⟨r,hrm,z,hz⟩=>(by have:=hno2 r hrm z u hz;simpa using this)⟩
theorem force_spec {rs:List Rule} {off t:Int} (hr:rulesB rs=true) (h1: -86400<off) (h2:off<86400):
  (∀ x,latestL (fun x=>decide (uniT rs off x<=t)) (yearI t) rs=some x->IsLatest rs (fun x=>decide (uniT rs off x<=t)) x)/\(latestL (fun x=>decide (uniT rs off x<=t)) (yearI t) rs=none->∀ u,Gt rs u->¬ uniT rs off u<=t):=by
 rcases force_mid (rs:=rs) (off:=off) (at_:=t) hr h1 h2 with hm|⟨_,hno⟩
 ·rw [latest_same hr (yearI_le t) hm]
  obtain ⟨h3,h4⟩:=docL_spec (so:=fun x=>decide (uniT rs off x<=t)) (rs:=rs) (Y:=yearI t) (fun r hr z t ht hz=>(hm r hr z t ht).2 hz)
  exact ⟨h3,fun h u hgu=>by have:=h4 h u hgu;simpa using this⟩
 ·have hno2:∀ r∈rs,∀ z x,turnL z r=some x->decide (uniT rs off x<=t)=false:=fun r hrm z x hx=>hno r hrm z x hx
  rw [latest_no hno2]
  exact ⟨fun x hx=>(by cases hx),fun _ u ⟨r,hrm,z,hz⟩=>(by have:=hno2 r hrm z u hz;simpa using this)⟩
theorem uni_is {rs:List Rule} {off:Int} (hr:rulesB rs=true) (h1: -86400<off) (h2:off<86400) {t:Turn} (hg:Gt rs t):uniT rs off t=uniS off ((aheadO rs t.at_).getD noTurn).save t/\(t.ref=0\/t.ref=1\/t.ref=2):=by
 obtain ⟨r,hrm,z,hz⟩:=hg;have hb:=turn_bd hz;have hs:=ahead_save hr t.at_;have hrf:=(turnL_at hz).2.2.2;have hrs:=rule_save hr hrm
 refine ⟨?_,by omega⟩
 unfold uniT uniS
 have w1:wrap64 (t.at_ - off)=t.at_ - off:=by unfold wrap64;omega
 rw [w1]
 split
 ·next h0=>
  rw [if_neg (by omega)]
  unfold wrap64;omega
 ·rfl
theorem uni_bd {rs:List Rule} {off:Int} (hr:rulesB rs=true) (h1: -86400<off) (h2:off<86400) {t:Turn} (hg:Gt rs t):∃ a,uniT rs off t=t.at_ - a/\(a=0\/(off - 43200<=a/\a<=off+43200)):=by
 obtain ⟨e,hrf⟩:=uni_is hr h1 h2 hg;have hs:=ahead_save hr t.at_;rw [e];unfold uniS
 rcases hrf with h|h|h
 ·rw [if_pos h,if_neg (by omega)]
  exact ⟨off+((aheadO rs t.at_).getD noTurn).save,by omega,.inr ⟨by omega,by omega⟩⟩
 ·rw [if_neg (by omega),if_neg (by omega)]
  exact ⟨off,by omega,.inr ⟨by omega,by omega⟩⟩
 ·rw [if_neg (by omega),if_pos h]
  exact ⟨0,by omega,.inl rfl⟩
theorem uni_less {rs:List Rule} {off:Int} (hr:rulesB rs=true) (hf:∀ y,FarY rs y) (h1: -86400<off) (h2:off<86400) {t u:Turn} (ht:Gt rs t) (hu:Gt rs u) (h:t.at_<u.at_):uniT rs off t<uniT rs off u:=by
 obtain ⟨a,ha,ha2⟩:=uni_bd hr h1 h2 ht;obtain ⟨b,hb,hb2⟩:=uni_bd hr h1 h2 hu
 rcases spaced hf ht hu with rfl|hs
 ·omega
 ·unfold Far at hs
  omega
end Trn
end
end
section
section
namespace Trn
open Go.RowKit Mem Civ Mom Img Rul Ahd
def takeL (b:Int):List Turn->List Turn
 |[]=>[]
 |t :: ts=>if t.at_<b then t :: takeL b ts else []
def annot (off:Int):List Turn->Int->List TurnU
 |[],_=>[]
 |t :: ts,sv=>⟨uniS off sv t,t.save,t.letter⟩ :: annot off ts t.save
def endS:List Turn->Int->Int
 |[],sv=>sv
 |t :: ts,_=>endS ts t.save
theorem give_is (off b:Int):∀ (l:List Turn) (sv:Int),giveL off b l sv=annot off (takeL b l) sv/\saveL b l sv=endS (takeL b l) sv
 |[],sv=>⟨rfl,rfl⟩
 |t :: ts,sv=>by
  unfold giveL saveL takeL
  split
  ·obtain ⟨h1,h2⟩:=give_is off b ts t.save
   exact ⟨by rw [h1];rfl,by rw [h2];rfl⟩
  ·exact ⟨rfl,rfl⟩
theorem annot_append (off:Int):∀ (l m:List Turn) (sv:Int),annot off (l++m) sv=annot off l sv++annot off m (endS l sv)
 |[],m,sv=>rfl
 |t :: ts,m,sv=>by
  show ⟨uniS off sv t,t.save,t.letter⟩ :: annot off (ts++m) t.save=⟨uniS off sv t,t.save,t.letter⟩ :: (annot off ts t.save++annot off m (endS ts t.save))
  rw [annot_append off ts m t.save]
def rawGo (rs:List Rule):Nat->Int->List Turn->List Turn
 |0,_,_=>[]
 |n+1,y,wait=>takeL (borderI y) (waitL rs y wait)++rawGo rs n (y+1) (leftL (borderI y) (waitL rs y wait))
theorem go_is (rs:List Rule) (off:Int):∀ (n:Nat) (y:Int) (wait:List Turn) (sv:Int),turnsGo rs off n y wait sv=annot off (rawGo rs n y wait) sv
 |0,_,_,_=>rfl
 |n+1,y,wait,sv=>by
  obtain ⟨h1,h2⟩:=give_is off (borderI y) (waitL rs y wait) sv;unfold turnsGo rawGo;rw [h1,h2,go_is rs off n,annot_append]
theorem take_left (b:Int):∀ l,takeL b l++leftL b l=l
 |[]=>rfl
 |t :: ts=>by
  unfold takeL leftL
  split
  ·rw [List.cons_append,take_left b ts]
  ·rfl
theorem takeL_early {b:Int}:∀ {l:List Turn},∀ t∈takeL b l,t.at_<b
 |[],t,h=>by simp [takeL] at h
 |a :: l,t,h=>by
  unfold takeL at h
  split at h
  ·next hb=>
   rcases List.mem_cons.1 h with rfl|h
   ·exact hb
   ·exact takeL_early t h
  ·simp at h
def Gap (l:List Turn):Prop:=l.Pairwise fun a b=>a.at_+172800<=b.at_
theorem waitL_gap {rs:List Rule} (hr:rulesB rs=true) (hf:∀ y,FarY rs y) {y:Int} {wait:List Turn} (hw:WaitOk rs y wait) (hg:Gap wait):Gap (waitL rs y wait):=by
 have hp:(wait++turnsL rs y).Pairwise Far:=by
  rw [List.pairwise_append]
  refine ⟨hg.imp fun h=> .inr (by omega),((turnsL_perm hr y).pairwise_iff (fun h=>Far.symm h)).2 (hf y).1,fun a ha b hb=>?_⟩
  obtain ⟨r,hr1,hr2⟩:=hw.1 a ha;exact ((hf y).2 b ((turnsL_perm hr y).mem_iff.1 hb) a (rawT_mem.2 ⟨r,hr1,hr2⟩)).symm
 have h2:(waitL rs y wait).Pairwise Far:=((sortT_perm _).pairwise_iff (fun h=>Far.symm h)).2 hp;have h3:=sortT_rise (wait++turnsL rs y)
 exact (h2.and h3).imp fun ⟨h4,h5⟩=>by
  unfold Far at h4;omega
theorem rawGo_spec {rs:List Rule} (hr:rulesB rs=true) (hc:crowdB rs=false) (hf:∀ y,FarY rs y):∀ (n:Nat) (y:Int) (wait:List Turn),WaitOk rs y wait->Gap wait->1<=y->y+n<=20000->
  Gap (rawGo rs n y wait)/\(∀ t,t∈rawGo rs n y wait↔((t∈wait\/∃ z,y<=z/\∃ r∈rs,turnL z r=some t)/\0<n/\t.at_<borderI (y+n - 1)))
 |0,y,wait,_,_,_,_=>⟨List.Pairwise.nil,fun t=>by simp [rawGo]⟩
 |n+1,y,wait,hw,hg,h1,h2=>by
  have hg2:=waitL_gap hr hf hw hg
  have hwn:=wait_next hw hc h1 (by omega)
  have hgl:Gap (leftL (borderI y) (waitL rs y wait)):=hg2.sublist (leftL_suffix _ _).sublist
  have hgt:Gap (takeL (borderI y) (waitL rs y wait)):=by
   have:=take_left (borderI y) (waitL rs y wait);rw [<-this] at hg2;exact (List.pairwise_append.1 hg2).1
  obtain ⟨ih1,ih2⟩:=rawGo_spec hr hc hf n (y+1) _ hwn hgl (by omega) (by omega)
  have hb:=border_is h1 (by omega)
  have ho:=october y
  have hmem:∀ t,t∈waitL rs y wait↔(t∈wait\/∃ r∈rs,turnL y r=some t):=by
   intro t;unfold waitL;rw [(sortT_perm _).mem_iff,List.mem_append,(turnsL_perm hr y).mem_iff,rawT_mem]
  have hlate:∀ t z,y+1<=z->(∃ r∈rs,turnL z r=some t)->borderI y+172800<=t.at_:=by
   rintro t z hz ⟨r,_,ht⟩;have:=(local_near (turnL_at ht).1).1;have:=jan_mono (a:=y+1) (b:=z) hz;omega
  have hearly:∀ t,(t∈wait\/∃ r∈rs,turnL y r=some t)->n≠0->t.at_<borderI (y+n):=by
   intro t ht hn
   have hb2:=border_is (y:=y+n) (by omega) (by omega)
   have ho2:=october (y+n)
   have hz:∃ z,z<=y/\∃ r,turnL z r=some t:=by
    rcases ht with ht|⟨r,_,ht⟩
    ·obtain ⟨r,_,h3⟩:=hw.1 t ht
     exact ⟨_,by omega,r,h3⟩
    ·exact ⟨y,by omega,r,ht⟩
   obtain ⟨z,hz,r,ht⟩:=hz;have:=(local_near (turnL_at ht).1).2;have:=jan_mono (a:=z) (b:=y) hz
   have:=jan_mono (a:=y+1) (b:=y+n) (by omega)
   have:=jan_next (y+n);have:=jan_next y;omega
  unfold rawGo
  refine ⟨?_,fun t=>?_⟩
  ·unfold Gap
   rw [List.pairwise_append]
   refine ⟨hgt,ih1,fun a ha b hb3=>?_⟩
   have h3:=takeL_early a ha
   rcases (ih2 b).1 hb3 with ⟨h4|⟨z,hz,h4⟩,_,_⟩
   ·have:=take_left (borderI y) (waitL rs y wait)
    rw [<-this] at hg2;exact (List.pairwise_append.1 hg2).2.2 a ha b h4
   ·have:=hlate b z hz h4
    omega
  ·rw [List.mem_append,ih2 t,show y+((n+1:Nat):Int) - 1=y+n from by omega,show y+1+(n:Int) - 1=y+n from by omega]
   have hsplit:t∈waitL rs y wait↔(t∈takeL (borderI y) (waitL rs y wait)\/t∈leftL (borderI y) (waitL rs y wait)):=by
    rw [<-List.mem_append,take_left]
   constructor
   ·rintro (h3|⟨h3,h4,h5⟩)
    ·have h6:=takeL_early t h3
     have h7:=(hmem t).1 (hsplit.2 (.inl h3))
     refine ⟨?_,by omega,?_⟩
     ·rcases h7 with h7|h7
      ·exact .inl h7
      ·exact .inr ⟨y,Int.le_refl _,h7⟩
     ·by_cases hn:n=0
      ·subst hn
       simpa using h6
      ·exact hearly t h7 hn
    ·refine ⟨?_,by omega,h5⟩
     rcases h3 with h3|⟨z,hz,h3⟩
     ·rcases (hmem t).1 (hsplit.2 (.inr h3)) with h7|h7
      ·exact .inl h7
      ·exact .inr ⟨y,Int.le_refl _,h7⟩
     ·exact .inr ⟨z,by omega,h3⟩
   ·rintro ⟨h3,_,h5⟩
    by_cases hz:∃ z,y+1<=z/\∃ r∈rs,turnL z r=some t
    ·obtain ⟨z,hz,h4⟩:=hz
     right
     refine ⟨.inr ⟨z,hz,h4⟩,?_,h5⟩
     by_cases hn:n=0
     ·subst hn
      have:=hlate t z hz h4;simp at h5;omega
     ·omega
    ·have h7:t∈wait\/∃ r∈rs,turnL y r=some t:=by
      rcases h3 with h3|⟨z,hz2,h3⟩
      ·exact .inl h3
      ·by_cases hzy:z=y
       ·subst hzy;exact .inr h3
       ·exact absurd ⟨z,by omega,h3⟩ hz
     rcases hsplit.1 ((hmem t).2 h7) with h8|h8
     ·exact .inl h8
     ·right
      refine ⟨.inl h8,?_,h5⟩
      have h9:=leftL_late (b:=borderI y) (sortT_rise (wait++turnsL rs y)) t h8
      by_cases hn:n=0
      ·subst hn
       simp at h5;omega
      ·omega
theorem annot_map {rs:List Rule} {off:Int} (hr:rulesB rs=true) (hf:∀ y,FarY rs y) (h1: -86400<off) (h2:off<86400) {b:Int}:∀ (m l:List Turn),Gap (l++m)->(∀ t,t∈l++m↔Gt rs t/\t.at_<b)->
  annot off m (((l.getLast?).map (·.save)).getD 0)=m.map fun t=>⟨uniT rs off t,t.save,t.letter⟩
 |[],l,_,_=>rfl
 |t :: m,l,hg,hm=>by
  have ih:=annot_map hr hf h1 h2 (b:=b) m (l++[t]) (by simpa using hg) (by simpa using hm)
  rw [List.getLast?_concat] at ih
  have ht:Gt rs t/\t.at_<b:=(hm t).1 (by simp)
  have hgp:=List.pairwise_append.1 hg;have hgm:=List.pairwise_cons.1 hgp.2.1
  have hsv:((aheadO rs t.at_).getD noTurn).save=((l.getLast?).map (·.save)).getD 0:=by
   obtain ⟨s1,s2⟩:=ahead_spec hr t.at_
   rcases List.eq_nil_or_concat l with rfl|⟨k,p,rfl⟩
   ·cases ha:aheadO rs t.at_ with
    |none=>rfl
    |some x=>
     exfalso
     obtain ⟨g1,g2,_⟩:=s1 x ha
     have g2:x.at_<t.at_:=by simpa using g2
     have hx:x∈[]++t :: m:=(hm x).2 ⟨g1,by omega⟩
     simp only [List.nil_append,List.mem_cons] at hx
     rcases hx with rfl|hx
     ·omega
     ·have:=hgm.1 x hx;omega
   ·simp only [List.concat_eq_append] at hgp hm ⊢
    rw [List.getLast?_concat]
    have hpt:=hgp.2.2 p (by simp) t (by simp)
    have hpG:Gt rs p:=((hm p).1 (by simp)).1
    cases ha:aheadO rs t.at_ with
    |none=>exact absurd (by omega:p.at_<t.at_) (s2 ha p hpG)
    |some x=>
     obtain ⟨g1,g2,g3⟩:=s1 x ha
     have g2:x.at_<t.at_:=by simpa using g2
     have g4:=g3 p hpG (by simp;omega)
     have hx:x∈(k++[p])++t :: m:=(hm x).2 ⟨g1,by omega⟩
     have hxp:x=p:=by
      rcases List.mem_append.1 hx with hx|hx
      ·rcases List.mem_append.1 hx with hx|hx
       ·have:=(List.pairwise_append.1 hgp.1).2.2 x hx p (by simp)
        omega
       ·simpa using hx
      ·rcases List.mem_cons.1 hx with rfl|hx
       ·omega
       ·have:=hgm.1 x hx;omega
     subst hxp
     rfl
  unfold annot;rw [<-hsv,<-(uni_is hr h1 h2 ht.1).1,List.map_cons]
  congr 1
theorem turns_list {rs:List Rule} {off last:Int} (hr:rulesB rs=true) (hc:crowdB rs=false) (hf:∀ y,FarY rs y) (h1: -86400<off) (h2:off<86400) (hl:lastY rs<=last) (hl2:last<=15000):
  ∃ l:List Turn,turnsP rs off last=l.map (fun t=>⟨uniT rs off t,t.save,t.letter⟩)/\Gap l/\∀ t,t∈l↔Gt rs t/\t.at_<borderI (last+2):=by
 unfold turnsP
 by_cases h0:rs.length=0
 ·rw [if_pos h0]
  have hrs:rs=[]:=List.eq_nil_of_length_eq_zero h0;subst hrs
  exact ⟨[],rfl,List.Pairwise.nil,fun t=>⟨fun h=>by simp at h,fun ⟨⟨r,hr,_⟩,_⟩=>by simp at hr⟩⟩
 ·rw [if_neg h0]
  have hy:=years_bd rs hr rs.length;rw [List.take_length] at hy
  have hfl:=first_last (rs:=rs) (by intro h;subst h;simp at h0)
  obtain ⟨g1,g2⟩:=rawGo_spec hr hc hf (last+3 - firstY rs).toNat (firstY rs) [] (wait_nil _ _) List.Pairwise.nil hy.1.1 (by omega)
  rw [show firstY rs+((last+3 - firstY rs).toNat:Int) - 1=last+2 from by omega] at g2
  have g3:∀ t,t∈rawGo rs (last+3 - firstY rs).toNat (firstY rs) []↔Gt rs t/\t.at_<borderI (last+2):=by
   intro t;rw [g2 t]
   constructor
   ·rintro ⟨h3|⟨z,_,r,hr1,hr2⟩,_,h4⟩
    ·simp at h3
    ·exact ⟨⟨r,hr1,z,hr2⟩,h4⟩
   ·rintro ⟨⟨r,hr1,z,hr2⟩,h4⟩
    refine ⟨.inr ⟨z,?_,r,hr1,hr2⟩,by omega,h4⟩
    have hlo:=firstY_le hr1
    by_cases hc2:z<r.lo\/r.hi<z
    ·rw [R11.turnL_out hc2] at hr2;cases hr2
    ·omega
  refine ⟨_,?_,g1,g3⟩
  rw [go_is];exact annot_map hr hf h1 h2 (b:=borderI (last+2)) _ [] g1 g3
end Trn
end
end
end Go.Proofs.YtadamccojdocbaaGreatDoor
