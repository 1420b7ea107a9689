/-
  Contracts of the code that the law reaches, and plain laws. Conditions: as each says.
-/
import Derived.Test.YtiiekaehbahenaaGreatDoorV07
set_option linter.all false
set_option maxHeartbeats 40000000
set_option maxRecDepth 100000
namespace Go.Proofs.YtiiekaehbahenaaGreatDoor
open Lib (hid)
open Tryz
section
namespace Gr
open Go.RowKit Mem Atl
theorem wpS_of_wp' {P:Program} {c:Code} {Q:Exit->Act->List Frame->World->Prop} {a:Act} {cs:List Frame} {w:World} (h:∀ Q':Exit->Act->World->Prop,(∀ e a' w',Q e a' cs w'->Q' e a' w')->c.wp P Q' a w):c.wpS P Q a cs w:=
 wpS_of_wp (h _ fun _ _ _ h=>h)
theorem assert_nil (w:World):(Instr.typeAssert .nilIface 20 24 true).run prog w= .ok (.tuple #[.int .i64 0,.bool false]) w:=by kernel_rfl
theorem assert_some (n:Int) (w:World):(Instr.typeAssert (.iface 24 (.int .i64 n)) 20 24 true).run prog w= .ok (.tuple #[.int .i64 n,.bool true]) w:=by kernel_rfl
theorem catch_idle (E:Nat) (F:Nat) (X:Value) (w:World):
  CallsD prog 15 #[.pointer (some ⟨E,0,none⟩),.func (.func F) #[] #[X]] .returning w fun e u' w'=>e= .returned (.tuple #[])/\u'= .returning/\w'=w:=by
 refine callsD_of_wpS func15 rfl fun c₀ cs hu=>?_
 have Hu:=hid hu
 apply wpS_seq
 apply wpS_region
 simp [wpOpsS,go_sem,assert_nil,recoverD,hu,ntmps15,Exit.thenS];clear hu;simp only [Array.replicate,List.replicate,List.setIfInBounds_toArray,List.set_cons_succ,List.set_cons_zero,List.append_toArray,List.cons_append,List.nil_append]
 refine wpS_of_wp' fun Q' hQ=>?_
 have HQ:=hid hQ;clear hQ;go_wp2
 refine HQ.out _ _ _ ?_
 have hu:=Hu.out;simp [bodyPostS,results,Tryz.results15]
 cases c₀
 simp only at hu;subst hu
 rfl
theorem catch_clock (E:Nat) (X:Value) (n:Int) (older:List PanicEntry) (w:World) (ce:Value) (hE:Blk w E 24 #[ce]) (Post:World->Prop)
  (hF:Calls prog 16 #[X] (w.setCell ⟨E,0,none⟩ (.int .i64 n)) fun e w'=>e= .returned (.tuple #[])/\Post w'):
  CallsD prog 15 #[.pointer (some ⟨E,0,none⟩),.func (.func 16) #[] #[X]] (.panicking ({ v:= .iface 24 (.int .i64 n),recovered:=false } :: older)) w fun e u' w'=>e= .returned (.tuple #[])/\u'= .panicking ({ v:= .iface 24 (.int .i64 n),recovered:=true } :: older)/\Post w':=by
 have cE:=hE.cell 0;have fE:=hE.frozen 0;have HF:=hid hF;clear hE hF
 refine callsD_of_wpS func15 rfl fun c₀ cs hu=>?_
 have Hu:=hid hu
 apply wpS_seq
 apply wpS_region
 simp [wpOpsS,go_sem,assert_some,recoverD,hu,ntmps15,Exit.thenS];clear hu;simp only [Array.replicate,List.replicate,List.setIfInBounds_toArray,List.set_cons_succ,List.set_cons_zero,List.append_toArray,List.cons_append,List.nil_append]
 refine wpS_of_wp' fun Q' hQ=>?_
 have HQ:=hid hQ;clear hQ
 go_wp2_with (go_at_call 16;refine HF.out.mono ?_;rintro e w1 ⟨rfl,hp⟩;have HP:=hid hp;clear hp)
 refine HQ.out _ _ _ ?_
 have hp:=HP.out;simp [bodyPostS,results,Tryz.results15,hp]
theorem catch_parse (E:Nat) (X:Value) (n:Int) (older:List PanicEntry) (w:World) (ce:Value) (hE:Blk w E 24 #[ce]) (Post:World->Prop)
  (hF:Calls prog 39 #[X] (w.setCell ⟨E,0,none⟩ (.int .i64 n)) fun e w'=>e= .returned (.tuple #[])/\Post w'):
  CallsD prog 15 #[.pointer (some ⟨E,0,none⟩),.func (.func 39) #[] #[X]] (.panicking ({ v:= .iface 24 (.int .i64 n),recovered:=false } :: older)) w fun e u' w'=>e= .returned (.tuple #[])/\u'= .panicking ({ v:= .iface 24 (.int .i64 n),recovered:=true } :: older)/\Post w':=by
 have cE:=hE.cell 0;have fE:=hE.frozen 0;have HF:=hid hF;clear hE hF
 refine callsD_of_wpS func15 rfl fun c₀ cs hu=>?_
 have Hu:=hid hu
 apply wpS_seq
 apply wpS_region
 simp [wpOpsS,go_sem,assert_some,recoverD,hu,ntmps15,Exit.thenS];clear hu;simp only [Array.replicate,List.replicate,List.setIfInBounds_toArray,List.set_cons_succ,List.set_cons_zero,List.append_toArray,List.cons_append,List.nil_append]
 refine wpS_of_wp' fun Q' hQ=>?_
 have HQ:=hid hQ;clear hQ
 go_wp2_with (go_at_call 39;refine HF.out.mono ?_;rintro e w1 ⟨rfl,hp⟩;have HP:=hid hp;clear hp)
 refine HQ.out _ _ _ ?_
 have hp:=HP.out;simp [bodyPostS,results,Tryz.results15,hp]
theorem catch_span (E:Nat) (X:Value) (n:Int) (older:List PanicEntry) (w:World) (ce:Value) (hE:Blk w E 24 #[ce]) (Post:World->Prop)
  (hF:Calls prog 22 #[X] (w.setCell ⟨E,0,none⟩ (.int .i64 n)) fun e w'=>e= .returned (.tuple #[])/\Post w'):
  CallsD prog 15 #[.pointer (some ⟨E,0,none⟩),.func (.func 22) #[] #[X]] (.panicking ({ v:= .iface 24 (.int .i64 n),recovered:=false } :: older)) w fun e u' w'=>e= .returned (.tuple #[])/\u'= .panicking ({ v:= .iface 24 (.int .i64 n),recovered:=true } :: older)/\Post w':=by
 have cE:=hE.cell 0;have fE:=hE.frozen 0;have HF:=hid hF;clear hE hF
 refine callsD_of_wpS func15 rfl fun c₀ cs hu=>?_
 have Hu:=hid hu
 apply wpS_seq
 apply wpS_region
 simp [wpOpsS,go_sem,assert_some,recoverD,hu,ntmps15,Exit.thenS];clear hu;simp only [Array.replicate,List.replicate,List.setIfInBounds_toArray,List.set_cons_succ,List.set_cons_zero,List.append_toArray,List.cons_append,List.nil_append]
 refine wpS_of_wp' fun Q' hQ=>?_
 have HQ:=hid hQ;clear hQ
 go_wp2_with (go_at_call 22;refine HF.out.mono ?_;rintro e w1 ⟨rfl,hp⟩;have HP:=hid hp;clear hp)
 refine HQ.out _ _ _ ?_
 have hp:=HP.out;simp [bodyPostS,results,Tryz.results15,hp]
theorem clear_clock (X:Nat) (w:World) (a0 a1 a2 a3:Value) (h:Blk w X 23 #[a0,a1,a2,a3]):
  Calls prog 16 #[.pointer (some ⟨X,0,none⟩)] w fun e w'=>e= .returned (.tuple #[])/\Blk w' X 23 #[.int .i64 0,.int .i64 0,.int .i64 0,.int .i64 0]/\Kp (·=X) w w':=by
 go_enter func16,ntmps16;have cB:=h.cell;have fB:=h.frozen;have H:=hid h;clear h;go_wp2
 go_end0
 exact ⟨rfl,set4 H.out,(((Kp.refl (·=X) w).set (p:=⟨X,0,none⟩) rfl _).set (p:=⟨X,1,none⟩) rfl _).set (p:=⟨X,2,none⟩) rfl _ |>.set (p:=⟨X,3,none⟩) rfl _⟩
def clockV (r:Option TimT):Value:=match r with
 |some v=> .tuple #[timV v,.int .i64 0]
 |none=> .tuple #[timV ⟨0,0,0,0⟩,.int .i64 6]
theorem clock_results {w:World} {X E:Nat} {a0 a1 a2 a3:Value} {n:Int} (h:Blk w X 23 #[a0,a1,a2,a3]) (h':Blk w E 24 #[.int .i64 n]) (tmps:Array Value) (h2:tmps[2]?=some (.pointer (some ⟨X,0,none⟩))) (h3:tmps[3]?=some (.pointer (some ⟨E,0,none⟩))):
  (results Tryz.f8 tmps).run prog w= .ok (.tuple #[.agg #[a0,a1,a2,a3],.int .i64 n]) w:=by
 have hc:=h.cell;have hc':=h'.cell;simp [results,Tryz.results8,go_sem,hc,hc',h2,h3]
theorem below_drwN {B:Nat} {a w:World} (h:Below B a w) (n:Nat):Below B a (w.drewN n):=⟨h.os,h.tape,h.output,h.size,h.block⟩
theorem tt_list:(⟨#[84,116]⟩:ByteArray).data.toList=[84,116]:=rfl
theorem clock_text (s:ByteArray) (w:World) (hs:s.size<=2097152):
  Calls prog 8 #[.string s] w fun e w'=>e= .returned (clockV (clockA (tx s)))/\Below w.heap.size w w':=by
 have hmf:∀ (fn:Fn) (first cap:Array Value) (w:World),(Instr.makeFunc fn first cap).run prog w= .ok (.func fn first cap) w:=fun _ _ _ _=>rfl
 have hb:=box3 w 23 24 51 #[.int .i64 0,.int .i64 0,.int .i64 0,.int .i64 0] #[.int .i64 0] #[.string s,.int .i64 0];obtain ⟨R,hR⟩:∃ R,clockA (tx s)=R:=⟨_,rfl⟩;rw [hR];unfold clockA at hR;rw [tx_len] at hR;have HR:=hid hR;clear hR
 go_enter_defers func8,ntmps8
 go_wp2_with fail
 generalize ((w.alloc (.cells #[.int .i64 0,.int .i64 0,.int .i64 0,.int .i64 0] 23)).alloc (.cells #[.int .i64 0] 24)).alloc (.cells #[.string s,.int .i64 0] 51)=W at*;obtain ⟨bX,bE,bR,hbw,hz⟩:=hb
 have HO:=hid (one_any ⟨#[84,116]⟩ (by decide) (w.heap.size+1+1) s 0 W bR (Nat.zero_le _) hs)
 rw [tt_list] at HO;have HB:=hid (And.intro bX (And.intro bE hbw));clear bX bE bR hbw
 go_at_call 17
 refine HO.out.mono ?_
 rintro e w1 ⟨hcase,hg⟩
 have hst:∃ c:Int,e= .returned (.int .u8 c)/\Rd w1 (w.heap.size+1+1) s (if oneA (tx s) [84,116] 0=true then 1 else 0)/\(if oneA (tx s) [84,116] 0=true then 1 else 0)<=s.size:=by
  rcases hcase with ⟨h1,c,_,_,he,hr,hk⟩|⟨h1,he,hr⟩
  ·rw [h1];exact ⟨c,he,hr,hk⟩
  ·rw [h1];exact ⟨0,he,hr,Nat.zero_le _⟩
 obtain ⟨c,rfl,hr1,hk1⟩:=hst
 obtain ⟨i0,hi0⟩:∃ i,(if oneA (tx s) [84,116] 0=true then 1 else 0)=i:=⟨_,rfl⟩
 rw [hi0] at HR hr1 hk1
 have bX:=hg.blk HB.out.1 (by show w.heap.size≠w.heap.size+1+1;omega)
 have bE:=hg.blk HB.out.2.1 (by show w.heap.size+1≠w.heap.size+1+1;omega)
 have hb1:=HB.out.2.2.trans ((hg.bel (B:=w.heap.size) (by have:=HB.out.2.2.size;omega) (fun k hk=>by omega)))
 have H1:=hid (And.intro bX (And.intro bE hb1));have HT:=hid (time_any (w.heap.size+1+1) s i0 w1 hr1 hk1 hs);clear HO hcase hg hr1 hk1 hi0 bX bE hb1 HB
 go_wp2_with fail
 go_at_call 18
 refine HT.out.mono ?_
 rintro e w2 hr
 rcases hr.cases with ⟨hm,rfl,hg⟩|⟨v,k2,hm,rfl,hrd,hk2,hg⟩
 ·have hR:=HR.out
  rw [hm] at hR;have hR:none=R:=hR;subst hR
  have bX:=hg.blk H1.out.1 (by show w.heap.size≠w.heap.size+1+1;omega)
  have bE:=hg.blk H1.out.2.1 (by show w.heap.size+1≠w.heap.size+1+1;omega)
  have hb2:=H1.out.2.2.trans ((hg.bel (B:=w.heap.size) (by have:=H1.out.2.2.size;omega) (fun k hk=>by omega)))
  clear HR HT hm hr hg H1
  refine leaves_cons (f:=15) (args:=#[.pointer (some ⟨w.heap.size+1,0,none⟩),.func (.func 16) #[] #[.pointer (some ⟨w.heap.size,0,none⟩)]]) (by simp) (by simp [go_sem]) ?_
  refine (catch_clock (w.heap.size+1) _ 6 [] w2 _ bE _ (clear_clock w.heap.size _ _ _ _ _ (bX.far (p:=⟨w.heap.size+1,0,none⟩) (by show w.heap.size≠w.heap.size+1;omega) _))).mono ?_
  rintro e u' w'' ⟨rfl,rfl,bX2,kp2⟩
  have bE2:=kp2.blk (bE.set_ 0 (.int .i64 6)) (by show w.heap.size+1≠w.heap.size;omega)
  exact ⟨_,clock_results bX2 bE2 _ rfl rfl,rfl,(hb2.setCell (by simp) _).trans (kp2.bel (by have:=hb2.size;simp;omega) (fun k hk=>by omega))⟩
 ·have hR:=HR.out
  rw [hm] at hR;simp only [Option.bind_some] at hR
  have bX:=hg.blk H1.out.1 (by show w.heap.size≠w.heap.size+1+1;omega)
  have bE:=hg.blk H1.out.2.1 (by show w.heap.size+1≠w.heap.size+1+1;omega)
  have hb2:=H1.out.2.2.trans ((hg.bel (B:=w.heap.size) (by have:=H1.out.2.2.size;omega) (fun k hk=>by omega)))
  have HR2:=hid hR;have H2:=hid (And.intro bX (And.intro bE (And.intro hb2 hrd)));have cB:=bX.cell;have fB:=bX.frozen;have cE:=bE.cell;have fE:=bE.frozen;clear HR HT hm hr hg H1 bX bE hb2 hrd hR
  go_wp2_with fail
  obtain ⟨bX,bE,hb2,hrd⟩:=H2.out;have bX3:=set4 (x0:= .int .i64 v.h) (x1:= .int .i64 v.m) (x2:= .int .i64 v.s) (x3:= .int .i64 v.ns) bX
  have bE3:=far4 (x0:= .int .i64 v.h) (x1:= .int .i64 v.m) (x2:= .int .i64 v.s) (x3:= .int .i64 v.ns) bE (b:=w.heap.size) (by omega)
  have hr3:Rd _ _ s k2:=far4 (x0:= .int .i64 v.h) (x1:= .int .i64 v.m) (x2:= .int .i64 v.s) (x3:= .int .i64 v.ns) hrd (b:=w.heap.size) (by omega)
  have hb3:Below w.heap.size w ((((w2.setCell ⟨w.heap.size,0,none⟩ (.int .i64 v.h)).setCell ⟨w.heap.size,1,none⟩ (.int .i64 v.m)).setCell ⟨w.heap.size,2,none⟩ (.int .i64 v.s)).setCell ⟨w.heap.size,3,none⟩ (.int .i64 v.ns)):=
   ((((hb2.setCell (Nat.le_refl _) _).setCell (Nat.le_refl _) _).setCell (Nat.le_refl _) _).setCell (Nat.le_refl _) _)
  clear cB fB cE fE H2 bX bE hb2 hrd;generalize World.setCell _ ⟨w.heap.size,3,none⟩ _=W3 at*;have HW:=hid (whole_any _ s k2 W3 hr3)
  go_at_call 19
  refine HW.out.mono ?_
  rintro e w4 ⟨he,q,rfl⟩;have bX4:=bX3.drewN q;have bE4:=bE3.drewN q;have hb4:Below w.heap.size w (W3.drewN q):=below_drwN hb3 q;generalize W3.drewN q=W4 at*
  by_cases hk:k2<s.size
  ·rw [if_pos hk] at he
   subst he;have hR:=HR2.out;rw [if_pos hk] at hR;subst hR;clear HR2 bX3 bE3 hb3 hr3 HW
   refine leaves_cons (f:=15) (args:=#[.pointer (some ⟨w.heap.size+1,0,none⟩),.func (.func 16) #[] #[.pointer (some ⟨w.heap.size,0,none⟩)]]) (by simp) (by simp [go_sem]) ?_
   refine (catch_clock (w.heap.size+1) _ 6 [] W4 _ bE4 _ (clear_clock w.heap.size _ _ _ _ _ (bX4.far (p:=⟨w.heap.size+1,0,none⟩) (by show w.heap.size≠w.heap.size+1;omega) _))).mono ?_
   rintro e u' w'' ⟨rfl,rfl,bX2,kp2⟩
   have bE2:=kp2.blk (bE4.set_ 0 (.int .i64 6)) (by show w.heap.size+1≠w.heap.size;omega)
   exact ⟨_,clock_results bX2 bE2 _ rfl rfl,rfl,(hb4.setCell (by simp) _).trans (kp2.bel (by have:=hb4.size;simp;omega) (fun k hk=>by omega))⟩
  ·rw [if_neg hk] at he
   subst he;have hR:=HR2.out;rw [if_neg hk] at hR;have H4:=hid (And.intro hR (And.intro bX4 (And.intro bE4 hb4)));have cB:=bX4.cell;have fB:=bX4.frozen;have cE:=bE4.cell;have fE:=bE4.frozen;clear HR2 bX3 bE3 hb3 hr3 HW hR bX4 bE4 hb4;go_wp2;obtain ⟨hR,bX,bE,hb⟩:=H4.out;subst hR
   have bF:=(set4 (x0:= .int .i64 v.h) (x1:= .int .i64 v.m) (x2:= .int .i64 v.s) (x3:= .int .i64 v.ns) bX).far (p:=⟨w.heap.size+1,0,none⟩) (by show w.heap.size≠w.heap.size+1;omega) (.int .i64 0)
   have eF:=(far4 (x0:= .int .i64 v.h) (x1:= .int .i64 v.m) (x2:= .int .i64 v.s) (x3:= .int .i64 v.ns) bE (b:=w.heap.size) (by omega)).set_ 0 (.int .i64 0)
   have hF:=((((hb.setCell (p:=⟨w.heap.size,0,none⟩) (Nat.le_refl _) (.int .i64 v.h)).setCell (p:=⟨w.heap.size,1,none⟩) (Nat.le_refl _) (.int .i64 v.m)).setCell (p:=⟨w.heap.size,2,none⟩) (Nat.le_refl _) (.int .i64 v.s)).setCell (p:=⟨w.heap.size,3,none⟩) (Nat.le_refl _) (.int .i64 v.ns)).setCell (p:=⟨w.heap.size+1,0,none⟩) (by show w.heap.size<=w.heap.size+1;omega) (.int .i64 0)
   clear cB fB cE fE H4 bX bE hb;generalize World.setCell _ ⟨w.heap.size+1,0,none⟩ _=WF at*
   refine leaves_cons (f:=15) (args:=#[.pointer (some ⟨w.heap.size+1,0,none⟩),.func (.func 16) #[] #[.pointer (some ⟨w.heap.size,0,none⟩)]]) (by simp) (by simp [go_sem]) ?_
   refine (catch_idle (w.heap.size+1) 16 _ _).mono ?_
   rintro e u' w'' ⟨rfl,rfl,rfl⟩;exact ⟨_,clock_results bF eF _ rfl rfl,rfl,hF⟩
end Gr
end
end Go.Proofs.YtiiekaehbahenaaGreatDoor
