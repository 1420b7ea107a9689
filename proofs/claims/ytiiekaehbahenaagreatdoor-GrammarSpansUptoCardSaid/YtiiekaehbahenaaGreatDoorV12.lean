/-
  Contracts of the code that the law reaches, and plain laws. Conditions: as each says.
-/
import Derived.Test.YtiiekaehbahenaaGreatDoorV11
set_option linter.all false
set_option maxHeartbeats 40000000
set_option maxRecDepth 100000
namespace Go.Proofs.YtiiekaehbahenaaGreatDoor
open Lib (hid)
open Tryz
section
section
namespace Gr
open Go.RowKit Mem Atl
theorem zz_list:(⟨#[90,122]⟩:ByteArray).data.toList=[90,122]:=rfl
def OP (g gp:Nat) (s:ByteArray) (a0 a1 a2 a3 a4 a5 a6 a7 a10:Value) (w:World) (r:Option ((Nat×Int)×Nat)) (e:Ending) (w':World):Prop:=
 Kp (fun b=>b=g\/b=gp) w w'/\match r with
  |some ((kind,off),k)=>e= .returned (.tuple #[])/\Rd w' g s k/\k<=s.size/\Blk w' gp 40 #[a0,a1,a2,a3,a4,a5,a6,a7,.int .i64 kind,.int .i64 off,a10]
  |none=>e=badE/\Blk w' gp 40 #[a0,a1,a2,a3,a4,a5,a6,a7,.int .i64 0,.int .i64 0,a10]
theorem kp_or {g gp:Nat} {w W:World} (h:Kp (·=g) w W):Kp (fun b=>b=g\/b=gp) w W:=h.mono fun _ e=> .inl e
theorem offset_any (g gp:Nat) (s:ByteArray) (k:Nat) (w:World) (h:Rd w g s k) (hk0:k<=s.size) (hs:s.size<=2097152) (hne:gp≠g) (a0 a1 a2 a3 a4 a5 a6 a7 a10:Value)
  (hp:Blk w gp 40 #[a0,a1,a2,a3,a4,a5,a6,a7,.int .i64 0,.int .i64 0,a10]):
  Calls prog 41 #[.pointer (some ⟨g,0,none⟩),.pointer (some ⟨gp,0,none⟩)] w (OP g gp s a0 a1 a2 a3 a4 a5 a6 a7 a10 w (offA (tx s) k)):=by
 obtain ⟨R,hR⟩:∃ R,offA (tx s) k=R:=⟨_,rfl⟩;rw [hR];unfold offA at hR;have HR:=hid hR
 have HO:=hid (one_any ⟨#[90,122]⟩ (by decide) g s k w h hk0 hs)
 rw [zz_list] at HO;have HP:=hid hp;clear hR h hp;go_enter func41,ntmps41
 go_wp2_with fail
 go_at_call 17
 refine HO.out.mono ?_
 rintro e w1 ⟨⟨ho,c,hc,hc0,rfl,hr,hk⟩|⟨ho,rfl,hr⟩,hg⟩
 ·have hR:=HR.out
  rw [if_pos ho] at hR;subst hR;have hp1:=hg.blk HP.out hne;have H1:=hid (And.intro hp1 (And.intro hr hg));have cB:=hp1.cell;have fB:=hp1.frozen;clear hc hr hg HO HP HR ho hp1;go_wp2
  refine bodyPost_ret (results_none rfl _ _ _) rfl ?_
  obtain ⟨hp1,hr,hg⟩:=H1.out
  exact ⟨(kp_or hg).set (p:=⟨gp,8,none⟩) (.inr rfl) _,rfl,Blk.far hr (by show g≠gp;omega) _,hk,by simpa using hp1.set_ 8 (.int .i64 1)⟩
 ·have hR:=HR.out
  rw [if_neg (by rw [ho];decide)] at hR
  have hp1:=hg.blk HP.out hne;have H1:=hid (And.intro hp1 hg);have HR2:=hid hR
  have HO2:=hid (one_any ⟨#[43,45]⟩ (by decide) g s k w1 hr hk0 hs)
  rw [pm_list] at HO2;clear hr hg HO HP HR ho hp1 hR
  go_wp2_with fail
  go_at_call 17
  refine HO2.out.mono ?_
  rintro e w2 ⟨⟨ho,c,hc,hc0,rfl,hr,hk⟩|⟨ho,rfl,hr⟩,hg⟩
  rotate_left
  ·have hR:=HR2.out
   rw [if_neg (by rw [ho];decide)] at hR
   subst hR;have hp2:=hg.blk H1.out.1 hne;have H2:=hid (And.intro hp2 (And.intro hr (H1.out.2.trans hg)));clear hr hg HO2 H1 HR2 ho hp2;go_wp2
   refine bodyPost_ret (results_none rfl _ _ _) rfl ?_
   obtain ⟨hp1,hr,hg⟩:=H2.out;exact ⟨kp_or hg,rfl,hr,hk0,hp1⟩
  ·have hz:((c:Int) == 0)=false:=by rw [beq_eq_false_iff_ne];omega
   have hR:=HR2.out;rw [if_pos ho] at hR;have hp2:=hg.blk H1.out.1 hne;have H2:=hid (And.intro hp2 (H1.out.2.trans hg));have HR:=hid hR;have HC:=hid (clock_any 59 g s (k+1) w2 hr hk hs);have Hc:=hid hc;clear HO2 H1 HR2 hp2 hR hr hg hc
   go_wp2_with fail
   go_at_call 48
   refine HC.out.mono ?_
   rintro e w3 hr
   rcases hr.cases with ⟨hm,rfl,hg⟩|⟨x,k2,hm,rfl,hrd,hk2,hg⟩
   ·have hR:=HR.out
    rw [hm] at hR;have hR:none=R:=hR;subst hR;exact ⟨rfl,kp_or (H2.out.2.trans hg),rfl,hg.blk H2.out.1 hne⟩
   have hR:=HR.out;rw [hm] at hR;simp only [Option.bind_some] at hR;obtain ⟨x1,x2,x3,x4,x5⟩:=clk_bd hm;obtain ⟨h',m',s',n'⟩:=x;simp only at x1 x2 x3 x4 x5 hR;have hp3:=hg.blk H2.out.1 hne;have H3:=hid (And.intro hp3 (And.intro hrd (H2.out.2.trans hg)));have cB:=hp3.cell;have fB:=hp3.frozen;clear HR HC H2 hm hr hrd hg hp3
   rcases one_sign ho with ⟨o1,hby⟩|⟨o1,o2,hby⟩
   ·have o2:oneA (tx s) [45] k=false:=by
     rw [oneA] at o1 ⊢;rw [byA] at hby
     cases hl:(tx s)[k]? with
     |none=>rfl
     |some b=>
      rw [hl] at hby;have:b=43:=UInt8.toNat_inj.1 hby;rw [this]
      decide
    rw [o2] at hR;have hc:=Hc.out;rw [hby] at hc;subst hc;have HR:=hid hR;clear hR ho o1 o2 hby hz hc0 Hc;go_wp2
    go_end0
    obtain ⟨hp1,hr,hg⟩:=H3.out;have hR:=HR.out;subst hR
    refine ⟨((kp_or hg).set (p:=⟨gp,8,none⟩) (.inr rfl) _).set (p:=⟨gp,9,none⟩) (.inr rfl) _,rfl,Blk.far (Blk.far hr (by show g≠gp;omega) _) (by show g≠gp;omega) _,hk2,?_⟩
    have:=(hp1.set_ 8 (.int .i64 2)).set_ 9 (.int .i64 ((h':Int)*3600+m'*60+s'))
    simpa using this
   ·rw [o2] at hR
    have hc:=Hc.out;rw [hby] at hc;subst hc;have HR:=hid hR;clear hR ho o1 o2 hby hz hc0 Hc
    have hneg:wrap64 (-((h':Int)*3600+m'*60+s'))= -((h':Int)*3600+m'*60+s'):=by unfold wrap64;omega
    go_wp2
    go_end0
    obtain ⟨hp1,hr,hg⟩:=H3.out;have hR:=HR.out;subst hR
    refine ⟨(((kp_or hg).set (p:=⟨gp,8,none⟩) (.inr rfl) _).set (p:=⟨gp,9,none⟩) (.inr rfl) _).set (p:=⟨gp,9,none⟩) (.inr rfl) _,rfl,Blk.far (Blk.far (Blk.far hr (by show g≠gp;omega) _) (by show g≠gp;omega) _) (by show g≠gp;omega) _,hk2,?_⟩
    have:=((hp1.set_ 8 (.int .i64 2)).set_ 9 (.int .i64 ((h':Int)*3600+m'*60+s'))).set_ 9 (.int .i64 (-((h':Int)*3600+m'*60+s')))
    simpa using this
end Gr
end
end
section
section
namespace Gr
open Go.RowKit Mem Atl
theorem wpS_of_wp' {P:Program} {c:Code} {Q:Exit->Act->List Frame->World->Prop} {a:Act} {cs:List Frame} {w:World} (h:∀ Q':Exit->Act->World->Prop,(∀ e a' w',Q e a' cs w'->Q' e a' w')->c.wp P Q' a w):c.wpS P Q a cs w:=
 wpS_of_wp (h _ fun _ _ _ h=>h)
theorem assert_nil (w:World):(Instr.typeAssert .nilIface 20 24 true).run prog w= .ok (.tuple #[.int .i64 0,.bool false]) w:=by kernel_rfl
theorem assert_some (n:Int) (w:World):(Instr.typeAssert (.iface 24 (.int .i64 n)) 20 24 true).run prog w= .ok (.tuple #[.int .i64 n,.bool true]) w:=by kernel_rfl
theorem catch_idle (E:Nat) (F:Nat) (X:Value) (w:World):
  CallsD prog 15 #[.pointer (some ⟨E,0,none⟩),.func (.func F) #[] #[X]] .returning w fun e u' w'=>e= .returned (.tuple #[])/\u'= .returning/\w'=w:=by
 refine callsD_of_wpS func15 rfl fun c₀ cs hu=>?_
 have Hu:=hid hu
 apply wpS_seq
 apply wpS_region
 simp [wpOpsS,go_sem,assert_nil,recoverD,hu,ntmps15,Exit.thenS];clear hu;simp only [Array.replicate,List.replicate,List.setIfInBounds_toArray,List.set_cons_succ,List.set_cons_zero,List.append_toArray,List.cons_append,List.nil_append]
 refine wpS_of_wp' fun Q' hQ=>?_
 have HQ:=hid hQ;clear hQ;go_wp2
 refine HQ.out _ _ _ ?_
 have hu:=Hu.out;simp [bodyPostS,results,Tryz.results15]
 cases c₀
 simp only at hu;subst hu
 rfl
theorem catch_clock (E:Nat) (X:Value) (n:Int) (older:List PanicEntry) (w:World) (ce:Value) (hE:Blk w E 24 #[ce]) (Post:World->Prop)
  (hF:Calls prog 16 #[X] (w.setCell ⟨E,0,none⟩ (.int .i64 n)) fun e w'=>e= .returned (.tuple #[])/\Post w'):
  CallsD prog 15 #[.pointer (some ⟨E,0,none⟩),.func (.func 16) #[] #[X]] (.panicking ({ v:= .iface 24 (.int .i64 n),recovered:=false } :: older)) w fun e u' w'=>e= .returned (.tuple #[])/\u'= .panicking ({ v:= .iface 24 (.int .i64 n),recovered:=true } :: older)/\Post w':=by
 have cE:=hE.cell 0;have fE:=hE.frozen 0;have HF:=hid hF;clear hE hF
 refine callsD_of_wpS func15 rfl fun c₀ cs hu=>?_
 have Hu:=hid hu
 apply wpS_seq
 apply wpS_region
 simp [wpOpsS,go_sem,assert_some,recoverD,hu,ntmps15,Exit.thenS];clear hu;simp only [Array.replicate,List.replicate,List.setIfInBounds_toArray,List.set_cons_succ,List.set_cons_zero,List.append_toArray,List.cons_append,List.nil_append]
 refine wpS_of_wp' fun Q' hQ=>?_
 have HQ:=hid hQ;clear hQ
 go_wp2_with (go_at_call 16;refine HF.out.mono ?_;rintro e w1 ⟨rfl,hp⟩;have HP:=hid hp;clear hp)
 refine HQ.out _ _ _ ?_
 have hp:=HP.out;simp [bodyPostS,results,Tryz.results15,hp]
theorem catch_parse (E:Nat) (X:Value) (n:Int) (older:List PanicEntry) (w:World) (ce:Value) (hE:Blk w E 24 #[ce]) (Post:World->Prop)
  (hF:Calls prog 39 #[X] (w.setCell ⟨E,0,none⟩ (.int .i64 n)) fun e w'=>e= .returned (.tuple #[])/\Post w'):
  CallsD prog 15 #[.pointer (some ⟨E,0,none⟩),.func (.func 39) #[] #[X]] (.panicking ({ v:= .iface 24 (.int .i64 n),recovered:=false } :: older)) w fun e u' w'=>e= .returned (.tuple #[])/\u'= .panicking ({ v:= .iface 24 (.int .i64 n),recovered:=true } :: older)/\Post w':=by
 have cE:=hE.cell 0;have fE:=hE.frozen 0;have HF:=hid hF;clear hE hF
 refine callsD_of_wpS func15 rfl fun c₀ cs hu=>?_
 have Hu:=hid hu
 apply wpS_seq
 apply wpS_region
 simp [wpOpsS,go_sem,assert_some,recoverD,hu,ntmps15,Exit.thenS];clear hu;simp only [Array.replicate,List.replicate,List.setIfInBounds_toArray,List.set_cons_succ,List.set_cons_zero,List.append_toArray,List.cons_append,List.nil_append]
 refine wpS_of_wp' fun Q' hQ=>?_
 have HQ:=hid hQ;clear hQ
 go_wp2_with (go_at_call 39;refine HF.out.mono ?_;rintro e w1 ⟨rfl,hp⟩;have HP:=hid hp;clear hp)
 refine HQ.out _ _ _ ?_
 have hp:=HP.out;simp [bodyPostS,results,Tryz.results15,hp]
theorem catch_span (E:Nat) (X:Value) (n:Int) (older:List PanicEntry) (w:World) (ce:Value) (hE:Blk w E 24 #[ce]) (Post:World->Prop)
  (hF:Calls prog 22 #[X] (w.setCell ⟨E,0,none⟩ (.int .i64 n)) fun e w'=>e= .returned (.tuple #[])/\Post w'):
  CallsD prog 15 #[.pointer (some ⟨E,0,none⟩),.func (.func 22) #[] #[X]] (.panicking ({ v:= .iface 24 (.int .i64 n),recovered:=false } :: older)) w fun e u' w'=>e= .returned (.tuple #[])/\u'= .panicking ({ v:= .iface 24 (.int .i64 n),recovered:=true } :: older)/\Post w':=by
 have cE:=hE.cell 0;have fE:=hE.frozen 0;have HF:=hid hF;clear hE hF
 refine callsD_of_wpS func15 rfl fun c₀ cs hu=>?_
 have Hu:=hid hu
 apply wpS_seq
 apply wpS_region
 simp [wpOpsS,go_sem,assert_some,recoverD,hu,ntmps15,Exit.thenS];clear hu;simp only [Array.replicate,List.replicate,List.setIfInBounds_toArray,List.set_cons_succ,List.set_cons_zero,List.append_toArray,List.cons_append,List.nil_append]
 refine wpS_of_wp' fun Q' hQ=>?_
 have HQ:=hid hQ;clear hQ
 go_wp2_with (go_at_call 22;refine HF.out.mono ?_;rintro e w1 ⟨rfl,hp⟩;have HP:=hid hp;clear hp)
 refine HQ.out _ _ _ ?_
 have hp:=HP.out;simp [bodyPostS,results,Tryz.results15,hp]
theorem clear_clock (X:Nat) (w:World) (a0 a1 a2 a3:Value) (h:Blk w X 23 #[a0,a1,a2,a3]):
  Calls prog 16 #[.pointer (some ⟨X,0,none⟩)] w fun e w'=>e= .returned (.tuple #[])/\Blk w' X 23 #[.int .i64 0,.int .i64 0,.int .i64 0,.int .i64 0]/\Kp (·=X) w w':=by
 go_enter func16,ntmps16;have cB:=h.cell;have fB:=h.frozen;have H:=hid h;clear h;go_wp2
 go_end0
 exact ⟨rfl,set4 H.out,(((Kp.refl (·=X) w).set (p:=⟨X,0,none⟩) rfl _).set (p:=⟨X,1,none⟩) rfl _).set (p:=⟨X,2,none⟩) rfl _ |>.set (p:=⟨X,3,none⟩) rfl _⟩
def clockV (r:Option TimT):Value:=match r with
 |some v=> .tuple #[timV v,.int .i64 0]
 |none=> .tuple #[timV ⟨0,0,0,0⟩,.int .i64 6]
theorem clock_results {w:World} {X E:Nat} {a0 a1 a2 a3:Value} {n:Int} (h:Blk w X 23 #[a0,a1,a2,a3]) (h':Blk w E 24 #[.int .i64 n]) (tmps:Array Value) (h2:tmps[2]?=some (.pointer (some ⟨X,0,none⟩))) (h3:tmps[3]?=some (.pointer (some ⟨E,0,none⟩))):
  (results Tryz.f8 tmps).run prog w= .ok (.tuple #[.agg #[a0,a1,a2,a3],.int .i64 n]) w:=by
 have hc:=h.cell;have hc':=h'.cell;simp [results,Tryz.results8,go_sem,hc,hc',h2,h3]
theorem below_drwN {B:Nat} {a w:World} (h:Below B a w) (n:Nat):Below B a (w.drewN n):=⟨h.os,h.tape,h.output,h.size,h.block⟩
theorem tt_list:(⟨#[84,116]⟩:ByteArray).data.toList=[84,116]:=rfl
theorem clock_text (s:ByteArray) (w:World) (hs:s.size<=2097152):
  Calls prog 8 #[.string s] w fun e w'=>e= .returned (clockV (clockA (tx s)))/\Below w.heap.size w w':=by
 have hmf:∀ (fn:Fn) (first cap:Array Value) (w:World),(Instr.makeFunc fn first cap).run prog w= .ok (.func fn first cap) w:=fun _ _ _ _=>rfl
 have hb:=box3 w 23 24 51 #[.int .i64 0,.int .i64 0,.int .i64 0,.int .i64 0] #[.int .i64 0] #[.string s,.int .i64 0];obtain ⟨R,hR⟩:∃ R,clockA (tx s)=R:=⟨_,rfl⟩;rw [hR];unfold clockA at hR;rw [tx_len] at hR;have HR:=hid hR;clear hR
 go_enter_defers func8,ntmps8
 go_wp2_with fail
 generalize ((w.alloc (.cells #[.int .i64 0,.int .i64 0,.int .i64 0,.int .i64 0] 23)).alloc (.cells #[.int .i64 0] 24)).alloc (.cells #[.string s,.int .i64 0] 51)=W at*;obtain ⟨bX,bE,bR,hbw,hz⟩:=hb
 have HO:=hid (one_any ⟨#[84,116]⟩ (by decide) (w.heap.size+1+1) s 0 W bR (Nat.zero_le _) hs)
 rw [tt_list] at HO;have HB:=hid (And.intro bX (And.intro bE hbw));clear bX bE bR hbw
 go_at_call 17
 refine HO.out.mono ?_
 rintro e w1 ⟨hcase,hg⟩
 have hst:∃ c:Int,e= .returned (.int .u8 c)/\Rd w1 (w.heap.size+1+1) s (if oneA (tx s) [84,116] 0=true then 1 else 0)/\(if oneA (tx s) [84,116] 0=true then 1 else 0)<=s.size:=by
  rcases hcase with ⟨h1,c,_,_,he,hr,hk⟩|⟨h1,he,hr⟩
  ·rw [h1];exact ⟨c,he,hr,hk⟩
  ·rw [h1];exact ⟨0,he,hr,Nat.zero_le _⟩
 obtain ⟨c,rfl,hr1,hk1⟩:=hst
 obtain ⟨i0,hi0⟩:∃ i,(if oneA (tx s) [84,116] 0=true then 1 else 0)=i:=⟨_,rfl⟩
 rw [hi0] at HR hr1 hk1
 have bX:=hg.blk HB.out.1 (by show w.heap.size≠w.heap.size+1+1;omega)
 have bE:=hg.blk HB.out.2.1 (by show w.heap.size+1≠w.heap.size+1+1;omega)
 have hb1:=HB.out.2.2.trans ((hg.bel (B:=w.heap.size) (by have:=HB.out.2.2.size;omega) (fun k hk=>by omega)))
 have H1:=hid (And.intro bX (And.intro bE hb1));have HT:=hid (time_any (w.heap.size+1+1) s i0 w1 hr1 hk1 hs);clear HO hcase hg hr1 hk1 hi0 bX bE hb1 HB
 go_wp2_with fail
 go_at_call 18
 refine HT.out.mono ?_
 rintro e w2 hr
 rcases hr.cases with ⟨hm,rfl,hg⟩|⟨v,k2,hm,rfl,hrd,hk2,hg⟩
 ·have hR:=HR.out
  rw [hm] at hR;have hR:none=R:=hR;subst hR
  have bX:=hg.blk H1.out.1 (by show w.heap.size≠w.heap.size+1+1;omega)
  have bE:=hg.blk H1.out.2.1 (by show w.heap.size+1≠w.heap.size+1+1;omega)
  have hb2:=H1.out.2.2.trans ((hg.bel (B:=w.heap.size) (by have:=H1.out.2.2.size;omega) (fun k hk=>by omega)))
  clear HR HT hm hr hg H1
  refine leaves_cons (f:=15) (args:=#[.pointer (some ⟨w.heap.size+1,0,none⟩),.func (.func 16) #[] #[.pointer (some ⟨w.heap.size,0,none⟩)]]) (by simp) (by simp [go_sem]) ?_
  refine (catch_clock (w.heap.size+1) _ 6 [] w2 _ bE _ (clear_clock w.heap.size _ _ _ _ _ (bX.far (p:=⟨w.heap.size+1,0,none⟩) (by show w.heap.size≠w.heap.size+1;omega) _))).mono ?_
  rintro e u' w'' ⟨rfl,rfl,bX2,kp2⟩
  have bE2:=kp2.blk (bE.set_ 0 (.int .i64 6)) (by show w.heap.size+1≠w.heap.size;omega)
  exact ⟨_,clock_results bX2 bE2 _ rfl rfl,rfl,(hb2.setCell (by simp) _).trans (kp2.bel (by have:=hb2.size;simp;omega) (fun k hk=>by omega))⟩
 ·have hR:=HR.out
  rw [hm] at hR;simp only [Option.bind_some] at hR
  have bX:=hg.blk H1.out.1 (by show w.heap.size≠w.heap.size+1+1;omega)
  have bE:=hg.blk H1.out.2.1 (by show w.heap.size+1≠w.heap.size+1+1;omega)
  have hb2:=H1.out.2.2.trans ((hg.bel (B:=w.heap.size) (by have:=H1.out.2.2.size;omega) (fun k hk=>by omega)))
  have HR2:=hid hR;have H2:=hid (And.intro bX (And.intro bE (And.intro hb2 hrd)));have cB:=bX.cell;have fB:=bX.frozen;have cE:=bE.cell;have fE:=bE.frozen;clear HR HT hm hr hg H1 bX bE hb2 hrd hR
  go_wp2_with fail
  obtain ⟨bX,bE,hb2,hrd⟩:=H2.out;have bX3:=set4 (x0:= .int .i64 v.h) (x1:= .int .i64 v.m) (x2:= .int .i64 v.s) (x3:= .int .i64 v.ns) bX
  have bE3:=far4 (x0:= .int .i64 v.h) (x1:= .int .i64 v.m) (x2:= .int .i64 v.s) (x3:= .int .i64 v.ns) bE (b:=w.heap.size) (by omega)
  have hr3:Rd _ _ s k2:=far4 (x0:= .int .i64 v.h) (x1:= .int .i64 v.m) (x2:= .int .i64 v.s) (x3:= .int .i64 v.ns) hrd (b:=w.heap.size) (by omega)
  have hb3:Below w.heap.size w ((((w2.setCell ⟨w.heap.size,0,none⟩ (.int .i64 v.h)).setCell ⟨w.heap.size,1,none⟩ (.int .i64 v.m)).setCell ⟨w.heap.size,2,none⟩ (.int .i64 v.s)).setCell ⟨w.heap.size,3,none⟩ (.int .i64 v.ns)):=
   ((((hb2.setCell (Nat.le_refl _) _).setCell (Nat.le_refl _) _).setCell (Nat.le_refl _) _).setCell (Nat.le_refl _) _)
  clear cB fB cE fE H2 bX bE hb2 hrd;generalize World.setCell _ ⟨w.heap.size,3,none⟩ _=W3 at*;have HW:=hid (whole_any _ s k2 W3 hr3)
  go_at_call 19
  refine HW.out.mono ?_
  rintro e w4 ⟨he,q,rfl⟩;have bX4:=bX3.drewN q;have bE4:=bE3.drewN q;have hb4:Below w.heap.size w (W3.drewN q):=below_drwN hb3 q;generalize W3.drewN q=W4 at*
  by_cases hk:k2<s.size
  ·rw [if_pos hk] at he
   subst he;have hR:=HR2.out;rw [if_pos hk] at hR;subst hR;clear HR2 bX3 bE3 hb3 hr3 HW
   refine leaves_cons (f:=15) (args:=#[.pointer (some ⟨w.heap.size+1,0,none⟩),.func (.func 16) #[] #[.pointer (some ⟨w.heap.size,0,none⟩)]]) (by simp) (by simp [go_sem]) ?_
   refine (catch_clock (w.heap.size+1) _ 6 [] W4 _ bE4 _ (clear_clock w.heap.size _ _ _ _ _ (bX4.far (p:=⟨w.heap.size+1,0,none⟩) (by show w.heap.size≠w.heap.size+1;omega) _))).mono ?_
   rintro e u' w'' ⟨rfl,rfl,bX2,kp2⟩
   have bE2:=kp2.blk (bE4.set_ 0 (.int .i64 6)) (by show w.heap.size+1≠w.heap.size;omega)
   exact ⟨_,clock_results bX2 bE2 _ rfl rfl,rfl,(hb4.setCell (by simp) _).trans (kp2.bel (by have:=hb4.size;simp;omega) (fun k hk=>by omega))⟩
  ·rw [if_neg hk] at he
   subst he;have hR:=HR2.out;rw [if_neg hk] at hR;have H4:=hid (And.intro hR (And.intro bX4 (And.intro bE4 hb4)));have cB:=bX4.cell;have fB:=bX4.frozen;have cE:=bE4.cell;have fE:=bE4.frozen;clear HR2 bX3 bE3 hb3 hr3 HW hR bX4 bE4 hb4;go_wp2;obtain ⟨hR,bX,bE,hb⟩:=H4.out;subst hR
   have bF:=(set4 (x0:= .int .i64 v.h) (x1:= .int .i64 v.m) (x2:= .int .i64 v.s) (x3:= .int .i64 v.ns) bX).far (p:=⟨w.heap.size+1,0,none⟩) (by show w.heap.size≠w.heap.size+1;omega) (.int .i64 0)
   have eF:=(far4 (x0:= .int .i64 v.h) (x1:= .int .i64 v.m) (x2:= .int .i64 v.s) (x3:= .int .i64 v.ns) bE (b:=w.heap.size) (by omega)).set_ 0 (.int .i64 0)
   have hF:=((((hb.setCell (p:=⟨w.heap.size,0,none⟩) (Nat.le_refl _) (.int .i64 v.h)).setCell (p:=⟨w.heap.size,1,none⟩) (Nat.le_refl _) (.int .i64 v.m)).setCell (p:=⟨w.heap.size,2,none⟩) (Nat.le_refl _) (.int .i64 v.s)).setCell (p:=⟨w.heap.size,3,none⟩) (Nat.le_refl _) (.int .i64 v.ns)).setCell (p:=⟨w.heap.size+1,0,none⟩) (by show w.heap.size<=w.heap.size+1;omega) (.int .i64 0)
   clear cB fB cE fE H4 bX bE hb;generalize World.setCell _ ⟨w.heap.size+1,0,none⟩ _=WF at*
   refine leaves_cons (f:=15) (args:=#[.pointer (some ⟨w.heap.size+1,0,none⟩),.func (.func 16) #[] #[.pointer (some ⟨w.heap.size,0,none⟩)]]) (by simp) (by simp [go_sem]) ?_
   refine (catch_idle (w.heap.size+1) 16 _ _).mono ?_
   rintro e u' w'' ⟨rfl,rfl,rfl⟩;exact ⟨_,clock_results bF eF _ rfl rfl,rfl,hF⟩
end Gr
end
end
end Go.Proofs.YtiiekaehbahenaaGreatDoor
