/-
  Contracts of the code that the law reaches, and plain laws. Conditions: as each says.
-/
import Derived.Test.YtiiekaehbahenaaGreatDoorV11
set_option linter.all false
set_option maxHeartbeats 40000000
set_option maxRecDepth 100000
namespace Go.Proofs.YtiiekaehbahenaaGreatDoor
open Lib (hid)
open Tryz
section
namespace Gr
open Go.RowKit Mem Atl
theorem zz_list:(⟨#[90,122]⟩:ByteArray).data.toList=[90,122]:=rfl
def OP (g gp:Nat) (s:ByteArray) (a0 a1 a2 a3 a4 a5 a6 a7 a10:Value) (w:World) (r:Option ((Nat×Int)×Nat)) (e:Ending) (w':World):Prop:=
 Kp (fun b=>b=g\/b=gp) w w'/\match r with
  |some ((kind,off),k)=>e= .returned (.tuple #[])/\Rd w' g s k/\k<=s.size/\Blk w' gp 40 #[a0,a1,a2,a3,a4,a5,a6,a7,.int .i64 kind,.int .i64 off,a10]
  |none=>e=badE/\Blk w' gp 40 #[a0,a1,a2,a3,a4,a5,a6,a7,.int .i64 0,.int .i64 0,a10]
theorem kp_or {g gp:Nat} {w W:World} (h:Kp (·=g) w W):Kp (fun b=>b=g\/b=gp) w W:=h.mono fun _ e=> .inl e
theorem offset_any (g gp:Nat) (s:ByteArray) (k:Nat) (w:World) (h:Rd w g s k) (hk0:k<=s.size) (hs:s.size<=2097152) (hne:gp≠g) (a0 a1 a2 a3 a4 a5 a6 a7 a10:Value)
  (hp:Blk w gp 40 #[a0,a1,a2,a3,a4,a5,a6,a7,.int .i64 0,.int .i64 0,a10]):
  Calls prog 41 #[.pointer (some ⟨g,0,none⟩),.pointer (some ⟨gp,0,none⟩)] w (OP g gp s a0 a1 a2 a3 a4 a5 a6 a7 a10 w (offA (tx s) k)):=by
 obtain ⟨R,hR⟩:∃ R,offA (tx s) k=R:=⟨_,rfl⟩;rw [hR];unfold offA at hR;have HR:=hid hR
 have HO:=hid (one_any ⟨#[90,122]⟩ (by decide) g s k w h hk0 hs)
 rw [zz_list] at HO;have HP:=hid hp;clear hR h hp;go_enter func41,ntmps41
 go_wp2_with fail
 go_at_call 17
 refine HO.out.mono ?_
 rintro e w1 ⟨⟨ho,c,hc,hc0,rfl,hr,hk⟩|⟨ho,rfl,hr⟩,hg⟩
 ·have hR:=HR.out
  rw [if_pos ho] at hR;subst hR;have hp1:=hg.blk HP.out hne;have H1:=hid (And.intro hp1 (And.intro hr hg));have cB:=hp1.cell;have fB:=hp1.frozen;clear hc hr hg HO HP HR ho hp1;go_wp2
  refine bodyPost_ret (results_none rfl _ _ _) rfl ?_
  obtain ⟨hp1,hr,hg⟩:=H1.out
  exact ⟨(kp_or hg).set (p:=⟨gp,8,none⟩) (.inr rfl) _,rfl,Blk.far hr (by show g≠gp;omega) _,hk,by simpa using hp1.set_ 8 (.int .i64 1)⟩
 ·have hR:=HR.out
  rw [if_neg (by rw [ho];decide)] at hR
  have hp1:=hg.blk HP.out hne;have H1:=hid (And.intro hp1 hg);have HR2:=hid hR
  have HO2:=hid (one_any ⟨#[43,45]⟩ (by decide) g s k w1 hr hk0 hs)
  rw [pm_list] at HO2;clear hr hg HO HP HR ho hp1 hR
  go_wp2_with fail
  go_at_call 17
  refine HO2.out.mono ?_
  rintro e w2 ⟨⟨ho,c,hc,hc0,rfl,hr,hk⟩|⟨ho,rfl,hr⟩,hg⟩
  rotate_left
  ·have hR:=HR2.out
   rw [if_neg (by rw [ho];decide)] at hR
   subst hR;have hp2:=hg.blk H1.out.1 hne;have H2:=hid (And.intro hp2 (And.intro hr (H1.out.2.trans hg)));clear hr hg HO2 H1 HR2 ho hp2;go_wp2
   refine bodyPost_ret (results_none rfl _ _ _) rfl ?_
   obtain ⟨hp1,hr,hg⟩:=H2.out;exact ⟨kp_or hg,rfl,hr,hk0,hp1⟩
  ·have hz:((c:Int) == 0)=false:=by rw [beq_eq_false_iff_ne];omega
   have hR:=HR2.out;rw [if_pos ho] at hR;have hp2:=hg.blk H1.out.1 hne;have H2:=hid (And.intro hp2 (H1.out.2.trans hg));have HR:=hid hR;have HC:=hid (clock_any 59 g s (k+1) w2 hr hk hs);have Hc:=hid hc;clear HO2 H1 HR2 hp2 hR hr hg hc
   go_wp2_with fail
   go_at_call 48
   refine HC.out.mono ?_
   rintro e w3 hr
   rcases hr.cases with ⟨hm,rfl,hg⟩|⟨x,k2,hm,rfl,hrd,hk2,hg⟩
   ·have hR:=HR.out
    rw [hm] at hR;have hR:none=R:=hR;subst hR;exact ⟨rfl,kp_or (H2.out.2.trans hg),rfl,hg.blk H2.out.1 hne⟩
   have hR:=HR.out;rw [hm] at hR;simp only [Option.bind_some] at hR;obtain ⟨x1,x2,x3,x4,x5⟩:=clk_bd hm;obtain ⟨h',m',s',n'⟩:=x;simp only at x1 x2 x3 x4 x5 hR;have hp3:=hg.blk H2.out.1 hne;have H3:=hid (And.intro hp3 (And.intro hrd (H2.out.2.trans hg)));have cB:=hp3.cell;have fB:=hp3.frozen;clear HR HC H2 hm hr hrd hg hp3
   rcases one_sign ho with ⟨o1,hby⟩|⟨o1,o2,hby⟩
   ·have o2:oneA (tx s) [45] k=false:=by
     rw [oneA] at o1 ⊢;rw [byA] at hby
     cases hl:(tx s)[k]? with
     |none=>rfl
     |some b=>
      rw [hl] at hby;have:b=43:=UInt8.toNat_inj.1 hby;rw [this]
      decide
    rw [o2] at hR;have hc:=Hc.out;rw [hby] at hc;subst hc;have HR:=hid hR;clear hR ho o1 o2 hby hz hc0 Hc;go_wp2
    go_end0
    obtain ⟨hp1,hr,hg⟩:=H3.out;have hR:=HR.out;subst hR
    refine ⟨((kp_or hg).set (p:=⟨gp,8,none⟩) (.inr rfl) _).set (p:=⟨gp,9,none⟩) (.inr rfl) _,rfl,Blk.far (Blk.far hr (by show g≠gp;omega) _) (by show g≠gp;omega) _,hk2,?_⟩
    have:=(hp1.set_ 8 (.int .i64 2)).set_ 9 (.int .i64 ((h':Int)*3600+m'*60+s'))
    simpa using this
   ·rw [o2] at hR
    have hc:=Hc.out;rw [hby] at hc;subst hc;have HR:=hid hR;clear hR ho o1 o2 hby hz hc0 Hc
    have hneg:wrap64 (-((h':Int)*3600+m'*60+s'))= -((h':Int)*3600+m'*60+s'):=by unfold wrap64;omega
    go_wp2
    go_end0
    obtain ⟨hp1,hr,hg⟩:=H3.out;have hR:=HR.out;subst hR
    refine ⟨(((kp_or hg).set (p:=⟨gp,8,none⟩) (.inr rfl) _).set (p:=⟨gp,9,none⟩) (.inr rfl) _).set (p:=⟨gp,9,none⟩) (.inr rfl) _,rfl,Blk.far (Blk.far (Blk.far hr (by show g≠gp;omega) _) (by show g≠gp;omega) _) (by show g≠gp;omega) _,hk2,?_⟩
    have:=((hp1.set_ 8 (.int .i64 2)).set_ 9 (.int .i64 ((h':Int)*3600+m'*60+s'))).set_ 9 (.int .i64 (-((h':Int)*3600+m'*60+s')))
    simpa using this
end Gr
end
end Go.Proofs.YtiiekaehbahenaaGreatDoor
