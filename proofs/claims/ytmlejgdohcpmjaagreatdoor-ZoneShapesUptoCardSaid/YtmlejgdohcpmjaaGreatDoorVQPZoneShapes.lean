/-
  The given statement Rows.ZoneShapesUptoCardSaid: the law returns true for every argument; the card's tie is the given one. Conditions: the second form's bound, as the row says. The frame follows the seat's worked toy of a law over a package-level table; wip/frame.py wrote it.
-/
import Derived.Test.YtmlejgdohcpmjaaGreatDoorCards
import Derived.Test.YtmlejgdohcpmjaaGreatDoorTie
import Derived.Test.YtmlejgdohcpmjaaGreatDoorV41
import Derived.Test.YtmlejgdohcpmjaaGreatDoorV43
set_option linter.all false
set_option maxHeartbeats 40000000
set_option maxRecDepth 100000
namespace Go.Proofs.YtmlejgdohcpmjaaGreatDoor
open Go.Proofs.Tryz
section
namespace zoneShapes
open Go.ChangeShapes Go.WideShapes Go.ChangeAt Go.ChangeMaps Go.RowKit
theorem contract (H:Type) (enc:TypeId×Value->H) (W:World) (base:Nat) (args:Array Value) (ds gs:List (DataW H)) (before:List MemPlace)
  (hval:∀ (j:Nat) t v,Tryz.f4.params[j]?=some t->args[j]?=some v->Value.okWide prog W .any base t v)
  (hW:DataW.Whole enc prog Tryz.f4.params.toList Rows.zoneShapesSpec.vars false W args.toList ds gs before) (hsh:W.ShapedOpen prog) (hk:Rows.uptoSmall H (ds++gs)=true):
  Calls prog 4 args W fun e W'=>∃ v,e= .returned v/\Rows.zoneShapesSpec.post enc prog Tryz.f4 false true false false W args v W':=by
 have hW':=hW;have hlt:=fun p hp=>hW.lt p hp;obtain ⟨p,q,hA0,hV,rfl,hfz,hnd⟩:=hW;have hA:DataW.TrodAll enc prog W 0 (fun _=>true) true Tryz.f4.params.toList args.toList ds p:=hA0;rw [Tryz.params4] at hA hval;obtain ⟨v0,vs0,d0,ds0,p0,q0,hargs,rfl,rfl,h0,r0⟩:=trodAll_cons hA;obtain ⟨v1,vs1,d1,ds1,p1,q1,rfl,rfl,rfl,h1,r1⟩:=trodAll_cons r0;obtain ⟨rfl,rfl,rfl⟩:=trodAll_nil r1
 obtain rfl:args=#[v0,v1]:=by cases args;simp_all
 have hb:=of_decide_eq_true hk;simp only [Rows.uptoBulkAll,List.cons_append] at hb
 obtain ⟨x0,A0,B0,c0,e0,rfl,hok0,ht0,hs0⟩:=Opn.open_tableI (hval 0 27 v0 rfl rfl) h0 (fun q hq=>hlt q (by simp [hq])) (by omega)
 obtain ⟨n1,rfl,rfl,rfl,wn1⟩:=open_int underlying2 (hval 1 2 v1 rfl rfl) h1;obtain ⟨m,hm⟩:=Wit.maxLen_cell hsh;have hr:=Zon.shapes_law x0 A0 B0 c0 e0 n1 m W hok0 hm ht0 hs0 (Opn.in64_of wn1)
 refine hr.mono fun e W' ⟨he,hg⟩=>?_
 subst he
 exact ⟨_,rfl,Opn.post_true hW' rfl 8 (by kernel_rfl) (by cases gs with
  |nil=>rfl
  |cons a b=>exact absurd hV (by simp [DataW.TrodVars,Rows.zoneShapesSpec])) rfl underlying4 hg (okWide_bool_mk underlying4 _)⟩
def args0:Array Value:=#[Value.agg #[.string ⟨#[]⟩,.int .i64 0,.int .i64 0,.string ⟨#[]⟩,.slice none 0 0,.int .i64 0,.slice none 0 0,.int .i64 0,.string ⟨#[]⟩],.int .i64 0]
theorem reads (os:Os) {H:Type} (enc:TypeId×Value->H):∃ places,DataW.whole enc prog ((Wit.laidWorld os).forCall (fun _ _=>0) ⟨#[],args0,[]⟩).memory Tryz.f4.params.toList Rows.zoneShapesSpec.vars false args0.toList 8=
  some ([.agg [.lit (.string []),.agg [.lit (.int .i64 0),.lit (.int .i64 0),.lit (.string [])],.nil,.lit (.int .i64 0),.nil,.lit (.int .i64 0),.lit (.string [])],.lit (.int .i64 0)],[],places):=
 ⟨[],by kernel_rfl⟩
theorem lifted (os:Os) (started:os.Started) (H:Type) (enc:TypeId×Value->H) (F:Stop.Interp):
  ReturnsInHanded {} Tryz.checked os 4 .any ((Rows.OpenSpec.upto Rows.zoneShapesSpec).preRow enc prog Tryz.f4 Rows.zoneShapesUptoRow.domain false Rows.zoneShapesUptoRow.laid) (((Rows.OpenSpec.upto Rows.zoneShapesSpec).at F).post enc prog Tryz.f4 false true false false):=by
 obtain ⟨places,hx⟩:=reads os enc
 refine returnsInHanded_of_row (C:=Tryz.checked) (s:=Rows.OpenSpec.upto Rows.zoneShapesSpec) Wit.own started (by kernel_rfl) func4
  (witness_row_at (enc:=enc) (C:=Tryz.checked) false (Wit.laidWorld os) args0 rfl (by kernel_rfl) (by kernel_rfl) (by kernel_rfl)
   (OpenSpec.preRow_of_cond 8 hx (by kernel_rfl) (fun k hk=>by cases hk;kernel_rfl) (by kernel_rfl) (Wit.laid_met os _))) ?_
 intro W base args ds gs before hval hW _ hcond _ hL hsh _;exact contract H enc W base args ds gs before hval hW hsh (hcond _ rfl)
theorem said:Rows.ZoneShapesUptoSaid:=
 OpenClaim.holds_of_cond 4 Tryz.f4 rfl rfl rfl rfl rfl rfl rfl ⟨rfl,rfl,rfl,rfl,rfl⟩ rfl rfl rfl rfl rfl (by kernel_rfl) func4 (by kernel_rfl)
  (of_decide_eq_true (by kernel_rfl)) (by unfold Func.isWrapper;first|(rw [if_pos (by decide +kernel)];kernel_rfl)|(rw [if_neg (by decide +kernel)];exact ⟨rfl,rfl⟩))
  (fun os started H enc _ F=>by rw [OpenClaim.pre_eq_preRow];exact lifted os started H enc F)
theorem plain (f:FuncId) (fn:Func) (hf:Tryz.pinned.checked.prog.funcNamed "analemma/analemmalaw16.ZoneShapes" =some f) (hfn:Tryz.pinned.checked.prog.funcs[f]?=some fn):
  false=Tryz.pinned.checked.prog.looks []/\∀ (j:Nat) t,fn.params[j]?=some t->Tryz.pinned.checked.prog.wantsStandIn t=false:=by
 obtain rfl:f=4:=Option.some.inj ((show prog.funcNamed "analemma/analemmalaw16.ZoneShapes" =some 4 by kernel_rfl).symm.trans hf) |>.symm
 obtain rfl:fn=Tryz.f4:=(Option.some.inj (func4.symm.trans hfn)).symm
 refine ⟨by kernel_rfl,fun j t ht=>?_⟩
 rw [Tryz.params4] at ht;have hm:=Array.mem_of_getElem? ht;simp only [List.mem_toArray,List.mem_cons,List.not_mem_nil,or_false] at hm
 rcases hm with rfl|rfl
 ·exact (show prog.wantsStandIn 27=false by kernel_rfl)
 ·exact (show prog.wantsStandIn 2=false by kernel_rfl)
theorem proved:Rows.ZoneShapesUptoCardSaid:=
 Claim7.holds_tied_plain_at .later [] _ _ _ _ said (fun _ h=>by cases h) (by kernel_rfl) (fun _ h=>by cases h) zoneShapesUpto_row_tie rfl ⟨rfl,rfl⟩ (by kernel_rfl) rfl plain (by kernel_rfl)
#print axioms proved
end zoneShapes
end
end Go.Proofs.YtmlejgdohcpmjaaGreatDoor
