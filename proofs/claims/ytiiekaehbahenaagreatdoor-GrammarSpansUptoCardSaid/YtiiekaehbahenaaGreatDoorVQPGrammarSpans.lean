/-
  The given statement Rows.GrammarSpansUptoCardSaid: the law returns true for every argument; the card's tie is the given one. Conditions: the second form's bound, as the row says. The frame follows the seat's worked toy of a law over a package-level table; wip/frame.py wrote it.
-/
import Derived.Test.YtiiekaehbahenaaGreatDoorCards
import Derived.Test.YtiiekaehbahenaaGreatDoorTie
import Derived.Test.YtiiekaehbahenaaGreatDoorV45
import Derived.Test.YtiiekaehbahenaaGreatDoorV47
import Derived.Test.YtiiekaehbahenaaGreatDoorV46
set_option linter.all false
set_option maxHeartbeats 40000000
set_option maxRecDepth 100000
namespace Go.Proofs.YtiiekaehbahenaaGreatDoor
open Go.Proofs.Tryz
section
namespace grammarSpans
open Go.ChangeShapes Go.WideShapes Go.ChangeAt Go.ChangeMaps Go.RowKit
theorem contract (H:Type) (enc:TypeId×Value->H) (W:World) (base:Nat) (args:Array Value) (ds gs:List (DataW H)) (before:List MemPlace)
  (hval:∀ (j:Nat) t v,Tryz.f4.params[j]?=some t->args[j]?=some v->Value.okWide prog W .any base t v)
  (hW:DataW.Whole enc prog Tryz.f4.params.toList Rows.grammarSpansSpec.vars false W args.toList ds gs before) (hsh:W.ShapedOpen prog) (hk:Rows.uptoSmall H (ds++gs)=true):
  Calls prog 4 args W fun e W'=>∃ v,e= .returned v/\Rows.grammarSpansSpec.post enc prog Tryz.f4 false true false false W args v W':=by
 have hW':=hW;have hlt:=fun p hp=>hW.lt p hp;obtain ⟨p,q,hA0,hV,rfl,hfz,hnd⟩:=hW;have hA:DataW.TrodAll enc prog W 0 (fun _=>true) true Tryz.f4.params.toList args.toList ds p:=hA0;rw [Tryz.params4] at hA hval;obtain ⟨v0,vs0,d0,ds0,p0,q0,hargs,rfl,rfl,h0,r0⟩:=trodAll_cons hA;obtain ⟨rfl,rfl,rfl⟩:=trodAll_nil r0
 obtain rfl:args=#[v0]:=by cases args;simp_all
 have hb:=of_decide_eq_true hk;simp only [Rows.uptoBulkAll,List.cons_append] at hb;obtain ⟨t0,rfl,rfl,rfl,wt0⟩:=open_string underlying9 (hval 0 9 v0 rfl rfl) h0
 have hz0:t0.size<=2097152:=by
  have:=hb;simp only [Rows.uptoBulk] at this
  have e:t0.data.toList.length=t0.size:=by simp
  omega
 obtain ⟨m,hm⟩:=Wit.maxLen_cell hsh;have hr:=Gr.spans t0 m W hm hz0
 refine hr.mono fun e W' ⟨he,hg⟩=>?_
 subst he
 exact ⟨_,rfl,Opn.post_true hW' rfl 8 (by kernel_rfl) (by cases gs with
  |nil=>rfl
  |cons a b=>exact absurd hV (by simp [DataW.TrodVars,Rows.grammarSpansSpec])) rfl underlying4 hg (okWide_bool_mk underlying4 _)⟩
def args0:Array Value:=#[Value.string ⟨#[]⟩]
theorem reads (os:Os) {H:Type} (enc:TypeId×Value->H):∃ places,DataW.whole enc prog ((Wit.laidWorld os).forCall (fun _ _=>0) ⟨#[],args0,[]⟩).memory Tryz.f4.params.toList Rows.grammarSpansSpec.vars false args0.toList 8=
  some ([.lit (.string [])],[],places):=
 ⟨[],by kernel_rfl⟩
theorem lifted (os:Os) (started:os.Started) (H:Type) (enc:TypeId×Value->H) (F:Stop.Interp):
  ReturnsInHanded {} Tryz.checked os 4 .any ((Rows.OpenSpec.upto Rows.grammarSpansSpec).preRow enc prog Tryz.f4 Rows.grammarSpansUptoRow.domain false Rows.grammarSpansUptoRow.laid) (((Rows.OpenSpec.upto Rows.grammarSpansSpec).at F).post enc prog Tryz.f4 false true false false):=by
 obtain ⟨places,hx⟩:=reads os enc
 refine returnsInHanded_of_row (C:=Tryz.checked) (s:=Rows.OpenSpec.upto Rows.grammarSpansSpec) Wit.own started (by kernel_rfl) func4
  (Wit.row_shaped (enc:=enc) (C:=Tryz.checked) false (Wit.laidWorld os) args0 (World.laidAll_os _ _ _) (Wit.shaped os _) (by kernel_rfl)
   (OpenSpec.preRow_of_cond 8 hx (by kernel_rfl) (fun k hk=>by cases hk;kernel_rfl) (by kernel_rfl) (Wit.laid_met os _))) ?_
 intro W base args ds gs before hval hW _ hcond _ hL hsh _;exact contract H enc W base args ds gs before hval hW hsh (hcond _ rfl)
theorem said:Rows.GrammarSpansUptoSaid:=
 OpenClaim.holds_of_cond 4 Tryz.f4 rfl rfl rfl rfl rfl rfl rfl ⟨rfl,rfl,rfl,rfl,rfl⟩ rfl rfl rfl rfl rfl (by kernel_rfl) func4 (by kernel_rfl)
  (of_decide_eq_true (by kernel_rfl)) (by unfold Func.isWrapper;first|(rw [if_pos (by decide +kernel)];kernel_rfl)|(rw [if_neg (by decide +kernel)];exact ⟨rfl,rfl⟩))
  (fun os started H enc _ F=>by rw [OpenClaim.pre_eq_preRow];exact lifted os started H enc F)
theorem plain (f:FuncId) (fn:Func) (hf:Tryz.pinned.checked.prog.funcNamed "analemma/analemmalaw24.GrammarSpans" =some f) (hfn:Tryz.pinned.checked.prog.funcs[f]?=some fn):
  true=Tryz.pinned.checked.prog.looks []/\∀ (j:Nat) t,fn.params[j]?=some t->Tryz.pinned.checked.prog.wantsStandIn t=false:=by
 obtain rfl:f=4:=Option.some.inj ((show prog.funcNamed "analemma/analemmalaw24.GrammarSpans" =some 4 by kernel_rfl).symm.trans hf) |>.symm
 obtain rfl:fn=Tryz.f4:=(Option.some.inj (func4.symm.trans hfn)).symm
 refine ⟨by kernel_rfl,fun j t ht=>?_⟩
 rw [Tryz.params4] at ht
 obtain rfl:t=9:=by simpa using Array.mem_of_getElem? ht
 exact (show prog.wantsStandIn 9=false by kernel_rfl)
theorem proved:Rows.GrammarSpansUptoCardSaid:=
 Claim7.holds_tied_plain_at .later [] _ _ _ _ said (fun _ h=>by cases h) (by kernel_rfl) (fun _ h=>by cases h) grammarSpansUpto_row_tie rfl ⟨rfl,rfl⟩ (by kernel_rfl) rfl plain (by kernel_rfl)
#print axioms proved
end grammarSpans
end
end Go.Proofs.YtiiekaehbahenaaGreatDoor
