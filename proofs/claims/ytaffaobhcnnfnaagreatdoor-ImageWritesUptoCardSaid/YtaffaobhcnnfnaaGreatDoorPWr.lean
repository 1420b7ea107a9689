/-
  The given statement Rows.ImageWritesUptoCardSaid: the law returns true for every table; the card's tie is the given one. Conditions: the second form's bound, as the row says.
  The frame follows the seat's worked toy of a law over a package-level table.
-/
import Derived.Test.YtaffaobhcnnfnaaGreatDoorCards
import Derived.Test.YtaffaobhcnnfnaaGreatDoorTie
import Derived.WalkKit
import Derived.ProofKit
import Derived.OpenShut
import Derived.Deep.DeepHandedRow
import Derived.Shelf.Vars
import Derived.Test.YtaffaobhcnnfnaaGreatDoorLawWr
import Derived.Test.YtaffaobhcnnfnaaGreatDoorOpn
import Derived.Test.YtaffaobhcnnfnaaGreatDoorWit
namespace Go.Proofs.YtaffaobhcnnfnaaGreatDoor.imageWrites
open Go.ChangeShapes Go.WideShapes Go.ChangeAt Go.ChangeMaps Go.RowKit
set_option linter.unusedVariables false

set_option maxRecDepth 100000 in
theorem contract (H : Type) (enc : TypeId × Value → H) (W : World) (base : Nat) (args : Array Value) (ds gs : List (DataW H)) (before : List MemPlace)
    (hval : ∀ (j : Nat) t v, Tryz.f3.params[j]? = some t → args[j]? = some v → Value.okWide Tryz.prog W .any base t v)
    (hW : DataW.Whole enc Tryz.prog Tryz.f3.params.toList Rows.imageWritesSpec.vars false W args.toList ds gs before) (hsh : W.ShapedOpen Tryz.prog) (hk : Rows.uptoSmall H (ds ++ gs) = true) :
    Calls Tryz.prog 3 args W fun e W' => ∃ v, e = .returned v ∧ Rows.imageWritesSpec.post enc Tryz.prog Tryz.f3 false true false false W args v W' := by
  have hW' := hW
  have hlt := fun p hp => hW.lt p hp
  obtain ⟨p, q, hA0, hV, rfl, hfz, hnd⟩ := hW
  have hA : DataW.TrodAll enc Tryz.prog W 0 (fun _ => true) true Tryz.f3.params.toList args.toList ds p := hA0
  rw [Tryz.params3] at hA hval
  obtain ⟨v0, vs0, d0, ds0, p0, q0, hargs, rfl, rfl, h0, r0⟩ := trodAll_cons hA
  obtain ⟨rfl, rfl, rfl⟩ := trodAll_nil r0
  obtain rfl : args = #[v0] := by cases args; simp_all
  have hb := of_decide_eq_true hk
  simp only [Rows.uptoBulkAll, List.cons_append] at hb
  obtain ⟨x, A, A2, c, c2, rfl, hok⟩ := Opn.open_table (hval 0 27 v0 rfl rfl) h0 (fun q hq => hlt q (by simp [hq])) (by omega)
  obtain ⟨m, hm⟩ := Wit.maxLen_cell hsh
  have hr := LWr.writes x A A2 c c2 m W hok hm
  refine hr.mono fun e W' ⟨he, hg⟩ => ?_
  subst he
  exact ⟨_, rfl, Opn.post_true hW' rfl 8 (by kernel_rfl) (by cases gs with
    | nil => rfl
    | cons a b => exact absurd hV (by simp [DataW.TrodVars, Rows.imageWritesSpec])) rfl Tryz.underlying4 hg (okWide_bool_mk Tryz.underlying4 _)⟩

/-- The witness' table. -/
def v0 : Value := .agg #[.string ⟨#[]⟩, .int .i64 0, .int .i64 0, .string ⟨#[]⟩, .slice none 0 0, .int .i64 0, .slice none 0 0, .int .i64 0, .string ⟨#[]⟩]
theorem reads (os : Os) {H : Type} (enc : TypeId × Value → H) : ∃ places, DataW.whole enc Tryz.prog ((Wit.laidWorld os).forCall (fun _ _ => 0) ⟨#[], #[v0], []⟩).memory Tryz.f3.params.toList Rows.imageWritesSpec.vars false #[v0].toList 8 =
    some ([.agg [.lit (.string []), .agg [.lit (.int .i64 0), .lit (.int .i64 0), .lit (.string [])], .nil, .lit (.int .i64 0), .nil, .lit (.int .i64 0), .lit (.string [])]], [], places) :=
  ⟨[], by kernel_rfl⟩
set_option maxRecDepth 100000 in
theorem lifted (os : Os) (started : os.Started) (H : Type) (enc : TypeId × Value → H) (F : Stop.Interp) :
    ReturnsInHanded {} Tryz.checked os 3 .any ((Rows.OpenSpec.upto Rows.imageWritesSpec).preRow enc Tryz.prog Tryz.f3 Rows.imageWritesUptoRow.domain false Rows.imageWritesUptoRow.laid) (((Rows.OpenSpec.upto Rows.imageWritesSpec).at F).post enc Tryz.prog Tryz.f3 false true false false) := by
  obtain ⟨places, hx⟩ := reads os enc
  refine returnsInHanded_of_row (C := Tryz.checked) (s := Rows.OpenSpec.upto Rows.imageWritesSpec) Wit.own started (by kernel_rfl) Tryz.func3
    (witness_row_at (enc := enc) (C := Tryz.checked) false (Wit.laidWorld os) #[v0] rfl (by kernel_rfl) (by kernel_rfl) (by kernel_rfl)
      (OpenSpec.preRow_of_cond 8 hx (by kernel_rfl) (fun k hk => by cases hk; kernel_rfl) (by kernel_rfl) (Wit.laid_met os _))) ?_
  intro W base args ds gs before hval hW _ hcond _ hL hsh _
  exact contract H enc W base args ds gs before hval hW hsh (hcond _ rfl)
theorem said : Rows.ImageWritesUptoSaid :=
  OpenClaim.holds_of_cond 3 Tryz.f3 rfl rfl rfl rfl rfl rfl rfl ⟨rfl, rfl, rfl, rfl, rfl⟩ rfl rfl rfl rfl rfl (by kernel_rfl) Tryz.func3 (by kernel_rfl)
    (of_decide_eq_true (by kernel_rfl)) (by unfold Func.isWrapper; first | (rw [if_pos (by decide +kernel)]; kernel_rfl) | (rw [if_neg (by decide +kernel)]; exact ⟨rfl, rfl⟩))
    (fun os started H enc _ F => by rw [OpenClaim.pre_eq_preRow]; exact lifted os started H enc F)
theorem plain (f : FuncId) (fn : Func) (hf : Tryz.pinned.checked.prog.funcNamed "analemma/analemmalaw15.ImageWrites" = some f) (hfn : Tryz.pinned.checked.prog.funcs[f]? = some fn) :
    true = Tryz.pinned.checked.prog.looks [] ∧ ∀ (j : Nat) t, fn.params[j]? = some t → Tryz.pinned.checked.prog.wantsStandIn t = false := by
  obtain rfl : f = 3 := Option.some.inj ((show Tryz.prog.funcNamed "analemma/analemmalaw15.ImageWrites" = some 3 by kernel_rfl).symm.trans hf) |>.symm
  obtain rfl : fn = Tryz.f3 := (Option.some.inj (Tryz.func3.symm.trans hfn)).symm
  refine ⟨by kernel_rfl, fun j t ht => ?_⟩
  rw [Tryz.params3] at ht
  obtain rfl : t = 27 := by simpa using Array.mem_of_getElem? ht
  exact (show Tryz.prog.wantsStandIn 27 = false by kernel_rfl)
/-- ████ THE CARD ████ -/
theorem proved : Rows.ImageWritesUptoCardSaid :=
  Claim7.holds_tied_plain_at .later [] _ _ _ _ said (fun _ h => by cases h) (by kernel_rfl) (fun _ h => by cases h) imageWritesUpto_row_tie rfl ⟨rfl, rfl⟩ (by kernel_rfl) rfl plain (by kernel_rfl)
#print axioms proved
end Go.Proofs.YtaffaobhcnnfnaaGreatDoor.imageWrites
