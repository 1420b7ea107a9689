/-
  The given statement Rows.ImageBackUptoCardSaid: the law returns true for every argument; the card's tie is the given one. Conditions: the second form's bound, as the row says.
  The frame follows the seat's worked toy of a law over a package-level table; wip/frame.py wrote it.
-/
import Derived.Test.YtpbojebnghcndaaGreatDoorCards
import Derived.Test.YtpbojebnghcndaaGreatDoorTie
import Derived.WalkKit
import Derived.ProofKit
import Derived.OpenShut
import Derived.Deep.DeepHandedRow
import Derived.Shelf.Vars
import Derived.Test.YtpbojebnghcndaaGreatDoorLawBk
import Derived.Test.YtpbojebnghcndaaGreatDoorWitB
import Derived.Test.YtpbojebnghcndaaGreatDoorOpnT
namespace Go.Proofs.YtpbojebnghcndaaGreatDoor.imageBack
open Go.ChangeShapes Go.WideShapes Go.ChangeAt Go.ChangeMaps Go.RowKit
set_option linter.unusedVariables false

set_option maxRecDepth 100000 in
theorem contract (H : Type) (enc : TypeId × Value → H) (W : World) (base : Nat) (args : Array Value) (ds gs : List (DataW H)) (before : List MemPlace)
    (hval : ∀ (j : Nat) t v, Tryz.f3.params[j]? = some t → args[j]? = some v → Value.okWide Tryz.prog W .any base t v)
    (hW : DataW.Whole enc Tryz.prog Tryz.f3.params.toList Rows.imageBackSpec.vars false W args.toList ds gs before) (hsh : W.ShapedOpen Tryz.prog) (hk : Rows.uptoSmall H (ds ++ gs) = true) :
    Calls Tryz.prog 3 args W fun e W' => ∃ v, e = .returned v ∧ Rows.imageBackSpec.post enc Tryz.prog Tryz.f3 false true false false W args v W' := by
  have hW' := hW
  have hlt := fun p hp => hW.lt p hp
  obtain ⟨p, q, hA0, hV, rfl, hfz, hnd⟩ := hW
  have hA : DataW.TrodAll enc Tryz.prog W 0 (fun _ => true) true Tryz.f3.params.toList args.toList ds p := hA0
  rw [Tryz.params3] at hA hval
  obtain ⟨v0, vs0, d0, ds0, p0, q0, hargs, rfl, rfl, h0, r0⟩ := trodAll_cons hA
  obtain ⟨v1, vs1, d1, ds1, p1, q1, rfl, rfl, rfl, h1, r1⟩ := trodAll_cons r0
  obtain ⟨v2, vs2, d2, ds2, p2, q2, rfl, rfl, rfl, h2, r2⟩ := trodAll_cons r1
  obtain ⟨rfl, rfl, rfl⟩ := trodAll_nil r2
  obtain rfl : args = #[v0, v1, v2] := by cases args; simp_all
  have hb := of_decide_eq_true hk
  simp only [Rows.uptoBulkAll, List.cons_append] at hb
  obtain ⟨x0, A0, B0, c0, e0, rfl, hok0, ht0, hs0⟩ := Opn.open_tableI (hval 0 27 v0 rfl rfl) h0 (fun q hq => hlt q (by simp [hq])) (by omega)
  obtain ⟨t1, rfl, rfl, rfl, wt1⟩ := open_string Tryz.underlying9 (hval 1 9 v1 rfl rfl) h1
  have hz1 : t1.size ≤ 2097152 := by
    have := hb
    simp only [Rows.uptoBulk] at this
    have e : t1.data.toList.length = t1.size := by simp
    omega
  obtain ⟨n2, rfl, rfl, rfl, wn2⟩ := open_int Tryz.underlying2 (hval 2 2 v2 rfl rfl) h2
  obtain ⟨m, hm⟩ := Wit.maxLen_cell hsh
  have hr := LBk.backs x0 A0 B0 c0 e0 t1 n2 m W hok0 hm ht0 hs0 hz1 (Opn.in64_of wn2)
  refine hr.mono fun e W' ⟨he, hg⟩ => ?_
  subst he
  exact ⟨_, rfl, Opn.post_true hW' rfl 8 (by kernel_rfl) (by cases gs with
    | nil => rfl
    | cons a b => exact absurd hV (by simp [DataW.TrodVars, Rows.imageBackSpec])) rfl Tryz.underlying4 hg (okWide_bool_mk Tryz.underlying4 _)⟩

/-- The witness. -/
def args0 : Array Value := #[Value.agg #[.string ⟨#[]⟩, .int .i64 0, .int .i64 0, .string ⟨#[]⟩, .slice none 0 0, .int .i64 0, .slice none 0 0, .int .i64 0, .string ⟨#[]⟩], .string ⟨#[]⟩, .int .i64 0]
theorem reads (os : Os) {H : Type} (enc : TypeId × Value → H) : ∃ places, DataW.whole enc Tryz.prog ((Wit.laidWorld os).forCall (fun _ _ => 0) ⟨#[], args0, []⟩).memory Tryz.f3.params.toList Rows.imageBackSpec.vars false args0.toList 8 =
    some ([.agg [.lit (.string []), .agg [.lit (.int .i64 0), .lit (.int .i64 0), .lit (.string [])], .nil, .lit (.int .i64 0), .nil, .lit (.int .i64 0), .lit (.string [])], .lit (.string []), .lit (.int .i64 0)], [], places) :=
  ⟨[], by kernel_rfl⟩
set_option maxRecDepth 100000 in
theorem lifted (os : Os) (started : os.Started) (H : Type) (enc : TypeId × Value → H) (F : Stop.Interp) :
    ReturnsInHanded {} Tryz.checked os 3 .any ((Rows.OpenSpec.upto Rows.imageBackSpec).preRow enc Tryz.prog Tryz.f3 Rows.imageBackUptoRow.domain false Rows.imageBackUptoRow.laid) (((Rows.OpenSpec.upto Rows.imageBackSpec).at F).post enc Tryz.prog Tryz.f3 false true false false) := by
  obtain ⟨places, hx⟩ := reads os enc
  refine returnsInHanded_of_row (C := Tryz.checked) (s := Rows.OpenSpec.upto Rows.imageBackSpec) Wit.own started (by kernel_rfl) Tryz.func3
    (witness_row_at (enc := enc) (C := Tryz.checked) false (Wit.laidWorld os) args0 rfl (by kernel_rfl) (by kernel_rfl) (by kernel_rfl)
      (OpenSpec.preRow_of_cond 8 hx (by kernel_rfl) (fun k hk => by cases hk; kernel_rfl) (by kernel_rfl) (Wit.laid_met os _))) ?_
  intro W base args ds gs before hval hW _ hcond _ hL hsh _
  exact contract H enc W base args ds gs before hval hW hsh (hcond _ rfl)
end Go.Proofs.YtpbojebnghcndaaGreatDoor.imageBack
