/-
  A region that draws its order, whose own operations only read, and whose callees may make memory but leave a class of worlds: one walk in the text's order serves (Derived/Deep/Quiet.lean's theorem at a class of one's own). Conditions: none.
-/
import Derived.BigQuiet
import Derived.Deep.QuietTactic
namespace Go.Proofs.YtaffaobhcnnfnaaGreatDoor.Qt
open Go

/-- A world of a class. -/
structure In (Cls : World → Prop) where
  w : World
  h : Cls w

theorem wp_region_cls {P : Program} {id : Nat} {Q : Exit → Act → World → Prop} {a : Act} {w : World} {l : List Oper} (Cls : World → Prop) (hm : P.follows .mixedOrders = true) (hB : Region.lexB .any l.toArray = true) (hC : Cls w.drew)
    (h : wpQuiet P l.toArray (fun w' => ∃ z : In Cls, w' = z.w) (fun a' => ∀ w', (∃ z : In Cls, w' = z.w) → Q .normal a' w') l a) : (Code.region id l.toArray true).wp P Q a w :=
  wp_region_quiet (C := fun w' => ∃ z : In Cls, w' = z.w) hm hB ⟨⟨w.drew, hC⟩, rfl⟩ (by simpa using h)
theorem quiet_cls {P : Program} {f : FuncId} {args : Array Value} {Cls : World → Prop} {w : World} {v : Value}
    (h : Calls P f args w fun e w' => e = .returned v ∧ Cls w') : Calls P f args w fun e w'' => e = .returned v ∧ ∃ z' : In Cls, w'' = z'.w :=
  h.mono fun _ w' ⟨he, hc⟩ => ⟨he, ⟨w', hc⟩, rfl⟩
end Go.Proofs.YtaffaobhcnnfnaaGreatDoor.Qt
