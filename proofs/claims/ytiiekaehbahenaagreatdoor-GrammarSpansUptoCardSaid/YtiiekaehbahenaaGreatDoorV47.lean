/-
  Contracts of the code that the law reaches, and plain laws. Conditions: as each says.
-/
import Derived.Test.YtiiekaehbahenaaGreatDoorRows
import Derived.WalkKit
import Derived.ProofKit
import Derived.Deep.DeepHandedRow
import Derived.Shelf.Vars
import Derived.LaidLaws
import Derived.Lay
set_option linter.all false
set_option maxHeartbeats 40000000
set_option maxRecDepth 100000
namespace Go.Proofs.YtiiekaehbahenaaGreatDoor
open Go.Proofs.Tryz
section
namespace Wit
open Go.RowKit
theorem maxLen_cell {W:World} (h:W.ShapedOpen prog):∃ m,W.cell? ⟨1,0,none⟩=some (.int .i64 m):=
 cell_of_shapedOpen_int (g:=1) (t:=3) (zero:=#[.int .i64 0]) h (of_decide_eq_true (by kernel_rfl)) (by kernel_rfl) rfl (by kernel_rfl) (by kernel_rfl) underlying3
theorem own:ownKnob prog.godebug=none:=by kernel_rfl
noncomputable def laidWorld (os:Os):World:=World.laidAll prog os Rows.grammarClocksUptoRow.laid
theorem laid_met (os:Os) (args:Array Value):laidMet prog Rows.grammarClocksUptoRow.laid ((laidWorld os).forCall (fun _ _=>0) ⟨#[],args,[]⟩).memory:=
 laidMet_laidAll _ (by kernel_rfl) (by kernel_rfl)
theorem shaped (os:Os) (args:Array Value):((laidWorld os).forCall (fun _ _=>0) ⟨#[],args,[]⟩).Shaped prog:=
 World.shaped_of_ZipB (by kernel_rfl) (by kernel_rfl)
theorem row_shaped {H:Type} {enc:TypeId×Value->H} {C:Checked} {os:Os} {f:FuncId} {fn:Func} {s:OpenSpec} {conds:List PathCond} {apart:Bool} {laid:List (String×DataW Unit)} (modest:Bool) (w0:World) (args:Array Value) (hos:w0.os=os)
  (hsh:(w0.forCall (fun _ _=>0) ⟨#[],args,[]⟩).Shaped C.prog)
  (hok:Input.okWideB C.prog (w0.forCall (fun _ _=>0) ⟨#[],args,[]⟩) f ⟨#[],args,[]⟩=true)
  (hrow:s.preRow enc C.prog fn conds apart laid (w0.forCall (fun _ _=>0) ⟨#[],args,[]⟩).memory args):
  ∃ (w:World) (tape:Tape) (i:Input),w.os=os/\(w.forCall tape i).Shaped C.prog/\i.vars=[]/\Input.okWide C.prog (w.forCall tape i) .any w.heap.size f i/\
   s.preRow enc C.prog fn conds apart laid (w.forCall tape i).memory i.args/\({ modest:=modest }:Assume).holds C.prog (lone (Frame.enter C.prog f i.args .normal) [] (w.forCall tape i)):=
 ⟨w0,fun _ _=>0,⟨#[],args,[]⟩,hos,hsh,(Input.okWide_of_okWideB (base:=0) hok).1,(Input.okWide_of_okWideB hok).2,hrow,by
  simp only [Assume.holds]
  exact ⟨by simp,by simp,fun _=>Modest.zero,by simp,by simp⟩⟩
end Wit
end
end Go.Proofs.YtiiekaehbahenaaGreatDoor
