/-
  CheckBack and CheckRests: the walks as the row's frame asks them. Conditions: the arguments are numbers of 64 bits.
-/
import Derived.Test.YtnjdbkgdinlhfaaLawBack
import Derived.Test.YtnjdbkgdinlhfaaPost
namespace Go.Proofs.Ytnjdbkgdinlhfaa.LawBackW
open Go.RowKit Chk

theorem back (a b : Int) (w0 : (Lit.int .i64 a).wf = true) (w1 : (Lit.int .i64 b).wf = true) (w : World) :
    Calls Try.prog 8 #[.int .i64 a, .int .i64 b] w fun e w' => e = .returned (.bool true) ∧ Below w.heap.size w w' :=
  (LawBack.back_walk a b (in64_of_wf w0) (in64_of_wf w1) w).mono fun _ _ h => ⟨h.1, h.2⟩
theorem rests (a b : Int) (w0 : (Lit.int .i64 a).wf = true) (w1 : (Lit.int .i64 b).wf = true) (w : World) :
    Calls Try.prog 9 #[.int .i64 a, .int .i64 b] w fun e w' => e = .returned (.bool true) ∧ Below w.heap.size w w' :=
  (LawBack.rests_walk a b (in64_of_wf w0) (in64_of_wf w1) w).mono fun _ _ h => ⟨h.1, h.2⟩
end Go.Proofs.Ytnjdbkgdinlhfaa.LawBackW
