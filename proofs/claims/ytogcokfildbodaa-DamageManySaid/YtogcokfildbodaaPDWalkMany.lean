/- DamageMany: the walk for the row, out of the print's contract and the plain law. -/
import Derived.Test.YtogcokfildbodaaPDMany
set_option linter.unusedVariables false
set_option linter.unusedSimpArgs false
namespace Go.Proofs.Ytogcokfildbodaa.PD
open Go.RowKit Go.Proofs.Ytogcokfildbodaa.Rect Go.Proofs.YtogcokfildbodaaW.PrintWords
theorem DamageMany_walk (a : Int) (wa : (Lit.int .i64 a).wf = true) (w : World) :
    Calls Try.prog 10 #[.int .i64 a] w fun e w' => e = .returned (.bool true) ∧ Below w.heap.size w w' := by
  obtain ⟨k, hk⟩ := many_true a
  exact tableaulaw09_DamageMany.calls k a true w hk rfl
end Go.Proofs.Ytogcokfildbodaa.PD
