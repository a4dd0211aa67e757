/- RegionGrids: the walk for the row, out of the print's contract and the plain law. -/
import Derived.Test.YtogcokfildbodaaPAGrids
import Derived.Test.YtogcokfildbodaaPAOpenB
set_option linter.unusedVariables false
set_option linter.unusedSimpArgs false
namespace Go.Proofs.Ytogcokfildbodaa.PA
open Go.RowKit Go.Proofs.YtogcokfildbodaaW.PrintWords
theorem RegionGrids_walk (A0 : Option Addr) (c0 : Nat) (l0 : List Bool) (w : World)
    (hc0 : l0.length ≤ c0) (hr0 : Kd.C Kd.bool w A0 l0.length l0) (hI0 : l0.length ≤ 9223372036854775807 ∧ ∀ x ∈ l0, True) :
    Calls Try.prog 4 #[.slice A0 l0.length c0] w fun e w' => e = .returned (.bool true) ∧ Below w.heap.size w w' := by
  obtain ⟨k, hk⟩ := grids_true l0
  exact tableaulaw08_RegionGrids.calls k A0 c0 l0 true w hr0 hc0 hk rfl
end Go.Proofs.Ytogcokfildbodaa.PA
