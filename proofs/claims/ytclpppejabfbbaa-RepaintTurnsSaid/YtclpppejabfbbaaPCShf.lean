/- Shift, Cover: the program's and the reference's, as the plain ones. -/
import Derived.Test.YtclpppejabfbbaaPCRef3
import Derived.Test.YtclpppejabfbbaaPCx6
set_option linter.unusedSimpArgs false
namespace Go.Proofs.Ytclpppejabfbbaa.PC
open Go.RowKit Go.Proofs.YtclpppejabfbbaaW.PrintWords Go.Proofs.Ytclpppejabfbbaa.Reg Go.Proofs.Ytclpppejabfbbaa.Rect Go.Proofs.Ytclpppejabfbbaa.Wk
open Go.Proofs.YtclpppejabfbbaaW.PrintWords (mx mn)
set_option linter.unusedVariables false

theorem mn_min (a b : Int) : mn a b = min a b := by unfold mn; split <;> omega
/-! the program's, at any list -/
/-! the reference's -/
end Go.Proofs.Ytclpppejabfbbaa.PC
