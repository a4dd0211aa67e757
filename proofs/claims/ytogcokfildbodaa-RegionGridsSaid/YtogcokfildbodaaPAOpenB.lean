/- Truths that came in, read as the print's kind. -/
import Derived.Test.YtogcokfildbodaaPAGiven
import Derived.Test.YtogcokfildbodaaOpen
set_option linter.unusedVariables false
set_option linter.unusedSimpArgs false
namespace Go.Proofs.Ytogcokfildbodaa.PA
open Go.RowKit Go.Proofs.Ytogcokfildbodaa.Open Go.Proofs.YtogcokfildbodaaW.PrintWords
theorem opn_bools : Opn Try.prog 30 (Kd.slice 4 Kd.bool) (fun l => l.length ≤ 9223372036854775807 ∧ ∀ x ∈ l, True) :=
  opn_slice Try.underlying30 (by kernel_rfl) (opn_bool Try.underlying4)
end Go.Proofs.Ytogcokfildbodaa.PA
