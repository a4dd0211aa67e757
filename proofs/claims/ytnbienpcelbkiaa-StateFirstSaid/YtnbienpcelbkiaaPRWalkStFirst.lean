/- StateFirst: the walk for the row. -/
import Derived.Test.YtnbienpcelbkiaaPRStFirst
import Derived.Test.YtnbienpcelbkiaaPRStOpen
set_option linter.unusedVariables false
set_option linter.unusedSimpArgs false
namespace Go.Proofs.Ytnbienpcelbkiaa.PR
open Go.RowKit Go.Proofs.YtnbienpcelbkiaaW.PrintWords Go.Proofs.Ytnbienpcelbkiaa.St
theorem StateFirst_walk (n : Stt) (h : Hd) (w : World) (hr : StR w w.heap.size n h) (hc : StC n h) :
    Calls Try.prog 5 #[.agg (stV n h)] w fun e w' => e = .returned (.bool true) ∧ Below w.heap.size w w' := first_law n h w hr hc
end Go.Proofs.Ytnbienpcelbkiaa.PR
