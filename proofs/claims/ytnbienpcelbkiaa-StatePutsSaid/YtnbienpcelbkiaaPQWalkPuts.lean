/- StatePuts: the walk for the row, out of the print's contract and the plain law. -/
import Derived.Test.YtnbienpcelbkiaaPQPuts
import Derived.Test.YtnbienpcelbkiaaPQSOpen
set_option linter.unusedVariables false
set_option linter.unusedSimpArgs false
namespace Go.Proofs.Ytnbienpcelbkiaa.PQ
open Go.RowKit Go.Proofs.YtnbienpcelbkiaaW.PrintWords
theorem StatePuts_walk (A0 : Option Addr) (c0 : Nat) (l0 : List S24) (x : Int) (wx : (Lit.int .i64 x).wf = true) (y : Int) (wy : (Lit.int .i64 y).wf = true) (z : Int) (wz : (Lit.int .i64 z).wf = true) (a : Int) (wa : (Lit.int .i64 a).wf = true) (w : World)
    (hc0 : l0.length ≤ c0) (hr0 : Kd.C k24 w A0 l0.length l0) (hI0 : l0.length ≤ 9223372036854775807 ∧ ∀ s ∈ l0, True) :
    Calls Try.prog 3 #[.slice A0 l0.length c0, .agg #[.int .i64 x, .int .i64 y, .int .i64 z], .int .i64 a] w fun e w' => e = .returned (.bool true) ∧ Below w.heap.size w w' := by
  obtain ⟨k, hk⟩ := puts_true l0 x y z a
  exact tableaulaw15_StatePuts.calls k A0 c0 l0 x y z a true w hr0 hc0 hk rfl
end Go.Proofs.Ytnbienpcelbkiaa.PQ
