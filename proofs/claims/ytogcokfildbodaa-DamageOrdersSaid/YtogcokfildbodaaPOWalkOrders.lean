/- DamageOrders: the walk for the row, out of the print's contract and the plain law. -/
import Derived.Test.YtogcokfildbodaaPOOrders
import Derived.Test.YtogcokfildbodaaPOOpenG
set_option linter.unusedVariables false
set_option linter.unusedSimpArgs false
namespace Go.Proofs.Ytogcokfildbodaa.PO
open Go.RowKit Go.Proofs.Ytogcokfildbodaa.Rect Go.Proofs.YtogcokfildbodaaW.PrintWords
theorem DamageOrders_walk (A0 : Option Addr) (c0 : Nat) (l0 : List S23) (a : Int) (wa : (Lit.int .i64 a).wf = true) (w : World)
    (hc0 : l0.length ≤ c0) (hr0 : Kd.C k23 w A0 l0.length l0) (hI0 : l0.length ≤ 9223372036854775807 ∧ ∀ s ∈ l0, I64 (toR s)) :
    Calls Try.prog 11 #[.slice A0 l0.length c0, .int .i64 a] w fun e w' => e = .returned (.bool true) ∧ Below w.heap.size w w' := by
  obtain ⟨k, hk⟩ := orders_true hI0.2 a
  exact tableaulaw09_DamageOrders.calls k A0 c0 l0 a true w hr0 hc0 hk rfl
end Go.Proofs.Ytogcokfildbodaa.PO
