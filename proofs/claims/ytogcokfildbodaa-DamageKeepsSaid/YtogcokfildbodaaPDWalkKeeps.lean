/- DamageKeeps: the walk for the row, out of the print's contract and the plain law. -/
import Derived.Test.YtogcokfildbodaaPDKeeps
import Derived.Test.YtogcokfildbodaaPDOpenG
set_option linter.unusedVariables false
set_option linter.unusedSimpArgs false
namespace Go.Proofs.Ytogcokfildbodaa.PD
open Go.RowKit Go.Proofs.Ytogcokfildbodaa.Rect Go.Proofs.YtogcokfildbodaaW.PrintWords
theorem DamageKeeps_walk (A0 : Option Addr) (c0 : Nat) (l0 : List S23) (x : Int) (wx : (Lit.int .i64 x).wf = true) (y : Int) (wy : (Lit.int .i64 y).wf = true) (a : Int) (wa : (Lit.int .i64 a).wf = true) (b : Int) (wb : (Lit.int .i64 b).wf = true) (p : Int) (wp : (Lit.int .i64 p).wf = true) (q : Int) (wq : (Lit.int .i64 q).wf = true) (w : World)
    (hc0 : l0.length ≤ c0) (hr0 : Kd.C k23 w A0 l0.length l0) (hI0 : l0.length ≤ 9223372036854775807 ∧ ∀ s ∈ l0, I64 (toR s)) :
    Calls Try.prog 9 #[.slice A0 l0.length c0, .agg #[.int .i64 x, .int .i64 y, .int .i64 a, .int .i64 b], .int .i64 p, .int .i64 q] w fun e w' => e = .returned (.bool true) ∧ Below w.heap.size w w' := by
  obtain ⟨k, hk⟩ := keeps_true hI0.2 (r := ⟨x, y, a, b⟩) ⟨bounds_i64 wx, bounds_i64 wy, bounds_i64 wa, bounds_i64 wb⟩ p q
  exact tableaulaw09_DamageKeeps.calls k A0 c0 l0 x y a b p q true w hr0 hc0 hk rfl
end Go.Proofs.Ytogcokfildbodaa.PD
