/- RegionAll: the walk for the row, out of the print's contract and the plain law. -/
import Derived.Test.YtogcokfildbodaaPMAll
import Derived.Test.YtogcokfildbodaaPMOpenG
set_option linter.unusedVariables false
set_option linter.unusedSimpArgs false
namespace Go.Proofs.Ytogcokfildbodaa.PM
open Go.RowKit Go.Proofs.Ytogcokfildbodaa.Rect Go.Proofs.YtogcokfildbodaaW.PrintWords
theorem RegionAll_walk (A0 : Option Addr) (c0 : Nat) (l0 : List S23) (A1 : Option Addr) (c1 : Nat) (l1 : List S23) (rx : Int) (wrx : (Lit.int .i64 rx).wf = true) (ry : Int) (wry : (Lit.int .i64 ry).wf = true) (rv : Int) (wrv : (Lit.int .i64 rv).wf = true) (rh : Int) (wrh : (Lit.int .i64 rh).wf = true) (a : Int) (wa : (Lit.int .i64 a).wf = true) (b : Int) (wb : (Lit.int .i64 b).wf = true) (w : World)
    (hc0 : l0.length ≤ c0) (hr0 : Kd.C k23 w A0 l0.length l0) (hI0 : l0.length ≤ 9223372036854775807 ∧ ∀ s ∈ l0, I64 (toR s)) (hc1 : l1.length ≤ c1) (hr1 : Kd.C k23 w A1 l1.length l1) (hI1 : l1.length ≤ 9223372036854775807 ∧ ∀ s ∈ l1, I64 (toR s)) :
    Calls Try.prog 14 #[.slice A0 l0.length c0, .slice A1 l1.length c1, .agg #[.int .i64 rx, .int .i64 ry, .int .i64 rv, .int .i64 rh], .int .i64 a, .int .i64 b] w fun e w' => e = .returned (.bool true) ∧ Below w.heap.size w w' := by
  obtain ⟨k, hk⟩ := all_true hI0.2 hI1.2 (r := ⟨rx, ry, rv, rh⟩) ⟨bounds_i64 wrx, bounds_i64 wry, bounds_i64 wrv, bounds_i64 wrh⟩ (bounds_i64 wa) (bounds_i64 wb)
  exact tableaulaw08_RegionAll.calls k A0 c0 l0 A1 c1 l1 rx ry rv rh a b true w hr0 hc0 hr1 hc1 hk rfl
end Go.Proofs.Ytogcokfildbodaa.PM
