/- DamageAll: the walk for the row, out of the print's contract and the plain law. -/
import Derived.Test.YtogcokfildbodaaPEDAll
import Derived.Test.YtogcokfildbodaaPEOpenG
set_option linter.unusedVariables false
set_option linter.unusedSimpArgs false
namespace Go.Proofs.Ytogcokfildbodaa.PE
open Go.RowKit Go.Proofs.Ytogcokfildbodaa.Rect Go.Proofs.YtogcokfildbodaaW.PrintWords
theorem DamageAll_walk (A0 : Option Addr) (c0 : Nat) (l0 : List S23) (rx : Int) (wrx : (Lit.int .i64 rx).wf = true) (ry : Int) (wry : (Lit.int .i64 ry).wf = true) (rv : Int) (wrv : (Lit.int .i64 rv).wf = true) (rh : Int) (wrh : (Lit.int .i64 rh).wf = true) (a : Int) (wa : (Lit.int .i64 a).wf = true) (b : Int) (wb : (Lit.int .i64 b).wf = true) (w : World)
    (hc0 : l0.length ≤ c0) (hr0 : Kd.C k23 w A0 l0.length l0) (hI0 : l0.length ≤ 9223372036854775807 ∧ ∀ s ∈ l0, I64 (toR s)) :
    Calls Try.prog 13 #[.slice A0 l0.length c0, .agg #[.int .i64 rx, .int .i64 ry, .int .i64 rv, .int .i64 rh], .int .i64 a, .int .i64 b] w fun e w' => e = .returned (.bool true) ∧ Below w.heap.size w w' := by
  obtain ⟨k, hk⟩ := dall_true hI0.2 (r := ⟨rx, ry, rv, rh⟩) ⟨bounds_i64 wrx, bounds_i64 wry, bounds_i64 wrv, bounds_i64 wrh⟩ (bounds_i64 wa) (bounds_i64 wb)
  exact tableaulaw09_DamageAll.calls k A0 c0 l0 rx ry rv rh a b true w hr0 hc0 hk rfl
end Go.Proofs.Ytogcokfildbodaa.PE
