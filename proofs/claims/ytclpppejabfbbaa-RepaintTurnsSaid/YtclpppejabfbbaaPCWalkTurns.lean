/- RepaintTurns: the walk for the row. -/
import Derived.Test.YtclpppejabfbbaaPCTurns
import Derived.Test.YtclpppejabfbbaaPCOpenG
set_option linter.unusedVariables false
set_option linter.unusedSimpArgs false
namespace Go.Proofs.Ytclpppejabfbbaa.PC
open Go.RowKit Go.Proofs.Ytclpppejabfbbaa.Rect Go.Proofs.YtclpppejabfbbaaW.PrintWords
theorem RepaintTurns_walk (A0 : Option Addr) (c0 : Nat) (l0 : List S54) (A1 : Option Addr) (c1 : Nat) (l1 : List S54) (a : Int) (wa : (Lit.int .i64 a).wf = true) (w : World)
    (hc0 : l0.length ≤ c0) (hr0 : Kd.C k54 w A0 l0.length l0) (hI0 : l0.length ≤ 9223372036854775807 ∧ ∀ s ∈ l0, True) (hc1 : l1.length ≤ c1) (hr1 : Kd.C k54 w A1 l1.length l1) (hI1 : l1.length ≤ 9223372036854775807 ∧ ∀ s ∈ l1, True) :
    Calls Try.prog 8 #[.slice A0 l0.length c0, .slice A1 l1.length c1, .int .i64 a] w fun e w' => e = .returned (.bool true) ∧ Below w.heap.size w w' := by
  obtain ⟨k, hk⟩ := turns_true (a := l0) (b := l1) a hI0.1 hI1.1
  exact tableaulaw24_RepaintTurns.calls k A0 c0 l0 A1 c1 l1 a true w hr0 hc0 hr1 hc1 hk rfl
end Go.Proofs.Ytclpppejabfbbaa.PC
