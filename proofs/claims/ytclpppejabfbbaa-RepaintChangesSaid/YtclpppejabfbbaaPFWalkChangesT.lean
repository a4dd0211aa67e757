/- RepaintChanges: the walk for the row. -/
import Derived.Test.YtclpppejabfbbaaPFChangesT
import Derived.Test.YtclpppejabfbbaaPFOpenG
set_option linter.unusedVariables false
set_option linter.unusedSimpArgs false
namespace Go.Proofs.Ytclpppejabfbbaa.PF
open Go.RowKit Go.Proofs.Ytclpppejabfbbaa.Rect Go.Proofs.YtclpppejabfbbaaW.PrintWords
theorem RepaintChanges_walk (A0 : Option Addr) (c0 : Nat) (l0 : List S54) (A1 : Option Addr) (c1 : Nat) (l1 : List S54) (A2 : Option Addr) (c2 : Nat) (l2 : List S75) (w : World)
    (hc0 : l0.length ≤ c0) (hr0 : Kd.C k54 w A0 l0.length l0) (hI0 : l0.length ≤ 9223372036854775807 ∧ ∀ s ∈ l0, True) (hc1 : l1.length ≤ c1) (hr1 : Kd.C k54 w A1 l1.length l1) (hI1 : l1.length ≤ 9223372036854775807 ∧ ∀ s ∈ l1, True) (hc2 : l2.length ≤ c2) (hr2 : Kd.C k75 w A2 l2.length l2) (hI2 : l2.length ≤ 9223372036854775807 ∧ ∀ d ∈ l2, ∀ s ∈ d.f1, I64 (toR s)) :
    Calls Try.prog 7 #[.slice A0 l0.length c0, .slice A1 l1.length c1, .slice A2 l2.length c2] w fun e w' => e = .returned (.bool true) ∧ Below w.heap.size w w' := by
  obtain ⟨k, hk⟩ := changes_true hI2.2 hI0.1 hI1.1 hI2.1 (old := l0) (l := l1)
  exact tableaulaw24_RepaintChanges.calls k A0 c0 l0 A1 c1 l1 A2 c2 l2 true w hr0 hc0 hr1 hc1 hr2 hc2 hk rfl
end Go.Proofs.Ytclpppejabfbbaa.PF
