/- CanvasCopies, walked. -/
import Derived.Test.YtjjdgbhplechbaaGreatDoorCvF
import Derived.Test.YtjjdgbhplechbaaGreatDoorPlace
set_option linter.unusedVariables false
set_option linter.unusedSimpArgs false
namespace Go.Proofs.YtjjdgbhplechbaaGreatDoor.Cv
open Go.RowKit Go.Proofs.YtjjdgbhplechbaaGreatDoor.Kit Go.Proofs.YtjjdgbhplechbaaGreatDoor.Rect
theorem at_zero {W H : Nat} (x y : Int) : atP W H (List.replicate (W * H) 0) x y = 0 := by
  unfold atP
  split
  · by_cases h : y.toNat * W + x.toNat < W * H <;> simp [h]
  · rfl
theorem at_out {W H : Nat} {L : List Int} {x y : Int} (h : ¬ (0 ≤ x ∧ x < W ∧ 0 ≤ y ∧ y < H)) : atP W H L x y = 0 := by unfold atP; rw [if_neg h]
theorem at_nat {W H : Nat} {L : List Int} {x y : Nat} (hx : x < W) (hy : y < H) (hL : L.length = W * H) : L[y * W + x]? = some (atP W H L (x : Int) (y : Int)) := by
  have hlt : y * W + x < L.length := by rw [hL]; have := mul_le (W := W) hy; omega
  unfold atP
  rw [if_pos (by omega)]
  simp [hlt]
end Go.Proofs.YtjjdgbhplechbaaGreatDoor.Cv
