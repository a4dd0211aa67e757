/- A part of the screen, plain: in the clip it is the fold, outside it stays. No program. -/
import Derived.Test.YtjjdgbhplechbaaGreatDoorCvPla
set_option linter.unusedVariables false
set_option linter.unusedSimpArgs false
namespace Go.Proofs.YtjjdgbhplechbaaGreatDoor.Cv
open Go.RowKit Go.Proofs.YtjjdgbhplechbaaGreatDoor.Kit Go.Proofs.YtjjdgbhplechbaaGreatDoor.Rect Go.Proofs.YtjjdgbhplechbaaGreatDoor.Pix
theorem nne (x : Int) : (x != x) = false := by simp
theorem at_drawn_out {W H : Nat} {clip : List R} {f : Nat → Nat → Int → Int} {L : List Int} {x y : Nat} (hL : L.length = W * H) (hx : x < W) (hy : y < H) (hi : inn clip (x : Int) (y : Int) = false) : atP W H (drawn W H clip f L) (x : Int) (y : Int) = atP W H L (x : Int) (y : Int) := by
  rw [drawn_at hL hx hy, if_neg (by rw [hi]; decide)]
theorem at_paint_out {W H : Nat} {clip : List R} {m : List Im} {L : List Int} {v : Vw} {x y : Nat} (hL : L.length = W * H) (hx : x < W) (hy : y < H) (hi : inn clip (x : Int) (y : Int) = false) : atP W H (paintV W H clip m L v) (x : Int) (y : Int) = atP W H L (x : Int) (y : Int) := by
  unfold paintV
  split
  · rfl
  · unfold drawO
    split
    · exact at_drawn_out hL hx hy hi
    · rfl
theorem at_fold_out {W H : Nat} {clip : List R} {m : List Im} {x y : Nat} (hx : x < W) (hy : y < H) (hi : inn clip (x : Int) (y : Int) = false) :
    ∀ (l : List Vw) (L : List Int), L.length = W * H → atP W H (l.foldl (paintV W H clip m) L) (x : Int) (y : Int) = atP W H L (x : Int) (y : Int)
  | [], L, _ => rfl
  | v :: l, L, hL => by rw [List.foldl_cons, at_fold_out hx hy hi l _ (by rw [paintV_len]; exact hL), at_paint_out hL hx hy hi]
theorem at_part_in {W H : Nat} {back : Int} {vs : List Vw} {m : List Im} {clip : List R} {L : List Int} {x y : Nat} (hL : L.length = W * H) (hx : x < W) (hy : y < H) (hi : inn clip (x : Int) (y : Int) = true) : atP W H (partL W H back vs m clip L) (x : Int) (y : Int) = vs.foldl (foldV m (x : Int) (y : Int)) back := by
  unfold partL
  rw [at_fold hx hy hi vs _ (by rw [drawn_len]; exact hL), drawn_at hL hx hy, if_pos hi]
theorem at_part_out {W H : Nat} {back : Int} {vs : List Vw} {m : List Im} {clip : List R} {L : List Int} {x y : Nat} (hL : L.length = W * H) (hx : x < W) (hy : y < H) (hi : inn clip (x : Int) (y : Int) = false) : atP W H (partL W H back vs m clip L) (x : Int) (y : Int) = atP W H L (x : Int) (y : Int) := by
  unfold partL
  rw [at_fold_out hx hy hi vs _ (by rw [drawn_len]; exact hL), at_drawn_out hL hx hy hi]
end Go.Proofs.YtjjdgbhplechbaaGreatDoor.Cv
