/- PaintFolds, walked. Printed by gen_folds.py. -/
import Derived.Test.YtjjdgbhplechbaaGreatDoorCvFo
import Derived.Test.YtjjdgbhplechbaaGreatDoorCvCop
set_option linter.unusedVariables false
set_option linter.unusedSimpArgs false
namespace Go.Proofs.YtjjdgbhplechbaaGreatDoor.Cv
open Go.RowKit Go.Proofs.YtjjdgbhplechbaaGreatDoor.Kit Go.Proofs.YtjjdgbhplechbaaGreatDoor.Rect Go.Proofs.YtjjdgbhplechbaaGreatDoor.Pix
attribute [local go_sem high] bmax2 bmin2 bmax_2 bmin_2
theorem foldV_none {m : List Im} {v : Vw} {x y o : Int} (h : findI m v.b = none) : foldV m x y o v = o := by unfold foldV; rw [h]
theorem foldV_some {m : List Im} {v : Vw} {x y o : Int} {g : Im} (h : findI m v.b = some g) : foldV m x y o v = onePt v.x v.y g.w g.h g.P x y o := by unfold foldV; rw [h]
theorem onePt_n1 {X Y Wd Hd x y o : Int} {P : List Int} (h : ¬ okD X Y Wd Hd) : onePt X Y Wd Hd P x y o = o := by unfold onePt; rw [if_neg (fun q => h q.1)]
theorem onePt_n2 {X Y Wd Hd x y o : Int} {P : List Int} (h : ¬ (X ≤ x ∧ x < X + Wd ∧ Y ≤ y ∧ y < Y + Hd)) : onePt X Y Wd Hd P x y o = o := by
  unfold onePt
  rw [if_neg]
  intro q
  have := has_iff.1 q.2.1
  unfold inR at this
  simp only at this
  exact h ⟨this.2.2.1, this.2.2.2.1, this.2.2.2.2.1, this.2.2.2.2.2⟩
theorem onePt_n3 {X Y Wd Hd x y o : Int} {P : List Int} {ix : Nat} (hix : (y - Y) * Wd + x - X = (ix : Int)) (h : ¬ ix < P.length) : onePt X Y Wd Hd P x y o = o := by
  unfold onePt
  rw [hix, if_neg]
  intro q
  exact h q.2.2
theorem onePt_y {X Y Wd Hd x y o u : Int} {P : List Int} {ix : Nat} (h1 : okD X Y Wd Hd) (h2 : X ≤ x ∧ x < X + Wd ∧ Y ≤ y ∧ y < Y + Hd) (hix : (y - Y) * Wd + x - X = (ix : Int)) (hu : P[ix]? = some u) : onePt X Y Wd Hd P x y o = ovr o u := by
  have hl : ix < P.length := by
    by_cases h : ix < P.length
    · exact h
    · rw [List.getElem?_eq_none (by omega)] at hu; cases hu
  have hh : rHas ⟨X, Y, Wd, Hd⟩ x y = true := by
    rw [has_iff]
    unfold inR okD at *
    simp only
    omega
  unfold onePt
  rw [hix, if_pos ⟨h1, hh, hl⟩]
  have : P.getD ((ix : Int).toNat) 0 = u := by rw [Int.toNat_natCast, List.getD_eq_getElem?_getD, hu]; rfl
  rw [this]
theorem aw_any (A : Option Addr) (c : Nat) (L : List Int) : allL 1 1 6 [⟨0, 1, 0, 0, 0, 0⟩] [⟨1, 1, 1, [4278190087], A, c⟩] L = allL 1 1 6 [⟨0, 1, 0, 0, 0, 0⟩] [⟨1, 1, 1, [4278190087], none, 1⟩] L := by
  unfold allL
  simp only [List.foldl_cons, List.foldl_nil]
  unfold paintV
  rfl
end Go.Proofs.YtjjdgbhplechbaaGreatDoor.Cv
