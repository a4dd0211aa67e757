-- Printed for this claim by a program over the kit's print.
import Derived.Test.YtclpppejabfbbaaPFx0
import Derived.Test.YtclpppejabfbbaaPFx1
import Derived.Test.YtclpppejabfbbaaPFx3
import Derived.Test.YtclpppejabfbbaaPFx5
namespace Go.Proofs.Ytclpppejabfbbaa.PF
open Go.RowKit Go.Proofs.YtclpppejabfbbaaW.PrintWords Go.Proofs.YtclpppejabfbbaaW.PrintLast Go.Proofs.YtclpppejabfbbaaW.PrintMore
attribute [local go_sem] max2_int min2_int max_two min_two max_three min_three max_four min_four   -- for this text's walks alone
set_option linter.unusedVariables false
set_option linter.unusedSimpArgs false

attribute [local go_sem high] eqA54

/-! ### tableauref24_Changed: function 44 -/
mutual
def tableauref24_Changed.l0 : Nat → List (S54) → List (S54) → List (S75) → List (S26) → Int → Option ((List (S26)))
 | 0, _, _, _, _, _ => none
 | k + 1, x0, x1, x2, x7, x8 => if x8 < (x0.length : Int) then (tableauref24_Changed.j1 k x0 x1 x2 x7 x8 true) else (tableauref24_Changed.j1 k x0 x1 x2 x7 x8 (decide (x8 < (x1.length : Int))))
def tableauref24_Changed.j1 : Nat → List (S54) → List (S54) → List (S75) → List (S26) → Int → Bool → Option ((List (S26)))
 | 0, _, _, _, _, _, _ => none
 | k + 1, x0, x1, x2, x7, x8, x20 => if x20 = true then (if x8 < (x0.length : Int) then (if x8 < (x1.length : Int) then (if 0 ≤ x8 then (tableauref24_Changed.j2 k x0 x1 x2 x7 x8 (((rd_T54 x0 x8).f0) == ((rd_T54 x1 x8).f0) && (((rd_T54 x0 x8).f1) == ((rd_T54 x1 x8).f1) && (((rd_T54 x0 x8).f2) == ((rd_T54 x1 x8).f2) && (((rd_T54 x0 x8).f3) == ((rd_T54 x1 x8).f3) && (((rd_T54 x0 x8).f4) == ((rd_T54 x1 x8).f4) && (((rd_T54 x0 x8).f5) == ((rd_T54 x1 x8).f5)))))))) else (none)) else (tableauref24_Changed.j2 k x0 x1 x2 x7 x8 false)) else (tableauref24_Changed.j2 k x0 x1 x2 x7 x8 false)) else (some x7)
def tableauref24_Changed.j2 : Nat → List (S54) → List (S54) → List (S75) → List (S26) → Int → Bool → Option ((List (S26)))
 | 0, _, _, _, _, _, _ => none
 | k + 1, x0, x1, x2, x7, x8, x43 => if x43 = true then (tableauref24_Changed.l1 k x0 x1 x2 x7 x8 0) else (if x8 < (x0.length : Int) then (if 0 ≤ x8 then ((tableauref24_rect.f ((rd_T54 x0 x8).f0) ((rd_T54 x0 x8).f1) ((rd_T54 x0 x8).f2) ((rd_T54 x0 x8).f3) ((rd_T54 x0 x8).f4) ((rd_T54 x0 x8).f5)).bind fun bt343 => ((tableauref09_Add.f k x7 bt343.1 bt343.2.1 bt343.2.2.1 bt343.2.2.2).bind fun t347 => (tableauref24_Changed.j6 k x0 x1 x2 t347 x8))) else (none)) else (tableauref24_Changed.j6 k x0 x1 x2 x7 x8))
def tableauref24_Changed.l1 : Nat → List (S54) → List (S54) → List (S75) → List (S26) → Int → Int → Option ((List (S26)))
 | 0, _, _, _, _, _, _ => none
 | k + 1, x0, x1, x2, x7, x8, x9 => if x9 < (x2.length : Int) then (tableauref24_Changed.l2 k x0 x1 x2 x7 x8 x9 0) else (tableauref24_Changed.l0 k x0 x1 x2 x7 (wrap64 (x8 + 1)))
def tableauref24_Changed.l2 : Nat → List (S54) → List (S54) → List (S75) → List (S26) → Int → Int → Int → Option ((List (S26)))
 | 0, _, _, _, _, _, _, _ => none
 | k + 1, x0, x1, x2, x7, x8, x9, x10 => if 0 ≤ x9 then (if x9 < (x2.length : Int) then (if 0 ≤ x8 then (if x8 < (x1.length : Int) then (if ((rd_T75 x2 x9).f0) = ((rd_T54 x1 x8).f0) then (tableauref24_Changed.j5 k x0 x1 x2 x7 x8 x9 x10 (decide (x10 < (((rd_T75 x2 x9).f1).length : Int)))) else (tableauref24_Changed.j5 k x0 x1 x2 x7 x8 x9 x10 false)) else (none)) else (none)) else (none)) else (none)
def tableauref24_Changed.j5 : Nat → List (S54) → List (S54) → List (S75) → List (S26) → Int → Int → Int → Bool → Option ((List (S26)))
 | 0, _, _, _, _, _, _, _, _ => none
 | k + 1, x0, x1, x2, x7, x8, x9, x10, x70 => if x70 = true then (if 0 ≤ x8 then (if x8 < (x1.length : Int) then (if 0 ≤ x9 then (if x9 < (x2.length : Int) then (if 0 ≤ x10 then (if x10 < (((rd_T75 x2 x9).f1).length : Int) then ((tableauref24_spot.f k ((rd_T54 x1 x8).f0) ((rd_T54 x1 x8).f1) ((rd_T54 x1 x8).f2) ((rd_T54 x1 x8).f3) ((rd_T54 x1 x8).f4) ((rd_T54 x1 x8).f5) ((rd_T26 ((rd_T75 x2 x9).f1) x10).f0) ((rd_T26 ((rd_T75 x2 x9).f1) x10).f1) ((rd_T26 ((rd_T75 x2 x9).f1) x10).f2) ((rd_T26 ((rd_T75 x2 x9).f1) x10).f3)).bind fun bt335 => ((tableauref09_Add.f k x7 bt335.1 bt335.2.1 bt335.2.2.1 bt335.2.2.2).bind fun t339 => (tableauref24_Changed.l2 k x0 x1 x2 t339 x8 x9 (wrap64 (x10 + 1))))) else (none)) else (none)) else (none)) else (none)) else (none)) else (none)) else (tableauref24_Changed.l1 k x0 x1 x2 x7 x8 (wrap64 (x9 + 1)))
def tableauref24_Changed.j6 : Nat → List (S54) → List (S54) → List (S75) → List (S26) → Int → Option ((List (S26)))
 | 0, _, _, _, _, _ => none
 | k + 1, x0, x1, x2, x7, x8 => if x8 < (x1.length : Int) then (if 0 ≤ x8 then ((tableauref24_rect.f ((rd_T54 x1 x8).f0) ((rd_T54 x1 x8).f1) ((rd_T54 x1 x8).f2) ((rd_T54 x1 x8).f3) ((rd_T54 x1 x8).f4) ((rd_T54 x1 x8).f5)).bind fun bt351 => ((tableauref09_Add.f k x7 bt351.1 bt351.2.1 bt351.2.2.1 bt351.2.2.2).bind fun t355 => (tableauref24_Changed.l0 k x0 x1 x2 t355 (wrap64 (x8 + 1))))) else (none)) else (tableauref24_Changed.l0 k x0 x1 x2 x7 (wrap64 (x8 + 1)))
end
def tableauref24_Changed.f (k : Nat) (l0 : List (S54)) (l1 : List (S54)) (l2 : List (S75)) : Option ((List (S26))) := tableauref24_Changed.l0 k l0 l1 l2 ([] : List (S26)) 0
theorem tableauref24_Changed.mono_l : ∀ k, (∀ y0 y1 y2 y3 y4, LeO (tableauref24_Changed.l0 k y0 y1 y2 y3 y4) (tableauref24_Changed.l0 (k + 1) y0 y1 y2 y3 y4)) ∧ (∀ y0 y1 y2 y3 y4 y5, LeO (tableauref24_Changed.j1 k y0 y1 y2 y3 y4 y5) (tableauref24_Changed.j1 (k + 1) y0 y1 y2 y3 y4 y5)) ∧ (∀ y0 y1 y2 y3 y4 y5, LeO (tableauref24_Changed.j2 k y0 y1 y2 y3 y4 y5) (tableauref24_Changed.j2 (k + 1) y0 y1 y2 y3 y4 y5)) ∧ (∀ y0 y1 y2 y3 y4 y5, LeO (tableauref24_Changed.l1 k y0 y1 y2 y3 y4 y5) (tableauref24_Changed.l1 (k + 1) y0 y1 y2 y3 y4 y5)) ∧ (∀ y0 y1 y2 y3 y4 y5 y6, LeO (tableauref24_Changed.l2 k y0 y1 y2 y3 y4 y5 y6) (tableauref24_Changed.l2 (k + 1) y0 y1 y2 y3 y4 y5 y6)) ∧ (∀ y0 y1 y2 y3 y4 y5 y6 y7, LeO (tableauref24_Changed.j5 k y0 y1 y2 y3 y4 y5 y6 y7) (tableauref24_Changed.j5 (k + 1) y0 y1 y2 y3 y4 y5 y6 y7)) ∧ (∀ y0 y1 y2 y3 y4, LeO (tableauref24_Changed.j6 k y0 y1 y2 y3 y4) (tableauref24_Changed.j6 (k + 1) y0 y1 y2 y3 y4))
 | 0 => ⟨fun _ _ _ _ _ r h => by simp [tableauref24_Changed.l0] at h, fun _ _ _ _ _ _ r h => by simp [tableauref24_Changed.j1] at h, fun _ _ _ _ _ _ r h => by simp [tableauref24_Changed.j2] at h, fun _ _ _ _ _ _ r h => by simp [tableauref24_Changed.l1] at h, fun _ _ _ _ _ _ _ r h => by simp [tableauref24_Changed.l2] at h, fun _ _ _ _ _ _ _ _ r h => by simp [tableauref24_Changed.j5] at h, fun _ _ _ _ _ r h => by simp [tableauref24_Changed.j6] at h⟩
 | k + 1 => by
  obtain ⟨ih0, ih1, ih2, ih3, ih4, ih5, ih6⟩ := tableauref24_Changed.mono_l k
  refine ⟨?_, ?_, ?_, ?_, ?_, ?_, ?_⟩
  · intro y0 y1 y2 y3 y4
    unfold tableauref24_Changed.l0
    repeat' first
    | (with_reducible exact ih0 _ _ _ _ _)
    | (with_reducible exact ih1 _ _ _ _ _ _)
    | (with_reducible exact ih2 _ _ _ _ _ _)
    | (with_reducible exact ih3 _ _ _ _ _ _)
    | (with_reducible exact ih4 _ _ _ _ _ _ _)
    | (with_reducible exact ih5 _ _ _ _ _ _ _ _)
    | (with_reducible exact ih6 _ _ _ _ _)
    | (with_reducible exact tableauref09_Add.mono _ _ _ _ _ _)
    | (with_reducible exact tableauref24_spot.mono _ _ _ _ _ _ _ _ _ _ _)
    | (with_reducible exact LeO.refl _)
    | (with_reducible exact LeO.none _)
    | (with_reducible refine LeO.ite ?_ ?_)
    | (with_reducible refine LeO.bind ?_ (fun _ => ?_))
    | exact ih0 _ _ _ _ _
    | exact ih1 _ _ _ _ _ _
    | exact ih2 _ _ _ _ _ _
    | exact ih3 _ _ _ _ _ _
    | exact ih4 _ _ _ _ _ _ _
    | exact ih5 _ _ _ _ _ _ _ _
    | exact ih6 _ _ _ _ _
    | exact tableauref09_Add.mono _ _ _ _ _ _
    | exact tableauref24_spot.mono _ _ _ _ _ _ _ _ _ _ _
    | exact LeO.none _
    | refine LeO.ite ?_ ?_
    | refine LeO.bind ?_ (fun _ => ?_)
  · intro y0 y1 y2 y3 y4 y5
    unfold tableauref24_Changed.j1
    repeat' first
    | (with_reducible exact ih0 _ _ _ _ _)
    | (with_reducible exact ih1 _ _ _ _ _ _)
    | (with_reducible exact ih2 _ _ _ _ _ _)
    | (with_reducible exact ih3 _ _ _ _ _ _)
    | (with_reducible exact ih4 _ _ _ _ _ _ _)
    | (with_reducible exact ih5 _ _ _ _ _ _ _ _)
    | (with_reducible exact ih6 _ _ _ _ _)
    | (with_reducible exact tableauref09_Add.mono _ _ _ _ _ _)
    | (with_reducible exact tableauref24_spot.mono _ _ _ _ _ _ _ _ _ _ _)
    | (with_reducible exact LeO.refl _)
    | (with_reducible exact LeO.none _)
    | (with_reducible refine LeO.ite ?_ ?_)
    | (with_reducible refine LeO.bind ?_ (fun _ => ?_))
    | exact ih0 _ _ _ _ _
    | exact ih1 _ _ _ _ _ _
    | exact ih2 _ _ _ _ _ _
    | exact ih3 _ _ _ _ _ _
    | exact ih4 _ _ _ _ _ _ _
    | exact ih5 _ _ _ _ _ _ _ _
    | exact ih6 _ _ _ _ _
    | exact tableauref09_Add.mono _ _ _ _ _ _
    | exact tableauref24_spot.mono _ _ _ _ _ _ _ _ _ _ _
    | exact LeO.none _
    | refine LeO.ite ?_ ?_
    | refine LeO.bind ?_ (fun _ => ?_)
  · intro y0 y1 y2 y3 y4 y5
    unfold tableauref24_Changed.j2
    repeat' first
    | (with_reducible exact ih0 _ _ _ _ _)
    | (with_reducible exact ih1 _ _ _ _ _ _)
    | (with_reducible exact ih2 _ _ _ _ _ _)
    | (with_reducible exact ih3 _ _ _ _ _ _)
    | (with_reducible exact ih4 _ _ _ _ _ _ _)
    | (with_reducible exact ih5 _ _ _ _ _ _ _ _)
    | (with_reducible exact ih6 _ _ _ _ _)
    | (with_reducible exact tableauref09_Add.mono _ _ _ _ _ _)
    | (with_reducible exact tableauref24_spot.mono _ _ _ _ _ _ _ _ _ _ _)
    | (with_reducible exact LeO.refl _)
    | (with_reducible exact LeO.none _)
    | (with_reducible refine LeO.ite ?_ ?_)
    | (with_reducible refine LeO.bind ?_ (fun _ => ?_))
    | exact ih0 _ _ _ _ _
    | exact ih1 _ _ _ _ _ _
    | exact ih2 _ _ _ _ _ _
    | exact ih3 _ _ _ _ _ _
    | exact ih4 _ _ _ _ _ _ _
    | exact ih5 _ _ _ _ _ _ _ _
    | exact ih6 _ _ _ _ _
    | exact tableauref09_Add.mono _ _ _ _ _ _
    | exact tableauref24_spot.mono _ _ _ _ _ _ _ _ _ _ _
    | exact LeO.none _
    | refine LeO.ite ?_ ?_
    | refine LeO.bind ?_ (fun _ => ?_)
  · intro y0 y1 y2 y3 y4 y5
    unfold tableauref24_Changed.l1
    repeat' first
    | (with_reducible exact ih0 _ _ _ _ _)
    | (with_reducible exact ih1 _ _ _ _ _ _)
    | (with_reducible exact ih2 _ _ _ _ _ _)
    | (with_reducible exact ih3 _ _ _ _ _ _)
    | (with_reducible exact ih4 _ _ _ _ _ _ _)
    | (with_reducible exact ih5 _ _ _ _ _ _ _ _)
    | (with_reducible exact ih6 _ _ _ _ _)
    | (with_reducible exact tableauref09_Add.mono _ _ _ _ _ _)
    | (with_reducible exact tableauref24_spot.mono _ _ _ _ _ _ _ _ _ _ _)
    | (with_reducible exact LeO.refl _)
    | (with_reducible exact LeO.none _)
    | (with_reducible refine LeO.ite ?_ ?_)
    | (with_reducible refine LeO.bind ?_ (fun _ => ?_))
    | exact ih0 _ _ _ _ _
    | exact ih1 _ _ _ _ _ _
    | exact ih2 _ _ _ _ _ _
    | exact ih3 _ _ _ _ _ _
    | exact ih4 _ _ _ _ _ _ _
    | exact ih5 _ _ _ _ _ _ _ _
    | exact ih6 _ _ _ _ _
    | exact tableauref09_Add.mono _ _ _ _ _ _
    | exact tableauref24_spot.mono _ _ _ _ _ _ _ _ _ _ _
    | exact LeO.none _
    | refine LeO.ite ?_ ?_
    | refine LeO.bind ?_ (fun _ => ?_)
  · intro y0 y1 y2 y3 y4 y5 y6
    unfold tableauref24_Changed.l2
    repeat' first
    | (with_reducible exact ih0 _ _ _ _ _)
    | (with_reducible exact ih1 _ _ _ _ _ _)
    | (with_reducible exact ih2 _ _ _ _ _ _)
    | (with_reducible exact ih3 _ _ _ _ _ _)
    | (with_reducible exact ih4 _ _ _ _ _ _ _)
    | (with_reducible exact ih5 _ _ _ _ _ _ _ _)
    | (with_reducible exact ih6 _ _ _ _ _)
    | (with_reducible exact tableauref09_Add.mono _ _ _ _ _ _)
    | (with_reducible exact tableauref24_spot.mono _ _ _ _ _ _ _ _ _ _ _)
    | (with_reducible exact LeO.refl _)
    | (with_reducible exact LeO.none _)
    | (with_reducible refine LeO.ite ?_ ?_)
    | (with_reducible refine LeO.bind ?_ (fun _ => ?_))
    | exact ih0 _ _ _ _ _
    | exact ih1 _ _ _ _ _ _
    | exact ih2 _ _ _ _ _ _
    | exact ih3 _ _ _ _ _ _
    | exact ih4 _ _ _ _ _ _ _
    | exact ih5 _ _ _ _ _ _ _ _
    | exact ih6 _ _ _ _ _
    | exact tableauref09_Add.mono _ _ _ _ _ _
    | exact tableauref24_spot.mono _ _ _ _ _ _ _ _ _ _ _
    | exact LeO.none _
    | refine LeO.ite ?_ ?_
    | refine LeO.bind ?_ (fun _ => ?_)
  · intro y0 y1 y2 y3 y4 y5 y6 y7
    unfold tableauref24_Changed.j5
    repeat' first
    | (with_reducible exact ih0 _ _ _ _ _)
    | (with_reducible exact ih1 _ _ _ _ _ _)
    | (with_reducible exact ih2 _ _ _ _ _ _)
    | (with_reducible exact ih3 _ _ _ _ _ _)
    | (with_reducible exact ih4 _ _ _ _ _ _ _)
    | (with_reducible exact ih5 _ _ _ _ _ _ _ _)
    | (with_reducible exact ih6 _ _ _ _ _)
    | (with_reducible exact tableauref09_Add.mono _ _ _ _ _ _)
    | (with_reducible exact tableauref24_spot.mono _ _ _ _ _ _ _ _ _ _ _)
    | (with_reducible exact LeO.refl _)
    | (with_reducible exact LeO.none _)
    | (with_reducible refine LeO.ite ?_ ?_)
    | (with_reducible refine LeO.bind ?_ (fun _ => ?_))
    | exact ih0 _ _ _ _ _
    | exact ih1 _ _ _ _ _ _
    | exact ih2 _ _ _ _ _ _
    | exact ih3 _ _ _ _ _ _
    | exact ih4 _ _ _ _ _ _ _
    | exact ih5 _ _ _ _ _ _ _ _
    | exact ih6 _ _ _ _ _
    | exact tableauref09_Add.mono _ _ _ _ _ _
    | exact tableauref24_spot.mono _ _ _ _ _ _ _ _ _ _ _
    | exact LeO.none _
    | refine LeO.ite ?_ ?_
    | refine LeO.bind ?_ (fun _ => ?_)
  · intro y0 y1 y2 y3 y4
    unfold tableauref24_Changed.j6
    repeat' first
    | (with_reducible exact ih0 _ _ _ _ _)
    | (with_reducible exact ih1 _ _ _ _ _ _)
    | (with_reducible exact ih2 _ _ _ _ _ _)
    | (with_reducible exact ih3 _ _ _ _ _ _)
    | (with_reducible exact ih4 _ _ _ _ _ _ _)
    | (with_reducible exact ih5 _ _ _ _ _ _ _ _)
    | (with_reducible exact ih6 _ _ _ _ _)
    | (with_reducible exact tableauref09_Add.mono _ _ _ _ _ _)
    | (with_reducible exact tableauref24_spot.mono _ _ _ _ _ _ _ _ _ _ _)
    | (with_reducible exact LeO.refl _)
    | (with_reducible exact LeO.none _)
    | (with_reducible refine LeO.ite ?_ ?_)
    | (with_reducible refine LeO.bind ?_ (fun _ => ?_))
    | exact ih0 _ _ _ _ _
    | exact ih1 _ _ _ _ _ _
    | exact ih2 _ _ _ _ _ _
    | exact ih3 _ _ _ _ _ _
    | exact ih4 _ _ _ _ _ _ _
    | exact ih5 _ _ _ _ _ _ _ _
    | exact ih6 _ _ _ _ _
    | exact tableauref09_Add.mono _ _ _ _ _ _
    | exact tableauref24_spot.mono _ _ _ _ _ _ _ _ _ _ _
    | exact LeO.none _
    | refine LeO.ite ?_ ?_
    | refine LeO.bind ?_ (fun _ => ?_)
theorem tableauref24_Changed.mono : ∀ a0 a1 a2 k, LeO (tableauref24_Changed.f k a0 a1 a2) (tableauref24_Changed.f (k + 1) a0 a1 a2) := by
 intro a0 a1 a2 k
 obtain ⟨ih0, ih1, ih2, ih3, ih4, ih5, ih6⟩ := tableauref24_Changed.mono_l k
 unfold tableauref24_Changed.f
 repeat' first
  | (with_reducible exact ih0 _ _ _ _ _)
  | (with_reducible exact ih1 _ _ _ _ _ _)
  | (with_reducible exact ih2 _ _ _ _ _ _)
  | (with_reducible exact ih3 _ _ _ _ _ _)
  | (with_reducible exact ih4 _ _ _ _ _ _ _)
  | (with_reducible exact ih5 _ _ _ _ _ _ _ _)
  | (with_reducible exact ih6 _ _ _ _ _)
  | (with_reducible exact tableauref09_Add.mono _ _ _ _ _ _)
  | (with_reducible exact tableauref24_spot.mono _ _ _ _ _ _ _ _ _ _ _)
  | (with_reducible exact LeO.refl _)
  | (with_reducible exact LeO.none _)
  | (with_reducible refine LeO.ite ?_ ?_)
  | (with_reducible refine LeO.bind ?_ (fun _ => ?_))
  | exact ih0 _ _ _ _ _
  | exact ih1 _ _ _ _ _ _
  | exact ih2 _ _ _ _ _ _
  | exact ih3 _ _ _ _ _ _
  | exact ih4 _ _ _ _ _ _ _
  | exact ih5 _ _ _ _ _ _ _ _
  | exact ih6 _ _ _ _ _
  | exact tableauref09_Add.mono _ _ _ _ _ _
  | exact tableauref24_spot.mono _ _ _ _ _ _ _ _ _ _ _
  | exact LeO.none _
  | refine LeO.ite ?_ ?_
  | refine LeO.bind ?_ (fun _ => ?_)
def tableauref24_Changed.T5 : Bool × List (List Nat × List Nat) := (true, [([], []), ([], []), ([1], [1]), ([0, 2], [0, 2]), ([3], [3]), ([4], [4]), ([4], [4]), ([6, 4], [4, 6]), ([5, 7, 4], [4, 5, 7]), ([4, 8], [4, 8]), ([9, 4], [9]), ([10], [10]), ([10], [10]), ([11, 12, 10], [10, 11, 12]), ([13, 10], [10, 13]), ([10], [10]), ([10], [10]), ([15, 16, 10], [10, 15, 16]), ([17, 10], [10, 17]), ([14, 18, 10], [10, 14, 18]), ([10, 19], [10, 19])])
def tableauref24_Changed.B5 : List Nat := [0, 0, 2, 7, 15, 31, 31, 95, 255, 511, 1023, 2047, 2047, 8191, 16383, 2047, 2047, 100351, 231423, 524287, 1048575]
theorem tableauref24_Changed.tab5 : rtab .any (opsOf Try.f44 5) = tableauref24_Changed.T5 := by kernel_rfl
theorem tableauref24_Changed.bits5 : waitsOk tableauref24_Changed.T5.2 tableauref24_Changed.B5 = true := by kernel_rfl
def tableauref24_Changed.T10 : Bool × List (List Nat × List Nat) := (true, [([], []), ([], []), ([0, 1], [0, 1]), ([2], [2]), ([3], [3]), ([], []), ([], []), ([5, 6], [5, 6]), ([7], [7]), ([8], [8]), ([4, 9], [4, 9]), ([10], [10]), ([11], [11]), ([11], [11]), ([11], [11]), ([13, 14, 11], [11, 13, 14]), ([15, 11], [11, 15]), ([16, 11], [11, 16]), ([17, 11], [11, 17]), ([12, 18, 11], [11, 12, 18]), ([11, 19], [11, 19])])
def tableauref24_Changed.B10 : List Nat := [0, 0, 3, 7, 15, 0, 0, 96, 224, 480, 1023, 2047, 4095, 4095, 4095, 28671, 61439, 126975, 258047, 524287, 1048575]
theorem tableauref24_Changed.tab10 : rtab .any (opsOf Try.f44 10) = tableauref24_Changed.T10 := by kernel_rfl
theorem tableauref24_Changed.bits10 : waitsOk tableauref24_Changed.T10.2 tableauref24_Changed.B10 = true := by kernel_rfl
def tableauref24_Changed.T12 : Bool × List (List Nat × List Nat) := (true, [([], []), ([], []), ([], []), ([1, 2], [1, 2]), ([3], [3]), ([], []), ([], []), ([5, 6], [5, 6]), ([7], [7]), ([8], [8]), ([], []), ([9, 10], [9, 10]), ([11], [11]), ([4, 12], [4, 12]), ([0, 13, 13], [0, 13]), ([14, 14, 0, 1, 2, 3, 4, 5, 6, 7, 8, 9, 10, 11, 12, 13, 14], [0, 14])])
def tableauref24_Changed.B12 : List Nat := [0, 0, 0, 6, 14, 0, 0, 96, 224, 480, 0, 2016, 4064, 8190, 16383, 32767]
theorem tableauref24_Changed.tab12 : rtab .any (opsOf Try.f44 12) = tableauref24_Changed.T12 := by kernel_rfl
theorem tableauref24_Changed.bits12 : waitsOk tableauref24_Changed.T12.2 tableauref24_Changed.B12 = true := by kernel_rfl
set_option maxHeartbeats 8000000 in
set_option maxRecDepth 100000 in
theorem tableauref24_Changed.calls (k : Nat) (A0 : Option Addr) (c0 : Nat) (l0 : List (S54)) (A1 : Option Addr) (c1 : Nat) (l1 : List (S54)) (A2 : Option Addr) (c2 : Nat) (l2 : List (S75)) (r : List (S26)) (w : World) (hr0 : Kd.C k54 w A0 l0.length l0) (hc0 : l0.length ≤ c0) (hr1 : Kd.C k54 w A1 l1.length l1) (hc1 : l1.length ≤ c1) (hr2 : Kd.C k75 w A2 l2.length l2) (hc2 : l2.length ≤ c2) (h : tableauref24_Changed.f k l0 l1 l2 = some r) :
 Calls Try.prog 44 #[.slice A0 l0.length c0, .slice A1 l1.length c1, .slice A2 l2.length c2] w fun e w' => ∃ v0_ : Value, e = .returned (v0_) ∧ Kd.R k26 26 w' w.heap.size (fun _ => True) v0_ r ∧ Below w.heap.size w w' := by
 have hu54 := Try.underlying54
 have hu26 := Try.underlying26
 have HR0 := Aside0.mk hr0
 have HC0 := Aside0.mk hc0
 clear hr0 hc0
 have HR1 := Aside0.mk hr1
 have HC1 := Aside0.mk hc1
 clear hr1 hc1
 have HR2 := Aside0.mk hr2
 have HC2 := Aside0.mk hc2
 clear hr2 hc2
 have HB := Aside0.mk (Below.refl w.heap.size w)
 have H : (tableauref24_Changed.l0 k l0 l1 l2 ([] : List (S26)) 0) = some r := h
 clear h
 have H' := Aside0.mk H
 clear H
 go_enter Try.func44, Try.ntmps44
 go_wp2
 go_loopg [7, 8] k (fun kq v7 v8 w' => ∃ (x7_1 : List (S26)) (x8_1 : Int), v8 = .int .i64 x8_1 ∧ Aside0 (tableauref24_Changed.l0 kq l0 l1 l2 x7_1 x8_1 = some r) ∧ Aside0 (kq ≤ k) ∧ Aside0 (Kd.R k26 26 w' w.heap.size (fun _ => True) v7 x7_1) ∧ Aside0 (Below w.heap.size w w'))
 case atStart => exact ⟨(([] : List (S26))), (0), (by first | rfl | (simp; done) | (simp [*]; done)), H', ⟨Nat.le_refl _⟩, ⟨by first | exact Kd.R_nil _ _ _ _ _ | exact Kd.N_nil _ _ _ _ _ | exact Kd.V_nil _ _ _ _ _ | exact Kd.Q_nil _ _ _ _ _ | exact Kd.S_nil _ _ _ _ _⟩, ⟨by repeat (first | (with_reducible first | exact HB.out | apply pbA | apply pbN | apply pbD) | exact HB.out)⟩⟩
 case round =>
  clear H'
  try clear c1
  try clear c2
  try clear p2
  obtain ⟨x7_1, x8_1, rfl, HA, HK1, HO_7, HB⟩ := hrel
  cases gk with
  | zero => exact absurd HA.out (by simp [tableauref24_Changed.l0])
  | succ k1 =>
   have H := HA.out
   clear HA
   simp only [tableauref24_Changed.l0] at H
   have HC4 := Aside0.mk H
   clear H
   go_upto_region 3 with (fail)
   go_cut [20] (fun v20 wc => ∃ (kq : Nat) (x20_3 : Bool), v20 = .bool x20_3 ∧ Aside0 (tableauref24_Changed.j1 kq l0 l1 l2 x7_1 x8_1 x20_3 = some r) ∧ Aside0 (kq ≤ k1) ∧ Aside0 (Kd.R k26 26 wc w.heap.size (fun _ => True) u7 x7_1) ∧ Aside0 (Below w.heap.size w wc))
   case first =>
    have H := HC4.out
    clear HC4
    by_cases c5 : x8_1 < (l0.length : Int)
    · rw [if_pos c5] at H
      have c5b0 : decide (x8_1 < (l0.length : Int)) = true := decide_eq_true c5
      clear c5
      (first | rw [c5b0] | (simp only [i64_w, i32_w]; rw [c5b0]) | skip)
      have H' := Aside0.mk H
      clear H
      go_wp2
      go_meet
      case rel => exact ⟨_, (true), (by first | rfl | (simp; done) | (simp [*]; done)), H', ⟨by have := HK1.out; first | omega | exact Nat.le_refl _⟩, ⟨by (with_reducible repeat (first | apply Kd.R_alloc | apply Kd.R_drewN | apply Kd.R_drew)); exact HO_7.out⟩, ⟨by repeat (first | (with_reducible first | exact HB.out | apply pbA | apply pbN | apply pbD) | exact HB.out)⟩⟩
    · rw [if_neg c5] at H
      have c5b0 : decide (x8_1 < (l0.length : Int)) = false := decide_eq_false c5
      clear c5
      (first | rw [c5b0] | (simp only [i64_w, i32_w]; rw [c5b0]) | skip)
      have H' := Aside0.mk H
      clear H
      go_wp2
      go_meet
      case rel => exact ⟨_, (decide (x8_1 < (l1.length : Int))), (by first | rfl | (simp; done) | (simp [*]; done)), H', ⟨by have := HK1.out; first | omega | exact Nat.le_refl _⟩, ⟨by (with_reducible repeat (first | apply Kd.R_alloc | apply Kd.R_drewN | apply Kd.R_drew)); exact HO_7.out⟩, ⟨by repeat (first | (with_reducible first | exact HB.out | apply pbA | apply pbN | apply pbD) | exact HB.out)⟩⟩
   case rest =>
    clear HC4
    try clear c1
    try clear c2
    try clear p2
    try clear c4
    try clear c5
    try clear c5b0
    try clear p2
    obtain ⟨kq, x20_3, rfl, HA, HJ3, HO_7, HB⟩ := hcut
    cases kq with
    | zero => exact absurd HA.out (by simp [tableauref24_Changed.j1])
    | succ kj3 =>
     have H := HA.out
     clear HA
     simp only [tableauref24_Changed.j1] at H
     by_cases c6 : x20_3 = true
     · subst c6
       have H1 : (if x8_1 < (l0.length : Int) then (if x8_1 < (l1.length : Int) then (if 0 ≤ x8_1 then (tableauref24_Changed.j2 kj3 l0 l1 l2 x7_1 x8_1 (((rd_T54 l0 x8_1).f0) == ((rd_T54 l1 x8_1).f0) && (((rd_T54 l0 x8_1).f1) == ((rd_T54 l1 x8_1).f1) && (((rd_T54 l0 x8_1).f2) == ((rd_T54 l1 x8_1).f2) && (((rd_T54 l0 x8_1).f3) == ((rd_T54 l1 x8_1).f3) && (((rd_T54 l0 x8_1).f4) == ((rd_T54 l1 x8_1).f4) && (((rd_T54 l0 x8_1).f5) == ((rd_T54 l1 x8_1).f5)))))))) else (none)) else (tableauref24_Changed.j2 kj3 l0 l1 l2 x7_1 x8_1 false)) else (tableauref24_Changed.j2 kj3 l0 l1 l2 x7_1 x8_1 false)) = some r := by rw [if_pos rfl] at H; exact H
       clear H
       have H := H1
       clear H1
       have HC7 := Aside0.mk H
       clear H
       go_upto_region 5 with (fail)
       go_cut [43] (fun v43 wc => ∃ (kq : Nat) (x43_6 : Bool), v43 = .bool x43_6 ∧ Aside0 (tableauref24_Changed.j2 kq l0 l1 l2 x7_1 x8_1 x43_6 = some r) ∧ Aside0 (kq ≤ kj3) ∧ Aside0 (Kd.R k26 26 wc w.heap.size (fun _ => True) u7 x7_1) ∧ Aside0 (Below w.heap.size w wc))
       case first =>
        have H := HC7.out
        clear HC7
        by_cases c8 : x8_1 < (l0.length : Int)
        · rw [if_pos c8] at H
          have c8b0 : decide (x8_1 < (l0.length : Int)) = true := decide_eq_true c8
          clear c8
          (first | rw [c8b0] | (simp only [i64_w, i32_w]; rw [c8b0]) | skip)
          by_cases c9 : x8_1 < (l1.length : Int)
          · rw [if_pos c9] at H
            have c9b0 : decide (x8_1 < (l1.length : Int)) = true := decide_eq_true c9
            clear c9
            by_cases c10 : 0 ≤ x8_1
            · rw [if_pos c10] at H
              have c10b0 : decide (0 ≤ x8_1) = true := decide_eq_true c10
              clear c10
              have H' := Aside0.mk H
              clear H
              try go_wp2
              have n0_ := Aside0.mk (Kd.R_drew HO_7.out)
              have n1_ := Aside0.mk (pbD HB.out)
              clear HO_7
              clear HB
              have HO_7 := n0_
              have HB := n1_
              clear n0_ n1_
              have p327 : 0 ≤ (x8_1 : Int) := of_decide_eq_true (by first | (with_reducible assumption) | assumption)
              have q327 : x8_1 < (l0.length : Int) := of_decide_eq_true (by first | (with_reducible assumption) | assumption)
              obtain ⟨ad327, e327, hx327_0, hx327_1, hx327_2, hx327_3, hx327_4, hx327_5⟩ := at_T54 HR0.out x8_1 p327 q327
              have hw327_5 := hx327_5
              have hw327_4 := hx327_4
              have hw327_3 := hx327_3
              have hw327_2 := hx327_2
              have hw327_1 := hx327_1
              have hw327_0 := hx327_0
              cases e327
              replace hx327_0 := (HB.out.cell (World.block_lt_of_cell? w _ hx327_0)).trans hx327_0
              replace hx327_1 := (HB.out.cell (World.block_lt_of_cell? w _ hx327_1)).trans hx327_1
              replace hx327_2 := (HB.out.cell (World.block_lt_of_cell? w _ hx327_2)).trans hx327_2
              replace hx327_3 := (HB.out.cell (World.block_lt_of_cell? w _ hx327_3)).trans hx327_3
              replace hx327_4 := (HB.out.cell (World.block_lt_of_cell? w _ hx327_4)).trans hx327_4
              replace hx327_5 := (HB.out.cell (World.block_lt_of_cell? w _ hx327_5)).trans hx327_5
              replace p327 := eq_true p327
              replace q327 := eq_true q327
              have p328 : 0 ≤ (x8_1 : Int) := of_decide_eq_true (by first | (with_reducible assumption) | assumption)
              have q328 : x8_1 < (l1.length : Int) := of_decide_eq_true (by first | (with_reducible assumption) | assumption)
              obtain ⟨ad328, e328, hx328_0, hx328_1, hx328_2, hx328_3, hx328_4, hx328_5⟩ := at_T54 HR1.out x8_1 p328 q328
              have hw328_5 := hx328_5
              have hw328_4 := hx328_4
              have hw328_3 := hx328_3
              have hw328_2 := hx328_2
              have hw328_1 := hx328_1
              have hw328_0 := hx328_0
              cases e328
              replace hx328_0 := (HB.out.cell (World.block_lt_of_cell? w _ hx328_0)).trans hx328_0
              replace hx328_1 := (HB.out.cell (World.block_lt_of_cell? w _ hx328_1)).trans hx328_1
              replace hx328_2 := (HB.out.cell (World.block_lt_of_cell? w _ hx328_2)).trans hx328_2
              replace hx328_3 := (HB.out.cell (World.block_lt_of_cell? w _ hx328_3)).trans hx328_3
              replace hx328_4 := (HB.out.cell (World.block_lt_of_cell? w _ hx328_4)).trans hx328_4
              replace hx328_5 := (HB.out.cell (World.block_lt_of_cell? w _ hx328_5)).trans hx328_5
              replace p328 := eq_true p328
              replace q328 := eq_true q328
              refine start_ (n := 21) (S := fun w' => w'.cell? (ad327.add ((x8_1).toNat * 6)) = some (.int .i64 ((rd_T54 l0 x8_1).f0)) ∧ w'.cell? ⟨(ad327.add ((x8_1).toNat * 6)).block, (ad327.add ((x8_1).toNat * 6)).off + 1, none⟩ = some (.int .i64 ((rd_T54 l0 x8_1).f1)) ∧ w'.cell? ⟨(ad327.add ((x8_1).toNat * 6)).block, (ad327.add ((x8_1).toNat * 6)).off + 2, none⟩ = some (.int .i64 ((rd_T54 l0 x8_1).f2)) ∧ w'.cell? ⟨(ad327.add ((x8_1).toNat * 6)).block, (ad327.add ((x8_1).toNat * 6)).off + 3, none⟩ = some (.int .i64 ((rd_T54 l0 x8_1).f3)) ∧ w'.cell? ⟨(ad327.add ((x8_1).toNat * 6)).block, (ad327.add ((x8_1).toNat * 6)).off + 4, none⟩ = some (.int .i64 ((rd_T54 l0 x8_1).f4)) ∧ w'.cell? ⟨(ad327.add ((x8_1).toNat * 6)).block, (ad327.add ((x8_1).toNat * 6)).off + 5, none⟩ = some (.int .i64 ((rd_T54 l0 x8_1).f5)) ∧ w'.cell? (ad328.add ((x8_1).toNat * 6)) = some (.int .i64 ((rd_T54 l1 x8_1).f0)) ∧ w'.cell? ⟨(ad328.add ((x8_1).toNat * 6)).block, (ad328.add ((x8_1).toNat * 6)).off + 1, none⟩ = some (.int .i64 ((rd_T54 l1 x8_1).f1)) ∧ w'.cell? ⟨(ad328.add ((x8_1).toNat * 6)).block, (ad328.add ((x8_1).toNat * 6)).off + 2, none⟩ = some (.int .i64 ((rd_T54 l1 x8_1).f2)) ∧ w'.cell? ⟨(ad328.add ((x8_1).toNat * 6)).block, (ad328.add ((x8_1).toNat * 6)).off + 3, none⟩ = some (.int .i64 ((rd_T54 l1 x8_1).f3)) ∧ w'.cell? ⟨(ad328.add ((x8_1).toNat * 6)).block, (ad328.add ((x8_1).toNat * 6)).off + 4, none⟩ = some (.int .i64 ((rd_T54 l1 x8_1).f4)) ∧ w'.cell? ⟨(ad328.add ((x8_1).toNat * 6)).block, (ad328.add ((x8_1).toNat * 6)).off + 5, none⟩ = some (.int .i64 ((rd_T54 l1 x8_1).f5))) (ds := []) #[false, false, false, false, false, false, false, false, false, false, false, false, false, false, false, false, false, false, false, false, false] (by kernel_rfl) rfl rfl ⟨((HB.out.cell (World.block_lt_of_cell? w _ hw327_0)).trans hw327_0), ((HB.out.cell (World.block_lt_of_cell? w _ hw327_1)).trans hw327_1), ((HB.out.cell (World.block_lt_of_cell? w _ hw327_2)).trans hw327_2), ((HB.out.cell (World.block_lt_of_cell? w _ hw327_3)).trans hw327_3), ((HB.out.cell (World.block_lt_of_cell? w _ hw327_4)).trans hw327_4), ((HB.out.cell (World.block_lt_of_cell? w _ hw327_5)).trans hw327_5), ((HB.out.cell (World.block_lt_of_cell? w _ hw328_0)).trans hw328_0), ((HB.out.cell (World.block_lt_of_cell? w _ hw328_1)).trans hw328_1), ((HB.out.cell (World.block_lt_of_cell? w _ hw328_2)).trans hw328_2), ((HB.out.cell (World.block_lt_of_cell? w _ hw328_3)).trans hw328_3), ((HB.out.cell (World.block_lt_of_cell? w _ hw328_4)).trans hw328_4), ((HB.out.cell (World.block_lt_of_cell? w _ hw328_5)).trans hw328_5)⟩ (fun hHeld => ?_); refine with_tabW tableauref24_Changed.tab5 tableauref24_Changed.bits5 (fun HT_ HW_ => ?_)
              generalize wc.drew = w11 at HO_7 HB hx327_0 hx327_1 hx327_2 hx327_3 hx327_4 hx327_5 hx328_0 hx328_1 hx328_2 hx328_3 hx328_4 hx328_5 hHeld ⊢
              refine pure_ (i := 0) (N := some 23) (v := ?_) (a' := ?_) #[true, false, false, false, false, false, false, false, false, false, false, false, false, false, false, false, false, false, false, false, false] rfl rfl (any_of HT_.out (by kernel_rfl)) (fun _ _ _ h => h) (Or.inl ⟨by rfl, ?_⟩) ?_ ?_
              rotate_left
              · intro w'
                go_simp
                with_reducible rfl
              rotate_left
              · simp only [Act.put, List.setIfInBounds_toArray, List.set_cons_zero, List.set_cons_succ, i64_w, i32_w]
                rfl
              refine pure_ (i := 1) (N := some 24) (v := ?_) (a' := ?_) #[true, true, false, false, false, false, false, false, false, false, false, false, false, false, false, false, false, false, false, false, false] rfl rfl (any_of HT_.out (by kernel_rfl)) (fun _ _ _ h => h) (Or.inl ⟨by rfl, ?_⟩) ?_ ?_
              rotate_left
              · intro w'
                go_simp
                with_reducible rfl
              rotate_left
              · simp only [Act.put, List.setIfInBounds_toArray, List.set_cons_zero, List.set_cons_succ, i64_w, i32_w]
                rfl
              refine pure_ (i := 2) (N := some 25) (v := ?_) (a' := ?_) #[true, true, true, false, false, false, false, false, false, false, false, false, false, false, false, false, false, false, false, false, false] rfl rfl (any_of HT_.out (by kernel_rfl)) (fun _ _ _ h => h) (Or.inl ⟨by rfl, ?_⟩) ?_ ?_
              rotate_left
              · intro w'
                go_simp
                with_reducible rfl
              rotate_left
              · simp only [Act.put, List.setIfInBounds_toArray, List.set_cons_zero, List.set_cons_succ, i64_w, i32_w]
                rfl
              refine pure_ (i := 3) (N := some 26) (v := ?_) (a' := ?_) #[true, true, true, true, false, false, false, false, false, false, false, false, false, false, false, false, false, false, false, false, false] rfl rfl (any_of HT_.out (by kernel_rfl)) (fun _ _ _ h => h) (Or.inl ⟨by rfl, ?_⟩) ?_ ?_
              rotate_left
              · intro w'
                go_simp
                with_reducible rfl
              rotate_left
              · simp only [Act.put, List.setIfInBounds_toArray, List.set_cons_zero, List.set_cons_succ, i64_w, i32_w]
                rfl
              refine pure_ (i := 4) (N := some 27) (v := ?_) (a' := ?_) #[true, true, true, true, true, false, false, false, false, false, false, false, false, false, false, false, false, false, false, false, false] rfl rfl (any_of HT_.out (by kernel_rfl)) (fun _ _ _ h => h) (Or.inl ⟨by rfl, ?_⟩) ?_ ?_
              rotate_left
              · intro w'
                go_simp
                with_reducible rfl
              rotate_left
              · simp only [Act.put, List.setIfInBounds_toArray, List.set_cons_zero, List.set_cons_succ, i64_w, i32_w]
                rfl
              refine pure_ (i := 5) (N := some 28) (v := ?_) (a' := ?_) #[true, true, true, true, true, true, false, false, false, false, false, false, false, false, false, false, false, false, false, false, false] rfl rfl (any_of HT_.out (by kernel_rfl)) (fun _ _ _ h => h) (Or.inl ⟨by rfl, ?_⟩) ?_ ?_
              rotate_left
              · intro w'
                go_simp
                with_reducible rfl
              rotate_left
              · simp only [Act.put, List.setIfInBounds_toArray, List.set_cons_zero, List.set_cons_succ, i64_w, i32_w]
                rfl
              refine pure_ (i := 6) (N := some 29) (v := ?_) (a' := ?_) #[true, true, true, true, true, true, true, false, false, false, false, false, false, false, false, false, false, false, false, false, false] rfl rfl (any_of HT_.out (by kernel_rfl)) (fun _ _ _ h => h) (Or.inl ⟨by rfl, ?_⟩) ?_ ?_
              rotate_left
              · intro w'
                go_simp
                with_reducible rfl
              rotate_left
              · simp only [Act.put, List.setIfInBounds_toArray, List.set_cons_zero, List.set_cons_succ, i64_w, i32_w]
                rfl
              refine pure_ (i := 7) (N := some 30) (v := ?_) (a' := ?_) #[true, true, true, true, true, true, true, true, false, false, false, false, false, false, false, false, false, false, false, false, false] rfl rfl (any_of HT_.out (by kernel_rfl)) (fun _ _ _ h => h) (Or.inl ⟨by rfl, ?_⟩) ?_ ?_
              rotate_left
              · intro w'
                go_simp
                with_reducible rfl
              rotate_left
              · simp only [Act.put, List.setIfInBounds_toArray, List.set_cons_zero, List.set_cons_succ, i64_w, i32_w]
                rfl
              refine pure_ (i := 8) (N := some 31) (v := ?_) (a' := ?_) #[true, true, true, true, true, true, true, true, true, false, false, false, false, false, false, false, false, false, false, false, false] rfl rfl (any_of HT_.out (by kernel_rfl)) (fun _ _ _ h => h) (Or.inl ⟨by rfl, ?_⟩) ?_ ?_
              rotate_left
              · intro w'
                go_simp
                with_reducible rfl
              rotate_left
              · simp only [Act.put, List.setIfInBounds_toArray, List.set_cons_zero, List.set_cons_succ, i64_w, i32_w]
                rfl
              refine pure_ (i := 9) (N := some 32) (v := ?_) (a' := ?_) #[true, true, true, true, true, true, true, true, true, true, false, false, false, false, false, false, false, false, false, false, false] rfl rfl (any_of HT_.out (by kernel_rfl)) (fun _ _ _ h => h) (Or.inl ⟨by rfl, ?_⟩) ?_ ?_
              rotate_left
              · intro w'
                go_simp
                with_reducible rfl
              rotate_left
              · simp only [Act.put, List.setIfInBounds_toArray, List.set_cons_zero, List.set_cons_succ, i64_w, i32_w]
                rfl
              refine pure_ (i := 10) (N := some 33) (v := ?_) (a' := ?_) #[true, true, true, true, true, true, true, true, true, true, true, false, false, false, false, false, false, false, false, false, false] rfl rfl (any_of HT_.out (by kernel_rfl)) (fun _ _ _ h => h) (Or.inl ⟨by rfl, ?_⟩) ?_ ?_
              rotate_left
              · intro w'
                go_simp
                with_reducible rfl
              rotate_left
              · simp only [Act.put, List.setIfInBounds_toArray, List.set_cons_zero, List.set_cons_succ, i64_w, i32_w]
                rfl
              refine pure_ (i := 11) (N := some 34) (v := ?_) (a' := ?_) #[true, true, true, true, true, true, true, true, true, true, true, true, false, false, false, false, false, false, false, false, false] rfl rfl (any_of HT_.out (by kernel_rfl)) (fun _ _ _ h => h) (Or.inl ⟨by rfl, ?_⟩) ?_ ?_
              rotate_left
              · intro w'
                go_simp
                with_reducible rfl
              rotate_left
              · simp only [Act.put, List.setIfInBounds_toArray, List.set_cons_zero, List.set_cons_succ, i64_w, i32_w]
                rfl
              refine pure_ (i := 12) (N := some 35) (v := ?_) (a' := ?_) #[true, true, true, true, true, true, true, true, true, true, true, true, true, false, false, false, false, false, false, false, false] rfl rfl (any_of HT_.out (by kernel_rfl)) (fun _ _ _ h => h) (Or.inl ⟨by rfl, ?_⟩) ?_ ?_
              rotate_left
              · intro w'
                go_simp
                with_reducible rfl
              rotate_left
              · simp only [Act.put, List.setIfInBounds_toArray, List.set_cons_zero, List.set_cons_succ, i64_w, i32_w]
                rfl
              refine pure_ (i := 13) (N := some 36) (v := ?_) (a' := ?_) #[true, true, true, true, true, true, true, true, true, true, true, true, true, true, false, false, false, false, false, false, false] rfl rfl (any_of HT_.out (by kernel_rfl)) (fun _ _ _ h => h) (Or.inl ⟨by rfl, ?_⟩) ?_ ?_
              rotate_left
              · intro w'
                go_simp
                with_reducible rfl
              rotate_left
              · simp only [Act.put, List.setIfInBounds_toArray, List.set_cons_zero, List.set_cons_succ, i64_w, i32_w]
                rfl
              refine pure_ (i := 15) (N := some 38) (v := ?_) (a' := ?_) #[true, true, true, true, true, true, true, true, true, true, true, true, true, true, false, true, false, false, false, false, false] rfl rfl (any_of HT_.out (by kernel_rfl)) (fun _ _ _ h => h) (Or.inl ⟨by rfl, ?_⟩) ?_ ?_
              rotate_left
              · intro w'
                go_simp
                with_reducible rfl
              rotate_left
              · simp only [Act.put, List.setIfInBounds_toArray, List.set_cons_zero, List.set_cons_succ, i64_w, i32_w]
                rfl
              refine pure_ (i := 16) (N := some 39) (v := ?_) (a' := ?_) #[true, true, true, true, true, true, true, true, true, true, true, true, true, true, false, true, true, false, false, false, false] rfl rfl (any_of HT_.out (by kernel_rfl)) (fun _ _ _ h => h) (Or.inl ⟨by rfl, ?_⟩) ?_ ?_
              rotate_left
              · intro w'
                go_simp
                with_reducible rfl
              rotate_left
              · simp only [Act.put, List.setIfInBounds_toArray, List.set_cons_zero, List.set_cons_succ, i64_w, i32_w]
                rfl
              refine pure_ (i := 17) (N := some 40) (v := ?_) (a' := ?_) #[true, true, true, true, true, true, true, true, true, true, true, true, true, true, false, true, true, true, false, false, false] rfl rfl (any_of HT_.out (by kernel_rfl)) (fun _ _ _ h => h) (Or.inl ⟨by rfl, ?_⟩) ?_ ?_
              rotate_left
              · intro w'
                go_simp
                with_reducible rfl
              rotate_left
              · simp only [Act.put, List.setIfInBounds_toArray, List.set_cons_zero, List.set_cons_succ, i64_w, i32_w]
                rfl
              refine take_ (i := 14) (N := some 37) (v := ?_) (a' := ?_) #[true, true, true, true, true, true, true, true, true, true, true, true, true, true, true, true, true, true, false, false, false] rfl rfl (take_ofW HT_.out HW_.out (by kernel_rfl)) (fun _ _ _ h => h) (Or.inl ⟨by rfl, ?_⟩) hHeld ?_ ?_
              rotate_left
              · rintro w' ⟨s0, s1, s2, s3, s4, s5, s6, s7, s8, s9, s10, s11⟩
                go_simp
                with_reducible rfl
              rotate_left
              · simp only [Act.put, List.setIfInBounds_toArray, List.set_cons_zero, List.set_cons_succ, i64_w, i32_w]
                rfl
              refine take_ (i := 18) (N := some 41) (v := ?_) (a' := ?_) #[true, true, true, true, true, true, true, true, true, true, true, true, true, true, true, true, true, true, true, false, false] rfl rfl (take_ofW HT_.out HW_.out (by kernel_rfl)) (fun _ _ _ h => h) (Or.inl ⟨by rfl, ?_⟩) hHeld ?_ ?_
              rotate_left
              · rintro w' ⟨s0, s1, s2, s3, s4, s5, s6, s7, s8, s9, s10, s11⟩
                go_simp
                with_reducible rfl
              rotate_left
              · simp only [Act.put, List.setIfInBounds_toArray, List.set_cons_zero, List.set_cons_succ, i64_w, i32_w]
                rfl
              refine pure_ (i := 19) (N := some 42) (v := ?_) (a' := ?_) #[true, true, true, true, true, true, true, true, true, true, true, true, true, true, true, true, true, true, true, true, false] rfl rfl (any_of HT_.out (by kernel_rfl)) (fun _ _ _ h => h) (Or.inl ⟨by rfl, ?_⟩) ?_ ?_
              rotate_left
              · intro w'
                go_simp
                with_reducible rfl
              rotate_left
              · simp only [Act.put, List.setIfInBounds_toArray, List.set_cons_zero, List.set_cons_succ, i64_w, i32_w]
                rfl
              refine pure_ (i := 20) (N := some 43) (v := ?_) (a' := ?_) #[true, true, true, true, true, true, true, true, true, true, true, true, true, true, true, true, true, true, true, true, true] rfl rfl (any_of HT_.out (by kernel_rfl)) (fun _ _ _ h => h) (Or.inl ⟨by rfl, ?_⟩) ?_ ?_
              rotate_left
              · intro w'
                go_simp
                with_reducible rfl
              rotate_left
              · simp only [Act.put, List.setIfInBounds_toArray, List.set_cons_zero, List.set_cons_succ, i64_w, i32_w]
                rfl
              refine done_ (done_of HT_.out (by kernel_rfl)) ?_
              try go_wp2
              go_meet
              case rel => exact ⟨_, ((((rd_T54 l0 x8_1).f0) == ((rd_T54 l1 x8_1).f0) && (((rd_T54 l0 x8_1).f1) == ((rd_T54 l1 x8_1).f1) && (((rd_T54 l0 x8_1).f2) == ((rd_T54 l1 x8_1).f2) && (((rd_T54 l0 x8_1).f3) == ((rd_T54 l1 x8_1).f3) && (((rd_T54 l0 x8_1).f4) == ((rd_T54 l1 x8_1).f4) && (((rd_T54 l0 x8_1).f5) == ((rd_T54 l1 x8_1).f5)))))))), (by first | rfl | (simp; done) | (simp [*]; done)), H', ⟨by have := HK1.out; have := HJ3.out; first | omega | exact Nat.le_refl _⟩, ⟨by (with_reducible repeat (first | apply Kd.R_alloc | apply Kd.R_drewN | apply Kd.R_drew)); exact HO_7.out⟩, ⟨by repeat (first | (with_reducible first | exact HB.out | apply pbA | apply pbN | apply pbD) | exact HB.out)⟩⟩
            · rw [if_neg c10] at H
              exact absurd H (by simp)
          · rw [if_neg c9] at H
            have c9b0 : decide (x8_1 < (l1.length : Int)) = false := decide_eq_false c9
            clear c9
            have H' := Aside0.mk H
            clear H
            try go_wp2
            have n0_ := Aside0.mk (Kd.R_drew HO_7.out)
            have n1_ := Aside0.mk (pbD HB.out)
            clear HO_7
            clear HB
            have HO_7 := n0_
            have HB := n1_
            clear n0_ n1_
            refine start_ (n := 21) (S := fun w' => True) (ds := []) #[false, false, false, false, false, false, false, false, false, false, false, false, false, false, false, false, false, false, false, false, false] (by kernel_rfl) rfl rfl trivial (fun hHeld => ?_); refine with_tabW tableauref24_Changed.tab5 tableauref24_Changed.bits5 (fun HT_ HW_ => ?_)
            generalize wc.drew = w12 at HO_7 HB hHeld ⊢
            refine pure_ (i := 0) (N := some 23) (v := ?_) (a' := ?_) #[true, false, false, false, false, false, false, false, false, false, false, false, false, false, false, false, false, false, false, false, false] rfl rfl (any_of HT_.out (by kernel_rfl)) (fun _ _ _ h => h) (Or.inl ⟨by rfl, ?_⟩) ?_ ?_
            rotate_left
            · intro w'
              go_simp
              with_reducible rfl
            rotate_left
            · simp only [Act.put, List.setIfInBounds_toArray, List.set_cons_zero, List.set_cons_succ, i64_w, i32_w]
              rfl
            refine pure_ (i := 1) (N := some 24) (v := ?_) (a' := ?_) #[true, true, false, false, false, false, false, false, false, false, false, false, false, false, false, false, false, false, false, false, false] rfl rfl (any_of HT_.out (by kernel_rfl)) (fun _ _ _ h => h) (Or.inl ⟨by rfl, ?_⟩) ?_ ?_
            rotate_left
            · intro w'
              go_simp
              with_reducible rfl
            rotate_left
            · simp only [Act.put, List.setIfInBounds_toArray, List.set_cons_zero, List.set_cons_succ, i64_w, i32_w]
              rfl
            refine pure_ (i := 2) (N := some 25) (v := ?_) (a' := ?_) #[true, true, true, false, false, false, false, false, false, false, false, false, false, false, false, false, false, false, false, false, false] rfl rfl (any_of HT_.out (by kernel_rfl)) (fun _ _ _ h => h) (Or.inl ⟨by rfl, ?_⟩) ?_ ?_
            rotate_left
            · intro w'
              go_simp
              with_reducible rfl
            rotate_left
            · simp only [Act.put, List.setIfInBounds_toArray, List.set_cons_zero, List.set_cons_succ, i64_w, i32_w]
              rfl
            refine pure_ (i := 3) (N := some 26) (v := ?_) (a' := ?_) #[true, true, true, true, false, false, false, false, false, false, false, false, false, false, false, false, false, false, false, false, false] rfl rfl (any_of HT_.out (by kernel_rfl)) (fun _ _ _ h => h) (Or.inl ⟨by rfl, ?_⟩) ?_ ?_
            rotate_left
            · intro w'
              go_simp
              with_reducible rfl
            rotate_left
            · simp only [Act.put, List.setIfInBounds_toArray, List.set_cons_zero, List.set_cons_succ, i64_w, i32_w]
              rfl
            refine pure_ (i := 4) (N := some 27) (v := ?_) (a' := ?_) #[true, true, true, true, true, false, false, false, false, false, false, false, false, false, false, false, false, false, false, false, false] rfl rfl (any_of HT_.out (by kernel_rfl)) (fun _ _ _ h => h) (Or.inl ⟨by rfl, ?_⟩) ?_ ?_
            rotate_left
            · intro w'
              go_simp
              with_reducible rfl
            rotate_left
            · simp only [Act.put, List.setIfInBounds_toArray, List.set_cons_zero, List.set_cons_succ, i64_w, i32_w]
              rfl
            refine pure_ (i := 5) (N := some 28) (v := ?_) (a' := ?_) #[true, true, true, true, true, true, false, false, false, false, false, false, false, false, false, false, false, false, false, false, false] rfl rfl (any_of HT_.out (by kernel_rfl)) (fun _ _ _ h => h) (Or.inl ⟨by rfl, ?_⟩) ?_ ?_
            rotate_left
            · intro w'
              go_simp
              with_reducible rfl
            rotate_left
            · simp only [Act.put, List.setIfInBounds_toArray, List.set_cons_zero, List.set_cons_succ, i64_w, i32_w]
              rfl
            refine pure_ (i := 6) (N := some 29) (v := ?_) (a' := ?_) #[true, true, true, true, true, true, true, false, false, false, false, false, false, false, false, false, false, false, false, false, false] rfl rfl (any_of HT_.out (by kernel_rfl)) (fun _ _ _ h => h) (Or.inl ⟨by rfl, ?_⟩) ?_ ?_
            rotate_left
            · intro w'
              go_simp
              with_reducible rfl
            rotate_left
            · simp only [Act.put, List.setIfInBounds_toArray, List.set_cons_zero, List.set_cons_succ, i64_w, i32_w]
              rfl
            refine pure_ (i := 7) (N := some 30) (v := ?_) (a' := ?_) #[true, true, true, true, true, true, true, true, false, false, false, false, false, false, false, false, false, false, false, false, false] rfl rfl (any_of HT_.out (by kernel_rfl)) (fun _ _ _ h => h) (Or.inl ⟨by rfl, ?_⟩) ?_ ?_
            rotate_left
            · intro w'
              go_simp
              with_reducible rfl
            rotate_left
            · simp only [Act.put, List.setIfInBounds_toArray, List.set_cons_zero, List.set_cons_succ, i64_w, i32_w]
              rfl
            refine pure_ (i := 8) (N := some 31) (v := ?_) (a' := ?_) #[true, true, true, true, true, true, true, true, true, false, false, false, false, false, false, false, false, false, false, false, false] rfl rfl (any_of HT_.out (by kernel_rfl)) (fun _ _ _ h => h) (Or.inl ⟨by rfl, ?_⟩) ?_ ?_
            rotate_left
            · intro w'
              go_simp
              with_reducible rfl
            rotate_left
            · simp only [Act.put, List.setIfInBounds_toArray, List.set_cons_zero, List.set_cons_succ, i64_w, i32_w]
              rfl
            refine pure_ (i := 9) (N := some 32) (v := ?_) (a' := ?_) #[true, true, true, true, true, true, true, true, true, true, false, false, false, false, false, false, false, false, false, false, false] rfl rfl (any_of HT_.out (by kernel_rfl)) (fun _ _ _ h => h) (Or.inl ⟨by rfl, ?_⟩) ?_ ?_
            rotate_left
            · intro w'
              go_simp
              with_reducible rfl
            rotate_left
            · simp only [Act.put, List.setIfInBounds_toArray, List.set_cons_zero, List.set_cons_succ, i64_w, i32_w]
              rfl
            refine pure_ (i := 10) (N := some 33) (v := ?_) (a' := ?_) #[true, true, true, true, true, true, true, true, true, true, true, false, false, false, false, false, false, false, false, false, false] rfl rfl (any_of HT_.out (by kernel_rfl)) (fun _ _ _ h => h) (Or.inl ⟨by rfl, ?_⟩) ?_ ?_
            rotate_left
            · intro w'
              go_simp
              with_reducible rfl
            rotate_left
            · simp only [Act.put, List.setIfInBounds_toArray, List.set_cons_zero, List.set_cons_succ, i64_w, i32_w]
              rfl
            refine pure_ (i := 11) (N := some 34) (v := undef) (a' := ?_) #[true, true, true, true, true, true, true, true, true, true, true, true, false, false, false, false, false, false, false, false, false] rfl rfl (any_of HT_.out (by kernel_rfl)) (fun _ _ _ h => h) (Or.inr ⟨by rfl, rfl⟩) ?_ ?_
            rotate_left
            · simp only [Act.put, List.setIfInBounds_toArray, List.set_cons_zero, List.set_cons_succ, i64_w, i32_w]
              rfl
            refine pure_ (i := 12) (N := some 35) (v := undef) (a' := ?_) #[true, true, true, true, true, true, true, true, true, true, true, true, true, false, false, false, false, false, false, false, false] rfl rfl (any_of HT_.out (by kernel_rfl)) (fun _ _ _ h => h) (Or.inr ⟨by rfl, rfl⟩) ?_ ?_
            rotate_left
            · simp only [Act.put, List.setIfInBounds_toArray, List.set_cons_zero, List.set_cons_succ, i64_w, i32_w]
              rfl
            refine pure_ (i := 13) (N := some 36) (v := undef) (a' := ?_) #[true, true, true, true, true, true, true, true, true, true, true, true, true, true, false, false, false, false, false, false, false] rfl rfl (any_of HT_.out (by kernel_rfl)) (fun _ _ _ h => h) (Or.inr ⟨by rfl, rfl⟩) ?_ ?_
            rotate_left
            · simp only [Act.put, List.setIfInBounds_toArray, List.set_cons_zero, List.set_cons_succ, i64_w, i32_w]
              rfl
            refine pure_ (i := 14) (N := some 37) (v := undef) (a' := ?_) #[true, true, true, true, true, true, true, true, true, true, true, true, true, true, true, false, false, false, false, false, false] rfl rfl (any_of HT_.out (by kernel_rfl)) (fun _ _ _ h => h) (Or.inr ⟨by rfl, rfl⟩) ?_ ?_
            rotate_left
            · simp only [Act.put, List.setIfInBounds_toArray, List.set_cons_zero, List.set_cons_succ, i64_w, i32_w]
              rfl
            refine pure_ (i := 15) (N := some 38) (v := undef) (a' := ?_) #[true, true, true, true, true, true, true, true, true, true, true, true, true, true, true, true, false, false, false, false, false] rfl rfl (any_of HT_.out (by kernel_rfl)) (fun _ _ _ h => h) (Or.inr ⟨by rfl, rfl⟩) ?_ ?_
            rotate_left
            · simp only [Act.put, List.setIfInBounds_toArray, List.set_cons_zero, List.set_cons_succ, i64_w, i32_w]
              rfl
            refine pure_ (i := 16) (N := some 39) (v := undef) (a' := ?_) #[true, true, true, true, true, true, true, true, true, true, true, true, true, true, true, true, true, false, false, false, false] rfl rfl (any_of HT_.out (by kernel_rfl)) (fun _ _ _ h => h) (Or.inr ⟨by rfl, rfl⟩) ?_ ?_
            rotate_left
            · simp only [Act.put, List.setIfInBounds_toArray, List.set_cons_zero, List.set_cons_succ, i64_w, i32_w]
              rfl
            refine pure_ (i := 17) (N := some 40) (v := undef) (a' := ?_) #[true, true, true, true, true, true, true, true, true, true, true, true, true, true, true, true, true, true, false, false, false] rfl rfl (any_of HT_.out (by kernel_rfl)) (fun _ _ _ h => h) (Or.inr ⟨by rfl, rfl⟩) ?_ ?_
            rotate_left
            · simp only [Act.put, List.setIfInBounds_toArray, List.set_cons_zero, List.set_cons_succ, i64_w, i32_w]
              rfl
            refine pure_ (i := 18) (N := some 41) (v := undef) (a' := ?_) #[true, true, true, true, true, true, true, true, true, true, true, true, true, true, true, true, true, true, true, false, false] rfl rfl (any_of HT_.out (by kernel_rfl)) (fun _ _ _ h => h) (Or.inr ⟨by rfl, rfl⟩) ?_ ?_
            rotate_left
            · simp only [Act.put, List.setIfInBounds_toArray, List.set_cons_zero, List.set_cons_succ, i64_w, i32_w]
              rfl
            refine pure_ (i := 19) (N := some 42) (v := undef) (a' := ?_) #[true, true, true, true, true, true, true, true, true, true, true, true, true, true, true, true, true, true, true, true, false] rfl rfl (any_of HT_.out (by kernel_rfl)) (fun _ _ _ h => h) (Or.inr ⟨by rfl, rfl⟩) ?_ ?_
            rotate_left
            · simp only [Act.put, List.setIfInBounds_toArray, List.set_cons_zero, List.set_cons_succ, i64_w, i32_w]
              rfl
            refine pure_ (i := 20) (N := some 43) (v := ?_) (a' := ?_) #[true, true, true, true, true, true, true, true, true, true, true, true, true, true, true, true, true, true, true, true, true] rfl rfl (any_of HT_.out (by kernel_rfl)) (fun _ _ _ h => h) (Or.inl ⟨by rfl, ?_⟩) ?_ ?_
            rotate_left
            · intro w'
              go_simp
              with_reducible rfl
            rotate_left
            · simp only [Act.put, List.setIfInBounds_toArray, List.set_cons_zero, List.set_cons_succ, i64_w, i32_w]
              rfl
            refine done_ (done_of HT_.out (by kernel_rfl)) ?_
            try go_wp2
            go_meet
            case rel => exact ⟨_, (false), (by first | rfl | (simp; done) | (simp [*]; done)), H', ⟨by have := HK1.out; have := HJ3.out; first | omega | exact Nat.le_refl _⟩, ⟨by (with_reducible repeat (first | apply Kd.R_alloc | apply Kd.R_drewN | apply Kd.R_drew)); exact HO_7.out⟩, ⟨by repeat (first | (with_reducible first | exact HB.out | apply pbA | apply pbN | apply pbD) | exact HB.out)⟩⟩
        · rw [if_neg c8] at H
          have c8b0 : decide (x8_1 < (l0.length : Int)) = false := decide_eq_false c8
          clear c8
          (first | rw [c8b0] | (simp only [i64_w, i32_w]; rw [c8b0]) | skip)
          have H' := Aside0.mk H
          clear H
          try go_wp2
          have n0_ := Aside0.mk (Kd.R_drew HO_7.out)
          have n1_ := Aside0.mk (pbD HB.out)
          clear HO_7
          clear HB
          have HO_7 := n0_
          have HB := n1_
          clear n0_ n1_
          refine start_ (n := 21) (S := fun w' => True) (ds := []) #[false, false, false, false, false, false, false, false, false, false, false, false, false, false, false, false, false, false, false, false, false] (by kernel_rfl) rfl rfl trivial (fun hHeld => ?_); refine with_tabW tableauref24_Changed.tab5 tableauref24_Changed.bits5 (fun HT_ HW_ => ?_)
          generalize wc.drew = w13 at HO_7 HB hHeld ⊢
          refine pure_ (i := 0) (N := some 23) (v := ?_) (a' := ?_) #[true, false, false, false, false, false, false, false, false, false, false, false, false, false, false, false, false, false, false, false, false] rfl rfl (any_of HT_.out (by kernel_rfl)) (fun _ _ _ h => h) (Or.inl ⟨by rfl, ?_⟩) ?_ ?_
          rotate_left
          · intro w'
            go_simp
            with_reducible rfl
          rotate_left
          · simp only [Act.put, List.setIfInBounds_toArray, List.set_cons_zero, List.set_cons_succ, i64_w, i32_w]
            rfl
          refine pure_ (i := 1) (N := some 24) (v := ?_) (a' := ?_) #[true, true, false, false, false, false, false, false, false, false, false, false, false, false, false, false, false, false, false, false, false] rfl rfl (any_of HT_.out (by kernel_rfl)) (fun _ _ _ h => h) (Or.inl ⟨by rfl, ?_⟩) ?_ ?_
          rotate_left
          · intro w'
            go_simp
            with_reducible rfl
          rotate_left
          · simp only [Act.put, List.setIfInBounds_toArray, List.set_cons_zero, List.set_cons_succ, i64_w, i32_w]
            rfl
          refine pure_ (i := 2) (N := some 25) (v := ?_) (a' := ?_) #[true, true, true, false, false, false, false, false, false, false, false, false, false, false, false, false, false, false, false, false, false] rfl rfl (any_of HT_.out (by kernel_rfl)) (fun _ _ _ h => h) (Or.inl ⟨by rfl, ?_⟩) ?_ ?_
          rotate_left
          · intro w'
            go_simp
            with_reducible rfl
          rotate_left
          · simp only [Act.put, List.setIfInBounds_toArray, List.set_cons_zero, List.set_cons_succ, i64_w, i32_w]
            rfl
          refine pure_ (i := 3) (N := some 26) (v := ?_) (a' := ?_) #[true, true, true, true, false, false, false, false, false, false, false, false, false, false, false, false, false, false, false, false, false] rfl rfl (any_of HT_.out (by kernel_rfl)) (fun _ _ _ h => h) (Or.inl ⟨by rfl, ?_⟩) ?_ ?_
          rotate_left
          · intro w'
            go_simp
            with_reducible rfl
          rotate_left
          · simp only [Act.put, List.setIfInBounds_toArray, List.set_cons_zero, List.set_cons_succ, i64_w, i32_w]
            rfl
          refine pure_ (i := 4) (N := some 27) (v := ?_) (a' := ?_) #[true, true, true, true, true, false, false, false, false, false, false, false, false, false, false, false, false, false, false, false, false] rfl rfl (any_of HT_.out (by kernel_rfl)) (fun _ _ _ h => h) (Or.inl ⟨by rfl, ?_⟩) ?_ ?_
          rotate_left
          · intro w'
            go_simp
            with_reducible rfl
          rotate_left
          · simp only [Act.put, List.setIfInBounds_toArray, List.set_cons_zero, List.set_cons_succ, i64_w, i32_w]
            rfl
          refine pure_ (i := 5) (N := some 28) (v := undef) (a' := ?_) #[true, true, true, true, true, true, false, false, false, false, false, false, false, false, false, false, false, false, false, false, false] rfl rfl (any_of HT_.out (by kernel_rfl)) (fun _ _ _ h => h) (Or.inr ⟨by rfl, rfl⟩) ?_ ?_
          rotate_left
          · simp only [Act.put, List.setIfInBounds_toArray, List.set_cons_zero, List.set_cons_succ, i64_w, i32_w]
            rfl
          refine pure_ (i := 6) (N := some 29) (v := undef) (a' := ?_) #[true, true, true, true, true, true, true, false, false, false, false, false, false, false, false, false, false, false, false, false, false] rfl rfl (any_of HT_.out (by kernel_rfl)) (fun _ _ _ h => h) (Or.inr ⟨by rfl, rfl⟩) ?_ ?_
          rotate_left
          · simp only [Act.put, List.setIfInBounds_toArray, List.set_cons_zero, List.set_cons_succ, i64_w, i32_w]
            rfl
          refine pure_ (i := 7) (N := some 30) (v := undef) (a' := ?_) #[true, true, true, true, true, true, true, true, false, false, false, false, false, false, false, false, false, false, false, false, false] rfl rfl (any_of HT_.out (by kernel_rfl)) (fun _ _ _ h => h) (Or.inr ⟨by rfl, rfl⟩) ?_ ?_
          rotate_left
          · simp only [Act.put, List.setIfInBounds_toArray, List.set_cons_zero, List.set_cons_succ, i64_w, i32_w]
            rfl
          refine pure_ (i := 8) (N := some 31) (v := undef) (a' := ?_) #[true, true, true, true, true, true, true, true, true, false, false, false, false, false, false, false, false, false, false, false, false] rfl rfl (any_of HT_.out (by kernel_rfl)) (fun _ _ _ h => h) (Or.inr ⟨by rfl, rfl⟩) ?_ ?_
          rotate_left
          · simp only [Act.put, List.setIfInBounds_toArray, List.set_cons_zero, List.set_cons_succ, i64_w, i32_w]
            rfl
          refine pure_ (i := 9) (N := some 32) (v := ?_) (a' := ?_) #[true, true, true, true, true, true, true, true, true, true, false, false, false, false, false, false, false, false, false, false, false] rfl rfl (any_of HT_.out (by kernel_rfl)) (fun _ _ _ h => h) (Or.inl ⟨by rfl, ?_⟩) ?_ ?_
          rotate_left
          · intro w'
            go_simp
            with_reducible rfl
          rotate_left
          · simp only [Act.put, List.setIfInBounds_toArray, List.set_cons_zero, List.set_cons_succ, i64_w, i32_w]
            rfl
          refine pure_ (i := 10) (N := some 33) (v := ?_) (a' := ?_) #[true, true, true, true, true, true, true, true, true, true, true, false, false, false, false, false, false, false, false, false, false] rfl rfl (any_of HT_.out (by kernel_rfl)) (fun _ _ _ h => h) (Or.inl ⟨by rfl, ?_⟩) ?_ ?_
          rotate_left
          · intro w'
            go_simp
            with_reducible rfl
          rotate_left
          · simp only [Act.put, List.setIfInBounds_toArray, List.set_cons_zero, List.set_cons_succ, i64_w, i32_w]
            rfl
          refine pure_ (i := 11) (N := some 34) (v := undef) (a' := ?_) #[true, true, true, true, true, true, true, true, true, true, true, true, false, false, false, false, false, false, false, false, false] rfl rfl (any_of HT_.out (by kernel_rfl)) (fun _ _ _ h => h) (Or.inr ⟨by rfl, rfl⟩) ?_ ?_
          rotate_left
          · simp only [Act.put, List.setIfInBounds_toArray, List.set_cons_zero, List.set_cons_succ, i64_w, i32_w]
            rfl
          refine pure_ (i := 12) (N := some 35) (v := undef) (a' := ?_) #[true, true, true, true, true, true, true, true, true, true, true, true, true, false, false, false, false, false, false, false, false] rfl rfl (any_of HT_.out (by kernel_rfl)) (fun _ _ _ h => h) (Or.inr ⟨by rfl, rfl⟩) ?_ ?_
          rotate_left
          · simp only [Act.put, List.setIfInBounds_toArray, List.set_cons_zero, List.set_cons_succ, i64_w, i32_w]
            rfl
          refine pure_ (i := 13) (N := some 36) (v := undef) (a' := ?_) #[true, true, true, true, true, true, true, true, true, true, true, true, true, true, false, false, false, false, false, false, false] rfl rfl (any_of HT_.out (by kernel_rfl)) (fun _ _ _ h => h) (Or.inr ⟨by rfl, rfl⟩) ?_ ?_
          rotate_left
          · simp only [Act.put, List.setIfInBounds_toArray, List.set_cons_zero, List.set_cons_succ, i64_w, i32_w]
            rfl
          refine pure_ (i := 14) (N := some 37) (v := undef) (a' := ?_) #[true, true, true, true, true, true, true, true, true, true, true, true, true, true, true, false, false, false, false, false, false] rfl rfl (any_of HT_.out (by kernel_rfl)) (fun _ _ _ h => h) (Or.inr ⟨by rfl, rfl⟩) ?_ ?_
          rotate_left
          · simp only [Act.put, List.setIfInBounds_toArray, List.set_cons_zero, List.set_cons_succ, i64_w, i32_w]
            rfl
          refine pure_ (i := 15) (N := some 38) (v := undef) (a' := ?_) #[true, true, true, true, true, true, true, true, true, true, true, true, true, true, true, true, false, false, false, false, false] rfl rfl (any_of HT_.out (by kernel_rfl)) (fun _ _ _ h => h) (Or.inr ⟨by rfl, rfl⟩) ?_ ?_
          rotate_left
          · simp only [Act.put, List.setIfInBounds_toArray, List.set_cons_zero, List.set_cons_succ, i64_w, i32_w]
            rfl
          refine pure_ (i := 16) (N := some 39) (v := undef) (a' := ?_) #[true, true, true, true, true, true, true, true, true, true, true, true, true, true, true, true, true, false, false, false, false] rfl rfl (any_of HT_.out (by kernel_rfl)) (fun _ _ _ h => h) (Or.inr ⟨by rfl, rfl⟩) ?_ ?_
          rotate_left
          · simp only [Act.put, List.setIfInBounds_toArray, List.set_cons_zero, List.set_cons_succ, i64_w, i32_w]
            rfl
          refine pure_ (i := 17) (N := some 40) (v := undef) (a' := ?_) #[true, true, true, true, true, true, true, true, true, true, true, true, true, true, true, true, true, true, false, false, false] rfl rfl (any_of HT_.out (by kernel_rfl)) (fun _ _ _ h => h) (Or.inr ⟨by rfl, rfl⟩) ?_ ?_
          rotate_left
          · simp only [Act.put, List.setIfInBounds_toArray, List.set_cons_zero, List.set_cons_succ, i64_w, i32_w]
            rfl
          refine pure_ (i := 18) (N := some 41) (v := undef) (a' := ?_) #[true, true, true, true, true, true, true, true, true, true, true, true, true, true, true, true, true, true, true, false, false] rfl rfl (any_of HT_.out (by kernel_rfl)) (fun _ _ _ h => h) (Or.inr ⟨by rfl, rfl⟩) ?_ ?_
          rotate_left
          · simp only [Act.put, List.setIfInBounds_toArray, List.set_cons_zero, List.set_cons_succ, i64_w, i32_w]
            rfl
          refine pure_ (i := 19) (N := some 42) (v := undef) (a' := ?_) #[true, true, true, true, true, true, true, true, true, true, true, true, true, true, true, true, true, true, true, true, false] rfl rfl (any_of HT_.out (by kernel_rfl)) (fun _ _ _ h => h) (Or.inr ⟨by rfl, rfl⟩) ?_ ?_
          rotate_left
          · simp only [Act.put, List.setIfInBounds_toArray, List.set_cons_zero, List.set_cons_succ, i64_w, i32_w]
            rfl
          refine pure_ (i := 20) (N := some 43) (v := ?_) (a' := ?_) #[true, true, true, true, true, true, true, true, true, true, true, true, true, true, true, true, true, true, true, true, true] rfl rfl (any_of HT_.out (by kernel_rfl)) (fun _ _ _ h => h) (Or.inl ⟨by rfl, ?_⟩) ?_ ?_
          rotate_left
          · intro w'
            go_simp
            with_reducible rfl
          rotate_left
          · simp only [Act.put, List.setIfInBounds_toArray, List.set_cons_zero, List.set_cons_succ, i64_w, i32_w]
            rfl
          refine done_ (done_of HT_.out (by kernel_rfl)) ?_
          try go_wp2
          go_meet
          case rel => exact ⟨_, (false), (by first | rfl | (simp; done) | (simp [*]; done)), H', ⟨by have := HK1.out; have := HJ3.out; first | omega | exact Nat.le_refl _⟩, ⟨by (with_reducible repeat (first | apply Kd.R_alloc | apply Kd.R_drewN | apply Kd.R_drew)); exact HO_7.out⟩, ⟨by repeat (first | (with_reducible first | exact HB.out | apply pbA | apply pbN | apply pbD) | exact HB.out)⟩⟩
       case rest =>
        clear HC7
        try clear c1
        try clear c2
        try clear p2
        try clear p3
        try clear q3
        try clear hx3
        try clear c4
        try clear c5
        try clear c5b0
        try clear c6
        try clear c8
        try clear c8b0
        try clear c9
        try clear c9b0
        try clear c10
        try clear c10b0
        try clear hx327_0
        try clear hx327_1
        try clear hx327_2
        try clear hx327_3
        try clear hx327_4
        try clear hx327_5
        try clear hx328_0
        try clear hx328_1
        try clear hx328_2
        try clear hx328_3
        try clear hx328_4
        try clear hx328_5
        try clear p2
        try clear p327
        try clear p328
        try clear q327
        try clear q328
        obtain ⟨kq, x43_6, rfl, HA, HJ6, HO_7, HB⟩ := hcut
        cases kq with
        | zero => exact absurd HA.out (by simp [tableauref24_Changed.j2])
        | succ kj6 =>
         have H := HA.out
         clear HA
         simp only [tableauref24_Changed.j2] at H
         by_cases c14 : x43_6 = true
         · subst c14
           have H1 : (tableauref24_Changed.l1 kj6 l0 l1 l2 x7_1 x8_1 0) = some r := by rw [if_pos rfl] at H; exact H
           clear H
           have H := H1
           clear H1
           have H' := Aside0.mk H
           clear H
           go_wp2
           go_loopg [7, 9] kj6 (fun kq v7 v9 w' => ∃ (x7_4 : List (S26)) (x9_4 : Int), v9 = .int .i64 x9_4 ∧ Aside0 (tableauref24_Changed.l1 kq l0 l1 l2 x7_4 x8_1 x9_4 = some r) ∧ Aside0 (kq ≤ kj6) ∧ Aside0 (Kd.R k26 26 w' w.heap.size (fun _ => True) v7 x7_4) ∧ Aside0 (Below w.heap.size w w'))
           case atStart => exact ⟨(x7_1), (0), (by first | rfl | (simp; done) | (simp [*]; done)), H', ⟨Nat.le_refl _⟩, ⟨by (with_reducible repeat (first | apply Kd.R_alloc | apply Kd.R_drewN | apply Kd.R_drew)); exact HO_7.out⟩, ⟨by repeat (first | (with_reducible first | exact HB.out | apply pbA | apply pbN | apply pbD) | exact HB.out)⟩⟩
           case round =>
            clear H'
            try clear c1
            try clear c2
            try clear p2
            try clear p3
            try clear q3
            try clear hx3
            try clear c4
            try clear c5
            try clear c5b0
            try clear c6
            try clear c8
            try clear c8b0
            try clear c9
            try clear c9b0
            try clear c10
            try clear c10b0
            try clear c14
            try clear hx327_0
            try clear hx327_1
            try clear hx327_2
            try clear hx327_3
            try clear hx327_4
            try clear hx327_5
            try clear hx328_0
            try clear hx328_1
            try clear hx328_2
            try clear hx328_3
            try clear hx328_4
            try clear hx328_5
            try clear p2
            try clear p3
            try clear p327
            try clear p328
            try clear q3
            try clear q327
            try clear q328
            obtain ⟨x7_4, x9_4, rfl, HA, HK4, HO_7, HB⟩ := hrel
            cases gk with
            | zero => exact absurd HA.out (by simp [tableauref24_Changed.l1])
            | succ k4 =>
             have H := HA.out
             clear HA
             simp only [tableauref24_Changed.l1] at H
             by_cases c15 : x9_4 < (l2.length : Int)
             · rw [if_pos c15] at H
               have c15b0 : decide (x9_4 < (l2.length : Int)) = true := decide_eq_true c15
               clear c15
               have H' := Aside0.mk H
               clear H
               go_wp2
               go_loopg [7, 10] k4 (fun kq v7 v10 w' => ∃ (x7_5 : List (S26)) (x10_5 : Int), v10 = .int .i64 x10_5 ∧ Aside0 (tableauref24_Changed.l2 kq l0 l1 l2 x7_5 x8_1 x9_4 x10_5 = some r) ∧ Aside0 (kq ≤ k4) ∧ Aside0 (Kd.R k26 26 w' w.heap.size (fun _ => True) v7 x7_5) ∧ Aside0 (Below w.heap.size w w'))
               case atStart => exact ⟨(x7_4), (0), (by first | rfl | (simp; done) | (simp [*]; done)), H', ⟨Nat.le_refl _⟩, ⟨by (with_reducible repeat (first | apply Kd.R_alloc | apply Kd.R_drewN | apply Kd.R_drew)); exact HO_7.out⟩, ⟨by repeat (first | (with_reducible first | exact HB.out | apply pbA | apply pbN | apply pbD) | exact HB.out)⟩⟩
               case round =>
                clear H'
                try clear c1
                try clear c2
                try clear p2
                try clear p3
                try clear q3
                try clear hx3
                try clear c4
                try clear c5
                try clear c5b0
                try clear c6
                try clear c8
                try clear c8b0
                try clear c9
                try clear c9b0
                try clear c10
                try clear c10b0
                try clear c14
                try clear c15
                try clear c15b0
                try clear hx327_0
                try clear hx327_1
                try clear hx327_2
                try clear hx327_3
                try clear hx327_4
                try clear hx327_5
                try clear hx328_0
                try clear hx328_1
                try clear hx328_2
                try clear hx328_3
                try clear hx328_4
                try clear hx328_5
                try clear p2
                try clear p3
                try clear p327
                try clear p328
                try clear q3
                try clear q327
                try clear q328
                obtain ⟨x7_5, x10_5, rfl, HA, HK5, HO_7, HB⟩ := hrel
                cases gk with
                | zero => exact absurd HA.out (by simp [tableauref24_Changed.l2])
                | succ k5 =>
                 have H := HA.out
                 clear HA
                 simp only [tableauref24_Changed.l2] at H
                 have HC16 := Aside0.mk H
                 clear H
                 go_upto_region 10 with (fail)
                 go_cut [70] (fun v70 wc => ∃ (kq : Nat) (x70_15 : Bool), v70 = .bool x70_15 ∧ Aside0 (tableauref24_Changed.j5 kq l0 l1 l2 x7_5 x8_1 x9_4 x10_5 x70_15 = some r) ∧ Aside0 (kq ≤ k5) ∧ Aside0 (Kd.R k26 26 wc w.heap.size (fun _ => True) u7 x7_5) ∧ Aside0 (Below w.heap.size w wc))
                 case first =>
                  have H := HC16.out
                  clear HC16
                  by_cases c17 : 0 ≤ x9_4
                  · rw [if_pos c17] at H
                    have c17b0 : decide (0 ≤ x9_4) = true := decide_eq_true c17
                    clear c17
                    (first | rw [c17b0] | (simp only [i64_w, i32_w]; rw [c17b0]) | skip)
                    by_cases c18 : x9_4 < (l2.length : Int)
                    · rw [if_pos c18] at H
                      have c18b0 : decide (x9_4 < (l2.length : Int)) = true := decide_eq_true c18
                      clear c18
                      by_cases c19 : 0 ≤ x8_1
                      · rw [if_pos c19] at H
                        have c19b0 : decide (0 ≤ x8_1) = true := decide_eq_true c19
                        clear c19
                        by_cases c20 : x8_1 < (l1.length : Int)
                        · rw [if_pos c20] at H
                          have c20b0 : decide (x8_1 < (l1.length : Int)) = true := decide_eq_true c20
                          clear c20
                          by_cases c21 : ((rd_T75 l2 x9_4).f0) = ((rd_T54 l1 x8_1).f0)
                          · rw [if_pos c21] at H
                            have c21b0 : (((rd_T75 l2 x9_4).f0) == ((rd_T54 l1 x8_1).f0)) = true := beq_iff_eq.mpr c21
                            have c21b1 : (((rd_T75 l2 x9_4).f0) != ((rd_T54 l1 x8_1).f0)) = false := bne_eq_false_iff_eq.mpr c21
                            clear c21
                            have H' := Aside0.mk H
                            clear H
                            try go_wp2
                            have n0_ := Aside0.mk (Kd.R_drew HO_7.out)
                            have n1_ := Aside0.mk (pbD HB.out)
                            clear HO_7
                            clear HB
                            have HO_7 := n0_
                            have HB := n1_
                            clear n0_ n1_
                            have p329 : 0 ≤ (x9_4 : Int) := of_decide_eq_true (by first | (with_reducible assumption) | assumption)
                            have q329 : x9_4 < (l2.length : Int) := of_decide_eq_true (by first | (with_reducible assumption) | assumption)
                            obtain ⟨ad329, A329_1, c329_1, e329, hx329_0, hx329_1, hl329_1, hi329_1⟩ := at_T75 HR2.out x9_4 p329 q329
                            have hw329_1 := hx329_1
                            have hw329_0 := hx329_0
                            cases e329
                            replace hx329_0 := (HB.out.cell (World.block_lt_of_cell? w _ hx329_0)).trans hx329_0
                            replace hx329_1 := (HB.out.cell (World.block_lt_of_cell? w _ hx329_1)).trans hx329_1
                            have HR329_1 := Aside0.mk hi329_1
                            have HC329_1 := Aside0.mk hl329_1
                            clear hi329_1 hl329_1
                            replace p329 := eq_true p329
                            replace q329 := eq_true q329
                            have p330 : 0 ≤ (x8_1 : Int) := of_decide_eq_true (by first | (with_reducible assumption) | assumption)
                            have q330 : x8_1 < (l1.length : Int) := of_decide_eq_true (by first | (with_reducible assumption) | assumption)
                            obtain ⟨ad330, e330, hx330_0, hx330_1, hx330_2, hx330_3, hx330_4, hx330_5⟩ := at_T54 HR1.out x8_1 p330 q330
                            have hw330_5 := hx330_5
                            have hw330_4 := hx330_4
                            have hw330_3 := hx330_3
                            have hw330_2 := hx330_2
                            have hw330_1 := hx330_1
                            have hw330_0 := hx330_0
                            cases e330
                            replace hx330_0 := (HB.out.cell (World.block_lt_of_cell? w _ hx330_0)).trans hx330_0
                            replace hx330_1 := (HB.out.cell (World.block_lt_of_cell? w _ hx330_1)).trans hx330_1
                            replace hx330_2 := (HB.out.cell (World.block_lt_of_cell? w _ hx330_2)).trans hx330_2
                            replace hx330_3 := (HB.out.cell (World.block_lt_of_cell? w _ hx330_3)).trans hx330_3
                            replace hx330_4 := (HB.out.cell (World.block_lt_of_cell? w _ hx330_4)).trans hx330_4
                            replace hx330_5 := (HB.out.cell (World.block_lt_of_cell? w _ hx330_5)).trans hx330_5
                            replace p330 := eq_true p330
                            replace q330 := eq_true q330
                            have p331 : 0 ≤ (x9_4 : Int) := of_decide_eq_true (by first | (with_reducible assumption) | assumption)
                            have q331 : x9_4 < (l2.length : Int) := of_decide_eq_true (by first | (with_reducible assumption) | assumption)
                            obtain ⟨ad331, A331_1, c331_1, e331, hx331_0, hx331_1, hl331_1, hi331_1⟩ := at_T75 HR2.out x9_4 p331 q331
                            have hw331_1 := hx331_1
                            have hw331_0 := hx331_0
                            obtain rfl : ad329 = ad331 := (by injection e331)
                            replace hx331_0 := (HB.out.cell (World.block_lt_of_cell? w _ hx331_0)).trans hx331_0
                            replace hx331_1 := (HB.out.cell (World.block_lt_of_cell? w _ hx331_1)).trans hx331_1
                            have HR331_1 := Aside0.mk hi331_1
                            have HC331_1 := Aside0.mk hl331_1
                            clear hi331_1 hl331_1
                            replace p331 := eq_true p331
                            replace q331 := eq_true q331
                            have ea_ := Option.some.inj (hx329_1.symm.trans hx331_1)
                            injection ea_ with ea_ en_ ec_
                            subst ea_
                            subst ec_
                            clear en_
                            refine start_ (n := 21) (S := fun w' => w'.cell? (ad329.add ((x9_4).toNat * 2)) = some (.int .i64 ((rd_T75 l2 x9_4).f0)) ∧ w'.cell? ⟨(ad329.add ((x9_4).toNat * 2)).block, (ad329.add ((x9_4).toNat * 2)).off + 1, none⟩ = some (.slice A329_1 ((rd_T75 l2 x9_4).f1).length c329_1) ∧ w'.cell? (ad330.add ((x8_1).toNat * 6)) = some (.int .i64 ((rd_T54 l1 x8_1).f0)) ∧ w'.cell? ⟨(ad330.add ((x8_1).toNat * 6)).block, (ad330.add ((x8_1).toNat * 6)).off + 1, none⟩ = some (.int .i64 ((rd_T54 l1 x8_1).f1)) ∧ w'.cell? ⟨(ad330.add ((x8_1).toNat * 6)).block, (ad330.add ((x8_1).toNat * 6)).off + 2, none⟩ = some (.int .i64 ((rd_T54 l1 x8_1).f2)) ∧ w'.cell? ⟨(ad330.add ((x8_1).toNat * 6)).block, (ad330.add ((x8_1).toNat * 6)).off + 3, none⟩ = some (.int .i64 ((rd_T54 l1 x8_1).f3)) ∧ w'.cell? ⟨(ad330.add ((x8_1).toNat * 6)).block, (ad330.add ((x8_1).toNat * 6)).off + 4, none⟩ = some (.int .i64 ((rd_T54 l1 x8_1).f4)) ∧ w'.cell? ⟨(ad330.add ((x8_1).toNat * 6)).block, (ad330.add ((x8_1).toNat * 6)).off + 5, none⟩ = some (.int .i64 ((rd_T54 l1 x8_1).f5)) ∧ w'.cell? (ad329.add ((x9_4).toNat * 2)) = some (.int .i64 ((rd_T75 l2 x9_4).f0)) ∧ w'.cell? ⟨(ad329.add ((x9_4).toNat * 2)).block, (ad329.add ((x9_4).toNat * 2)).off + 1, none⟩ = some (.slice A329_1 ((rd_T75 l2 x9_4).f1).length c329_1)) (ds := []) #[false, false, false, false, false, false, false, false, false, false, false, false, false, false, false, false, false, false, false, false, false] (by kernel_rfl) rfl rfl ⟨((HB.out.cell (World.block_lt_of_cell? w _ hw329_0)).trans hw329_0), ((HB.out.cell (World.block_lt_of_cell? w _ hw329_1)).trans hw329_1), ((HB.out.cell (World.block_lt_of_cell? w _ hw330_0)).trans hw330_0), ((HB.out.cell (World.block_lt_of_cell? w _ hw330_1)).trans hw330_1), ((HB.out.cell (World.block_lt_of_cell? w _ hw330_2)).trans hw330_2), ((HB.out.cell (World.block_lt_of_cell? w _ hw330_3)).trans hw330_3), ((HB.out.cell (World.block_lt_of_cell? w _ hw330_4)).trans hw330_4), ((HB.out.cell (World.block_lt_of_cell? w _ hw330_5)).trans hw330_5), ((HB.out.cell (World.block_lt_of_cell? w _ hw331_0)).trans hw331_0), ((HB.out.cell (World.block_lt_of_cell? w _ hw331_1)).trans hw331_1)⟩ (fun hHeld => ?_); refine with_tabW tableauref24_Changed.tab10 tableauref24_Changed.bits10 (fun HT_ HW_ => ?_)
                            generalize wr.drew = w22 at HO_7 HB HR329_1 HR331_1 hx329_0 hx329_1 hx330_0 hx330_1 hx330_2 hx330_3 hx330_4 hx330_5 hx331_0 hx331_1 hHeld ⊢
                            refine pure_ (i := 0) (N := some 50) (v := ?_) (a' := ?_) #[true, false, false, false, false, false, false, false, false, false, false, false, false, false, false, false, false, false, false, false, false] rfl rfl (any_of HT_.out (by kernel_rfl)) (fun _ _ _ h => h) (Or.inl ⟨by rfl, ?_⟩) ?_ ?_
                            rotate_left
                            · intro w'
                              go_simp
                              with_reducible rfl
                            rotate_left
                            · simp only [Act.put, List.setIfInBounds_toArray, List.set_cons_zero, List.set_cons_succ, i64_w, i32_w]
                              rfl
                            refine pure_ (i := 1) (N := some 51) (v := ?_) (a' := ?_) #[true, true, false, false, false, false, false, false, false, false, false, false, false, false, false, false, false, false, false, false, false] rfl rfl (any_of HT_.out (by kernel_rfl)) (fun _ _ _ h => h) (Or.inl ⟨by rfl, ?_⟩) ?_ ?_
                            rotate_left
                            · intro w'
                              go_simp
                              with_reducible rfl
                            rotate_left
                            · simp only [Act.put, List.setIfInBounds_toArray, List.set_cons_zero, List.set_cons_succ, i64_w, i32_w]
                              rfl
                            refine pure_ (i := 2) (N := some 52) (v := ?_) (a' := ?_) #[true, true, true, false, false, false, false, false, false, false, false, false, false, false, false, false, false, false, false, false, false] rfl rfl (any_of HT_.out (by kernel_rfl)) (fun _ _ _ h => h) (Or.inl ⟨by rfl, ?_⟩) ?_ ?_
                            rotate_left
                            · intro w'
                              go_simp
                              with_reducible rfl
                            rotate_left
                            · simp only [Act.put, List.setIfInBounds_toArray, List.set_cons_zero, List.set_cons_succ, i64_w, i32_w]
                              rfl
                            refine pure_ (i := 3) (N := some 53) (v := ?_) (a' := ?_) #[true, true, true, true, false, false, false, false, false, false, false, false, false, false, false, false, false, false, false, false, false] rfl rfl (any_of HT_.out (by kernel_rfl)) (fun _ _ _ h => h) (Or.inl ⟨by rfl, ?_⟩) ?_ ?_
                            rotate_left
                            · intro w'
                              go_simp
                              with_reducible rfl
                            rotate_left
                            · simp only [Act.put, List.setIfInBounds_toArray, List.set_cons_zero, List.set_cons_succ, i64_w, i32_w]
                              rfl
                            refine pure_ (i := 5) (N := some 55) (v := ?_) (a' := ?_) #[true, true, true, true, false, true, false, false, false, false, false, false, false, false, false, false, false, false, false, false, false] rfl rfl (any_of HT_.out (by kernel_rfl)) (fun _ _ _ h => h) (Or.inl ⟨by rfl, ?_⟩) ?_ ?_
                            rotate_left
                            · intro w'
                              go_simp
                              with_reducible rfl
                            rotate_left
                            · simp only [Act.put, List.setIfInBounds_toArray, List.set_cons_zero, List.set_cons_succ, i64_w, i32_w]
                              rfl
                            refine pure_ (i := 6) (N := some 56) (v := ?_) (a' := ?_) #[true, true, true, true, false, true, true, false, false, false, false, false, false, false, false, false, false, false, false, false, false] rfl rfl (any_of HT_.out (by kernel_rfl)) (fun _ _ _ h => h) (Or.inl ⟨by rfl, ?_⟩) ?_ ?_
                            rotate_left
                            · intro w'
                              go_simp
                              with_reducible rfl
                            rotate_left
                            · simp only [Act.put, List.setIfInBounds_toArray, List.set_cons_zero, List.set_cons_succ, i64_w, i32_w]
                              rfl
                            refine pure_ (i := 7) (N := some 57) (v := ?_) (a' := ?_) #[true, true, true, true, false, true, true, true, false, false, false, false, false, false, false, false, false, false, false, false, false] rfl rfl (any_of HT_.out (by kernel_rfl)) (fun _ _ _ h => h) (Or.inl ⟨by rfl, ?_⟩) ?_ ?_
                            rotate_left
                            · intro w'
                              go_simp
                              with_reducible rfl
                            rotate_left
                            · simp only [Act.put, List.setIfInBounds_toArray, List.set_cons_zero, List.set_cons_succ, i64_w, i32_w]
                              rfl
                            refine pure_ (i := 8) (N := some 58) (v := ?_) (a' := ?_) #[true, true, true, true, false, true, true, true, true, false, false, false, false, false, false, false, false, false, false, false, false] rfl rfl (any_of HT_.out (by kernel_rfl)) (fun _ _ _ h => h) (Or.inl ⟨by rfl, ?_⟩) ?_ ?_
                            rotate_left
                            · intro w'
                              go_simp
                              with_reducible rfl
                            rotate_left
                            · simp only [Act.put, List.setIfInBounds_toArray, List.set_cons_zero, List.set_cons_succ, i64_w, i32_w]
                              rfl
                            refine take_ (i := 4) (N := some 54) (v := ?_) (a' := ?_) #[true, true, true, true, true, true, true, true, true, false, false, false, false, false, false, false, false, false, false, false, false] rfl rfl (take_ofW HT_.out HW_.out (by kernel_rfl)) (fun _ _ _ h => h) (Or.inl ⟨by rfl, ?_⟩) hHeld ?_ ?_
                            rotate_left
                            · rintro w' ⟨s0, s1, s2, s3, s4, s5, s6, s7, s8, s9⟩
                              go_simp
                              with_reducible rfl
                            rotate_left
                            · simp only [Act.put, List.setIfInBounds_toArray, List.set_cons_zero, List.set_cons_succ, i64_w, i32_w]
                              rfl
                            refine take_ (i := 9) (N := some 59) (v := ?_) (a' := ?_) #[true, true, true, true, true, true, true, true, true, true, false, false, false, false, false, false, false, false, false, false, false] rfl rfl (take_ofW HT_.out HW_.out (by kernel_rfl)) (fun _ _ _ h => h) (Or.inl ⟨by rfl, ?_⟩) hHeld ?_ ?_
                            rotate_left
                            · rintro w' ⟨s0, s1, s2, s3, s4, s5, s6, s7, s8, s9⟩
                              go_simp
                              with_reducible rfl
                            rotate_left
                            · simp only [Act.put, List.setIfInBounds_toArray, List.set_cons_zero, List.set_cons_succ, i64_w, i32_w]
                              rfl
                            refine pure_ (i := 10) (N := some 60) (v := ?_) (a' := ?_) #[true, true, true, true, true, true, true, true, true, true, true, false, false, false, false, false, false, false, false, false, false] rfl rfl (any_of HT_.out (by kernel_rfl)) (fun _ _ _ h => h) (Or.inl ⟨by rfl, ?_⟩) ?_ ?_
                            rotate_left
                            · intro w'
                              go_simp
                              with_reducible rfl
                            rotate_left
                            · simp only [Act.put, List.setIfInBounds_toArray, List.set_cons_zero, List.set_cons_succ, i64_w, i32_w]
                              rfl
                            refine pure_ (i := 11) (N := some 61) (v := ?_) (a' := ?_) #[true, true, true, true, true, true, true, true, true, true, true, true, false, false, false, false, false, false, false, false, false] rfl rfl (any_of HT_.out (by kernel_rfl)) (fun _ _ _ h => h) (Or.inl ⟨by rfl, ?_⟩) ?_ ?_
                            rotate_left
                            · intro w'
                              go_simp
                              with_reducible rfl
                            rotate_left
                            · simp only [Act.put, List.setIfInBounds_toArray, List.set_cons_zero, List.set_cons_succ, i64_w, i32_w]
                              rfl
                            refine pure_ (i := 12) (N := some 62) (v := ?_) (a' := ?_) #[true, true, true, true, true, true, true, true, true, true, true, true, true, false, false, false, false, false, false, false, false] rfl rfl (any_of HT_.out (by kernel_rfl)) (fun _ _ _ h => h) (Or.inl ⟨by rfl, ?_⟩) ?_ ?_
                            rotate_left
                            · intro w'
                              go_simp
                              with_reducible rfl
                            rotate_left
                            · simp only [Act.put, List.setIfInBounds_toArray, List.set_cons_zero, List.set_cons_succ, i64_w, i32_w]
                              rfl
                            refine pure_ (i := 13) (N := some 63) (v := ?_) (a' := ?_) #[true, true, true, true, true, true, true, true, true, true, true, true, true, true, false, false, false, false, false, false, false] rfl rfl (any_of HT_.out (by kernel_rfl)) (fun _ _ _ h => h) (Or.inl ⟨by rfl, ?_⟩) ?_ ?_
                            rotate_left
                            · intro w'
                              go_simp
                              with_reducible rfl
                            rotate_left
                            · simp only [Act.put, List.setIfInBounds_toArray, List.set_cons_zero, List.set_cons_succ, i64_w, i32_w]
                              rfl
                            refine pure_ (i := 14) (N := some 64) (v := ?_) (a' := ?_) #[true, true, true, true, true, true, true, true, true, true, true, true, true, true, true, false, false, false, false, false, false] rfl rfl (any_of HT_.out (by kernel_rfl)) (fun _ _ _ h => h) (Or.inl ⟨by rfl, ?_⟩) ?_ ?_
                            rotate_left
                            · intro w'
                              go_simp
                              with_reducible rfl
                            rotate_left
                            · simp only [Act.put, List.setIfInBounds_toArray, List.set_cons_zero, List.set_cons_succ, i64_w, i32_w]
                              rfl
                            refine pure_ (i := 15) (N := some 65) (v := ?_) (a' := ?_) #[true, true, true, true, true, true, true, true, true, true, true, true, true, true, true, true, false, false, false, false, false] rfl rfl (any_of HT_.out (by kernel_rfl)) (fun _ _ _ h => h) (Or.inl ⟨by rfl, ?_⟩) ?_ ?_
                            rotate_left
                            · intro w'
                              go_simp
                              with_reducible rfl
                            rotate_left
                            · simp only [Act.put, List.setIfInBounds_toArray, List.set_cons_zero, List.set_cons_succ, i64_w, i32_w]
                              rfl
                            refine pure_ (i := 16) (N := some 66) (v := ?_) (a' := ?_) #[true, true, true, true, true, true, true, true, true, true, true, true, true, true, true, true, true, false, false, false, false] rfl rfl (any_of HT_.out (by kernel_rfl)) (fun _ _ _ h => h) (Or.inl ⟨by rfl, ?_⟩) ?_ ?_
                            rotate_left
                            · intro w'
                              go_simp
                              with_reducible rfl
                            rotate_left
                            · simp only [Act.put, List.setIfInBounds_toArray, List.set_cons_zero, List.set_cons_succ, i64_w, i32_w]
                              rfl
                            refine take_ (i := 17) (N := some 67) (v := ?_) (a' := ?_) #[true, true, true, true, true, true, true, true, true, true, true, true, true, true, true, true, true, true, false, false, false] rfl rfl (take_ofW HT_.out HW_.out (by kernel_rfl)) (fun _ _ _ h => h) (Or.inl ⟨by rfl, ?_⟩) hHeld ?_ ?_
                            rotate_left
                            · rintro w' ⟨s0, s1, s2, s3, s4, s5, s6, s7, s8, s9⟩
                              go_simp
                              with_reducible rfl
                            rotate_left
                            · simp only [Act.put, List.setIfInBounds_toArray, List.set_cons_zero, List.set_cons_succ, i64_w, i32_w]
                              rfl
                            refine pure_ (i := 18) (N := some 68) (v := ?_) (a' := ?_) #[true, true, true, true, true, true, true, true, true, true, true, true, true, true, true, true, true, true, true, false, false] rfl rfl (any_of HT_.out (by kernel_rfl)) (fun _ _ _ h => h) (Or.inl ⟨by rfl, ?_⟩) ?_ ?_
                            rotate_left
                            · intro w'
                              go_simp
                              with_reducible rfl
                            rotate_left
                            · simp only [Act.put, List.setIfInBounds_toArray, List.set_cons_zero, List.set_cons_succ, i64_w, i32_w]
                              rfl
                            refine pure_ (i := 19) (N := some 69) (v := ?_) (a' := ?_) #[true, true, true, true, true, true, true, true, true, true, true, true, true, true, true, true, true, true, true, true, false] rfl rfl (any_of HT_.out (by kernel_rfl)) (fun _ _ _ h => h) (Or.inl ⟨by rfl, ?_⟩) ?_ ?_
                            rotate_left
                            · intro w'
                              go_simp
                              with_reducible rfl
                            rotate_left
                            · simp only [Act.put, List.setIfInBounds_toArray, List.set_cons_zero, List.set_cons_succ, i64_w, i32_w]
                              rfl
                            refine pure_ (i := 20) (N := some 70) (v := ?_) (a' := ?_) #[true, true, true, true, true, true, true, true, true, true, true, true, true, true, true, true, true, true, true, true, true] rfl rfl (any_of HT_.out (by kernel_rfl)) (fun _ _ _ h => h) (Or.inl ⟨by rfl, ?_⟩) ?_ ?_
                            rotate_left
                            · intro w'
                              go_simp
                              with_reducible rfl
                            rotate_left
                            · simp only [Act.put, List.setIfInBounds_toArray, List.set_cons_zero, List.set_cons_succ, i64_w, i32_w]
                              rfl
                            refine done_ (done_of HT_.out (by kernel_rfl)) ?_
                            try go_wp2
                            go_meet
                            case rel => exact ⟨_, (decide (x10_5 < (((rd_T75 l2 x9_4).f1).length : Int))), (by first | rfl | (simp; done) | (simp [*]; done)), H', ⟨by have := HK1.out; have := HJ3.out; have := HJ6.out; have := HK4.out; have := HK5.out; first | omega | exact Nat.le_refl _⟩, ⟨by (with_reducible repeat (first | apply Kd.R_alloc | apply Kd.R_drewN | apply Kd.R_drew)); exact HO_7.out⟩, ⟨by repeat (first | (with_reducible first | exact HB.out | apply pbA | apply pbN | apply pbD) | exact HB.out)⟩⟩
                          · rw [if_neg c21] at H
                            have c21b0 : (((rd_T75 l2 x9_4).f0) == ((rd_T54 l1 x8_1).f0)) = false := beq_eq_false_iff_ne.mpr c21
                            have c21b1 : (((rd_T75 l2 x9_4).f0) != ((rd_T54 l1 x8_1).f0)) = true := bne_iff_ne.mpr c21
                            have H' := Aside0.mk H
                            clear H
                            try go_wp2
                            have n0_ := Aside0.mk (Kd.R_drew HO_7.out)
                            have n1_ := Aside0.mk (pbD HB.out)
                            clear HO_7
                            clear HB
                            have HO_7 := n0_
                            have HB := n1_
                            clear n0_ n1_
                            have p329 : 0 ≤ (x9_4 : Int) := of_decide_eq_true (by first | (with_reducible assumption) | assumption)
                            have q329 : x9_4 < (l2.length : Int) := of_decide_eq_true (by first | (with_reducible assumption) | assumption)
                            obtain ⟨ad329, A329_1, c329_1, e329, hx329_0, hx329_1, hl329_1, hi329_1⟩ := at_T75 HR2.out x9_4 p329 q329
                            have hw329_1 := hx329_1
                            have hw329_0 := hx329_0
                            cases e329
                            replace hx329_0 := (HB.out.cell (World.block_lt_of_cell? w _ hx329_0)).trans hx329_0
                            replace hx329_1 := (HB.out.cell (World.block_lt_of_cell? w _ hx329_1)).trans hx329_1
                            have HR329_1 := Aside0.mk hi329_1
                            have HC329_1 := Aside0.mk hl329_1
                            clear hi329_1 hl329_1
                            replace p329 := eq_true p329
                            replace q329 := eq_true q329
                            have p330 : 0 ≤ (x8_1 : Int) := of_decide_eq_true (by first | (with_reducible assumption) | assumption)
                            have q330 : x8_1 < (l1.length : Int) := of_decide_eq_true (by first | (with_reducible assumption) | assumption)
                            obtain ⟨ad330, e330, hx330_0, hx330_1, hx330_2, hx330_3, hx330_4, hx330_5⟩ := at_T54 HR1.out x8_1 p330 q330
                            have hw330_5 := hx330_5
                            have hw330_4 := hx330_4
                            have hw330_3 := hx330_3
                            have hw330_2 := hx330_2
                            have hw330_1 := hx330_1
                            have hw330_0 := hx330_0
                            cases e330
                            replace hx330_0 := (HB.out.cell (World.block_lt_of_cell? w _ hx330_0)).trans hx330_0
                            replace hx330_1 := (HB.out.cell (World.block_lt_of_cell? w _ hx330_1)).trans hx330_1
                            replace hx330_2 := (HB.out.cell (World.block_lt_of_cell? w _ hx330_2)).trans hx330_2
                            replace hx330_3 := (HB.out.cell (World.block_lt_of_cell? w _ hx330_3)).trans hx330_3
                            replace hx330_4 := (HB.out.cell (World.block_lt_of_cell? w _ hx330_4)).trans hx330_4
                            replace hx330_5 := (HB.out.cell (World.block_lt_of_cell? w _ hx330_5)).trans hx330_5
                            replace p330 := eq_true p330
                            replace q330 := eq_true q330
                            refine start_ (n := 21) (S := fun w' => w'.cell? (ad329.add ((x9_4).toNat * 2)) = some (.int .i64 ((rd_T75 l2 x9_4).f0)) ∧ w'.cell? ⟨(ad329.add ((x9_4).toNat * 2)).block, (ad329.add ((x9_4).toNat * 2)).off + 1, none⟩ = some (.slice A329_1 ((rd_T75 l2 x9_4).f1).length c329_1) ∧ w'.cell? (ad330.add ((x8_1).toNat * 6)) = some (.int .i64 ((rd_T54 l1 x8_1).f0)) ∧ w'.cell? ⟨(ad330.add ((x8_1).toNat * 6)).block, (ad330.add ((x8_1).toNat * 6)).off + 1, none⟩ = some (.int .i64 ((rd_T54 l1 x8_1).f1)) ∧ w'.cell? ⟨(ad330.add ((x8_1).toNat * 6)).block, (ad330.add ((x8_1).toNat * 6)).off + 2, none⟩ = some (.int .i64 ((rd_T54 l1 x8_1).f2)) ∧ w'.cell? ⟨(ad330.add ((x8_1).toNat * 6)).block, (ad330.add ((x8_1).toNat * 6)).off + 3, none⟩ = some (.int .i64 ((rd_T54 l1 x8_1).f3)) ∧ w'.cell? ⟨(ad330.add ((x8_1).toNat * 6)).block, (ad330.add ((x8_1).toNat * 6)).off + 4, none⟩ = some (.int .i64 ((rd_T54 l1 x8_1).f4)) ∧ w'.cell? ⟨(ad330.add ((x8_1).toNat * 6)).block, (ad330.add ((x8_1).toNat * 6)).off + 5, none⟩ = some (.int .i64 ((rd_T54 l1 x8_1).f5))) (ds := []) #[false, false, false, false, false, false, false, false, false, false, false, false, false, false, false, false, false, false, false, false, false] (by kernel_rfl) rfl rfl ⟨((HB.out.cell (World.block_lt_of_cell? w _ hw329_0)).trans hw329_0), ((HB.out.cell (World.block_lt_of_cell? w _ hw329_1)).trans hw329_1), ((HB.out.cell (World.block_lt_of_cell? w _ hw330_0)).trans hw330_0), ((HB.out.cell (World.block_lt_of_cell? w _ hw330_1)).trans hw330_1), ((HB.out.cell (World.block_lt_of_cell? w _ hw330_2)).trans hw330_2), ((HB.out.cell (World.block_lt_of_cell? w _ hw330_3)).trans hw330_3), ((HB.out.cell (World.block_lt_of_cell? w _ hw330_4)).trans hw330_4), ((HB.out.cell (World.block_lt_of_cell? w _ hw330_5)).trans hw330_5)⟩ (fun hHeld => ?_); refine with_tabW tableauref24_Changed.tab10 tableauref24_Changed.bits10 (fun HT_ HW_ => ?_)
                            generalize wr.drew = w23 at HO_7 HB HR329_1 hx329_0 hx329_1 hx330_0 hx330_1 hx330_2 hx330_3 hx330_4 hx330_5 hHeld ⊢
                            refine pure_ (i := 0) (N := some 50) (v := ?_) (a' := ?_) #[true, false, false, false, false, false, false, false, false, false, false, false, false, false, false, false, false, false, false, false, false] rfl rfl (any_of HT_.out (by kernel_rfl)) (fun _ _ _ h => h) (Or.inl ⟨by rfl, ?_⟩) ?_ ?_
                            rotate_left
                            · intro w'
                              go_simp
                              with_reducible rfl
                            rotate_left
                            · simp only [Act.put, List.setIfInBounds_toArray, List.set_cons_zero, List.set_cons_succ, i64_w, i32_w]
                              rfl
                            refine pure_ (i := 1) (N := some 51) (v := ?_) (a' := ?_) #[true, true, false, false, false, false, false, false, false, false, false, false, false, false, false, false, false, false, false, false, false] rfl rfl (any_of HT_.out (by kernel_rfl)) (fun _ _ _ h => h) (Or.inl ⟨by rfl, ?_⟩) ?_ ?_
                            rotate_left
                            · intro w'
                              go_simp
                              with_reducible rfl
                            rotate_left
                            · simp only [Act.put, List.setIfInBounds_toArray, List.set_cons_zero, List.set_cons_succ, i64_w, i32_w]
                              rfl
                            refine pure_ (i := 2) (N := some 52) (v := ?_) (a' := ?_) #[true, true, true, false, false, false, false, false, false, false, false, false, false, false, false, false, false, false, false, false, false] rfl rfl (any_of HT_.out (by kernel_rfl)) (fun _ _ _ h => h) (Or.inl ⟨by rfl, ?_⟩) ?_ ?_
                            rotate_left
                            · intro w'
                              go_simp
                              with_reducible rfl
                            rotate_left
                            · simp only [Act.put, List.setIfInBounds_toArray, List.set_cons_zero, List.set_cons_succ, i64_w, i32_w]
                              rfl
                            refine pure_ (i := 3) (N := some 53) (v := ?_) (a' := ?_) #[true, true, true, true, false, false, false, false, false, false, false, false, false, false, false, false, false, false, false, false, false] rfl rfl (any_of HT_.out (by kernel_rfl)) (fun _ _ _ h => h) (Or.inl ⟨by rfl, ?_⟩) ?_ ?_
                            rotate_left
                            · intro w'
                              go_simp
                              with_reducible rfl
                            rotate_left
                            · simp only [Act.put, List.setIfInBounds_toArray, List.set_cons_zero, List.set_cons_succ, i64_w, i32_w]
                              rfl
                            refine pure_ (i := 5) (N := some 55) (v := ?_) (a' := ?_) #[true, true, true, true, false, true, false, false, false, false, false, false, false, false, false, false, false, false, false, false, false] rfl rfl (any_of HT_.out (by kernel_rfl)) (fun _ _ _ h => h) (Or.inl ⟨by rfl, ?_⟩) ?_ ?_
                            rotate_left
                            · intro w'
                              go_simp
                              with_reducible rfl
                            rotate_left
                            · simp only [Act.put, List.setIfInBounds_toArray, List.set_cons_zero, List.set_cons_succ, i64_w, i32_w]
                              rfl
                            refine pure_ (i := 6) (N := some 56) (v := ?_) (a' := ?_) #[true, true, true, true, false, true, true, false, false, false, false, false, false, false, false, false, false, false, false, false, false] rfl rfl (any_of HT_.out (by kernel_rfl)) (fun _ _ _ h => h) (Or.inl ⟨by rfl, ?_⟩) ?_ ?_
                            rotate_left
                            · intro w'
                              go_simp
                              with_reducible rfl
                            rotate_left
                            · simp only [Act.put, List.setIfInBounds_toArray, List.set_cons_zero, List.set_cons_succ, i64_w, i32_w]
                              rfl
                            refine pure_ (i := 7) (N := some 57) (v := ?_) (a' := ?_) #[true, true, true, true, false, true, true, true, false, false, false, false, false, false, false, false, false, false, false, false, false] rfl rfl (any_of HT_.out (by kernel_rfl)) (fun _ _ _ h => h) (Or.inl ⟨by rfl, ?_⟩) ?_ ?_
                            rotate_left
                            · intro w'
                              go_simp
                              with_reducible rfl
                            rotate_left
                            · simp only [Act.put, List.setIfInBounds_toArray, List.set_cons_zero, List.set_cons_succ, i64_w, i32_w]
                              rfl
                            refine pure_ (i := 8) (N := some 58) (v := ?_) (a' := ?_) #[true, true, true, true, false, true, true, true, true, false, false, false, false, false, false, false, false, false, false, false, false] rfl rfl (any_of HT_.out (by kernel_rfl)) (fun _ _ _ h => h) (Or.inl ⟨by rfl, ?_⟩) ?_ ?_
                            rotate_left
                            · intro w'
                              go_simp
                              with_reducible rfl
                            rotate_left
                            · simp only [Act.put, List.setIfInBounds_toArray, List.set_cons_zero, List.set_cons_succ, i64_w, i32_w]
                              rfl
                            refine take_ (i := 4) (N := some 54) (v := ?_) (a' := ?_) #[true, true, true, true, true, true, true, true, true, false, false, false, false, false, false, false, false, false, false, false, false] rfl rfl (take_ofW HT_.out HW_.out (by kernel_rfl)) (fun _ _ _ h => h) (Or.inl ⟨by rfl, ?_⟩) hHeld ?_ ?_
                            rotate_left
                            · rintro w' ⟨s0, s1, s2, s3, s4, s5, s6, s7⟩
                              go_simp
                              with_reducible rfl
                            rotate_left
                            · simp only [Act.put, List.setIfInBounds_toArray, List.set_cons_zero, List.set_cons_succ, i64_w, i32_w]
                              rfl
                            refine take_ (i := 9) (N := some 59) (v := ?_) (a' := ?_) #[true, true, true, true, true, true, true, true, true, true, false, false, false, false, false, false, false, false, false, false, false] rfl rfl (take_ofW HT_.out HW_.out (by kernel_rfl)) (fun _ _ _ h => h) (Or.inl ⟨by rfl, ?_⟩) hHeld ?_ ?_
                            rotate_left
                            · rintro w' ⟨s0, s1, s2, s3, s4, s5, s6, s7⟩
                              go_simp
                              with_reducible rfl
                            rotate_left
                            · simp only [Act.put, List.setIfInBounds_toArray, List.set_cons_zero, List.set_cons_succ, i64_w, i32_w]
                              rfl
                            refine pure_ (i := 10) (N := some 60) (v := ?_) (a' := ?_) #[true, true, true, true, true, true, true, true, true, true, true, false, false, false, false, false, false, false, false, false, false] rfl rfl (any_of HT_.out (by kernel_rfl)) (fun _ _ _ h => h) (Or.inl ⟨by rfl, ?_⟩) ?_ ?_
                            rotate_left
                            · intro w'
                              go_simp
                              with_reducible rfl
                            rotate_left
                            · simp only [Act.put, List.setIfInBounds_toArray, List.set_cons_zero, List.set_cons_succ, i64_w, i32_w]
                              rfl
                            refine pure_ (i := 11) (N := some 61) (v := ?_) (a' := ?_) #[true, true, true, true, true, true, true, true, true, true, true, true, false, false, false, false, false, false, false, false, false] rfl rfl (any_of HT_.out (by kernel_rfl)) (fun _ _ _ h => h) (Or.inl ⟨by rfl, ?_⟩) ?_ ?_
                            rotate_left
                            · intro w'
                              go_simp
                              with_reducible rfl
                            rotate_left
                            · simp only [Act.put, List.setIfInBounds_toArray, List.set_cons_zero, List.set_cons_succ, i64_w, i32_w]
                              rfl
                            refine pure_ (i := 12) (N := some 62) (v := undef) (a' := ?_) #[true, true, true, true, true, true, true, true, true, true, true, true, true, false, false, false, false, false, false, false, false] rfl rfl (any_of HT_.out (by kernel_rfl)) (fun _ _ _ h => h) (Or.inr ⟨by rfl, rfl⟩) ?_ ?_
                            rotate_left
                            · simp only [Act.put, List.setIfInBounds_toArray, List.set_cons_zero, List.set_cons_succ, i64_w, i32_w]
                              rfl
                            refine pure_ (i := 13) (N := some 63) (v := undef) (a' := ?_) #[true, true, true, true, true, true, true, true, true, true, true, true, true, true, false, false, false, false, false, false, false] rfl rfl (any_of HT_.out (by kernel_rfl)) (fun _ _ _ h => h) (Or.inr ⟨by rfl, rfl⟩) ?_ ?_
                            rotate_left
                            · simp only [Act.put, List.setIfInBounds_toArray, List.set_cons_zero, List.set_cons_succ, i64_w, i32_w]
                              rfl
                            refine pure_ (i := 14) (N := some 64) (v := undef) (a' := ?_) #[true, true, true, true, true, true, true, true, true, true, true, true, true, true, true, false, false, false, false, false, false] rfl rfl (any_of HT_.out (by kernel_rfl)) (fun _ _ _ h => h) (Or.inr ⟨by rfl, rfl⟩) ?_ ?_
                            rotate_left
                            · simp only [Act.put, List.setIfInBounds_toArray, List.set_cons_zero, List.set_cons_succ, i64_w, i32_w]
                              rfl
                            refine pure_ (i := 15) (N := some 65) (v := undef) (a' := ?_) #[true, true, true, true, true, true, true, true, true, true, true, true, true, true, true, true, false, false, false, false, false] rfl rfl (any_of HT_.out (by kernel_rfl)) (fun _ _ _ h => h) (Or.inr ⟨by rfl, rfl⟩) ?_ ?_
                            rotate_left
                            · simp only [Act.put, List.setIfInBounds_toArray, List.set_cons_zero, List.set_cons_succ, i64_w, i32_w]
                              rfl
                            refine pure_ (i := 16) (N := some 66) (v := undef) (a' := ?_) #[true, true, true, true, true, true, true, true, true, true, true, true, true, true, true, true, true, false, false, false, false] rfl rfl (any_of HT_.out (by kernel_rfl)) (fun _ _ _ h => h) (Or.inr ⟨by rfl, rfl⟩) ?_ ?_
                            rotate_left
                            · simp only [Act.put, List.setIfInBounds_toArray, List.set_cons_zero, List.set_cons_succ, i64_w, i32_w]
                              rfl
                            refine pure_ (i := 17) (N := some 67) (v := undef) (a' := ?_) #[true, true, true, true, true, true, true, true, true, true, true, true, true, true, true, true, true, true, false, false, false] rfl rfl (any_of HT_.out (by kernel_rfl)) (fun _ _ _ h => h) (Or.inr ⟨by rfl, rfl⟩) ?_ ?_
                            rotate_left
                            · simp only [Act.put, List.setIfInBounds_toArray, List.set_cons_zero, List.set_cons_succ, i64_w, i32_w]
                              rfl
                            refine pure_ (i := 18) (N := some 68) (v := undef) (a' := ?_) #[true, true, true, true, true, true, true, true, true, true, true, true, true, true, true, true, true, true, true, false, false] rfl rfl (any_of HT_.out (by kernel_rfl)) (fun _ _ _ h => h) (Or.inr ⟨by rfl, rfl⟩) ?_ ?_
                            rotate_left
                            · simp only [Act.put, List.setIfInBounds_toArray, List.set_cons_zero, List.set_cons_succ, i64_w, i32_w]
                              rfl
                            refine pure_ (i := 19) (N := some 69) (v := undef) (a' := ?_) #[true, true, true, true, true, true, true, true, true, true, true, true, true, true, true, true, true, true, true, true, false] rfl rfl (any_of HT_.out (by kernel_rfl)) (fun _ _ _ h => h) (Or.inr ⟨by rfl, rfl⟩) ?_ ?_
                            rotate_left
                            · simp only [Act.put, List.setIfInBounds_toArray, List.set_cons_zero, List.set_cons_succ, i64_w, i32_w]
                              rfl
                            refine pure_ (i := 20) (N := some 70) (v := ?_) (a' := ?_) #[true, true, true, true, true, true, true, true, true, true, true, true, true, true, true, true, true, true, true, true, true] rfl rfl (any_of HT_.out (by kernel_rfl)) (fun _ _ _ h => h) (Or.inl ⟨by rfl, ?_⟩) ?_ ?_
                            rotate_left
                            · intro w'
                              go_simp
                              with_reducible rfl
                            rotate_left
                            · simp only [Act.put, List.setIfInBounds_toArray, List.set_cons_zero, List.set_cons_succ, i64_w, i32_w]
                              rfl
                            refine done_ (done_of HT_.out (by kernel_rfl)) ?_
                            try go_wp2
                            go_meet
                            case rel => exact ⟨_, (false), (by first | rfl | (simp; done) | (simp [*]; done)), H', ⟨by have := HK1.out; have := HJ3.out; have := HJ6.out; have := HK4.out; have := HK5.out; first | omega | exact Nat.le_refl _⟩, ⟨by (with_reducible repeat (first | apply Kd.R_alloc | apply Kd.R_drewN | apply Kd.R_drew)); exact HO_7.out⟩, ⟨by repeat (first | (with_reducible first | exact HB.out | apply pbA | apply pbN | apply pbD) | exact HB.out)⟩⟩
                        · rw [if_neg c20] at H
                          exact absurd H (by simp)
                      · rw [if_neg c19] at H
                        exact absurd H (by simp)
                    · rw [if_neg c18] at H
                      exact absurd H (by simp)
                  · rw [if_neg c17] at H
                    exact absurd H (by simp)
                 case rest =>
                  clear HC16
                  try clear c1
                  try clear c2
                  try clear p2
                  try clear c3
                  try clear p3
                  try clear q3
                  try clear hx3
                  try clear c4
                  try clear c5
                  try clear c5b0
                  try clear c6
                  try clear c8
                  try clear c8b0
                  try clear c9
                  try clear c9b0
                  try clear c10
                  try clear c10b0
                  try clear c14
                  try clear c15
                  try clear c15b0
                  try clear c17
                  try clear c17b0
                  try clear c18
                  try clear c18b0
                  try clear c19
                  try clear c19b0
                  try clear c20
                  try clear c20b0
                  try clear c21
                  try clear c21b0
                  try clear c21b1
                  try clear hx327_0
                  try clear hx327_1
                  try clear hx327_2
                  try clear hx327_3
                  try clear hx327_4
                  try clear hx327_5
                  try clear hx328_0
                  try clear hx328_1
                  try clear hx328_2
                  try clear hx328_3
                  try clear hx328_4
                  try clear hx328_5
                  try clear hx329_0
                  try clear hx329_1
                  try clear hx330_0
                  try clear hx330_1
                  try clear hx330_2
                  try clear hx330_3
                  try clear hx330_4
                  try clear hx330_5
                  try clear hx331_0
                  try clear hx331_1
                  try clear p2
                  try clear p3
                  try clear p327
                  try clear p328
                  try clear p329
                  try clear p330
                  try clear p331
                  try clear q3
                  try clear q327
                  try clear q328
                  try clear q329
                  try clear q330
                  try clear q331
                  obtain ⟨kq, x70_15, rfl, HA, HJ15, HO_7, HB⟩ := hcut
                  cases kq with
                  | zero => exact absurd HA.out (by simp [tableauref24_Changed.j5])
                  | succ kj15 =>
                   have H := HA.out
                   clear HA
                   simp only [tableauref24_Changed.j5] at H
                   by_cases c24 : x70_15 = true
                   · subst c24
                     have H1 : (if 0 ≤ x8_1 then (if x8_1 < (l1.length : Int) then (if 0 ≤ x9_4 then (if x9_4 < (l2.length : Int) then (if 0 ≤ x10_5 then (if x10_5 < (((rd_T75 l2 x9_4).f1).length : Int) then ((tableauref24_spot.f kj15 ((rd_T54 l1 x8_1).f0) ((rd_T54 l1 x8_1).f1) ((rd_T54 l1 x8_1).f2) ((rd_T54 l1 x8_1).f3) ((rd_T54 l1 x8_1).f4) ((rd_T54 l1 x8_1).f5) ((rd_T26 ((rd_T75 l2 x9_4).f1) x10_5).f0) ((rd_T26 ((rd_T75 l2 x9_4).f1) x10_5).f1) ((rd_T26 ((rd_T75 l2 x9_4).f1) x10_5).f2) ((rd_T26 ((rd_T75 l2 x9_4).f1) x10_5).f3)).bind fun bt335 => ((tableauref09_Add.f kj15 x7_5 bt335.1 bt335.2.1 bt335.2.2.1 bt335.2.2.2).bind fun t339 => (tableauref24_Changed.l2 kj15 l0 l1 l2 t339 x8_1 x9_4 (wrap64 (x10_5 + 1))))) else (none)) else (none)) else (none)) else (none)) else (none)) else (none)) = some r := by rw [if_pos rfl] at H; exact H
                     clear H
                     have H := H1
                     clear H1
                     by_cases c25 : 0 ≤ x8_1
                     · rw [if_pos c25] at H
                       have c25b0 : decide (0 ≤ x8_1) = true := decide_eq_true c25
                       clear c25
                       by_cases c26 : x8_1 < (l1.length : Int)
                       · rw [if_pos c26] at H
                         have c26b0 : decide (x8_1 < (l1.length : Int)) = true := decide_eq_true c26
                         clear c26
                         by_cases c27 : 0 ≤ x9_4
                         · rw [if_pos c27] at H
                           have c27b0 : decide (0 ≤ x9_4) = true := decide_eq_true c27
                           clear c27
                           by_cases c28 : x9_4 < (l2.length : Int)
                           · rw [if_pos c28] at H
                             have c28b0 : decide (x9_4 < (l2.length : Int)) = true := decide_eq_true c28
                             clear c28
                             by_cases c29 : 0 ≤ x10_5
                             · rw [if_pos c29] at H
                               have c29b0 : decide (0 ≤ x10_5) = true := decide_eq_true c29
                               clear c29
                               by_cases c30 : x10_5 < (((rd_T75 l2 x9_4).f1).length : Int)
                               · rw [if_pos c30] at H
                                 have c30b0 : decide (x10_5 < (((rd_T75 l2 x9_4).f1).length : Int)) = true := decide_eq_true c30
                                 clear c30
                                 replace H := Option.bind_eq_some_iff.mp H
                                 obtain ⟨⟨t335, t336, t337, t338⟩, A310, H⟩ := H
                                 replace H : ((tableauref09_Add.f kj15 x7_5 t335 t336 t337 t338).bind fun t339 => (tableauref24_Changed.l2 kj15 l0 l1 l2 t339 x8_1 x9_4 (wrap64 (x10_5 + 1)))) = some r := H
                                 have A31 := Aside0.mk A310
                                 clear A310
                                 replace H := Option.bind_eq_some_iff.mp H
                                 obtain ⟨t339, A320, H⟩ := H
                                 replace H : (tableauref24_Changed.l2 kj15 l0 l1 l2 t339 x8_1 x9_4 (wrap64 (x10_5 + 1))) = some r := H
                                 have A32 := Aside0.mk A320
                                 clear A320
                                 have H' := Aside0.mk H
                                 clear H
                                 try go_wp2
                                 have n0_ := Aside0.mk (Kd.R_drew HO_7.out)
                                 have n1_ := Aside0.mk (pbD HB.out)
                                 clear HO_7
                                 clear HB
                                 have HO_7 := n0_
                                 have HB := n1_
                                 clear n0_ n1_
                                 have p332 : 0 ≤ (x8_1 : Int) := of_decide_eq_true (by first | (with_reducible assumption) | assumption)
                                 have q332 : x8_1 < (l1.length : Int) := of_decide_eq_true (by first | (with_reducible assumption) | assumption)
                                 obtain ⟨ad332, e332, hx332_0, hx332_1, hx332_2, hx332_3, hx332_4, hx332_5⟩ := at_T54 HR1.out x8_1 p332 q332
                                 have hw332_5 := hx332_5
                                 have hw332_4 := hx332_4
                                 have hw332_3 := hx332_3
                                 have hw332_2 := hx332_2
                                 have hw332_1 := hx332_1
                                 have hw332_0 := hx332_0
                                 cases e332
                                 replace hx332_0 := (HB.out.cell (World.block_lt_of_cell? w _ hx332_0)).trans hx332_0
                                 replace hx332_1 := (HB.out.cell (World.block_lt_of_cell? w _ hx332_1)).trans hx332_1
                                 replace hx332_2 := (HB.out.cell (World.block_lt_of_cell? w _ hx332_2)).trans hx332_2
                                 replace hx332_3 := (HB.out.cell (World.block_lt_of_cell? w _ hx332_3)).trans hx332_3
                                 replace hx332_4 := (HB.out.cell (World.block_lt_of_cell? w _ hx332_4)).trans hx332_4
                                 replace hx332_5 := (HB.out.cell (World.block_lt_of_cell? w _ hx332_5)).trans hx332_5
                                 replace p332 := eq_true p332
                                 replace q332 := eq_true q332
                                 have p333 : 0 ≤ (x9_4 : Int) := of_decide_eq_true (by first | (with_reducible assumption) | assumption)
                                 have q333 : x9_4 < (l2.length : Int) := of_decide_eq_true (by first | (with_reducible assumption) | assumption)
                                 obtain ⟨ad333, A333_1, c333_1, e333, hx333_0, hx333_1, hl333_1, hi333_1⟩ := at_T75 HR2.out x9_4 p333 q333
                                 have hw333_1 := hx333_1
                                 have hw333_0 := hx333_0
                                 cases e333
                                 replace hx333_0 := (HB.out.cell (World.block_lt_of_cell? w _ hx333_0)).trans hx333_0
                                 replace hx333_1 := (HB.out.cell (World.block_lt_of_cell? w _ hx333_1)).trans hx333_1
                                 have HR333_1 := Aside0.mk hi333_1
                                 have HC333_1 := Aside0.mk hl333_1
                                 clear hi333_1 hl333_1
                                 replace p333 := eq_true p333
                                 replace q333 := eq_true q333
                                 have p334 : 0 ≤ (x10_5 : Int) := of_decide_eq_true (by first | (with_reducible assumption) | assumption)
                                 have q334 : x10_5 < (((rd_T75 l2 x9_4).f1).length : Int) := of_decide_eq_true (by first | (with_reducible assumption) | assumption)
                                 obtain ⟨ad334, e334, hx334_0, hx334_1, hx334_2, hx334_3⟩ := at_T26 HR333_1.out x10_5 p334 q334
                                 have hw334_3 := hx334_3
                                 have hw334_2 := hx334_2
                                 have hw334_1 := hx334_1
                                 have hw334_0 := hx334_0
                                 cases e334
                                 replace hx334_0 := (HB.out.cell (World.block_lt_of_cell? w _ hx334_0)).trans hx334_0
                                 replace hx334_1 := (HB.out.cell (World.block_lt_of_cell? w _ hx334_1)).trans hx334_1
                                 replace hx334_2 := (HB.out.cell (World.block_lt_of_cell? w _ hx334_2)).trans hx334_2
                                 replace hx334_3 := (HB.out.cell (World.block_lt_of_cell? w _ hx334_3)).trans hx334_3
                                 replace p334 := eq_true p334
                                 replace q334 := eq_true q334
                                 refine start_ (n := 16) (S := fun w' => w'.cell? (ad332.add ((x8_1).toNat * 6)) = some (.int .i64 ((rd_T54 l1 x8_1).f0)) ∧ w'.cell? ⟨(ad332.add ((x8_1).toNat * 6)).block, (ad332.add ((x8_1).toNat * 6)).off + 1, none⟩ = some (.int .i64 ((rd_T54 l1 x8_1).f1)) ∧ w'.cell? ⟨(ad332.add ((x8_1).toNat * 6)).block, (ad332.add ((x8_1).toNat * 6)).off + 2, none⟩ = some (.int .i64 ((rd_T54 l1 x8_1).f2)) ∧ w'.cell? ⟨(ad332.add ((x8_1).toNat * 6)).block, (ad332.add ((x8_1).toNat * 6)).off + 3, none⟩ = some (.int .i64 ((rd_T54 l1 x8_1).f3)) ∧ w'.cell? ⟨(ad332.add ((x8_1).toNat * 6)).block, (ad332.add ((x8_1).toNat * 6)).off + 4, none⟩ = some (.int .i64 ((rd_T54 l1 x8_1).f4)) ∧ w'.cell? ⟨(ad332.add ((x8_1).toNat * 6)).block, (ad332.add ((x8_1).toNat * 6)).off + 5, none⟩ = some (.int .i64 ((rd_T54 l1 x8_1).f5)) ∧ w'.cell? (ad333.add ((x9_4).toNat * 2)) = some (.int .i64 ((rd_T75 l2 x9_4).f0)) ∧ w'.cell? ⟨(ad333.add ((x9_4).toNat * 2)).block, (ad333.add ((x9_4).toNat * 2)).off + 1, none⟩ = some (.slice (some ad334) ((rd_T75 l2 x9_4).f1).length c333_1) ∧ w'.cell? (ad334.add ((x10_5).toNat * 4)) = some (.int .i64 ((rd_T26 ((rd_T75 l2 x9_4).f1) x10_5).f0)) ∧ w'.cell? ⟨(ad334.add ((x10_5).toNat * 4)).block, (ad334.add ((x10_5).toNat * 4)).off + 1, none⟩ = some (.int .i64 ((rd_T26 ((rd_T75 l2 x9_4).f1) x10_5).f1)) ∧ w'.cell? ⟨(ad334.add ((x10_5).toNat * 4)).block, (ad334.add ((x10_5).toNat * 4)).off + 2, none⟩ = some (.int .i64 ((rd_T26 ((rd_T75 l2 x9_4).f1) x10_5).f2)) ∧ w'.cell? ⟨(ad334.add ((x10_5).toNat * 4)).block, (ad334.add ((x10_5).toNat * 4)).off + 3, none⟩ = some (.int .i64 ((rd_T26 ((rd_T75 l2 x9_4).f1) x10_5).f3))) (ds := []) #[false, false, false, false, false, false, false, false, false, false, false, false, false, false, false, false] (by kernel_rfl) rfl rfl ⟨((HB.out.cell (World.block_lt_of_cell? w _ hw332_0)).trans hw332_0), ((HB.out.cell (World.block_lt_of_cell? w _ hw332_1)).trans hw332_1), ((HB.out.cell (World.block_lt_of_cell? w _ hw332_2)).trans hw332_2), ((HB.out.cell (World.block_lt_of_cell? w _ hw332_3)).trans hw332_3), ((HB.out.cell (World.block_lt_of_cell? w _ hw332_4)).trans hw332_4), ((HB.out.cell (World.block_lt_of_cell? w _ hw332_5)).trans hw332_5), ((HB.out.cell (World.block_lt_of_cell? w _ hw333_0)).trans hw333_0), ((HB.out.cell (World.block_lt_of_cell? w _ hw333_1)).trans hw333_1), ((HB.out.cell (World.block_lt_of_cell? w _ hw334_0)).trans hw334_0), ((HB.out.cell (World.block_lt_of_cell? w _ hw334_1)).trans hw334_1), ((HB.out.cell (World.block_lt_of_cell? w _ hw334_2)).trans hw334_2), ((HB.out.cell (World.block_lt_of_cell? w _ hw334_3)).trans hw334_3)⟩ (fun hHeld => ?_); refine with_tabW tableauref24_Changed.tab12 tableauref24_Changed.bits12 (fun HT_ HW_ => ?_)
                                 generalize wc.drew = w33 at HO_7 HB HR333_1 hx332_0 hx332_1 hx332_2 hx332_3 hx332_4 hx332_5 hx333_0 hx333_1 hx334_0 hx334_1 hx334_2 hx334_3 hHeld ⊢
                                 refine pure_ (i := 0) (N := some 73) (v := ?_) (a' := ?_) #[true, false, false, false, false, false, false, false, false, false, false, false, false, false, false, false] rfl rfl (any_of HT_.out (by kernel_rfl)) (fun _ _ _ h => h) (Or.inl ⟨by rfl, ?_⟩) ?_ ?_
                                 rotate_left
                                 · intro w'
                                   go_simp
                                   with_reducible rfl
                                 rotate_left
                                 · simp only [Act.put, List.setIfInBounds_toArray, List.set_cons_zero, List.set_cons_succ, i64_w, i32_w]
                                   rfl
                                 refine pure_ (i := 1) (N := some 74) (v := ?_) (a' := ?_) #[true, true, false, false, false, false, false, false, false, false, false, false, false, false, false, false] rfl rfl (any_of HT_.out (by kernel_rfl)) (fun _ _ _ h => h) (Or.inl ⟨by rfl, ?_⟩) ?_ ?_
                                 rotate_left
                                 · intro w'
                                   go_simp
                                   with_reducible rfl
                                 rotate_left
                                 · simp only [Act.put, List.setIfInBounds_toArray, List.set_cons_zero, List.set_cons_succ, i64_w, i32_w]
                                   rfl
                                 refine pure_ (i := 2) (N := some 75) (v := ?_) (a' := ?_) #[true, true, true, false, false, false, false, false, false, false, false, false, false, false, false, false] rfl rfl (any_of HT_.out (by kernel_rfl)) (fun _ _ _ h => h) (Or.inl ⟨by rfl, ?_⟩) ?_ ?_
                                 rotate_left
                                 · intro w'
                                   go_simp
                                   with_reducible rfl
                                 rotate_left
                                 · simp only [Act.put, List.setIfInBounds_toArray, List.set_cons_zero, List.set_cons_succ, i64_w, i32_w]
                                   rfl
                                 refine pure_ (i := 3) (N := some 76) (v := ?_) (a' := ?_) #[true, true, true, true, false, false, false, false, false, false, false, false, false, false, false, false] rfl rfl (any_of HT_.out (by kernel_rfl)) (fun _ _ _ h => h) (Or.inl ⟨by rfl, ?_⟩) ?_ ?_
                                 rotate_left
                                 · intro w'
                                   go_simp
                                   with_reducible rfl
                                 rotate_left
                                 · simp only [Act.put, List.setIfInBounds_toArray, List.set_cons_zero, List.set_cons_succ, i64_w, i32_w]
                                   rfl
                                 refine pure_ (i := 5) (N := some 78) (v := ?_) (a' := ?_) #[true, true, true, true, false, true, false, false, false, false, false, false, false, false, false, false] rfl rfl (any_of HT_.out (by kernel_rfl)) (fun _ _ _ h => h) (Or.inl ⟨by rfl, ?_⟩) ?_ ?_
                                 rotate_left
                                 · intro w'
                                   go_simp
                                   with_reducible rfl
                                 rotate_left
                                 · simp only [Act.put, List.setIfInBounds_toArray, List.set_cons_zero, List.set_cons_succ, i64_w, i32_w]
                                   rfl
                                 refine pure_ (i := 6) (N := some 79) (v := ?_) (a' := ?_) #[true, true, true, true, false, true, true, false, false, false, false, false, false, false, false, false] rfl rfl (any_of HT_.out (by kernel_rfl)) (fun _ _ _ h => h) (Or.inl ⟨by rfl, ?_⟩) ?_ ?_
                                 rotate_left
                                 · intro w'
                                   go_simp
                                   with_reducible rfl
                                 rotate_left
                                 · simp only [Act.put, List.setIfInBounds_toArray, List.set_cons_zero, List.set_cons_succ, i64_w, i32_w]
                                   rfl
                                 refine pure_ (i := 7) (N := some 80) (v := ?_) (a' := ?_) #[true, true, true, true, false, true, true, true, false, false, false, false, false, false, false, false] rfl rfl (any_of HT_.out (by kernel_rfl)) (fun _ _ _ h => h) (Or.inl ⟨by rfl, ?_⟩) ?_ ?_
                                 rotate_left
                                 · intro w'
                                   go_simp
                                   with_reducible rfl
                                 rotate_left
                                 · simp only [Act.put, List.setIfInBounds_toArray, List.set_cons_zero, List.set_cons_succ, i64_w, i32_w]
                                   rfl
                                 refine pure_ (i := 8) (N := some 81) (v := ?_) (a' := ?_) #[true, true, true, true, false, true, true, true, true, false, false, false, false, false, false, false] rfl rfl (any_of HT_.out (by kernel_rfl)) (fun _ _ _ h => h) (Or.inl ⟨by rfl, ?_⟩) ?_ ?_
                                 rotate_left
                                 · intro w'
                                   go_simp
                                   with_reducible rfl
                                 rotate_left
                                 · simp only [Act.put, List.setIfInBounds_toArray, List.set_cons_zero, List.set_cons_succ, i64_w, i32_w]
                                   rfl
                                 refine pure_ (i := 10) (N := some 83) (v := ?_) (a' := ?_) #[true, true, true, true, false, true, true, true, true, false, true, false, false, false, false, false] rfl rfl (any_of HT_.out (by kernel_rfl)) (fun _ _ _ h => h) (Or.inl ⟨by rfl, ?_⟩) ?_ ?_
                                 rotate_left
                                 · intro w'
                                   go_simp
                                   with_reducible rfl
                                 rotate_left
                                 · simp only [Act.put, List.setIfInBounds_toArray, List.set_cons_zero, List.set_cons_succ, i64_w, i32_w]
                                   rfl
                                 refine take_ (i := 4) (N := some 77) (v := ?_) (a' := ?_) #[true, true, true, true, true, true, true, true, true, false, true, false, false, false, false, false] rfl rfl (take_ofW HT_.out HW_.out (by kernel_rfl)) (fun _ _ _ h => h) (Or.inl ⟨by rfl, ?_⟩) hHeld ?_ ?_
                                 rotate_left
                                 · rintro w' ⟨s0, s1, s2, s3, s4, s5, s6, s7, s8, s9, s10, s11⟩
                                   go_simp
                                   with_reducible rfl
                                 rotate_left
                                 · simp only [Act.put, List.setIfInBounds_toArray, List.set_cons_zero, List.set_cons_succ, i64_w, i32_w]
                                   rfl
                                 refine take_ (i := 9) (N := some 82) (v := ?_) (a' := ?_) #[true, true, true, true, true, true, true, true, true, true, true, false, false, false, false, false] rfl rfl (take_ofW HT_.out HW_.out (by kernel_rfl)) (fun _ _ _ h => h) (Or.inl ⟨by rfl, ?_⟩) hHeld ?_ ?_
                                 rotate_left
                                 · rintro w' ⟨s0, s1, s2, s3, s4, s5, s6, s7, s8, s9, s10, s11⟩
                                   go_simp
                                   with_reducible rfl
                                 rotate_left
                                 · simp only [Act.put, List.setIfInBounds_toArray, List.set_cons_zero, List.set_cons_succ, i64_w, i32_w]
                                   rfl
                                 refine pure_ (i := 11) (N := some 84) (v := ?_) (a' := ?_) #[true, true, true, true, true, true, true, true, true, true, true, true, false, false, false, false] rfl rfl (any_of HT_.out (by kernel_rfl)) (fun _ _ _ h => h) (Or.inl ⟨by rfl, ?_⟩) ?_ ?_
                                 rotate_left
                                 · intro w'
                                   go_simp
                                   with_reducible rfl
                                 rotate_left
                                 · simp only [Act.put, List.setIfInBounds_toArray, List.set_cons_zero, List.set_cons_succ, i64_w, i32_w]
                                   rfl
                                 refine take_ (i := 12) (N := some 85) (v := ?_) (a' := ?_) #[true, true, true, true, true, true, true, true, true, true, true, true, true, false, false, false] rfl rfl (take_ofW HT_.out HW_.out (by kernel_rfl)) (fun _ _ _ h => h) (Or.inl ⟨by rfl, ?_⟩) hHeld ?_ ?_
                                 rotate_left
                                 · rintro w' ⟨s0, s1, s2, s3, s4, s5, s6, s7, s8, s9, s10, s11⟩
                                   go_simp
                                   with_reducible rfl
                                 rotate_left
                                 · simp only [Act.put, List.setIfInBounds_toArray, List.set_cons_zero, List.set_cons_succ, i64_w, i32_w]
                                   rfl
                                 refine one_ (i := 13) (N := some 86) #[true, true, true, true, true, true, true, true, true, true, true, true, true, true, false, false] rfl rfl (one_of HT_.out (by kernel_rfl)) (by decide) (fun K hK => ?_)
                                 refine goes_ Try.func72 (by kernel_rfl) rfl #[.agg #[.int .i64 ((rd_T54 l1 x8_1).f0), .int .i64 ((rd_T54 l1 x8_1).f1), .int .i64 ((rd_T54 l1 x8_1).f2), .int .i64 ((rd_T54 l1 x8_1).f3), .int .i64 ((rd_T54 l1 x8_1).f4), .int .i64 ((rd_T54 l1 x8_1).f5)], .agg #[.int .i64 ((rd_T26 ((rd_T75 l2 x9_4).f1) x10_5).f0), .int .i64 ((rd_T26 ((rd_T75 l2 x9_4).f1) x10_5).f1), .int .i64 ((rd_T26 ((rd_T75 l2 x9_4).f1) x10_5).f2), .int .i64 ((rd_T26 ((rd_T75 l2 x9_4).f1) x10_5).f3)]] (by rfl) rfl rfl (by (try simp only [List.map_toArray, List.map_cons, List.map_nil]); first | done | rfl | (simp only [List.length_drop, List.length_take]; rfl)) ?_
                                 with_reducible refine (tableauref24_spot.calls kj15 ((rd_T54 l1 x8_1).f0) ((rd_T54 l1 x8_1).f1) ((rd_T54 l1 x8_1).f2) ((rd_T54 l1 x8_1).f3) ((rd_T54 l1 x8_1).f4) ((rd_T54 l1 x8_1).f5) ((rd_T26 ((rd_T75 l2 x9_4).f1) x10_5).f0) ((rd_T26 ((rd_T75 l2 x9_4).f1) x10_5).f1) ((rd_T26 ((rd_T75 l2 x9_4).f1) x10_5).f2) ((rd_T26 ((rd_T75 l2 x9_4).f1) x10_5).f3) t335 t336 t337 t338 _ A31.out).mono ?_
                                 rintro e w34 ⟨rfl, hb⟩
                                 refine ⟨_, rfl, ?_⟩
                                 have n0_ := Aside0.mk (Kd.R_below (by (with_reducible repeat (first | apply Kd.R_alloc | apply Kd.R_drewN | apply Kd.R_drew)); exact HO_7.out) hb)
                                 have n1_ := Aside0.mk (pbP (by repeat (first | (with_reducible first | exact HB.out | apply pbA | apply pbN | apply pbD) | exact HB.out)) hb)
                                 clear HO_7
                                 clear HB
                                 have HO_7 := n0_
                                 have HB := n1_
                                 clear n0_ n1_
                                 (try clear hb)
                                 (try clear hb2)
                                 (try clear hk)
                                 (try clear hi)
                                 obtain ⟨Ao35, co35, eo35⟩ := Kd.R_slice HO_7.out
                                 (first | subst eo35 | (injection eo35 with f1_ f2_ f3_; have f4_ := f1_.symm; have f5_ := f3_.symm; clear f1_ f2_ f3_; subst f4_; subst f5_))
                                 refine hK.out _ _ ⟨((HB.out.cell (World.block_lt_of_cell? w _ hw332_0)).trans hw332_0), ((HB.out.cell (World.block_lt_of_cell? w _ hw332_1)).trans hw332_1), ((HB.out.cell (World.block_lt_of_cell? w _ hw332_2)).trans hw332_2), ((HB.out.cell (World.block_lt_of_cell? w _ hw332_3)).trans hw332_3), ((HB.out.cell (World.block_lt_of_cell? w _ hw332_4)).trans hw332_4), ((HB.out.cell (World.block_lt_of_cell? w _ hw332_5)).trans hw332_5), ((HB.out.cell (World.block_lt_of_cell? w _ hw333_0)).trans hw333_0), ((HB.out.cell (World.block_lt_of_cell? w _ hw333_1)).trans hw333_1), ((HB.out.cell (World.block_lt_of_cell? w _ hw334_0)).trans hw334_0), ((HB.out.cell (World.block_lt_of_cell? w _ hw334_1)).trans hw334_1), ((HB.out.cell (World.block_lt_of_cell? w _ hw334_2)).trans hw334_2), ((HB.out.cell (World.block_lt_of_cell? w _ hw334_3)).trans hw334_3)⟩ (fun hHeld => ?_)
                                 clear hK K
                                 refine norm_ (a' := ?_) ?_ ?_
                                 rotate_left
                                 · show Act.put _ (some 86) _ = _
                                   simp only [Act.put, List.setIfInBounds_toArray, List.set_cons_zero, List.set_cons_succ, i64_w, i32_w]
                                   rfl
                                 refine one_ (i := 14) (N := some 87) #[true, true, true, true, true, true, true, true, true, true, true, true, true, true, true, false] rfl rfl (one_of HT_.out (by kernel_rfl)) (by decide) (fun K hK => ?_)
                                 refine goes_ Try.func24 (by kernel_rfl) rfl #[.slice Ao35 x7_5.length co35, .agg #[.int .i64 t335, .int .i64 t336, .int .i64 t337, .int .i64 t338]] (by rfl) rfl rfl (by (try simp only [List.map_toArray, List.map_cons, List.map_nil]); first | done | rfl | (simp only [List.length_drop, List.length_take]; rfl)) ?_
                                 with_reducible refine (tableauref09_Add.calls kj15 _ _ x7_5 t335 t336 t337 t338 t339 _ ?side1 ?side2 A32.out).mono ?_
                                 (case side1 => repeat (first | exact (Kd.R_reads' HO_7.out).2.2 | (with_reducible refine Kd.C_alloc ?_ _) | (with_reducible refine Kd.C_drewN ?_ _) | (with_reducible refine Kd.C_drew ?_)))
                                 (case side2 => exact (Kd.R_reads' HO_7.out).2.1)
                                 rintro e w36 ⟨v340, rfl, ho0, hb⟩
                                 refine ⟨_, rfl, ?_⟩
                                 have n0_ := Aside0.mk (Kd.R_elder' (by (with_reducible repeat (first | apply Kd.R_alloc | apply Kd.R_drewN | apply Kd.R_drew)); exact HO_7.out) (Kd.R_base ho0) hb)
                                 have n1_ := Aside0.mk (Kd.R_lower (Kd.R_new' ho0 (Kd.R_lt (by (with_reducible repeat (first | apply Kd.R_alloc | apply Kd.R_drewN | apply Kd.R_drew)); exact HO_7.out))) (pbZ (by repeat (first | (with_reducible first | exact HB.out | apply pbA | apply pbN | apply pbD) | exact HB.out))))
                                 have n2_ := Aside0.mk (pbP (by repeat (first | (with_reducible first | exact HB.out | apply pbA | apply pbN | apply pbD) | exact HB.out)) hb)
                                 clear HO_7
                                 clear HB
                                 have HO_7 := n0_
                                 have HO341 := n1_
                                 have HB := n2_
                                 clear n0_ n1_ n2_
                                 (try clear hb)
                                 (try clear hb2)
                                 (try clear hk)
                                 (try clear hi)
                                 (try clear ho0)
                                 refine hK.out _ _ ⟨((HB.out.cell (World.block_lt_of_cell? w _ hw332_0)).trans hw332_0), ((HB.out.cell (World.block_lt_of_cell? w _ hw332_1)).trans hw332_1), ((HB.out.cell (World.block_lt_of_cell? w _ hw332_2)).trans hw332_2), ((HB.out.cell (World.block_lt_of_cell? w _ hw332_3)).trans hw332_3), ((HB.out.cell (World.block_lt_of_cell? w _ hw332_4)).trans hw332_4), ((HB.out.cell (World.block_lt_of_cell? w _ hw332_5)).trans hw332_5), ((HB.out.cell (World.block_lt_of_cell? w _ hw333_0)).trans hw333_0), ((HB.out.cell (World.block_lt_of_cell? w _ hw333_1)).trans hw333_1), ((HB.out.cell (World.block_lt_of_cell? w _ hw334_0)).trans hw334_0), ((HB.out.cell (World.block_lt_of_cell? w _ hw334_1)).trans hw334_1), ((HB.out.cell (World.block_lt_of_cell? w _ hw334_2)).trans hw334_2), ((HB.out.cell (World.block_lt_of_cell? w _ hw334_3)).trans hw334_3)⟩ (fun hHeld => ?_)
                                 clear hK K
                                 refine norm_ (a' := ?_) ?_ ?_
                                 rotate_left
                                 · show Act.put _ (some 87) _ = _
                                   simp only [Act.put, List.setIfInBounds_toArray, List.set_cons_zero, List.set_cons_succ, i64_w, i32_w]
                                   rfl
                                 refine pure_ (i := 15) (N := some 7) (v := ?_) (a' := ?_) #[true, true, true, true, true, true, true, true, true, true, true, true, true, true, true, true] rfl rfl (any_of HT_.out (by kernel_rfl)) (fun _ _ _ h => h) (Or.inl ⟨by rfl, ?_⟩) ?_ ?_
                                 rotate_left
                                 · intro w'
                                   go_simp
                                   with_reducible rfl
                                 rotate_left
                                 · simp only [Act.put, List.setIfInBounds_toArray, List.set_cons_zero, List.set_cons_succ, i64_w, i32_w]
                                   rfl
                                 refine done_ (done_of HT_.out (by kernel_rfl)) ?_
                                 try go_wp2
                                 go_roundg kj15
                                 case measure => have := HK1.out; have := HJ3.out; have := HJ6.out; have := HK4.out; have := HK5.out; have := HJ15.out; omega
                                 case rel => exact ⟨(t339), (wrap64 (x10_5 + 1)), (by first | rfl | (simp; done) | (simp [*]; done)), H', ⟨by have := HK1.out; have := HJ3.out; have := HJ6.out; have := HK4.out; have := HK5.out; have := HJ15.out; omega⟩, ⟨by (with_reducible repeat (first | apply Kd.R_alloc | apply Kd.R_drewN | apply Kd.R_drew)); exact Kd.R_mono HO341.out (fun _ hk => trivial)⟩, ⟨by repeat (first | (with_reducible first | exact HB.out | apply pbA | apply pbN | apply pbD) | exact HB.out)⟩⟩
                               · rw [if_neg c30] at H
                                 exact absurd H (by simp)
                             · rw [if_neg c29] at H
                               exact absurd H (by simp)
                           · rw [if_neg c28] at H
                             exact absurd H (by simp)
                         · rw [if_neg c27] at H
                           exact absurd H (by simp)
                       · rw [if_neg c26] at H
                         exact absurd H (by simp)
                     · rw [if_neg c25] at H
                       exact absurd H (by simp)
                   · replace c24 := Bool.eq_false_iff.mpr c24
                     subst c24
                     have H1 : (tableauref24_Changed.l1 kj15 l0 l1 l2 x7_5 x8_1 (wrap64 (x9_4 + 1))) = some r := by rw [if_neg (show ¬ (false = true) by decide)] at H; exact H
                     clear H
                     have H := H1
                     clear H1
                     have H' := Aside0.mk H
                     clear H
                     go_wp2
                     go_roundg kj15
                     case measure => have := HK1.out; have := HJ3.out; have := HJ6.out; have := HK4.out; have := HK5.out; have := HJ15.out; omega
                     case rel => exact ⟨(x7_5), (wrap64 (x9_4 + 1)), (by first | rfl | (simp; done) | (simp [*]; done)), H', ⟨by have := HK1.out; have := HJ3.out; have := HJ6.out; have := HK4.out; have := HK5.out; have := HJ15.out; omega⟩, ⟨by (with_reducible repeat (first | apply Kd.R_alloc | apply Kd.R_drewN | apply Kd.R_drew)); exact HO_7.out⟩, ⟨by repeat (first | (with_reducible first | exact HB.out | apply pbA | apply pbN | apply pbD) | exact HB.out)⟩⟩
             · rw [if_neg c15] at H
               have c15b0 : decide (x9_4 < (l2.length : Int)) = false := decide_eq_false c15
               clear c15
               have H' := Aside0.mk H
               clear H
               go_wp2
               go_roundg k4
               case measure => have := HK1.out; have := HJ3.out; have := HJ6.out; have := HK4.out; omega
               case rel => exact ⟨(x7_4), (wrap64 (x8_1 + 1)), (by first | rfl | (simp; done) | (simp [*]; done)), H', ⟨by have := HK1.out; have := HJ3.out; have := HJ6.out; have := HK4.out; omega⟩, ⟨by (with_reducible repeat (first | apply Kd.R_alloc | apply Kd.R_drewN | apply Kd.R_drew)); exact HO_7.out⟩, ⟨by repeat (first | (with_reducible first | exact HB.out | apply pbA | apply pbN | apply pbD) | exact HB.out)⟩⟩
         · replace c14 := Bool.eq_false_iff.mpr c14
           subst c14
           have H1 : (if x8_1 < (l0.length : Int) then (if 0 ≤ x8_1 then ((tableauref24_rect.f ((rd_T54 l0 x8_1).f0) ((rd_T54 l0 x8_1).f1) ((rd_T54 l0 x8_1).f2) ((rd_T54 l0 x8_1).f3) ((rd_T54 l0 x8_1).f4) ((rd_T54 l0 x8_1).f5)).bind fun bt343 => ((tableauref09_Add.f kj6 x7_1 bt343.1 bt343.2.1 bt343.2.2.1 bt343.2.2.2).bind fun t347 => (tableauref24_Changed.j6 kj6 l0 l1 l2 t347 x8_1))) else (none)) else (tableauref24_Changed.j6 kj6 l0 l1 l2 x7_1 x8_1)) = some r := by rw [if_neg (show ¬ (false = true) by decide)] at H; exact H
           clear H
           have H := H1
           clear H1
           have HC37 := Aside0.mk H
           clear H
           go_upto_if 91 with (fail)
           go_cut [7] (fun v7 wc => ∃ (kq : Nat) (x7_36 : List (S26)), Aside0 (tableauref24_Changed.j6 kq l0 l1 l2 x7_36 x8_1 = some r) ∧ Aside0 (kq ≤ kj6) ∧ Aside0 (Kd.R k26 26 wc w.heap.size (fun _ => True) v7 x7_36) ∧ Aside0 (Below w.heap.size w wc))
           case first =>
            have H := HC37.out
            clear HC37
            by_cases c38 : x8_1 < (l0.length : Int)
            · rw [if_pos c38] at H
              have c38b0 : decide (x8_1 < (l0.length : Int)) = true := decide_eq_true c38
              clear c38
              (first | rw [c38b0] | (simp only [i64_w, i32_w]; rw [c38b0]) | skip)
              by_cases c39 : 0 ≤ x8_1
              · rw [if_pos c39] at H
                have c39b0 : decide (0 ≤ x8_1) = true := decide_eq_true c39
                clear c39
                replace H := Option.bind_eq_some_iff.mp H
                obtain ⟨⟨t343, t344, t345, t346⟩, A400, H⟩ := H
                replace H : ((tableauref09_Add.f kj6 x7_1 t343 t344 t345 t346).bind fun t347 => (tableauref24_Changed.j6 kj6 l0 l1 l2 t347 x8_1)) = some r := H
                have A40 := Aside0.mk A400
                clear A400
                replace H := Option.bind_eq_some_iff.mp H
                obtain ⟨t347, A410, H⟩ := H
                replace H : (tableauref24_Changed.j6 kj6 l0 l1 l2 t347 x8_1) = some r := H
                have A41 := Aside0.mk A410
                clear A410
                have H' := Aside0.mk H
                clear H
                have p342 : 0 ≤ (x8_1 : Int) := of_decide_eq_true (by first | (with_reducible assumption) | assumption)
                have q342 : x8_1 < (l0.length : Int) := of_decide_eq_true (by first | (with_reducible assumption) | assumption)
                obtain ⟨ad342, e342, hx342_0, hx342_1, hx342_2, hx342_3, hx342_4, hx342_5⟩ := at_T54 HR0.out x8_1 p342 q342
                cases e342
                replace hx342_0 := (HB.out.cell (World.block_lt_of_cell? w _ hx342_0)).trans hx342_0
                replace hx342_1 := (HB.out.cell (World.block_lt_of_cell? w _ hx342_1)).trans hx342_1
                replace hx342_2 := (HB.out.cell (World.block_lt_of_cell? w _ hx342_2)).trans hx342_2
                replace hx342_3 := (HB.out.cell (World.block_lt_of_cell? w _ hx342_3)).trans hx342_3
                replace hx342_4 := (HB.out.cell (World.block_lt_of_cell? w _ hx342_4)).trans hx342_4
                replace hx342_5 := (HB.out.cell (World.block_lt_of_cell? w _ hx342_5)).trans hx342_5
                replace p342 := eq_true p342
                replace q342 := eq_true q342
                go_wp2_with (first | ((with_reducible refine gate_callee (f := 73) rfl ?_); refine goesL_ (some 97) rfl rfl Try.func73 (by kernel_rfl) rfl #[.agg #[.int .i64 ((rd_T54 l0 x8_1).f0), .int .i64 ((rd_T54 l0 x8_1).f1), .int .i64 ((rd_T54 l0 x8_1).f2), .int .i64 ((rd_T54 l0 x8_1).f3), .int .i64 ((rd_T54 l0 x8_1).f4), .int .i64 ((rd_T54 l0 x8_1).f5)]] rfl (by (try simp only [List.map_toArray, List.map_cons, List.map_nil]); first | done | rfl | (simp only [List.length_drop, List.length_take]; rfl)) ?_; (with_reducible refine (tableauref24_rect.calls ((rd_T54 l0 x8_1).f0) ((rd_T54 l0 x8_1).f1) ((rd_T54 l0 x8_1).f2) ((rd_T54 l0 x8_1).f3) ((rd_T54 l0 x8_1).f4) ((rd_T54 l0 x8_1).f5) t343 t344 t345 t346 _ A40.out).mono ?_); rintro e w42 ⟨rfl, hb⟩; refine ⟨_, rfl, ?_⟩; have n0_ := Aside0.mk (Kd.R_below (by (with_reducible repeat (first | apply Kd.R_alloc | apply Kd.R_drewN | apply Kd.R_drew)); exact HO_7.out) hb); have n1_ := Aside0.mk (pbP (by repeat (first | (with_reducible first | exact HB.out | apply pbA | apply pbN | apply pbD) | exact HB.out)) hb); clear HO_7; clear HB; have HO_7 := n0_; have HB := n1_; clear n0_ n1_; (try clear hb); (try clear hb2); (try clear hk); (try clear hi); obtain ⟨Ao43, co43, eo43⟩ := Kd.R_slice HO_7.out; subst eo43) | ((with_reducible refine gate_callee (f := 24) rfl ?_); refine goesL_ (some 98) rfl rfl Try.func24 (by kernel_rfl) rfl #[.slice Ao43 x7_1.length co43, .agg #[.int .i64 t343, .int .i64 t344, .int .i64 t345, .int .i64 t346]] rfl (by (try simp only [List.map_toArray, List.map_cons, List.map_nil]); first | done | rfl | (simp only [List.length_drop, List.length_take]; rfl)) ?_; (with_reducible refine (tableauref09_Add.calls kj6 _ _ x7_1 t343 t344 t345 t346 t347 _ ?side1 ?side2 A41.out).mono ?_); (case side1 => repeat (first | exact (Kd.R_reads' HO_7.out).2.2 | (with_reducible refine Kd.C_alloc ?_ _) | (with_reducible refine Kd.C_drewN ?_ _) | (with_reducible refine Kd.C_drew ?_))); (case side2 => exact (Kd.R_reads' HO_7.out).2.1); rintro e w44 ⟨v348, rfl, ho0, hb⟩; refine ⟨_, rfl, ?_⟩; have n0_ := Aside0.mk (Kd.R_elder' (by (with_reducible repeat (first | apply Kd.R_alloc | apply Kd.R_drewN | apply Kd.R_drew)); exact HO_7.out) (Kd.R_base ho0) hb); have n1_ := Aside0.mk (Kd.R_lower (Kd.R_new' ho0 (Kd.R_lt (by (with_reducible repeat (first | apply Kd.R_alloc | apply Kd.R_drewN | apply Kd.R_drew)); exact HO_7.out))) (pbZ (by repeat (first | (with_reducible first | exact HB.out | apply pbA | apply pbN | apply pbD) | exact HB.out)))); have n2_ := Aside0.mk (pbP (by repeat (first | (with_reducible first | exact HB.out | apply pbA | apply pbN | apply pbD) | exact HB.out)) hb); clear HO_7; clear HB; have HO_7 := n0_; have HO349 := n1_; have HB := n2_; clear n0_ n1_ n2_; (try clear hb); (try clear hb2); (try clear hk); (try clear hi); (try clear ho0)))
                go_meet
                case rel => exact ⟨_, (t347), H', ⟨by have := HK1.out; have := HJ3.out; have := HJ6.out; first | omega | exact Nat.le_refl _⟩, ⟨by (with_reducible repeat (first | apply Kd.R_alloc | apply Kd.R_drewN | apply Kd.R_drew)); exact Kd.R_mono HO349.out (fun _ hk => trivial)⟩, ⟨by repeat (first | (with_reducible first | exact HB.out | apply pbA | apply pbN | apply pbD) | exact HB.out)⟩⟩
              · rw [if_neg c39] at H
                exact absurd H (by simp)
            · rw [if_neg c38] at H
              have c38b0 : decide (x8_1 < (l0.length : Int)) = false := decide_eq_false c38
              clear c38
              (first | rw [c38b0] | (simp only [i64_w, i32_w]; rw [c38b0]) | skip)
              have H' := Aside0.mk H
              clear H
              go_wp2
              go_meet
              case rel => exact ⟨_, (x7_1), H', ⟨by have := HK1.out; have := HJ3.out; have := HJ6.out; first | omega | exact Nat.le_refl _⟩, ⟨by (with_reducible repeat (first | apply Kd.R_alloc | apply Kd.R_drewN | apply Kd.R_drew)); exact HO_7.out⟩, ⟨by repeat (first | (with_reducible first | exact HB.out | apply pbA | apply pbN | apply pbD) | exact HB.out)⟩⟩
           case rest =>
            clear HC37
            try clear c1
            try clear c2
            try clear p2
            try clear c3
            try clear p3
            try clear q3
            try clear hx3
            try clear c4
            try clear c5
            try clear c5b0
            try clear c6
            try clear p6
            try clear c7
            try clear c8
            try clear c8b0
            try clear c9
            try clear c9b0
            try clear c10
            try clear c10b0
            try clear c14
            try clear c15
            try clear c15b0
            try clear c17
            try clear c17b0
            try clear c18
            try clear c18b0
            try clear c19
            try clear c19b0
            try clear c20
            try clear c20b0
            try clear c21
            try clear c21b0
            try clear c21b1
            try clear c24
            try clear c25
            try clear c25b0
            try clear c26
            try clear c26b0
            try clear c27
            try clear c27b0
            try clear c28
            try clear c28b0
            try clear c29
            try clear c29b0
            try clear c30
            try clear c30b0
            try clear c32
            try clear p32
            try clear q32
            try clear hx32
            try clear c33
            try clear p33
            try clear q33
            try clear hx33
            try clear p34
            try clear q34
            try clear hx34
            try clear c38
            try clear c38b0
            try clear c39
            try clear c39b0
            try clear hx327_0
            try clear hx327_1
            try clear hx327_2
            try clear hx327_3
            try clear hx327_4
            try clear hx327_5
            try clear hx328_0
            try clear hx328_1
            try clear hx328_2
            try clear hx328_3
            try clear hx328_4
            try clear hx328_5
            try clear hx329_0
            try clear hx329_1
            try clear hx330_0
            try clear hx330_1
            try clear hx330_2
            try clear hx330_3
            try clear hx330_4
            try clear hx330_5
            try clear hx331_0
            try clear hx331_1
            try clear hx332_0
            try clear hx332_1
            try clear hx332_2
            try clear hx332_3
            try clear hx332_4
            try clear hx332_5
            try clear hx333_0
            try clear hx333_1
            try clear hx334_0
            try clear hx334_1
            try clear hx334_2
            try clear hx334_3
            try clear hx342_0
            try clear hx342_1
            try clear hx342_2
            try clear hx342_3
            try clear hx342_4
            try clear hx342_5
            try clear p2
            try clear p3
            try clear p327
            try clear p328
            try clear p329
            try clear p330
            try clear p331
            try clear p332
            try clear p333
            try clear p334
            try clear p342
            try clear q3
            try clear q327
            try clear q328
            try clear q329
            try clear q330
            try clear q331
            try clear q332
            try clear q333
            try clear q334
            try clear q342
            obtain ⟨kq, x7_36, HA, HJ36, HO_7, HB⟩ := hcut
            cases kq with
            | zero => exact absurd HA.out (by simp [tableauref24_Changed.j6])
            | succ kj36 =>
             have H := HA.out
             clear HA
             simp only [tableauref24_Changed.j6] at H
             by_cases c45 : x8_1 < (l1.length : Int)
             · rw [if_pos c45] at H
               have c45b0 : decide (x8_1 < (l1.length : Int)) = true := decide_eq_true c45
               clear c45
               by_cases c46 : 0 ≤ x8_1
               · rw [if_pos c46] at H
                 have c46b0 : decide (0 ≤ x8_1) = true := decide_eq_true c46
                 clear c46
                 replace H := Option.bind_eq_some_iff.mp H
                 obtain ⟨⟨t351, t352, t353, t354⟩, A470, H⟩ := H
                 replace H : ((tableauref09_Add.f kj36 x7_36 t351 t352 t353 t354).bind fun t355 => (tableauref24_Changed.l0 kj36 l0 l1 l2 t355 (wrap64 (x8_1 + 1)))) = some r := H
                 have A47 := Aside0.mk A470
                 clear A470
                 replace H := Option.bind_eq_some_iff.mp H
                 obtain ⟨t355, A480, H⟩ := H
                 replace H : (tableauref24_Changed.l0 kj36 l0 l1 l2 t355 (wrap64 (x8_1 + 1))) = some r := H
                 have A48 := Aside0.mk A480
                 clear A480
                 have H' := Aside0.mk H
                 clear H
                 have p350 : 0 ≤ (x8_1 : Int) := of_decide_eq_true (by first | (with_reducible assumption) | assumption)
                 have q350 : x8_1 < (l1.length : Int) := of_decide_eq_true (by first | (with_reducible assumption) | assumption)
                 obtain ⟨ad350, e350, hx350_0, hx350_1, hx350_2, hx350_3, hx350_4, hx350_5⟩ := at_T54 HR1.out x8_1 p350 q350
                 cases e350
                 replace hx350_0 := (HB.out.cell (World.block_lt_of_cell? w _ hx350_0)).trans hx350_0
                 replace hx350_1 := (HB.out.cell (World.block_lt_of_cell? w _ hx350_1)).trans hx350_1
                 replace hx350_2 := (HB.out.cell (World.block_lt_of_cell? w _ hx350_2)).trans hx350_2
                 replace hx350_3 := (HB.out.cell (World.block_lt_of_cell? w _ hx350_3)).trans hx350_3
                 replace hx350_4 := (HB.out.cell (World.block_lt_of_cell? w _ hx350_4)).trans hx350_4
                 replace hx350_5 := (HB.out.cell (World.block_lt_of_cell? w _ hx350_5)).trans hx350_5
                 replace p350 := eq_true p350
                 replace q350 := eq_true q350
                 go_wp2_with (first | ((with_reducible refine gate_callee (f := 73) rfl ?_); refine goesL_ (some 108) rfl rfl Try.func73 (by kernel_rfl) rfl #[.agg #[.int .i64 ((rd_T54 l1 x8_1).f0), .int .i64 ((rd_T54 l1 x8_1).f1), .int .i64 ((rd_T54 l1 x8_1).f2), .int .i64 ((rd_T54 l1 x8_1).f3), .int .i64 ((rd_T54 l1 x8_1).f4), .int .i64 ((rd_T54 l1 x8_1).f5)]] rfl (by (try simp only [List.map_toArray, List.map_cons, List.map_nil]); first | done | rfl | (simp only [List.length_drop, List.length_take]; rfl)) ?_; (with_reducible refine (tableauref24_rect.calls ((rd_T54 l1 x8_1).f0) ((rd_T54 l1 x8_1).f1) ((rd_T54 l1 x8_1).f2) ((rd_T54 l1 x8_1).f3) ((rd_T54 l1 x8_1).f4) ((rd_T54 l1 x8_1).f5) t351 t352 t353 t354 _ A47.out).mono ?_); rintro e w49 ⟨rfl, hb⟩; refine ⟨_, rfl, ?_⟩; have n0_ := Aside0.mk (Kd.R_below (by (with_reducible repeat (first | apply Kd.R_alloc | apply Kd.R_drewN | apply Kd.R_drew)); exact HO_7.out) hb); have n1_ := Aside0.mk (pbP (by repeat (first | (with_reducible first | exact HB.out | apply pbA | apply pbN | apply pbD) | exact HB.out)) hb); clear HO_7; clear HB; have HO_7 := n0_; have HB := n1_; clear n0_ n1_; (try clear hb); (try clear hb2); (try clear hk); (try clear hi); obtain ⟨Ao50, co50, eo50⟩ := Kd.R_slice HO_7.out; subst eo50) | ((with_reducible refine gate_callee (f := 24) rfl ?_); refine goesL_ (some 109) rfl rfl Try.func24 (by kernel_rfl) rfl #[.slice Ao50 x7_36.length co50, .agg #[.int .i64 t351, .int .i64 t352, .int .i64 t353, .int .i64 t354]] rfl (by (try simp only [List.map_toArray, List.map_cons, List.map_nil]); first | done | rfl | (simp only [List.length_drop, List.length_take]; rfl)) ?_; (with_reducible refine (tableauref09_Add.calls kj36 _ _ x7_36 t351 t352 t353 t354 t355 _ ?side1 ?side2 A48.out).mono ?_); (case side1 => repeat (first | exact (Kd.R_reads' HO_7.out).2.2 | (with_reducible refine Kd.C_alloc ?_ _) | (with_reducible refine Kd.C_drewN ?_ _) | (with_reducible refine Kd.C_drew ?_))); (case side2 => exact (Kd.R_reads' HO_7.out).2.1); rintro e w51 ⟨v356, rfl, ho0, hb⟩; refine ⟨_, rfl, ?_⟩; have n0_ := Aside0.mk (Kd.R_elder' (by (with_reducible repeat (first | apply Kd.R_alloc | apply Kd.R_drewN | apply Kd.R_drew)); exact HO_7.out) (Kd.R_base ho0) hb); have n1_ := Aside0.mk (Kd.R_lower (Kd.R_new' ho0 (Kd.R_lt (by (with_reducible repeat (first | apply Kd.R_alloc | apply Kd.R_drewN | apply Kd.R_drew)); exact HO_7.out))) (pbZ (by repeat (first | (with_reducible first | exact HB.out | apply pbA | apply pbN | apply pbD) | exact HB.out)))); have n2_ := Aside0.mk (pbP (by repeat (first | (with_reducible first | exact HB.out | apply pbA | apply pbN | apply pbD) | exact HB.out)) hb); clear HO_7; clear HB; have HO_7 := n0_; have HO357 := n1_; have HB := n2_; clear n0_ n1_ n2_; (try clear hb); (try clear hb2); (try clear hk); (try clear hi); (try clear ho0)))
                 go_roundg kj36
                 case measure => have := HK1.out; have := HJ3.out; have := HJ6.out; have := HJ36.out; omega
                 case rel => exact ⟨(t355), (wrap64 (x8_1 + 1)), (by first | rfl | (simp; done) | (simp [*]; done)), H', ⟨by have := HK1.out; have := HJ3.out; have := HJ6.out; have := HJ36.out; omega⟩, ⟨by (with_reducible repeat (first | apply Kd.R_alloc | apply Kd.R_drewN | apply Kd.R_drew)); exact Kd.R_mono HO357.out (fun _ hk => trivial)⟩, ⟨by repeat (first | (with_reducible first | exact HB.out | apply pbA | apply pbN | apply pbD) | exact HB.out)⟩⟩
               · rw [if_neg c46] at H
                 exact absurd H (by simp)
             · rw [if_neg c45] at H
               have c45b0 : decide (x8_1 < (l1.length : Int)) = false := decide_eq_false c45
               clear c45
               have H' := Aside0.mk H
               clear H
               go_wp2
               go_roundg kj36
               case measure => have := HK1.out; have := HJ3.out; have := HJ6.out; have := HJ36.out; omega
               case rel => exact ⟨(x7_36), (wrap64 (x8_1 + 1)), (by first | rfl | (simp; done) | (simp [*]; done)), H', ⟨by have := HK1.out; have := HJ3.out; have := HJ6.out; have := HJ36.out; omega⟩, ⟨by (with_reducible repeat (first | apply Kd.R_alloc | apply Kd.R_drewN | apply Kd.R_drew)); exact HO_7.out⟩, ⟨by repeat (first | (with_reducible first | exact HB.out | apply pbA | apply pbN | apply pbD) | exact HB.out)⟩⟩
     · replace c6 := Bool.eq_false_iff.mpr c6
       subst c6
       have H1 : (some x7_1) = some r := by rw [if_neg (show ¬ (false = true) by decide)] at H; exact H
       clear H
       have H := H1
       clear H1
       obtain rfl := Option.some.inj H
       go_wp2
       go_ret
       exact ⟨_, by first | rfl | (simp [errW_none, errW_some] <;> rfl) | (simp [*, errW_none, errW_some] <;> rfl), by (with_reducible repeat (first | apply Kd.R_alloc | apply Kd.R_drewN | apply Kd.R_drew)); exact HO_7.out, by repeat (first | (with_reducible first | exact HB.out | apply pbA | apply pbN | apply pbD) | exact HB.out)⟩


end Go.Proofs.Ytclpppejabfbbaa.PF
