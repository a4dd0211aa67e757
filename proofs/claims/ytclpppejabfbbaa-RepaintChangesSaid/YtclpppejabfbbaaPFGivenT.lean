/- The packages rect and tableauref07, walked by hand, in the form that the printed texts ask for. -/
import Derived.Test.YtclpppejabfbbaaPFGiven
import Derived.Test.YtclpppejabfbbaaRectT4
set_option linter.unusedVariables false
set_option linter.unusedSimpArgs false
namespace Go.Proofs.Ytclpppejabfbbaa.PF
open Go.RowKit Go.Proofs.YtclpppejabfbbaaW.PrintWords Go.Proofs.Ytclpppejabfbbaa.Reg Go.Proofs.Ytclpppejabfbbaa.Rect Go.Proofs.Ytclpppejabfbbaa.Wk Go.Proofs.Ytclpppejabfbbaa.Kit

def tupR (r : R) : Int × Int × Int × Int := (r.x, r.y, r.w, r.h)
instance (r : R) : Decidable (Rect.Sm r) := by unfold Rect.Sm; infer_instance
def ok4 (a b c d : Int) : Bool := i64b a && (i64b b && (i64b c && i64b d))
theorem ok4_iff {a b c d : Int} : ok4 a b c d = true ↔ I64 ⟨a, b, c, d⟩ := by
  unfold ok4 I64; simp only [Bool.and_eq_true, i64b_iff]
def okX (x : Int) : Bool := decide (-4294967296 ≤ x ∧ x ≤ 4294967296)
theorem four {r : R} {a b c d : Int} (h : some (tupR r) = some (a, b, c, d)) : a = r.x ∧ b = r.y ∧ c = r.w ∧ d = r.h := by
  have h := Option.some.inj h
  unfold tupR at h
  simp only [Prod.mk.injEq] at h
  exact ⟨h.1.symm, h.2.1.symm, h.2.2.1.symm, h.2.2.2.symm⟩
def rect_Bound.f (a b c d : Int) : Option (Int × Int × Int × Int) := if ok4 a b c d = true then some (tupR (rBound ⟨a, b, c, d⟩)) else none
theorem rect_Bound.calls (a b c d r1 r2 r3 r4 : Int) (w : World) (h : rect_Bound.f a b c d = some (r1, r2, r3, r4)) :
    Calls Try.prog 59 #[.agg #[.int .i64 a, .int .i64 b, .int .i64 c, .int .i64 d]] w fun e w' => e = .returned (.agg #[.int .i64 r1, .int .i64 r2, .int .i64 r3, .int .i64 r4]) ∧ Below w.heap.size w w' := by
  unfold rect_Bound.f at h
  split at h
  · rename_i hk
    obtain ⟨rfl, rfl, rfl, rfl⟩ := four h
    exact RectT.Bound_any a b c d w (ok4_iff.1 hk)
  · cases h
def tableauref07_Bound.f (a b c d : Int) : Option (Int × Int × Int × Int) := if ok4 a b c d = true then some (tupR (rBound ⟨a, b, c, d⟩)) else none
theorem tableauref07_Bound.calls (a b c d r1 r2 r3 r4 : Int) (w : World) (h : tableauref07_Bound.f a b c d = some (r1, r2, r3, r4)) :
    Calls Try.prog 61 #[.agg #[.int .i64 a, .int .i64 b, .int .i64 c, .int .i64 d]] w fun e w' => e = .returned (.agg #[.int .i64 r1, .int .i64 r2, .int .i64 r3, .int .i64 r4]) ∧ Below w.heap.size w w' := by
  unfold tableauref07_Bound.f at h
  split at h
  · rename_i hk
    obtain ⟨rfl, rfl, rfl, rfl⟩ := four h
    exact RectT.rBound_any a b c d w (ok4_iff.1 hk)
  · cases h
def rect_Check.f (a b c d : Int) : Option Bool := if ok4 a b c d = true then some (rChk ⟨a, b, c, d⟩) else none
theorem rect_Check.calls (a b c d : Int) (r : Bool) (w : World) (h : rect_Check.f a b c d = some r) :
    Calls Try.prog 79 #[.agg #[.int .i64 a, .int .i64 b, .int .i64 c, .int .i64 d]] w fun e w' => e = .returned (.bool r) ∧ Below w.heap.size w w' := by
  unfold rect_Check.f at h
  split at h
  · rename_i hk
    obtain rfl := Option.some.inj h
    exact RectT.Check_any a b c d w (ok4_iff.1 hk)
  · cases h
def tableauref07_Check.f (a b c d : Int) : Option Bool := if ok4 a b c d = true then some (rChk ⟨a, b, c, d⟩) else none
theorem tableauref07_Check.calls (a b c d : Int) (r : Bool) (w : World) (h : tableauref07_Check.f a b c d = some r) :
    Calls Try.prog 56 #[.agg #[.int .i64 a, .int .i64 b, .int .i64 c, .int .i64 d]] w fun e w' => e = .returned (.bool r) ∧ Below w.heap.size w w' := by
  unfold tableauref07_Check.f at h
  split at h
  · rename_i hk
    obtain rfl := Option.some.inj h
    exact RectT.rCheck_any a b c d w (ok4_iff.1 hk)
  · cases h
def rect_Cover.f (a b c d a' b' c' d' : Int) : Option (Int × Int × Int × Int) := if (decide (Rect.Sm ⟨a, b, c, d⟩) && decide (Rect.Sm ⟨a', b', c', d'⟩)) = true then some (tupR (rCover ⟨a, b, c, d⟩ ⟨a', b', c', d'⟩)) else none
theorem rect_Cover.calls (a b c d a' b' c' d' r1 r2 r3 r4 : Int) (w : World) (h : rect_Cover.f a b c d a' b' c' d' = some (r1, r2, r3, r4)) :
    Calls Try.prog 67 #[.agg #[.int .i64 a, .int .i64 b, .int .i64 c, .int .i64 d], .agg #[.int .i64 a', .int .i64 b', .int .i64 c', .int .i64 d']] w fun e w' => e = .returned (.agg #[.int .i64 r1, .int .i64 r2, .int .i64 r3, .int .i64 r4]) ∧ Below w.heap.size w w' := by
  unfold rect_Cover.f at h
  split at h
  · rename_i hk
    simp only [Bool.and_eq_true, decide_eq_true_eq] at hk
    obtain ⟨rfl, rfl, rfl, rfl⟩ := four h
    exact RectT.Cover_any a b c d a' b' c' d' w (fun _ => hk.1) (fun _ => hk.2)
  · cases h
theorem rect_Cover.eq {a b : R} (ha : Rect.Sm a) (hb : Rect.Sm b) : rect_Cover.f a.x a.y a.w a.h b.x b.y b.w b.h = some (tupR (rCover a b)) := by
  unfold rect_Cover.f
  rw [if_pos (by simp only [Bool.and_eq_true, decide_eq_true_eq]; exact ⟨ha, hb⟩)]
def tableauref07_Cover.f (a b c d a' b' c' d' : Int) : Option (Int × Int × Int × Int) := if (decide (Rect.Sm ⟨a, b, c, d⟩) && decide (Rect.Sm ⟨a', b', c', d'⟩)) = true then some (tupR (rCover ⟨a, b, c, d⟩ ⟨a', b', c', d'⟩)) else none
theorem tableauref07_Cover.calls (a b c d a' b' c' d' r1 r2 r3 r4 : Int) (w : World) (h : tableauref07_Cover.f a b c d a' b' c' d' = some (r1, r2, r3, r4)) :
    Calls Try.prog 68 #[.agg #[.int .i64 a, .int .i64 b, .int .i64 c, .int .i64 d], .agg #[.int .i64 a', .int .i64 b', .int .i64 c', .int .i64 d']] w fun e w' => e = .returned (.agg #[.int .i64 r1, .int .i64 r2, .int .i64 r3, .int .i64 r4]) ∧ Below w.heap.size w w' := by
  unfold tableauref07_Cover.f at h
  split at h
  · rename_i hk
    simp only [Bool.and_eq_true, decide_eq_true_eq] at hk
    obtain ⟨rfl, rfl, rfl, rfl⟩ := four h
    exact RectT.rCover_any a b c d a' b' c' d' w (fun _ => hk.1) (fun _ => hk.2)
  · cases h
theorem tableauref07_Cover.eq {a b : R} (ha : Rect.Sm a) (hb : Rect.Sm b) : tableauref07_Cover.f a.x a.y a.w a.h b.x b.y b.w b.h = some (tupR (rCover a b)) := by
  unfold tableauref07_Cover.f
  rw [if_pos (by simp only [Bool.and_eq_true, decide_eq_true_eq]; exact ⟨ha, hb⟩)]
def rect_Cut.f (a b c d a' b' c' d' : Int) : Option (Int × Int × Int × Int) := if (decide (Rect.Sm ⟨a, b, c, d⟩) && decide (Rect.Sm ⟨a', b', c', d'⟩)) = true then some (tupR (rCut ⟨a, b, c, d⟩ ⟨a', b', c', d'⟩)) else none
theorem rect_Cut.calls (a b c d a' b' c' d' r1 r2 r3 r4 : Int) (w : World) (h : rect_Cut.f a b c d a' b' c' d' = some (r1, r2, r3, r4)) :
    Calls Try.prog 90 #[.agg #[.int .i64 a, .int .i64 b, .int .i64 c, .int .i64 d], .agg #[.int .i64 a', .int .i64 b', .int .i64 c', .int .i64 d']] w fun e w' => e = .returned (.agg #[.int .i64 r1, .int .i64 r2, .int .i64 r3, .int .i64 r4]) ∧ Below w.heap.size w w' := by
  unfold rect_Cut.f at h
  split at h
  · rename_i hk
    simp only [Bool.and_eq_true, decide_eq_true_eq] at hk
    obtain ⟨rfl, rfl, rfl, rfl⟩ := four h
    exact RectT.Cut_any a b c d a' b' c' d' w (fun _ => hk.1) (fun _ => hk.2)
  · cases h
theorem rect_Cut.eq {a b : R} (ha : Rect.Sm a) (hb : Rect.Sm b) : rect_Cut.f a.x a.y a.w a.h b.x b.y b.w b.h = some (tupR (rCut a b)) := by
  unfold rect_Cut.f
  rw [if_pos (by simp only [Bool.and_eq_true, decide_eq_true_eq]; exact ⟨ha, hb⟩)]
def tableauref07_Cut.f (a b c d a' b' c' d' : Int) : Option (Int × Int × Int × Int) := if (decide (Rect.Sm ⟨a, b, c, d⟩) && decide (Rect.Sm ⟨a', b', c', d'⟩)) = true then some (tupR (rCut ⟨a, b, c, d⟩ ⟨a', b', c', d'⟩)) else none
theorem tableauref07_Cut.calls (a b c d a' b' c' d' r1 r2 r3 r4 : Int) (w : World) (h : tableauref07_Cut.f a b c d a' b' c' d' = some (r1, r2, r3, r4)) :
    Calls Try.prog 91 #[.agg #[.int .i64 a, .int .i64 b, .int .i64 c, .int .i64 d], .agg #[.int .i64 a', .int .i64 b', .int .i64 c', .int .i64 d']] w fun e w' => e = .returned (.agg #[.int .i64 r1, .int .i64 r2, .int .i64 r3, .int .i64 r4]) ∧ Below w.heap.size w w' := by
  unfold tableauref07_Cut.f at h
  split at h
  · rename_i hk
    simp only [Bool.and_eq_true, decide_eq_true_eq] at hk
    obtain ⟨rfl, rfl, rfl, rfl⟩ := four h
    exact RectT.rCut_any a b c d a' b' c' d' w (fun _ => hk.1) (fun _ => hk.2)
  · cases h
theorem tableauref07_Cut.eq {a b : R} (ha : Rect.Sm a) (hb : Rect.Sm b) : tableauref07_Cut.f a.x a.y a.w a.h b.x b.y b.w b.h = some (tupR (rCut a b)) := by
  unfold tableauref07_Cut.f
  rw [if_pos (by simp only [Bool.and_eq_true, decide_eq_true_eq]; exact ⟨ha, hb⟩)]
def rect_Shift.f (a b c d x y : Int) : Option (Int × Int × Int × Int) := if (decide (Rect.Sm ⟨a, b, c, d⟩) && (okX x && okX y)) = true then some (tupR (rShift ⟨a, b, c, d⟩ x y)) else none
theorem rect_Shift.calls (a b c d x y r1 r2 r3 r4 : Int) (w : World) (h : rect_Shift.f a b c d x y = some (r1, r2, r3, r4)) :
    Calls Try.prog 64 #[.agg #[.int .i64 a, .int .i64 b, .int .i64 c, .int .i64 d], .int .i64 x, .int .i64 y] w fun e w' => e = .returned (.agg #[.int .i64 r1, .int .i64 r2, .int .i64 r3, .int .i64 r4]) ∧ Below w.heap.size w w' := by
  unfold rect_Shift.f at h
  split at h
  · rename_i hk
    simp only [okX, Bool.and_eq_true, decide_eq_true_eq] at hk
    obtain ⟨rfl, rfl, rfl, rfl⟩ := four h
    exact RectT.Shift_any a b c d x y w (fun _ => hk.1) (fun _ => hk.2.1) (fun _ => hk.2.2)
  · cases h
theorem rect_Shift.eq {a : R} {x y : Int} (ha : Rect.Sm a) (hx : -4294967296 ≤ x ∧ x ≤ 4294967296) (hy : -4294967296 ≤ y ∧ y ≤ 4294967296) : rect_Shift.f a.x a.y a.w a.h x y = some (tupR (rShift a x y)) := by
  unfold rect_Shift.f
  rw [if_pos (by simp only [okX, Bool.and_eq_true, decide_eq_true_eq]; exact ⟨ha, hx, hy⟩)]
def tableauref07_Shift.f (a b c d x y : Int) : Option (Int × Int × Int × Int) := if (decide (Rect.Sm ⟨a, b, c, d⟩) && (okX x && okX y)) = true then some (tupR (rShift ⟨a, b, c, d⟩ x y)) else none
theorem tableauref07_Shift.calls (a b c d x y r1 r2 r3 r4 : Int) (w : World) (h : tableauref07_Shift.f a b c d x y = some (r1, r2, r3, r4)) :
    Calls Try.prog 66 #[.agg #[.int .i64 a, .int .i64 b, .int .i64 c, .int .i64 d], .int .i64 x, .int .i64 y] w fun e w' => e = .returned (.agg #[.int .i64 r1, .int .i64 r2, .int .i64 r3, .int .i64 r4]) ∧ Below w.heap.size w w' := by
  unfold tableauref07_Shift.f at h
  split at h
  · rename_i hk
    simp only [okX, Bool.and_eq_true, decide_eq_true_eq] at hk
    obtain ⟨rfl, rfl, rfl, rfl⟩ := four h
    exact RectT.rShift_any a b c d x y w (fun _ => hk.1) (fun _ => hk.2.1) (fun _ => hk.2.2)
  · cases h
theorem tableauref07_Shift.eq {a : R} {x y : Int} (ha : Rect.Sm a) (hx : -4294967296 ≤ x ∧ x ≤ 4294967296) (hy : -4294967296 ≤ y ∧ y ≤ 4294967296) : tableauref07_Shift.f a.x a.y a.w a.h x y = some (tupR (rShift a x y)) := by
  unfold tableauref07_Shift.f
  rw [if_pos (by simp only [okX, Bool.and_eq_true, decide_eq_true_eq]; exact ⟨ha, hx, hy⟩)]
end Go.Proofs.Ytclpppejabfbbaa.PF
