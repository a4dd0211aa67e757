/- rect.Bound, rect.Cover and region.Shift, walked by hand, in the form that the printed texts ask for. -/
import Derived.Test.YtclpppejabfbbaaPCGiven
import Derived.Test.YtclpppejabfbbaaRectW
import Derived.Test.YtclpppejabfbbaaShift
set_option linter.unusedVariables false
set_option linter.unusedSimpArgs false
namespace Go.Proofs.Ytclpppejabfbbaa.PC
open Go.RowKit Go.Proofs.YtclpppejabfbbaaW.PrintWords Go.Proofs.Ytclpppejabfbbaa.Reg Go.Proofs.Ytclpppejabfbbaa.Rect Go.Proofs.Ytclpppejabfbbaa.Wk Go.Proofs.Ytclpppejabfbbaa.Kit

def tupR (r : R) : Int × Int × Int × Int := (r.x, r.y, r.w, r.h)
instance (r : R) : Decidable (Rect.Sm r) := by unfold Rect.Sm; infer_instance
def rect_Bound.f (a b c d : Int) : Option (Int × Int × Int × Int) := if (i64b a && (i64b b && (i64b c && i64b d))) = true then some (tupR (rBound ⟨a, b, c, d⟩)) else none
theorem rect_Bound.calls (a b c d r1 r2 r3 r4 : Int) (w : World) (h : rect_Bound.f a b c d = some (r1, r2, r3, r4)) :
    Calls Try.prog 59 #[.agg #[.int .i64 a, .int .i64 b, .int .i64 c, .int .i64 d]] w fun e w' => e = .returned (.agg #[.int .i64 r1, .int .i64 r2, .int .i64 r3, .int .i64 r4]) ∧ Below w.heap.size w w' := by
  unfold rect_Bound.f at h
  split at h
  · rename_i hk
    simp only [Bool.and_eq_true, i64b_iff] at hk
    have h := Option.some.inj h
    unfold tupR at h
    simp only [Prod.mk.injEq] at h
    obtain ⟨rfl, rfl, rfl, rfl⟩ := h
    exact Bound_any a b c d w hk
  · cases h
def rect_Cover.f (a b c d a' b' c' d' : Int) : Option (Int × Int × Int × Int) := if (decide (Rect.Sm ⟨a, b, c, d⟩) && decide (Rect.Sm ⟨a', b', c', d'⟩)) = true then some (tupR (rCover ⟨a, b, c, d⟩ ⟨a', b', c', d'⟩)) else none
theorem rect_Cover.calls (a b c d a' b' c' d' r1 r2 r3 r4 : Int) (w : World) (h : rect_Cover.f a b c d a' b' c' d' = some (r1, r2, r3, r4)) :
    Calls Try.prog 67 #[.agg #[.int .i64 a, .int .i64 b, .int .i64 c, .int .i64 d], .agg #[.int .i64 a', .int .i64 b', .int .i64 c', .int .i64 d']] w fun e w' => e = .returned (.agg #[.int .i64 r1, .int .i64 r2, .int .i64 r3, .int .i64 r4]) ∧ Below w.heap.size w w' := by
  unfold rect_Cover.f at h
  split at h
  · rename_i hk
    simp only [Bool.and_eq_true, decide_eq_true_eq] at hk
    have h := Option.some.inj h
    unfold tupR at h
    simp only [Prod.mk.injEq] at h
    obtain ⟨rfl, rfl, rfl, rfl⟩ := h
    exact Cover_any a b c d a' b' c' d' w (fun _ => hk.1) (fun _ => hk.2)
  · cases h
end Go.Proofs.Ytclpppejabfbbaa.PC
