/- What the printed functions of rectangles answer, in plain words. (PRectCovers: the print's own namespace.) -/
import Derived.Test.YtghgngfmmncomaaPRectCoversx
import Derived.Test.YtghgngfmmncomaaRectMath
import Derived.Test.YtghgngfmmncomaaPlace
namespace Go.Proofs.Ytghgngfmmncomaa.PRectCovers
open Go.RowKit Go.Proofs.Ytghgngfmmncomaa.Rect
open Go.Proofs.YtghgngfmmncomaaW.PrintWords (mx mn)
set_option linter.unusedVariables false

def tup (r : R) : Int × Int × Int × Int := (r.x, r.y, r.w, r.h)
def toR (s : S23) : R := ⟨s.f0, s.f1, s.f2, s.f3⟩
theorem w64 {n : Int} (h0 : -9223372036854775808 ≤ n) (h1 : n ≤ 9223372036854775807) : wrap64 n = n := by unfold wrap64; omega
theorem tup_of (x y w h : Int) : tup ⟨x, y, w, h⟩ = (x, y, w, h) := rfl
theorem tup_inj {a b : R} (h : tup a = tup b) : a = b := by
  unfold tup at h
  simp only [Prod.mk.injEq] at h
  exact R.ext' h.1 h.2.1 h.2.2.1 h.2.2.2
theorem beq_tup (a b : R) : (a.x == b.x && (a.y == b.y && (a.w == b.w && (a.h == b.h)))) = decide (a = b) := by
  rw [Bool.eq_iff_iff]
  simp only [Bool.and_eq_true, beq_iff_eq, decide_eq_true_eq]
  constructor
  · rintro ⟨h1, h2, h3, h4⟩; exact R.ext' h1 h2 h3 h4
  · rintro rfl; exact ⟨rfl, rfl, rfl, rfl⟩
theorem Empty_eq (r : R) : rect_Empty.f r.x r.y r.w r.h = some (emp r) := by
  unfold rect_Empty.f emp
  by_cases h : r.w < 1 <;> simp [h]
theorem mx_max (a b : Int) : mx a b = max a b := by unfold mx; split <;> omega
theorem mn_min (a b : Int) : mn a b = min a b := by unfold mn; split <;> omega
theorem of_eq {a b c d : Int} (ha : -17179869184 ≤ a) (ha' : a ≤ 17179869184) (hb : -17179869184 ≤ b) (hb' : b ≤ 17179869184) (hc : -17179869184 ≤ c) (hc' : c ≤ 17179869184) (hd : -17179869184 ≤ d) (hd' : d ≤ 17179869184) :
    rect_of.f a b c d = some (tup (rOf a b c d)) := by
  unfold rect_of.f
  rw [w64 (by omega) (by omega), w64 (by omega) (by omega), Empty_eq ⟨a, b, c - a, d - b⟩, Option.bind_some]
  by_cases h : c ≤ a ∨ d ≤ b
  · rw [if_pos (by rw [emp_t]; simp only; omega), rOf_z h]; rfl
  · rw [if_neg (by rw [emp_t]; simp only; omega), rOf_mk h]; rfl
theorem tup_some {a b : R} (h : a = b) : (some (tup a)) = some (tup b) := by rw [h]
theorem Cover_eq (k : Nat) {a b : R} (ha : emp a = false → Sm a) (hb : emp b = false → Sm b) : rect_Cover.f (k + 2) a.x a.y a.w a.h b.x b.y b.w b.h = some (tup (rCover a b)) := by
  have key : ∀ {a b : R}, Rect.Can a → Rect.Can b → (emp a = false → Sm a) → (emp b = false → Sm b) → rect_Cover.j1 (k + 1) a.x a.y a.w a.h b.x b.y b.w b.h = some (tup (rCover a b)) := by
    intro a b ca cb ha hb
    rw [rect_Cover.j1]
    have e1 : (a.x == 0 && (a.y == 0 && (a.w == 0 && (a.h == 0)))) = decide (a = zR) := beq_tup a zR
    have e2 : (b.x == 0 && (b.y == 0 && (b.w == 0 && (b.h == 0)))) = decide (b = zR) := beq_tup b zR
    rw [e1, e2]
    by_cases h1 : a = zR
    · rw [if_pos (by simpa using h1), h1, cover_z cb]; rfl
    · rw [if_neg (by simpa using h1)]
      by_cases h2 : b = zR
      · rw [if_pos (by simpa using h2), h2, cover_zr ca]; rfl
      · rw [if_neg (by simpa using h2)]
        have ea := ca.resolve_left h1
        have eb := cb.resolve_left h2
        have sa := ha ea
        have sb := hb eb
        have pa := emp_f.1 ea
        have pb := emp_f.1 eb
        unfold Sm at sa sb
        simp only [mx_max, mn_min]
        rw [w64 (by omega) (by omega), w64 (by omega) (by omega), w64 (by omega) (by omega), w64 (by omega) (by omega), of_eq (by omega) (by omega) (by omega) (by omega) (by omega) (by omega) (by omega) (by omega), Option.bind_some]
        unfold rCover
        rw [if_neg (by simp [ea]), if_neg (by simp [eb])]
  have j0 : ∀ {a : R}, Rect.Can a → (emp a = false → Sm a) → rect_Cover.j0 (k + 2) a.x a.y a.w a.h b.x b.y b.w b.h = some (tup (rCover a b)) := by
    intro a ca ha
    rw [rect_Cover.j0, Empty_eq b, Option.bind_some]
    by_cases h : emp b = true
    · rw [if_pos h]
      have := key (b := zR) ca (.inl rfl) ha (fun h => by cases h)
      rw [← cover_nrm a b]
      unfold nrm
      rw [if_pos h]
      exact this
    · rw [if_neg h]
      exact key ca (.inr (by simpa using h)) ha hb
  unfold rect_Cover.f
  rw [Empty_eq a, Option.bind_some]
  by_cases h : emp a = true
  · rw [if_pos h]
    have := j0 (a := zR) (.inl rfl) (fun h => by cases h)
    rw [show rCover a b = rCover zR b by unfold rCover; rw [if_pos h, if_pos emp_z]]
    exact this
  · rw [if_neg h]
    exact j0 (.inr (by simpa using h)) ha
theorem place_eq {v n : Int} (h0 : 0 < n) (h1 : n ≤ 4611686018427387904) : tableaulaw00_Place.f v n = some (v % n) := by
  unfold tableaulaw00_Place.f
  rw [if_neg (by omega)]
  have hl := Int.tmod_lt_of_pos v h0
  by_cases h : Int.tmod v n < 0
  · have hlo := Go.Proofs.Ytghgngfmmncomaa.Kit.tmod_lo v n h0
    rw [if_pos h, w64 (by omega) (by omega), Go.Proofs.Ytghgngfmmncomaa.Kit.tmod_neg h0 h]
  · rw [if_neg h, Go.Proofs.Ytghgngfmmncomaa.Kit.tmod_pos h0 h]
end Go.Proofs.Ytghgngfmmncomaa.PRectCovers
