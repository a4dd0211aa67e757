/- Plain laws on rectangles; no program. -/
import Derived.RowKit
set_option linter.unusedVariables false
set_option linter.unusedSimpArgs false
namespace Go.Proofs.Ytclpppejabfbbaa.Rect

structure R where
  x : Int
  y : Int
  w : Int
  h : Int
deriving DecidableEq
theorem R.ext' {a b : R} (h1 : a.x = b.x) (h2 : a.y = b.y) (h3 : a.w = b.w) (h4 : a.h = b.h) : a = b := by
  cases a; cases b; simp_all
def zR : R := ⟨0, 0, 0, 0⟩
def emp (r : R) : Bool := decide (r.w < 1) || decide (r.h < 1)
theorem emp_t {r : R} : emp r = true ↔ r.w < 1 ∨ r.h < 1 := by simp [emp]
theorem emp_f {r : R} : emp r = false ↔ 1 ≤ r.w ∧ 1 ≤ r.h := by simp only [emp, Bool.or_eq_false_iff, decide_eq_false_iff_not]; omega
theorem emp_z : emp zR = true := rfl
def inR (r : R) (p q : Int) : Prop := 1 ≤ r.w ∧ 1 ≤ r.h ∧ r.x ≤ p ∧ p < r.x + r.w ∧ r.y ≤ q ∧ q < r.y + r.h
instance (r : R) (p q : Int) : Decidable (inR r p q) := by unfold inR; infer_instance
def rHas (r : R) (p q : Int) : Bool := decide (inR r p q)
def rOf (x0 y0 x1 y1 : Int) : R := if x1 ≤ x0 ∨ y1 ≤ y0 then zR else ⟨x0, y0, x1 - x0, y1 - y0⟩
def rCut (a b : R) : R := if emp a || emp b then zR else rOf (max a.x b.x) (max a.y b.y) (min (a.x + a.w) (b.x + b.w)) (min (a.y + a.h) (b.y + b.h))
def rCover (a b : R) : R :=
  if emp a then (if emp b then zR else b) else if emp b then a else rOf (min a.x b.x) (min a.y b.y) (max (a.x + a.w) (b.x + b.w)) (max (a.y + a.h) (b.y + b.h))
def rShift (r : R) (x y : Int) : R := if emp r then zR else ⟨r.x + x, r.y + y, r.w, r.h⟩
def rBound (r : R) : R := if emp r then zR else rOf (max r.x (-16777216)) (max r.y (-16777216)) (min (r.x + r.w) 16777216) (min (r.y + r.h) 16777216)
def chkR (r : R) : Prop := 1 ≤ r.w ∧ 1 ≤ r.h ∧ -16777216 ≤ r.x ∧ r.x + r.w ≤ 16777216 ∧ -16777216 ≤ r.y ∧ r.y + r.h ≤ 16777216
instance (r : R) : Decidable (chkR r) := by unfold chkR; infer_instance
def rChk (r : R) : Bool := decide (chkR r)
/-- Where no sum of a rectangle's numbers leaves its type. -/
def Sm (r : R) : Prop := -4294967296 ≤ r.x ∧ r.x ≤ 4294967296 ∧ -4294967296 ≤ r.y ∧ r.y ≤ 4294967296 ∧ r.w ≤ 4294967296 ∧ r.h ≤ 4294967296
def I64 (r : R) : Prop := (-9223372036854775808 ≤ r.x ∧ r.x ≤ 9223372036854775807) ∧ (-9223372036854775808 ≤ r.y ∧ r.y ≤ 9223372036854775807) ∧
  (-9223372036854775808 ≤ r.w ∧ r.w ≤ 9223372036854775807) ∧ (-9223372036854775808 ≤ r.h ∧ r.h ≤ 9223372036854775807)
theorem Sm.of_chk {r : R} (h : rChk r = true) : Sm r := by
  have h : chkR r := by simpa [rChk] using h
  unfold chkR at h
  unfold Sm; omega
theorem Sm.i64 {r : R} (h : Sm r) (h' : emp r = false) : I64 r := by
  have := emp_f.1 h'
  unfold Sm at h; unfold I64; omega
theorem chk_iff {r : R} : rChk r = true ↔ chkR r := by simp [rChk]
theorem has_iff {r : R} {p q : Int} : rHas r p q = true ↔ inR r p q := by simp [rHas]
theorem chk_emp {r : R} (h : rChk r = true) : emp r = false := by rw [chk_iff] at h; unfold chkR at h; rw [emp_f]; omega

theorem rOf_emp {x0 y0 x1 y1 : Int} : emp (rOf x0 y0 x1 y1) = true ↔ x1 ≤ x0 ∨ y1 ≤ y0 := by
  unfold rOf
  split
  · exact ⟨fun _ => by assumption, fun _ => rfl⟩
  · rw [emp_t]; simp only; omega
theorem rOf_z {x0 y0 x1 y1 : Int} (h : x1 ≤ x0 ∨ y1 ≤ y0) : rOf x0 y0 x1 y1 = zR := if_pos h
theorem rOf_mk {x0 y0 x1 y1 : Int} (h : ¬ (x1 ≤ x0 ∨ y1 ≤ y0)) : rOf x0 y0 x1 y1 = ⟨x0, y0, x1 - x0, y1 - y0⟩ := if_neg h
theorem inR_rOf {x0 y0 x1 y1 p q : Int} : inR (rOf x0 y0 x1 y1) p q ↔ x0 ≤ p ∧ p < x1 ∧ y0 ≤ q ∧ q < y1 := by
  by_cases h : x1 ≤ x0 ∨ y1 ≤ y0
  · rw [rOf_z h]; unfold inR zR; simp only; omega
  · rw [rOf_mk h]; unfold inR; simp only; omega
theorem inR_emp {r : R} {p q : Int} (h : emp r = true) : ¬ inR r p q := by rw [emp_t] at h; unfold inR; omega
theorem inR_z {p q : Int} : ¬ inR zR p q := inR_emp emp_z
theorem inR_cover_l {a b : R} {p q : Int} (h : inR a p q ∨ inR b p q) : inR (rCover a b) p q := by
  unfold rCover
  by_cases ha : emp a = true
  · rw [if_pos ha]
    have h := h.resolve_left (inR_emp ha)
    split
    · exact absurd h (inR_emp (by assumption))
    · exact h
  rw [if_neg ha]
  by_cases hb : emp b = true
  · rw [if_pos hb]
    exact h.resolve_right (inR_emp hb)
  rw [if_neg hb, inR_rOf]
  unfold inR at h; omega
theorem inR_bound {r : R} {p q : Int} : inR (rBound r) p q ↔ inR r p q ∧ -16777216 ≤ p ∧ p < 16777216 ∧ -16777216 ≤ q ∧ q < 16777216 := by
  unfold rBound
  by_cases h : emp r = true
  · rw [if_pos h]
    exact ⟨fun h' => absurd h' inR_z, fun h' => absurd h'.1 (inR_emp h)⟩
  · rw [if_neg h, inR_rOf]
    have := emp_f.1 (by simpa using h)
    unfold inR; omega
theorem bound_chk {r : R} (h : rChk r = true) : rBound r = r := by
  have he := chk_emp h
  rw [chk_iff] at h
  unfold chkR at h
  unfold rBound
  rw [if_neg (by simp [he]), rOf_mk (by omega)]
  exact R.ext' (by simp only; omega) (by simp only; omega) (by simp only; omega) (by simp only; omega)
/-! what comes of such rectangles fits its type -/
/-! covers, one by one, in any order -/
/-- Either none, or not empty. -/
def Can (r : R) : Prop := r = zR ∨ emp r = false
theorem cover_z {r : R} (h : Can r) : rCover zR r = r := by
  unfold rCover
  rw [if_pos emp_z]
  rcases h with rfl | h
  · rfl
  · rw [if_neg (by simp [h])]
theorem cover_ne {a b : R} (ha : emp a = false) (hb : emp b = false) : rCover a b = ⟨min a.x b.x, min a.y b.y, max (a.x + a.w) (b.x + b.w) - min a.x b.x, max (a.y + a.h) (b.y + b.h) - min a.y b.y⟩ := by
  unfold rCover
  rw [if_neg (by simp [ha]), if_neg (by simp [hb])]
  have := emp_f.1 ha
  have := emp_f.1 hb
  exact rOf_mk (by omega)
end Go.Proofs.Ytclpppejabfbbaa.Rect
