/- Plain laws on rectangles; no program. -/
import Derived.RowKit
set_option linter.unusedVariables false
set_option linter.unusedSimpArgs false
namespace Go.Proofs.YtjjdgbhplechbaaDoor.Rect

structure R where
  x : Int
  y : Int
  w : Int
  h : Int
deriving DecidableEq
theorem R.ext' {a b : R} (h1 : a.x = b.x) (h2 : a.y = b.y) (h3 : a.w = b.w) (h4 : a.h = b.h) : a = b := by
  cases a; cases b; simp_all
def zR : R := ⟨0, 0, 0, 0⟩
def emp (r : R) : Bool := decide (r.w < 1) || decide (r.h < 1)
theorem emp_t {r : R} : emp r = true ↔ r.w < 1 ∨ r.h < 1 := by simp [emp]
theorem emp_f {r : R} : emp r = false ↔ 1 ≤ r.w ∧ 1 ≤ r.h := by simp only [emp, Bool.or_eq_false_iff, decide_eq_false_iff_not]; omega
theorem emp_z : emp zR = true := rfl
def inR (r : R) (p q : Int) : Prop := 1 ≤ r.w ∧ 1 ≤ r.h ∧ r.x ≤ p ∧ p < r.x + r.w ∧ r.y ≤ q ∧ q < r.y + r.h
instance (r : R) (p q : Int) : Decidable (inR r p q) := by unfold inR; infer_instance
def rHas (r : R) (p q : Int) : Bool := decide (inR r p q)
def rOf (x0 y0 x1 y1 : Int) : R := if x1 ≤ x0 ∨ y1 ≤ y0 then zR else ⟨x0, y0, x1 - x0, y1 - y0⟩
def rCut (a b : R) : R := if emp a || emp b then zR else rOf (max a.x b.x) (max a.y b.y) (min (a.x + a.w) (b.x + b.w)) (min (a.y + a.h) (b.y + b.h))
def rCover (a b : R) : R :=
  if emp a then (if emp b then zR else b) else if emp b then a else rOf (min a.x b.x) (min a.y b.y) (max (a.x + a.w) (b.x + b.w)) (max (a.y + a.h) (b.y + b.h))
def rShift (r : R) (x y : Int) : R := if emp r then zR else ⟨r.x + x, r.y + y, r.w, r.h⟩
def rBound (r : R) : R := if emp r then zR else rOf (max r.x (-16777216)) (max r.y (-16777216)) (min (r.x + r.w) 16777216) (min (r.y + r.h) 16777216)
def chkR (r : R) : Prop := 1 ≤ r.w ∧ 1 ≤ r.h ∧ -16777216 ≤ r.x ∧ r.x + r.w ≤ 16777216 ∧ -16777216 ≤ r.y ∧ r.y + r.h ≤ 16777216
instance (r : R) : Decidable (chkR r) := by unfold chkR; infer_instance
def rChk (r : R) : Bool := decide (chkR r)
/-- Where no sum of a rectangle's numbers leaves its type. -/
def Sm (r : R) : Prop := -4294967296 ≤ r.x ∧ r.x ≤ 4294967296 ∧ -4294967296 ≤ r.y ∧ r.y ≤ 4294967296 ∧ r.w ≤ 4294967296 ∧ r.h ≤ 4294967296
def I64 (r : R) : Prop := (-9223372036854775808 ≤ r.x ∧ r.x ≤ 9223372036854775807) ∧ (-9223372036854775808 ≤ r.y ∧ r.y ≤ 9223372036854775807) ∧
  (-9223372036854775808 ≤ r.w ∧ r.w ≤ 9223372036854775807) ∧ (-9223372036854775808 ≤ r.h ∧ r.h ≤ 9223372036854775807)
theorem Sm.of_chk {r : R} (h : rChk r = true) : Sm r := by
  have h : chkR r := by simpa [rChk] using h
  unfold chkR at h
  unfold Sm; omega
theorem Sm.i64 {r : R} (h : Sm r) (h' : emp r = false) : I64 r := by
  have := emp_f.1 h'
  unfold Sm at h; unfold I64; omega
theorem chk_iff {r : R} : rChk r = true ↔ chkR r := by simp [rChk]
theorem has_iff {r : R} {p q : Int} : rHas r p q = true ↔ inR r p q := by simp [rHas]
theorem chk_emp {r : R} (h : rChk r = true) : emp r = false := by rw [chk_iff] at h; unfold chkR at h; rw [emp_f]; omega

theorem rOf_emp {x0 y0 x1 y1 : Int} : emp (rOf x0 y0 x1 y1) = true ↔ x1 ≤ x0 ∨ y1 ≤ y0 := by
  unfold rOf
  split
  · exact ⟨fun _ => by assumption, fun _ => rfl⟩
  · rw [emp_t]; simp only; omega
theorem rOf_z {x0 y0 x1 y1 : Int} (h : x1 ≤ x0 ∨ y1 ≤ y0) : rOf x0 y0 x1 y1 = zR := if_pos h
theorem rOf_mk {x0 y0 x1 y1 : Int} (h : ¬ (x1 ≤ x0 ∨ y1 ≤ y0)) : rOf x0 y0 x1 y1 = ⟨x0, y0, x1 - x0, y1 - y0⟩ := if_neg h
theorem inR_rOf {x0 y0 x1 y1 p q : Int} : inR (rOf x0 y0 x1 y1) p q ↔ x0 ≤ p ∧ p < x1 ∧ y0 ≤ q ∧ q < y1 := by
  by_cases h : x1 ≤ x0 ∨ y1 ≤ y0
  · rw [rOf_z h]; unfold inR zR; simp only; omega
  · rw [rOf_mk h]; unfold inR; simp only; omega
theorem inR_emp {r : R} {p q : Int} (h : emp r = true) : ¬ inR r p q := by rw [emp_t] at h; unfold inR; omega
theorem inR_z {p q : Int} : ¬ inR zR p q := inR_emp emp_z
theorem inR_cut {a b : R} {p q : Int} : inR (rCut a b) p q ↔ inR a p q ∧ inR b p q := by
  unfold rCut
  by_cases ha : emp a = true
  · rw [if_pos (by simp [ha])]
    exact ⟨fun h => absurd h inR_z, fun h => absurd h.1 (inR_emp ha)⟩
  by_cases hb : emp b = true
  · rw [if_pos (by simp [hb])]
    exact ⟨fun h => absurd h inR_z, fun h => absurd h.2 (inR_emp hb)⟩
  rw [if_neg (by simp [ha, hb]), inR_rOf]
  have ha := emp_f.1 (by simpa using ha)
  have hb := emp_f.1 (by simpa using hb)
  unfold inR; omega
theorem inR_cover_l {a b : R} {p q : Int} (h : inR a p q ∨ inR b p q) : inR (rCover a b) p q := by
  unfold rCover
  by_cases ha : emp a = true
  · rw [if_pos ha]
    have h := h.resolve_left (inR_emp ha)
    split
    · exact absurd h (inR_emp (by assumption))
    · exact h
  rw [if_neg ha]
  by_cases hb : emp b = true
  · rw [if_pos hb]
    exact h.resolve_right (inR_emp hb)
  rw [if_neg hb, inR_rOf]
  unfold inR at h; omega
theorem inR_shift {r : R} {x y p q : Int} : inR (rShift r x y) p q ↔ inR r (p - x) (q - y) := by
  unfold rShift
  by_cases h : emp r = true
  · rw [if_pos h]
    exact ⟨fun h' => absurd h' inR_z, fun h' => absurd h' (inR_emp h)⟩
  · rw [if_neg h]; unfold inR; simp only; omega
theorem inR_bound {r : R} {p q : Int} : inR (rBound r) p q ↔ inR r p q ∧ -16777216 ≤ p ∧ p < 16777216 ∧ -16777216 ≤ q ∧ q < 16777216 := by
  unfold rBound
  by_cases h : emp r = true
  · rw [if_pos h]
    exact ⟨fun h' => absurd h' inR_z, fun h' => absurd h'.1 (inR_emp h)⟩
  · rw [if_neg h, inR_rOf]
    have := emp_f.1 (by simpa using h)
    unfold inR; omega
theorem chk_bound {r : R} (h : emp (rBound r) = false) : rChk (rBound r) = true := by
  rw [chk_iff]
  unfold rBound at h ⊢
  by_cases he : emp r = true
  · rw [if_pos he] at h; exact absurd h (by simp [emp_z])
  · rw [if_neg he] at h ⊢
    have h' := mt rOf_emp.2 (by rw [h]; simp)
    rw [rOf_mk h']
    unfold chkR; simp only; omega
theorem bound_chk {r : R} (h : rChk r = true) : rBound r = r := by
  have he := chk_emp h
  rw [chk_iff] at h
  unfold chkR at h
  unfold rBound
  rw [if_neg (by simp [he]), rOf_mk (by omega)]
  exact R.ext' (by simp only; omega) (by simp only; omega) (by simp only; omega) (by simp only; omega)
theorem bool_iff {a b : Bool} (h : a = true ↔ b = true) : a = b := by cases a <;> cases b <;> simp_all
theorem has_cut (a b : R) (p q : Int) : rHas (rCut a b) p q = (rHas a p q && rHas b p q) :=
  bool_iff (by rw [has_iff, Bool.and_eq_true, has_iff, has_iff, inR_cut])
theorem has_cover {a b : R} {p q : Int} (h : rHas a p q = true ∨ rHas b p q = true) : rHas (rCover a b) p q = true := by
  rw [has_iff, has_iff] at h; rw [has_iff]; exact inR_cover_l h
theorem has_shift (r : R) (u v p q : Int) : rHas (rShift r u v) (p + u) (q + v) = rHas r p q :=
  bool_iff (by rw [has_iff, has_iff, inR_shift, show p + u - u = p by omega, show q + v - v = q by omega])
theorem has_bound (r : R) (p q : Int) : rHas (rBound r) p q = (rHas r p q && decide (-16777216 ≤ p ∧ p < 16777216 ∧ -16777216 ≤ q ∧ q < 16777216)) :=
  bool_iff (by rw [has_iff, Bool.and_eq_true, has_iff, inR_bound, decide_eq_true_eq])
/-! what comes of such rectangles fits its type -/
theorem i64_z : I64 zR := by unfold I64 zR; simp only; omega
theorem i64_rOf {a b c d : Int} (h : a < c → b < d → (-17179869184 ≤ a ∧ a ≤ 17179869184) ∧ (-17179869184 ≤ b ∧ b ≤ 17179869184) ∧ (-17179869184 ≤ c ∧ c ≤ 17179869184) ∧ -17179869184 ≤ d ∧ d ≤ 17179869184) : I64 (rOf a b c d) := by
  by_cases hz : c ≤ a ∨ d ≤ b
  · rw [rOf_z hz]; exact i64_z
  · rw [rOf_mk hz]
    have h := h (by omega) (by omega)
    unfold I64; simp only; omega
theorem i64_cut {a b : R} (ha : emp a = false → Sm a) (hb : emp b = false → Sm b) : I64 (rCut a b) := by
  unfold rCut
  by_cases ea : emp a = true
  · rw [if_pos (by simp [ea])]; exact i64_z
  by_cases eb : emp b = true
  · rw [if_pos (by simp [eb])]; exact i64_z
  rw [if_neg (by simp [ea, eb])]
  have ha := ha (by simpa using ea)
  have hb := hb (by simpa using eb)
  have ea := emp_f.1 (by simpa using ea)
  have eb := emp_f.1 (by simpa using eb)
  unfold Sm at ha hb
  exact i64_rOf (by omega)
theorem i64_cover {a b : R} (ha : emp a = false → Sm a) (hb : emp b = false → Sm b) : I64 (rCover a b) := by
  unfold rCover
  by_cases ea : emp a = true
  · rw [if_pos ea]
    by_cases eb : emp b = true
    · rw [if_pos eb]; exact i64_z
    · rw [if_neg eb]; exact (hb (by simpa using eb)).i64 (by simpa using eb)
  rw [if_neg ea]
  by_cases eb : emp b = true
  · rw [if_pos eb]; exact (ha (by simpa using ea)).i64 (by simpa using ea)
  rw [if_neg eb]
  have ha := ha (by simpa using ea)
  have hb := hb (by simpa using eb)
  have ea := emp_f.1 (by simpa using ea)
  have eb := emp_f.1 (by simpa using eb)
  unfold Sm at ha hb
  exact i64_rOf (by omega)
theorem i64_shift {a : R} {x y : Int} (ha : emp a = false → Sm a) (hx : -4294967296 ≤ x ∧ x ≤ 4294967296) (hy : -4294967296 ≤ y ∧ y ≤ 4294967296) : I64 (rShift a x y) := by
  unfold rShift
  by_cases ea : emp a = true
  · rw [if_pos ea]; exact i64_z
  rw [if_neg ea]
  have ha := ha (by simpa using ea)
  have ea := emp_f.1 (by simpa using ea)
  unfold Sm at ha; unfold I64; simp only; omega
theorem bound_sm (r : R) : Sm (rBound r) := by
  by_cases h : emp (rBound r) = true
  · unfold rBound at h ⊢
    by_cases he : emp r = true
    · rw [if_pos he]; unfold Sm zR; simp only; omega
    · rw [if_neg he] at h ⊢
      rw [rOf_z (rOf_emp.1 h)]; unfold Sm zR; simp only; omega
  · exact Sm.of_chk (chk_bound (by simpa using h))
theorem bound_emp {r : R} (h : emp (rBound r) = true) : rBound r = zR := by
  unfold rBound at h ⊢
  by_cases he : emp r = true
  · rw [if_pos he]
  · rw [if_neg he] at h ⊢
    exact rOf_z (rOf_emp.1 h)
theorem i64_bound (r : R) : I64 (rBound r) := by
  by_cases h : emp (rBound r) = true
  · rw [bound_emp h]; exact i64_z
  · exact (bound_sm r).i64 (by simpa using h)
/-! covers, one by one, in any order -/
def nrm (r : R) : R := if emp r then zR else r
theorem nrm_z : nrm zR = zR := rfl
theorem nrm_of {r : R} (h : emp r = false) : nrm r = r := by unfold nrm; rw [if_neg (by simp [h])]
theorem cover_nrm (a r : R) : rCover a (nrm r) = rCover a r := by
  unfold nrm
  by_cases h : emp r = true
  · rw [if_pos h]; unfold rCover; simp [h, emp_z]
  · rw [if_neg h]
/-- Either none, or not empty. -/
def Can (r : R) : Prop := r = zR ∨ emp r = false
theorem can_nrm (r : R) : Can (nrm r) := by
  unfold nrm
  by_cases h : emp r = true
  · rw [if_pos h]; exact .inl rfl
  · rw [if_neg h]; exact .inr (by simpa using h)
theorem cover_z {r : R} (h : Can r) : rCover zR r = r := by
  unfold rCover
  rw [if_pos emp_z]
  rcases h with rfl | h
  · rfl
  · rw [if_neg (by simp [h])]
theorem cover_zr {r : R} (h : Can r) : rCover r zR = r := by
  unfold rCover
  rcases h with rfl | h
  · rfl
  · rw [if_neg (by simp [h]), if_pos emp_z]
theorem cover_ne {a b : R} (ha : emp a = false) (hb : emp b = false) : rCover a b = ⟨min a.x b.x, min a.y b.y, max (a.x + a.w) (b.x + b.w) - min a.x b.x, max (a.y + a.h) (b.y + b.h) - min a.y b.y⟩ := by
  unfold rCover
  rw [if_neg (by simp [ha]), if_neg (by simp [hb])]
  have := emp_f.1 ha
  have := emp_f.1 hb
  exact rOf_mk (by omega)
theorem emp_cover_ne {a b : R} (ha : emp a = false) (hb : emp b = false) : emp (rCover a b) = false := by
  rw [cover_ne ha hb, emp_f]
  have := emp_f.1 ha
  have := emp_f.1 hb
  simp only; omega
theorem can_cover {a b : R} (ha : Can a) (hb : Can b) : Can (rCover a b) := by
  rcases ha with rfl | ha
  · rw [cover_z hb]; exact hb
  rcases hb with rfl | hb
  · rw [cover_zr (.inr ha)]; exact .inr ha
  exact .inr (emp_cover_ne ha hb)
theorem can_cover' {a : R} (b : R) (ha : Can a) : Can (rCover a b) := by rw [← cover_nrm]; exact can_cover ha (can_nrm b)
theorem cover_comm {a b : R} (ha : Can a) (hb : Can b) : rCover a b = rCover b a := by
  rcases ha with rfl | ha
  · rw [cover_z hb, cover_zr hb]
  rcases hb with rfl | hb
  · rw [cover_zr (.inr ha), cover_z (.inr ha)]
  rw [cover_ne ha hb, cover_ne hb ha, Int.min_comm, Int.min_comm a.y, Int.max_comm, Int.max_comm (a.y + a.h)]
theorem cover_assoc {a b c : R} (ha : Can a) (hb : Can b) (hc : Can c) : rCover (rCover a b) c = rCover a (rCover b c) := by
  rcases ha with rfl | ha
  · rw [cover_z hb, cover_z (can_cover hb hc)]
  rcases hb with rfl | hb
  · rw [cover_zr (.inr ha), cover_z hc]
  rcases hc with rfl | hc
  · rw [cover_zr (can_cover (.inr ha) (.inr hb)), cover_zr (.inr hb)]
  rw [cover_ne (emp_cover_ne ha hb) hc, cover_ne ha (emp_cover_ne hb hc), cover_ne ha hb, cover_ne hb hc]
  have := emp_f.1 ha
  have := emp_f.1 hb
  have := emp_f.1 hc
  exact R.ext' (by simp only; omega) (by simp only; omega) (by simp only; omega) (by simp only; omega)
theorem cover_swap (z x y : R) (hz : Can z) : rCover (rCover z x) y = rCover (rCover z y) x := by
  rw [← cover_nrm z x, ← cover_nrm z y, ← cover_nrm (rCover z (nrm x)) y, ← cover_nrm (rCover z (nrm y)) x]
  rw [cover_assoc hz (can_nrm x) (can_nrm y), cover_assoc hz (can_nrm y) (can_nrm x), cover_comm (can_nrm x) (can_nrm y)]
def covers (l : List R) (a : R) : R := l.foldl rCover a
theorem can_covers (l : List R) : ∀ a, Can a → Can (covers l a) := by
  induction l with
  | nil => intro a h; exact h
  | cons x l ih => intro a h; exact ih _ (can_cover' x h)
theorem covers_perm {l m : List R} (h : l.Perm m) : ∀ a, Can a → covers l a = covers m a := by
  induction h with
  | nil => intro a _; rfl
  | cons x _ ih => intro a ha; exact ih _ (can_cover' x ha)
  | swap x y l => intro a ha; show covers l (rCover (rCover a y) x) = covers l (rCover (rCover a x) y); rw [cover_swap a y x ha]
  | trans _ _ ih1 ih2 => intro a ha; rw [ih1 a ha, ih2 a ha]
theorem covers_snoc (l : List R) (x a : R) : covers (l ++ [x]) a = rCover (covers l a) x := by simp [covers]
theorem covers_rot (l : List R) (p : Nat) (a : R) (ha : Can a) : covers (l.drop p ++ l.take p) a = covers l a := by
  have h : (l.drop p ++ l.take p).Perm (l.take p ++ l.drop p) := List.perm_append_comm
  rw [covers_perm h a ha, List.take_append_drop]
/-- Where the bounds stay. -/
def Box (r : R) : Prop := emp r = false → -16777216 ≤ r.x ∧ r.x + r.w ≤ 16777216 ∧ -16777216 ≤ r.y ∧ r.y + r.h ≤ 16777216
theorem box_sm {r : R} (h : Box r) : emp r = false → Sm r := by
  intro he
  have h := h he
  have := emp_f.1 he
  unfold Sm; omega
theorem box_cover {a b : R} (ha : Box a) (hb : Box b) : Box (rCover a b) := by
  intro he
  by_cases ea : emp a = true
  · by_cases eb : emp b = true
    · unfold rCover at he; simp [ea, eb, emp_z] at he
    · have eb : emp b = false := by simpa using eb
      have : rCover a b = b := by unfold rCover; simp [ea, eb]
      rw [this]; exact hb eb
  have ea : emp a = false := by simpa using ea
  by_cases eb : emp b = true
  · have : rCover a b = a := by unfold rCover; simp [ea, eb]
    rw [this]; exact ha ea
  have eb : emp b = false := by simpa using eb
  rw [cover_ne ea eb]
  have := ha ea
  have := hb eb
  simp only; omega
theorem box_covers (l : List R) (h : ∀ r, r ∈ l → Box r) : ∀ a, Box a → Box (covers l a) := by
  induction l with
  | nil => intro a ha; exact ha
  | cons x l ih => intro a ha; exact ih (fun r hr => h r (by simp [hr])) _ (box_cover ha (h x (by simp)))
end Go.Proofs.YtjjdgbhplechbaaDoor.Rect
