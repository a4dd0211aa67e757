/- Squares of a field, put together and taken out: plain laws on regions. No program. -/
import Derived.Test.YtogcokfildbodaaRf5
set_option linter.unusedVariables false
set_option linter.unusedSimpArgs false
namespace Go.Proofs.Ytogcokfildbodaa.Reg
open Go.Proofs.Ytogcokfildbodaa.Rect Go.Proofs.Ytogcokfildbodaa.Wk

def sqF (i : Nat) : R := ⟨3 * ((i % 6 : Nat) : Int), 2 * ((i / 6 : Nat) : Int), 3, 2⟩
def GX : List Int := [0, 3, 6, 9, 12, 15, 18]
def GY : List Int := [0, 2, 4, 6, 8, 10, 12]
theorem in_sq {i : Nat} {p q : Int} : inR (sqF i) p q ↔ 3 * ((i % 6 : Nat) : Int) ≤ p ∧ p < 3 * ((i % 6 : Nat) : Int) + 3 ∧ 2 * ((i / 6 : Nat) : Int) ≤ q ∧ q < 2 * ((i / 6 : Nat) : Int) + 2 := by
  unfold inR sqF; simp only; omega
theorem sq_apart {i j : Nat} {p q : Int} (h1 : inR (sqF i) p q) (h2 : inR (sqF j) p q) : i = j := by
  rw [in_sq] at h1 h2
  omega
theorem sq_chk {i : Nat} (hi : i < 36) : chkR (sqF i) := by
  unfold chkR sqF; simp only; omega
theorem rg_sq {i : Nat} (hi : i < 36) : Rg [sqF i] := by
  rw [← of_chk (chk_iff.2 (sq_chk hi))]; exact rg_of _
theorem sq_xy {i : Nat} (hi : i < 36) : InXY GX GY [sqF i] := by
  intro r hr
  obtain rfl : r = sqF i := by simpa using hr
  have h1 : i % 6 < 6 := Nat.mod_lt _ (by omega)
  have h2 : i / 6 < 6 := by omega
  unfold sqF GX GY
  simp only
  generalize i % 6 = a at *
  generalize i / 6 = b at *
  simp only [List.mem_cons, List.not_mem_nil, or_false]
  omega
theorem has_sq (i : Nat) (p q : Int) : hasL [sqF i] p q = rHas (sqF i) p q := by simp [hasL]
theorem gxy {op : Bool → Bool → Bool} (h0 : op false false = false) {a b : List R} (ha : InXY GX GY a) (hb : InXY GX GY b) : InXY GX GY (joinF op a b) ∧ (joinF op a b).length ≤ 49 := by
  rw [join_make h0]
  exact make_xy op (X := GX) (Y := GY) (fun r hr => (List.mem_append.1 hr).elim (ha r) (hb r))
/-- The points of those squares, from lo on and below hi, whose truth is true. -/
def InG (l : List Bool) (lo hi : Nat) (p q : Int) : Prop := ∃ j, lo ≤ j ∧ j < hi ∧ l.getD j false = true ∧ inR (sqF j) p q
structure Grd (l : List Bool) (lo hi : Nat) (M : List R) : Prop where
  rg : Rg M
  xy : InXY GX GY M
  len : M.length ≤ 49
  has : ∀ p q, hasL M p q = true ↔ InG l lo hi p q
theorem Grd.none_ (l : List Bool) (i : Nat) : Grd l i i [] :=
  ⟨Rg.nil, fun r hr => by simp at hr, by simp, fun p q => by
    constructor
    · intro h; simp [hasL] at h
    · rintro ⟨j, h1, h2, _⟩; omega⟩
theorem Grd.skip {l : List Bool} {lo hi : Nat} {M : List R} (h : Grd l lo hi M) (hl : l.getD hi false = false) : Grd l lo (hi + 1) M :=
  ⟨h.rg, h.xy, h.len, fun p q => by
    rw [h.has]
    constructor
    · rintro ⟨j, a, b, c⟩; exact ⟨j, a, by omega, c⟩
    · rintro ⟨j, a, b, c, d⟩
      rcases Nat.lt_or_ge j hi with hj | hj
      · exact ⟨j, a, hj, c, d⟩
      · obtain rfl : j = hi := by omega
        rw [hl] at c; cases c⟩
theorem Grd.add {l : List Bool} {lo hi : Nat} {M : List R} (h : Grd l lo hi M) (hl : l.getD hi false = true) (h6 : hi < 36) (hlo : lo ≤ hi) : Grd l lo (hi + 1) (joinF orB M [sqF hi]) :=
  ⟨rg_join rfl _ _, (gxy rfl h.xy (sq_xy h6)).1, (gxy rfl h.xy (sq_xy h6)).2, fun p q => by
    rw [has_join rfl h.rg (rg_sq h6), has_sq, orB, Bool.or_eq_true, h.has, has_iff]
    constructor
    · rintro (⟨j, a, b, c⟩ | d)
      · exact ⟨j, a, by omega, c⟩
      · exact ⟨hi, hlo, by omega, hl, d⟩
    · rintro ⟨j, a, b, c, d⟩
      rcases Nat.lt_or_ge j hi with hj | hj
      · exact .inl ⟨j, a, hj, c, d⟩
      · obtain rfl : j = hi := by omega
        exact .inr d⟩
theorem Grd.area_add {l : List Bool} {lo hi : Nat} {M : List R} (h : Grd l lo hi M) (h6 : hi < 36) : area (joinF orB M [sqF hi]) = area M + 6 := by
  have h1 := (area_join M [sqF hi] h.rg (rg_sq h6)).1
  have h2 : joinF andB M [sqF hi] = [] := Rg.ext (rg_join rfl _ _) Rg.nil fun p q => by
    rw [has_join rfl h.rg (rg_sq h6), has_sq]
    show (hasL M p q && rHas (sqF hi) p q) = false
    rw [Bool.and_eq_false_iff]
    by_cases hq : rHas (sqF hi) p q = true
    · left
      rw [Bool.eq_false_iff]
      intro hm
      obtain ⟨j, a, b, c, d⟩ := (h.has p q).1 hm
      have := sq_apart d (has_iff.1 hq)
      omega
    · right; simpa using hq
  rw [h2] at h1
  have h3 : area [sqF hi] = 6 := rfl
  have h4 : area ([] : List R) = 0 := rfl
  omega
theorem Grd.skipd {l : List Bool} {lo hi : Nat} {M : List R} (h : Grd l (lo + 1) hi M) (hl : l.getD lo false = false) : Grd l lo hi M :=
  ⟨h.rg, h.xy, h.len, fun p q => by
    rw [h.has]
    constructor
    · rintro ⟨j, a, b, c⟩; exact ⟨j, by omega, b, c⟩
    · rintro ⟨j, a, b, c, d⟩
      rcases Nat.lt_or_ge lo j with hj | hj
      · exact ⟨j, hj, b, c, d⟩
      · obtain rfl : j = lo := by omega
        rw [hl] at c; cases c⟩
theorem Grd.addd {l : List Bool} {lo hi : Nat} {M : List R} (h : Grd l (lo + 1) hi M) (hl : l.getD lo false = true) (h6 : lo < 36) (hlo : lo < hi) : Grd l lo hi (joinF orB M [sqF lo]) :=
  ⟨rg_join rfl _ _, (gxy rfl h.xy (sq_xy h6)).1, (gxy rfl h.xy (sq_xy h6)).2, fun p q => by
    rw [has_join rfl h.rg (rg_sq h6), has_sq, orB, Bool.or_eq_true, h.has, has_iff]
    constructor
    · rintro (⟨j, a, b, c⟩ | d)
      · exact ⟨j, by omega, b, c⟩
      · exact ⟨lo, Nat.le_refl _, hlo, hl, d⟩
    · rintro ⟨j, a, b, c, d⟩
      rcases Nat.lt_or_ge lo j with hj | hj
      · exact .inl ⟨j, hj, b, c, d⟩
      · obtain rfl : j = lo := by omega
        exact .inr d⟩
theorem Grd.sub {l : List Bool} {lo hi : Nat} {M : List R} (h : Grd l lo hi M) (h6 : lo < 36) : Grd l (lo + 1) hi (joinF subB M [sqF lo]) :=
  ⟨rg_join rfl _ _, (gxy rfl h.xy (sq_xy h6)).1, (gxy rfl h.xy (sq_xy h6)).2, fun p q => by
    rw [has_join rfl h.rg (rg_sq h6), has_sq]
    show (hasL M p q && !rHas (sqF lo) p q) = true ↔ _
    rw [Bool.and_eq_true, h.has, Bool.not_eq_true']
    constructor
    · rintro ⟨⟨j, a, b, c, d⟩, e⟩
      refine ⟨j, ?_, b, c, d⟩
      rcases Nat.lt_or_ge lo j with hj | hj
      · exact hj
      · obtain rfl : j = lo := by omega
        rw [has_iff.2 d] at e; cases e
    · rintro ⟨j, a, b, c, d⟩
      refine ⟨⟨j, by omega, b, c, d⟩, ?_⟩
      rw [Bool.eq_false_iff]
      intro e
      have := sq_apart d (has_iff.1 e)
      omega⟩
theorem Grd.same {l : List Bool} {lo hi : Nat} {M N : List R} (h : Grd l lo hi M) (k : Grd l lo hi N) : M = N :=
  Rg.ext h.rg k.rg fun p q => by rw [Bool.eq_iff_iff, h.has, k.has]
theorem Grd.mid {l : List Bool} {hi i : Nat} {M : List R} (h : Grd l 0 hi M) (hh : i < hi ∨ l.getD i false = false) : hasL M (3 * ((i % 6 : Nat) : Int) + 1) (2 * ((i / 6 : Nat) : Int) + 1) = l.getD i false := by
  have hm : inR (sqF i) (3 * ((i % 6 : Nat) : Int) + 1) (2 * ((i / 6 : Nat) : Int) + 1) := by rw [in_sq]; omega
  rw [Bool.eq_iff_iff, h.has]
  constructor
  · rintro ⟨j, _, b, c, d⟩
    obtain rfl := sq_apart d hm
    exact c
  · intro c
    rcases hh with hh | hh
    · exact ⟨i, by omega, hh, c, hm⟩
    · rw [hh] at c; cases c
end Go.Proofs.Ytogcokfildbodaa.Reg
