/- Plain laws on children's places; no program. -/
import Derived.Test.YtnboncbekcodnaaSl
set_option linter.unusedVariables false
set_option linter.unusedSimpArgs false
namespace Go.Proofs.Ytnboncbekcodnaa.St
open Go.RowKit Go.Proofs.Ytnboncbekcodnaa.Kit

structure Ch where
  id : Int
  x : Int
  y : Int
def zC : Ch := ⟨0, 0, 0⟩
def chC (c : Ch) : List Value := [.int .i64 c.id, .int .i64 c.x, .int .i64 c.y]
theorem chC_len (c : Ch) : (chC c).length = 3 := rfl
def chV (c : Ch) : Value := .agg #[.int .i64 c.id, .int .i64 c.x, .int .i64 c.y]
def findC : List Ch → Int → Option Ch
  | [], _ => none
  | a :: l, i => if a.id = i then some a else findC l i
def putC : List Ch → Ch → List Ch
  | [], c => [c]
  | a :: l, c => if a.id = c.id then c :: l else a :: putC l c
theorem find_put_same (l : List Ch) (c : Ch) : findC (putC l c) c.id = some c := by
  induction l with
  | nil => simp [putC, findC]
  | cons a l ih =>
    unfold putC
    by_cases h : a.id = c.id
    · rw [if_pos h]; simp [findC]
    · rw [if_neg h]; simp only [findC, if_neg h]; exact ih
theorem find_put_other (l : List Ch) (c : Ch) (i : Int) (hi : i ≠ c.id) : findC (putC l c) i = findC l i := by
  induction l with
  | nil => simp [putC, findC, Ne.symm hi]
  | cons a l ih =>
    unfold putC
    by_cases h : a.id = c.id
    · rw [if_pos h]
      have h1 : ¬ c.id = i := fun e => hi e.symm
      have h2 : ¬ a.id = i := fun e => hi (e.symm.trans h)
      simp [findC, h1, h2]
    · rw [if_neg h]; simp only [findC]; split
      · rfl
      · exact ih
theorem put_len (l : List Ch) (c : Ch) : l.length ≤ (putC l c).length ∧ (putC l c).length ≤ l.length + 1 := by
  induction l with
  | nil => simp [putC]
  | cons a l ih =>
    unfold putC
    split
    · simp
    · simp only [List.length_cons]; omega
theorem put_none (l : List Ch) (c : Ch) (h : ∀ a ∈ l, a.id ≠ c.id) : putC l c = l ++ [c] := by
  induction l with
  | nil => rfl
  | cons a l ih =>
    unfold putC
    rw [if_neg (h a (by simp)), ih (fun b hb => h b (by simp [hb]))]; rfl
theorem put_at (l : List Ch) (c : Ch) (k : Nat) (hk : k < l.length) (hno : ∀ j (hj : j < l.length), j < k → l[j].id ≠ c.id) (h : l[k].id = c.id) : putC l c = l.set k c := by
  induction l generalizing k with
  | nil => simp at hk
  | cons a l ih =>
    unfold putC
    cases k with
    | zero => rw [if_pos (by simpa using h)]; rfl
    | succ k =>
      have h0 : a.id ≠ _ := hno 0 (Nat.zero_lt_succ _) (by omega)
      rw [if_neg h0, ih k (by simpa using hk) (fun j hj hjk => hno (j + 1) (Nat.succ_lt_succ hj) (by omega)) (by simpa using h)]
      rfl
theorem find_none (l : List Ch) (i : Int) (h : ∀ j (hj : j < l.length), l[j].id ≠ i) : findC l i = none := by
  induction l with
  | nil => rfl
  | cons a l ih =>
    simp only [findC]
    rw [if_neg (show ¬ a.id = i from h 0 (Nat.zero_lt_succ _))]
    exact ih (fun j hj => h (j + 1) (Nat.succ_lt_succ hj))
theorem find_at (l : List Ch) (i : Int) (k : Nat) (hk : k < l.length) (hno : ∀ j (hj : j < l.length), j < k → l[j].id ≠ i) (h : l[k].id = i) : findC l i = some l[k] := by
  induction l generalizing k with
  | nil => simp at hk
  | cons a l ih =>
    simp only [findC]
    cases k with
    | zero => rw [if_pos (by simpa using h)]; rfl
    | succ k =>
      have h0 : a.id ≠ _ := hno 0 (Nat.zero_lt_succ _) (by omega)
      rw [if_neg h0, ih k (by simpa using hk) (fun j hj hjk => hno (j + 1) (Nat.succ_lt_succ hj) (by omega)) (by simpa using h)]
      rfl
/-- A slice's element, its three cells in the walk's own spelling. -/
theorem at3 {w : World} {B : Nat} {A : Option Addr} {l : List Ch} (h : Rds w B 3 A l.length (l.flatMap chC)) {i : Nat} (hi : i < l.length) :
    ∃ ad, A = some ad ∧ ad.block < B ∧ w.cell? (ad.add (i * 3)) = some (.int .i64 l[i].id) ∧ w.cell? ⟨(ad.add (i * 3)).block, (ad.add (i * 3)).off + 1, none⟩ = some (.int .i64 l[i].x) ∧ w.cell? ⟨(ad.add (i * 3)).block, (ad.add (i * 3)).off + 2, none⟩ = some (.int .i64 l[i].y) := by
  obtain ⟨ad, e, hb, hc⟩ := Rds.elem chC 3 chC_len h hi
  refine ⟨ad, e, hb, ?_, ?_, ?_⟩
  · exact hc 0 _ (by omega) rfl
  · rw [add_at ad (i * 3) 0]; exact hc 1 _ (by omega) rfl
  · rw [add_at ad (i * 3) 1]; exact hc 2 _ (by omega) rfl
/-- An element of a row of the call's own. -/
theorem own3 {w : World} {base : Nat} {e : TypeId} {g cap : Nat} {l : List Ch} (h : w.ownsRow base e 3 (.slice (some ⟨g, 0, none⟩) l.length cap) l.length (l.flatMap chC)) {i : Nat} (hi : i < l.length) :
    w.cell? ⟨g, i * 3, none⟩ = some (.int .i64 l[i].id) ∧ w.cell? ⟨g, i * 3 + 1, none⟩ = some (.int .i64 l[i].x) ∧ w.cell? ⟨g, i * 3 + 2, none⟩ = some (.int .i64 l[i].y) ∧ ∀ j, w.frozen? ⟨g, j, none⟩ = false := by
  refine ⟨?_, ?_, ?_, h.frozenAt⟩
  · rw [h.cellAt (i * 3) (by omega)]; exact flat_at chC 3 chC_len l i hi 0 (by omega)
  · rw [h.cellAt (i * 3 + 1) (by omega)]; exact flat_at chC 3 chC_len l i hi 1 (by omega)
  · rw [h.cellAt (i * 3 + 2) (by omega)]; exact flat_at chC 3 chC_len l i hi 2 (by omega)
theorem set3 (l : List Ch) (k : Nat) (hk : k < l.length) (d : Ch) :
    (((l.flatMap chC).set (k * 3) (.int .i64 d.id)).set (k * 3 + 1) (.int .i64 d.x)).set (k * 3 + 2) (.int .i64 d.y) = (l.set k d).flatMap chC := by
  induction l generalizing k with
  | nil => simp at hk
  | cons a l ih =>
    cases k with
    | zero => rfl
    | succ k =>
      have e : (a :: l).flatMap chC = [.int .i64 a.id, .int .i64 a.x, .int .i64 a.y] ++ l.flatMap chC := rfl
      have e2 : ((a :: l).set (k + 1) d).flatMap chC = [.int .i64 a.id, .int .i64 a.x, .int .i64 a.y] ++ (l.set k d).flatMap chC := rfl
      rw [e, e2, ← ih k (by simpa using hk), show (k + 1) * 3 = k * 3 + 3 by omega]
      rfl
end Go.Proofs.Ytnboncbekcodnaa.St
