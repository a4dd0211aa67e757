/- RectCovers: what the printed function answers, is true. -/
import Derived.Test.YtghgngfmmncomaaPRectCoversRect
namespace Go.Proofs.Ytghgngfmmncomaa.PRectCovers
open Go.RowKit Go.Proofs.Ytghgngfmmncomaa.Rect
set_option linter.unusedVariables false

theorem refCheck_eq {r : R} (h : I64 r) : tableauref07_Check.f r.x r.y r.w r.h = some (rChk r) := by
  obtain ⟨⟨x0, x1⟩, ⟨y0, y1⟩, ⟨w0, w1⟩, h0, h1⟩ := h
  unfold tableauref07_Check.f tableauref07_Empty.f
  have key : ∀ n : Int, tableauref07_in.f n = some (decide (-16777216 ≤ n ∧ n ≤ 16777216)) := by
    intro n
    unfold tableauref07_in.f
    by_cases h : n ≥ (-16777216 : Int)
    · rw [if_pos h]; congr 1; rw [Bool.eq_iff_iff]; simp only [decide_eq_true_eq]; omega
    · rw [if_neg h]; congr 1; symm; rw [decide_eq_false_iff_not]; omega
  have hc : rChk r = decide (chkR r) := rfl
  by_cases hw : r.w < 1
  · rw [if_pos hw, Option.bind_some, if_pos rfl, hc]; congr 1; symm; rw [decide_eq_false_iff_not]; unfold chkR; omega
  rw [if_neg hw, Option.bind_some]
  by_cases hh : r.h < 1
  · rw [if_pos (by simpa using hh), hc]; congr 1; symm; rw [decide_eq_false_iff_not]; unfold chkR; omega
  rw [if_neg (by simpa using hh), key, Option.bind_some]
  by_cases hx : -16777216 ≤ r.x ∧ r.x ≤ 16777216
  · rw [if_pos (by simpa using hx), key, Option.bind_some]
    by_cases hy : -16777216 ≤ r.y ∧ r.y ≤ 16777216
    · rw [if_pos (by simpa using hy), w64 (by omega) (by omega), w64 (by omega) (by omega)]
      by_cases h3 : r.w ≤ 16777216 - r.x
      · rw [if_pos h3, hc]; congr 1; rw [Bool.eq_iff_iff]; simp only [decide_eq_true_eq]; unfold chkR; omega
      · rw [if_neg h3, hc]; congr 1; symm; rw [decide_eq_false_iff_not]; unfold chkR; omega
    · rw [if_neg (by simpa using hy), hc]; congr 1; symm; rw [decide_eq_false_iff_not]; unfold chkR; omega
  · rw [if_neg (by simpa using hx), hc]; congr 1; symm; rw [decide_eq_false_iff_not]; unfold chkR; omega
theorem may_eq {r : R} (h : I64 r) : tableaulaw07_may.f r.x r.y r.w r.h = some (rChk r || emp r) := by
  unfold tableaulaw07_may.f
  rw [refCheck_eq h, Option.bind_some]
  cases rChk r with
  | true => rfl
  | false =>
    rw [if_neg (by simp)]
    have : tableauref07_Empty.f r.x r.y r.w r.h = some (emp r) := by
      unfold tableauref07_Empty.f emp
      by_cases h : r.w < 1 <;> simp [h]
    rw [this]; rfl
theorem awake_eq : tableaulaw07_awake.f = some true := by decide +kernel

def L (l : List S23) : List R := l.map toR
theorem rd_L {l : List S23} {i : Nat} (h : i < l.length) : toR (rd_T23 l (i : Int)) = (L l)[i]'(by simpa [L] using h) := by
  unfold rd_T23 L
  simp [h]
section
variable (l : List S23) (v : Int) (hl : l.length ≤ 9223372036854775807)
include hl
/-- the second loop but for its end -/
theorem l2_eq (n : Nat) (hn : n ≤ l.length) (hn20 : n ≤ 20) (hbox : ∀ r ∈ (L l).take n, Box r) : ∀ (d k i : Nat) (a b : R), i + d = n → d + 3 ≤ k →
    a = covers ((L l).take i) zR → (0 < n → ∀ p, p = (v % (n : Int)).toNat → b = covers ((((L l).take n).drop p ++ ((L l).take n).take p).take i) zR) → (n = 0 → b = zR) →
    tableaulaw07_RectCovers.l2 k l v n i a.x a.y a.w a.h b.x b.y b.w b.h = some true := by
  intro d
  induction d with
  | zero =>
    intro k i a b hi hk ha hb h0
    obtain ⟨k, rfl⟩ : ∃ m, k = m + 1 := ⟨k - 1, by omega⟩
    obtain rfl : i = n := by omega
    rw [tableaulaw07_RectCovers.l2, if_neg (by omega), beq_tup, if_pos, awake_eq]; · rfl
    rw [decide_eq_true_eq, ha]
    rcases Nat.eq_zero_or_pos i with h | h
    · subst h; rw [h0 rfl]; rfl
    · have hpl := Int.emod_lt_of_pos v (show (0 : Int) < i by omega)
      have hpn := Int.emod_nonneg v (show (i : Int) ≠ 0 by omega)
      have hlL : (L l).length = l.length := by simp [L]
      have e : ((((L l).take i).drop (v % (i : Int)).toNat ++ ((L l).take i).take (v % (i : Int)).toNat)).take i = (((L l).take i).drop (v % (i : Int)).toNat ++ ((L l).take i).take (v % (i : Int)).toNat) :=
        List.take_of_length_le (by simp only [List.length_append, List.length_drop, List.length_take]; omega)
      rw [hb h _ rfl, e]
      exact (covers_rot _ _ _ (.inl rfl)).symm
  | succ d ih =>
    intro k i a b hi hk ha hb h0
    obtain ⟨k, rfl⟩ : ∃ m, k = m + 3 := ⟨k - 3, by omega⟩
    have hin : i < n := by omega
    have hil : i < l.length := by omega
    have hlL : (L l).length = l.length := by simp [L]
    have hpn := Int.emod_nonneg v (show (n : Int) ≠ 0 by omega)
    have hpl := Int.emod_lt_of_pos v (show (0 : Int) < n by omega)
    obtain ⟨p, hp⟩ : ∃ p : Nat, v % (n : Int) = p := ⟨(v % (n : Int)).toNat, by omega⟩
    have hb := hb (by omega) p (by omega)
    have hpn' : p < n := by omega
    have hbx : ∀ j (h : j < n), Box ((L l)[j]'(by omega)) := fun j h => hbox _ (by
      rw [List.mem_take_iff_getElem]; exact ⟨j, by omega, rfl⟩)
    have hbx0 : Box zR := fun h => by cases h
    have e1 : (wrap64 ((i : Int) + (p : Int))) = ((i + p : Nat) : Int) := by rw [w64 (by omega) (by omega)]; omega
    have e2 : Int.tmod ((i + p : Nat) : Int) (n : Int) = (((i + p) % n : Nat) : Int) := by rw [Int.tmod_eq_emod_of_nonneg (by omega)]; omega
    have hm : (i + p) % n < n := Nat.mod_lt _ (by omega)
    have ba : Box a := by rw [ha]; exact box_covers _ (fun r hr => by
      obtain ⟨j, hj, rfl⟩ := List.mem_take_iff_getElem.1 hr
      exact hbx j (by omega)) _ hbx0
    have bb : Box b := by rw [hb]; exact box_covers _ (fun r hr => by
      have := List.mem_of_mem_take hr
      rcases List.mem_append.1 this with h | h
      · exact hbox r (List.mem_of_mem_drop h)
      · exact hbox r (List.mem_of_mem_take h)) _ hbx0
    have ra := rd_L (l := l) hil
    have rb := rd_L (l := l) (i := (i + p) % n) (by omega)
    have ca := Cover_eq k (a := a) (b := toR (rd_T23 l (i : Int))) (box_sm ba) (box_sm (by rw [ra]; exact hbx i hin))
    have cb := Cover_eq k (a := b) (b := toR (rd_T23 l (((i + p) % n : Nat) : Int))) (box_sm bb) (box_sm (by rw [rb]; exact hbx _ hm))
    simp only [toR] at ca cb
    rw [tableaulaw07_RectCovers.l2, if_pos (by omega), if_pos (by omega), if_pos (by omega), ca, Option.bind_some, place_eq (by omega) (by omega), Option.bind_some, if_neg (by omega), hp, e1, e2, if_pos (by omega), if_pos (by omega), cb, Option.bind_some]
    rw [show wrap64 ((i : Int) + 1) = ((i + 1 : Nat) : Int) by rw [w64 (by omega) (by omega)]; omega]
    refine ih (k + 2) (i + 1) _ _ (by omega) (by omega) ?_ (fun _ q hq => ?_) (fun h => by omega)
    · rw [List.take_succ_eq_append_getElem (by omega), covers_snoc, ← ha]
      congr 1
    · obtain rfl : q = p := by omega
      have hlen : i < (((L l).take n).drop q ++ ((L l).take n).take q).length := by simp; omega
      rw [List.take_succ_eq_append_getElem hlen, covers_snoc, ← hb]
      congr 1
      have : (((L l).take n).drop q ++ ((L l).take n).take q)[i]'hlen = (L l)[(i + q) % n]'(by omega) := by
        rw [List.getElem_append]
        split
        · rename_i h
          simp only [List.length_drop, List.length_take] at h
          rw [List.getElem_drop, List.getElem_take]
          congr 1
          rw [Nat.mod_eq_of_lt (by omega)]; omega
        · rename_i h
          simp only [List.length_drop, List.length_take] at h
          rw [List.getElem_take, List.getElem_take]
          congr 1
          simp only [List.length_drop, List.length_take]
          rw [Nat.mod_eq_sub_mod (by omega), Nat.mod_eq_of_lt (by omega)]; omega
      rw [this]; exact rb
theorem l1_eq (h64 : ∀ r ∈ l, I64 (toR r)) (n : Nat) (hn : n ≤ l.length) (hn20 : n ≤ 20) : ∀ (d k i : Nat), i + d = n → d + n + 4 ≤ k → (∀ r ∈ (L l).take i, Box r) →
    tableaulaw07_RectCovers.l1 k l v n i 0 0 0 0 0 0 0 0 = some true := by
  have hlL : (L l).length = l.length := by simp [L]
  intro d
  induction d with
  | zero =>
    intro k i hi hk hbox
    obtain ⟨k, rfl⟩ : ∃ m, k = m + 1 := ⟨k - 1, by omega⟩
    obtain rfl : i = n := by omega
    rw [tableaulaw07_RectCovers.l1, if_neg (by omega)]
    exact l2_eq l v hl i hn hn20 hbox i k 0 zR zR (by omega) (by omega) rfl (fun _ _ _ => rfl) (fun _ => rfl)
  | succ d ih =>
    intro k i hi hk hbox
    obtain ⟨k, rfl⟩ : ∃ m, k = m + 1 := ⟨k - 1, by omega⟩
    have hil : i < l.length := by omega
    have hr := rd_L (l := l) hil
    have hm : I64 (toR (rd_T23 l (i : Int))) := by
      unfold rd_T23
      simp only [Int.toNat_natCast, List.getD_eq_getElem?_getD, List.getElem?_eq_getElem hil, Option.getD_some]
      exact h64 _ (List.getElem_mem hil)
    have hmay := may_eq hm
    simp only [toR] at hmay
    rw [tableaulaw07_RectCovers.l1, if_pos (by omega), if_pos (by omega), if_pos (by omega), hmay, Option.bind_some]
    by_cases h : (rChk (toR (rd_T23 l (i : Int))) || emp (toR (rd_T23 l (i : Int)))) = true
    · rw [if_pos (by simpa only [toR] using h), show wrap64 ((i : Int) + 1) = ((i + 1 : Nat) : Int) by rw [w64 (by omega) (by omega)]; omega]
      refine ih k (i + 1) (by omega) (by omega) fun r hrm => ?_
      rw [List.take_succ_eq_append_getElem (by omega)] at hrm
      rcases List.mem_append.1 hrm with h1 | h1
      · exact hbox r h1
      · obtain rfl : r = _ := by simpa using h1
        rw [← hr]
        intro he
        rw [he, Bool.or_false] at h
        have := chk_iff.1 h
        unfold chkR at this; omega
    · rw [if_neg (by simpa only [toR] using h), awake_eq]; rfl
theorem l0_eq (h64 : ∀ r ∈ l, I64 (toR r)) : ∀ (d k i : Nat), i ≤ l.length → i ≤ 20 → 20 - i = d → d + 50 ≤ k → tableaulaw07_RectCovers.l0 k l v i 0 0 0 0 0 0 0 0 = some true := by
  have hj : ∀ (k i : Nat), i ≤ l.length → i ≤ 20 → 50 ≤ k → tableaulaw07_RectCovers.j1 k l v i 0 0 0 0 0 0 0 0 = some true := by
    intro k i h1 h2 h3
    obtain ⟨k, rfl⟩ : ∃ m, k = m + 1 := ⟨k - 1, by omega⟩
    rw [tableaulaw07_RectCovers.j1]
    exact l1_eq l v hl h64 i h1 h2 i k 0 (by omega) (by omega) (by simp)
  intro d
  induction d with
  | zero =>
    intro k i h1 h2 h3 h4
    obtain ⟨k, rfl⟩ : ∃ m, k = m + 1 := ⟨k - 1, by omega⟩
    rw [tableaulaw07_RectCovers.l0]
    by_cases h : i < l.length
    · rw [if_pos (by omega), if_neg (by omega)]
      obtain ⟨k, rfl⟩ : ∃ m, k = m + 1 := ⟨k - 1, by omega⟩
      rw [tableaulaw07_RectCovers.j1]
      exact l1_eq l v hl h64 i h1 h2 i k 0 (by omega) (by omega) (by simp)
    · rw [if_neg (by omega)]
      obtain ⟨k, rfl⟩ : ∃ m, k = m + 1 := ⟨k - 1, by omega⟩
      rw [tableaulaw07_RectCovers.j1]
      exact l1_eq l v hl h64 i h1 h2 i k 0 (by omega) (by omega) (by simp)
  | succ d ih =>
    intro k i h1 h2 h3 h4
    obtain ⟨k, rfl⟩ : ∃ m, k = m + 1 := ⟨k - 1, by omega⟩
    rw [tableaulaw07_RectCovers.l0]
    by_cases h : i < l.length
    · rw [if_pos (by omega), if_pos (by omega), show wrap64 ((i : Int) + 1) = ((i + 1 : Nat) : Int) by rw [w64 (by omega) (by omega)]; omega]
      exact ih k (i + 1) (by omega) (by omega) (by omega) (by omega)
    · rw [if_neg (by omega)]
      exact hj k i h1 h2 (by omega)
theorem RectCovers_pure (h64 : ∀ r ∈ l, I64 (toR r)) : tableaulaw07_RectCovers.f 100 l v = some true := l0_eq l v hl h64 20 100 0 (by omega) (by omega) rfl (by omega)
end
end Go.Proofs.Ytghgngfmmncomaa.PRectCovers
