/- What the printed functions of the reference answer, third part: Bound, Of. -/
import Derived.Test.YtogcokfildbodaaPARef1
set_option linter.unusedSimpArgs false
namespace Go.Proofs.Ytogcokfildbodaa.PA
open Go.RowKit Go.Proofs.YtogcokfildbodaaW.PrintWords Go.Proofs.Ytogcokfildbodaa.Reg Go.Proofs.Ytogcokfildbodaa.Rect Go.Proofs.Ytogcokfildbodaa.Wk
open Go.Proofs.YtogcokfildbodaaW.PrintWords (mx mn)
set_option linter.unusedVariables false

theorem Make_eq {a b : List S23} {o : Int} (h64a : ∀ s ∈ a, I64 (toR s)) (h64b : ∀ s ∈ b, I64 (toR s)) (ha : a.length ≤ 10000) (hb : b.length ≤ 10000) : Ev (fun k => tableauref08_Make.f k a b o) ((makeF (opN o) (a.map toR) (b.map toR)).map ofR) := by
  unfold tableauref08_Make.f makeF
  refine Ev.bind (Check_eq h64a ha) ?_
  cases hca : chkF (a.map toR) with
  | false => simp only [Bool.false_and, Bool.false_eq_true, if_false]; exact Ev.ret _
  | true =>
    simp only [Bool.true_and, if_true]
    refine Ev.bind (Check_eq h64b hb) ?_
    cases hcb : chkF (b.map toR) with
    | false => simp only [Bool.false_eq_true, if_false]; exact Ev.ret _
    | true =>
      simp only [if_true]
      have h1 : ∀ {l : List S23}, chkF (l.map toR) = true → ∀ r ∈ l.map toR, rChk r = true := fun h r hr => by
        unfold chkF at h
        rw [Bool.and_eq_true, List.all_eq_true] at h
        exact h.1 r hr
      exact Ev.bind0 (make1_eq (okM_iff.2 ⟨ha, h1 hca⟩) (okM_iff.2 ⟨hb, h1 hcb⟩)) (Ev.ret _)
theorem mx_max (a b : Int) : mx a b = max a b := by unfold mx; split <;> omega
theorem u64w (n : Int) : IntKind.u64.wrap n = n % 18446744073709551616 := by simp [IntKind.wrap, IntKind.bits, IntKind.signed]
theorem edge0 {x w : Int} (hx : -9223372036854775808 ≤ x ∧ x ≤ 9223372036854775807) (hw : 1 ≤ w ∧ w ≤ 9223372036854775807) (k : Nat) : tableauref07_edge.f (k + 1) x w = some (min (x + w) 16777216) := by
  have jt : tableauref07_edge.j0 (k + 1) x w true = some 16777216 := by rw [tableauref07_edge.j0, if_pos rfl]
  have jf : x < 16777216 → (x ≥ -16777216 → x + w ≤ 16777216) → tableauref07_edge.j0 (k + 1) x w false = some (min (x + w) 16777216) := by
    intro h1 h2
    rw [tableauref07_edge.j0, if_neg (by simp)]
    by_cases h3 : x < -16777216
    · rw [if_pos h3, if_pos (by omega), u64w, u64w, u64w]
      by_cases h4 : x + w > 16777216
      · rw [if_pos (by omega)]; congr 1; omega
      · rw [if_neg (by omega), w64 (by omega) (by omega)]; congr 1; omega
    · rw [if_neg h3, w64 (by omega) (by omega)]
      have := h2 (by omega)
      congr 1; omega
  unfold tableauref07_edge.f
  by_cases h1 : x ≥ 16777216
  · rw [if_pos h1, jt]; congr 1; omega
  · rw [if_neg h1]
    by_cases h2 : w > 16777216
    · rw [if_pos h2]
      by_cases h3 : x ≥ 0
      · rw [if_pos h3, jt]; congr 1; omega
      · rw [if_neg h3]
        by_cases h4 : x ≥ -16777216
        · rw [if_pos h4, w64 (by omega) (by omega)]
          by_cases h5 : w > 16777216 - x
          · rw [decide_eq_true h5, jt]; congr 1; omega
          · rw [decide_eq_false h5]; exact jf (by omega) (by omega)
        · rw [if_neg h4]; exact jf (by omega) (by omega)
    · rw [if_neg h2]
      by_cases h4 : x ≥ -16777216
      · rw [if_pos h4, w64 (by omega) (by omega)]
        by_cases h5 : w > 16777216 - x
        · rw [decide_eq_true h5, jt]; congr 1; omega
        · rw [decide_eq_false h5]; exact jf (by omega) (by omega)
      · rw [if_neg h4]; exact jf (by omega) (by omega)
def tup (r : R) : Int × Int × Int × Int := (r.x, r.y, r.w, r.h)
theorem of0 {a b c d : Int} (ha : -17179869184 ≤ a) (hb : -17179869184 ≤ b) (hc' : c ≤ 17179869184) (hd' : d ≤ 17179869184) : tableauref07_of.f a b c d = some (tup (rOf a b c d)) := by
  unfold tableauref07_of.f
  by_cases h1 : a ≥ c
  · rw [if_pos h1, rOf_z (.inl h1)]; rfl
  · rw [if_neg h1]
    by_cases h2 : b ≥ d
    · rw [if_pos h2, rOf_z (.inr h2)]; rfl
    · rw [if_neg h2, rOf_mk (by omega), w64 (by omega) (by omega), w64 (by omega) (by omega)]; rfl
theorem bound0 {r : R} (h : I64 r) : Ev (fun k => tableauref07_Bound.f k r.x r.y r.w r.h) (tup (rBound r)) := by
  obtain ⟨⟨x0, x1⟩, ⟨y0, y1⟩, ⟨w0, w1⟩, h0, h1⟩ := h
  unfold tableauref07_Bound.f rBound
  refine Ev.bind0 (emp0 r.x r.y r.w r.h) ?_
  cases he : emp ⟨r.x, r.y, r.w, r.h⟩ with
  | true =>
    simp only [if_true]
    exact Ev.ret _
  | false =>
    simp only [Bool.false_eq_true, if_false]
    have := emp_f.1 he
    simp only at this
    refine Ev.bind (v := min (r.x + r.w) 16777216) ⟨1, fun k hk => ?_⟩ ?_
    · obtain ⟨m, rfl⟩ : ∃ m, k = m + 1 := ⟨k - 1, by omega⟩
      exact edge0 ⟨x0, x1⟩ ⟨by omega, by omega⟩ m
    refine Ev.bind (v := min (r.y + r.h) 16777216) ⟨1, fun k hk => ?_⟩ ?_
    · obtain ⟨m, rfl⟩ : ∃ m, k = m + 1 := ⟨k - 1, by omega⟩
      exact edge0 ⟨y0, y1⟩ ⟨by omega, by omega⟩ m
    refine Ev.bind0 (v := tup (rOf (max r.x (-16777216)) (max r.y (-16777216)) (min (r.x + r.w) 16777216) (min (r.y + r.h) 16777216))) (by rw [mx_max, mx_max]; exact of0 (by omega) (by omega) (by omega) (by omega)) ?_
    exact Ev.ret _
theorem Of_eq {s : S23} (h : I64 (toR s)) : Ev (fun k => tableauref08_Of.f k s.f0 s.f1 s.f2 s.f3) ((ofF (toR s)).map ofR) := by
  unfold tableauref08_Of.f
  refine Ev.bind (bound0 h) ?_
  refine Ev.bind0 (emp0 _ _ _ _) ?_
  unfold ofF
  cases he : emp (rBound (toR s)) with
  | true =>
    have he2 : emp ⟨(tup (rBound (toR s))).1, (tup (rBound (toR s))).2.1, (tup (rBound (toR s))).2.2.1, (tup (rBound (toR s))).2.2.2⟩ = true := he
    simp only [he2, if_true]
    exact Ev.ret _
  | false =>
    have he2 : emp ⟨(tup (rBound (toR s))).1, (tup (rBound (toR s))).2.1, (tup (rBound (toR s))).2.2.1, (tup (rBound (toR s))).2.2.2⟩ = false := he
    simp only [he2, Bool.false_eq_true, if_false]
    exact Ev.ret _
end Go.Proofs.Ytogcokfildbodaa.PA
