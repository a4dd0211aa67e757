/- Texts of this claim, one behind the other: each begins with its own remark. -/
import Derived.Test.YtogcokfildbodaaPMRef1
import Derived.Test.YtogcokfildbodaaPMG
import Derived.Test.YtogcokfildbodaaRf5
/- What the printed functions of the reference answer, third part: Bound, Of. -/
set_option linter.unusedSimpArgs false
namespace Go.Proofs.Ytogcokfildbodaa.PM
open Go.RowKit Go.Proofs.YtogcokfildbodaaW.PrintWords Go.Proofs.Ytogcokfildbodaa.Reg Go.Proofs.Ytogcokfildbodaa.Rect Go.Proofs.Ytogcokfildbodaa.Wk
open Go.Proofs.YtogcokfildbodaaW.PrintWords (mx mn)
set_option linter.unusedVariables false

theorem Make_eq {a b : List S23} {o : Int} (h64a : ∀ s ∈ a, I64 (toR s)) (h64b : ∀ s ∈ b, I64 (toR s)) (ha : a.length ≤ 10000) (hb : b.length ≤ 10000) : Ev (fun k => tableauref08_Make.f k a b o) ((makeF (opN o) (a.map toR) (b.map toR)).map ofR) := by
  unfold tableauref08_Make.f makeF
  refine Ev.bind (Check_eq h64a ha) ?_
  cases hca : chkF (a.map toR) with
  | false => simp only [Bool.false_and, Bool.false_eq_true, if_false]; exact Ev.ret _
  | true =>
    simp only [Bool.true_and, if_true]
    refine Ev.bind (Check_eq h64b hb) ?_
    cases hcb : chkF (b.map toR) with
    | false => simp only [Bool.false_eq_true, if_false]; exact Ev.ret _
    | true =>
      simp only [if_true]
      have h1 : ∀ {l : List S23}, chkF (l.map toR) = true → ∀ r ∈ l.map toR, rChk r = true := fun h r hr => by
        unfold chkF at h
        rw [Bool.and_eq_true, List.all_eq_true] at h
        exact h.1 r hr
      exact Ev.bind0 (make1_eq (okM_iff.2 ⟨ha, h1 hca⟩) (okM_iff.2 ⟨hb, h1 hcb⟩)) (Ev.ret _)
theorem mx_max (a b : Int) : mx a b = max a b := by unfold mx; split <;> omega
theorem u64w (n : Int) : IntKind.u64.wrap n = n % 18446744073709551616 := by simp [IntKind.wrap, IntKind.bits, IntKind.signed]
theorem edge0 {x w : Int} (hx : -9223372036854775808 ≤ x ∧ x ≤ 9223372036854775807) (hw : 1 ≤ w ∧ w ≤ 9223372036854775807) (k : Nat) : tableauref07_edge.f (k + 1) x w = some (min (x + w) 16777216) := by
  have jt : tableauref07_edge.j0 (k + 1) x w true = some 16777216 := by rw [tableauref07_edge.j0, if_pos rfl]
  have jf : x < 16777216 → (x ≥ -16777216 → x + w ≤ 16777216) → tableauref07_edge.j0 (k + 1) x w false = some (min (x + w) 16777216) := by
    intro h1 h2
    rw [tableauref07_edge.j0, if_neg (by simp)]
    by_cases h3 : x < -16777216
    · rw [if_pos h3, if_pos (by omega), u64w, u64w, u64w]
      by_cases h4 : x + w > 16777216
      · rw [if_pos (by omega)]; congr 1; omega
      · rw [if_neg (by omega), w64 (by omega) (by omega)]; congr 1; omega
    · rw [if_neg h3, w64 (by omega) (by omega)]
      have := h2 (by omega)
      congr 1; omega
  unfold tableauref07_edge.f
  by_cases h1 : x ≥ 16777216
  · rw [if_pos h1, jt]; congr 1; omega
  · rw [if_neg h1]
    by_cases h2 : w > 16777216
    · rw [if_pos h2]
      by_cases h3 : x ≥ 0
      · rw [if_pos h3, jt]; congr 1; omega
      · rw [if_neg h3]
        by_cases h4 : x ≥ -16777216
        · rw [if_pos h4, w64 (by omega) (by omega)]
          by_cases h5 : w > 16777216 - x
          · rw [decide_eq_true h5, jt]; congr 1; omega
          · rw [decide_eq_false h5]; exact jf (by omega) (by omega)
        · rw [if_neg h4]; exact jf (by omega) (by omega)
    · rw [if_neg h2]
      by_cases h4 : x ≥ -16777216
      · rw [if_pos h4, w64 (by omega) (by omega)]
        by_cases h5 : w > 16777216 - x
        · rw [decide_eq_true h5, jt]; congr 1; omega
        · rw [decide_eq_false h5]; exact jf (by omega) (by omega)
      · rw [if_neg h4]; exact jf (by omega) (by omega)
def tup (r : R) : Int × Int × Int × Int := (r.x, r.y, r.w, r.h)
theorem of0 {a b c d : Int} (ha : -17179869184 ≤ a) (hb : -17179869184 ≤ b) (hc' : c ≤ 17179869184) (hd' : d ≤ 17179869184) : tableauref07_of.f a b c d = some (tup (rOf a b c d)) := by
  unfold tableauref07_of.f
  by_cases h1 : a ≥ c
  · rw [if_pos h1, rOf_z (.inl h1)]; rfl
  · rw [if_neg h1]
    by_cases h2 : b ≥ d
    · rw [if_pos h2, rOf_z (.inr h2)]; rfl
    · rw [if_neg h2, rOf_mk (by omega), w64 (by omega) (by omega), w64 (by omega) (by omega)]; rfl
theorem bound0 {r : R} (h : I64 r) : Ev (fun k => tableauref07_Bound.f k r.x r.y r.w r.h) (tup (rBound r)) := by
  obtain ⟨⟨x0, x1⟩, ⟨y0, y1⟩, ⟨w0, w1⟩, h0, h1⟩ := h
  unfold tableauref07_Bound.f rBound
  refine Ev.bind0 (emp0 r.x r.y r.w r.h) ?_
  cases he : emp ⟨r.x, r.y, r.w, r.h⟩ with
  | true =>
    simp only [if_true]
    exact Ev.ret _
  | false =>
    simp only [Bool.false_eq_true, if_false]
    have := emp_f.1 he
    simp only at this
    refine Ev.bind (v := min (r.x + r.w) 16777216) ⟨1, fun k hk => ?_⟩ ?_
    · obtain ⟨m, rfl⟩ : ∃ m, k = m + 1 := ⟨k - 1, by omega⟩
      exact edge0 ⟨x0, x1⟩ ⟨by omega, by omega⟩ m
    refine Ev.bind (v := min (r.y + r.h) 16777216) ⟨1, fun k hk => ?_⟩ ?_
    · obtain ⟨m, rfl⟩ : ∃ m, k = m + 1 := ⟨k - 1, by omega⟩
      exact edge0 ⟨y0, y1⟩ ⟨by omega, by omega⟩ m
    refine Ev.bind0 (v := tup (rOf (max r.x (-16777216)) (max r.y (-16777216)) (min (r.x + r.w) 16777216) (min (r.y + r.h) 16777216))) (by rw [mx_max, mx_max]; exact of0 (by omega) (by omega) (by omega) (by omega)) ?_
    exact Ev.ret _
theorem Of_eq {s : S23} (h : I64 (toR s)) : Ev (fun k => tableauref08_Of.f k s.f0 s.f1 s.f2 s.f3) ((ofF (toR s)).map ofR) := by
  unfold tableauref08_Of.f
  refine Ev.bind (bound0 h) ?_
  refine Ev.bind0 (emp0 _ _ _ _) ?_
  unfold ofF
  cases he : emp (rBound (toR s)) with
  | true =>
    have he2 : emp ⟨(tup (rBound (toR s))).1, (tup (rBound (toR s))).2.1, (tup (rBound (toR s))).2.2.1, (tup (rBound (toR s))).2.2.2⟩ = true := he
    simp only [he2, if_true]
    exact Ev.ret _
  | false =>
    have he2 : emp ⟨(tup (rBound (toR s))).1, (tup (rBound (toR s))).2.1, (tup (rBound (toR s))).2.2.1, (tup (rBound (toR s))).2.2.2⟩ = false := he
    simp only [he2, Bool.false_eq_true, if_false]
    exact Ev.ret _
end Go.Proofs.Ytogcokfildbodaa.PM
/- region.Of, region.Cover as the plain ones. -/
set_option linter.unusedSimpArgs false
namespace Go.Proofs.Ytogcokfildbodaa.PM
open Go.RowKit Go.Proofs.YtogcokfildbodaaW.PrintWords Go.Proofs.Ytogcokfildbodaa.Reg Go.Proofs.Ytogcokfildbodaa.Rect Go.Proofs.Ytogcokfildbodaa.Wk
set_option linter.unusedVariables false

theorem emp9 (x y w h : Int) : rect_Empty.f x y w h = some (emp ⟨x, y, w, h⟩) := by
  unfold rect_Empty.f emp
  by_cases hw : w < 1 <;> simp [hw]
theorem Of_f {r : R} (h : I64 r) : region_Of.f r.x r.y r.w r.h = some ((ofF r).map ofR) := by
  obtain ⟨hx, hy, hw, hh⟩ := h
  unfold region_Of.f rect_Bound.f
  rw [i64b_iff.2 hx, i64b_iff.2 hy, i64b_iff.2 hw, i64b_iff.2 hh, if_pos (by rfl), Option.bind_some]
  show (rect_Empty.f (rBound r).x (rBound r).y (rBound r).w (rBound r).h).bind _ = _
  rw [emp9, Option.bind_some]
  unfold ofF
  show (if emp (rBound r) = true then _ else _) = _
  cases he : emp (rBound r) with
  | true => rfl
  | false => rfl
theorem sm_z : Rect.Sm zR := by unfold Rect.Sm zR; simp only; omega
theorem sm_of {a : R} (h : a = zR ∨ chkR a) : Rect.Sm a := by
  rcases h with rfl | h
  · exact sm_z
  · exact Sm.of_chk (chk_iff.2 h)
theorem cov1 {a b : R} (ha : Rect.Sm a) (hb : Rect.Sm b) : rect_Cover.f a.x a.y a.w a.h b.x b.y b.w b.h = some (tupR (rCover a b)) := by
  unfold rect_Cover.f
  have h1 : decide (Rect.Sm ⟨a.x, a.y, a.w, a.h⟩) = true := decide_eq_true ha
  have h2 : decide (Rect.Sm ⟨b.x, b.y, b.w, b.h⟩) = true := decide_eq_true hb
  rw [h1, h2, if_pos (by rfl)]
theorem Cover_l {M : List R} (hc : ∀ r ∈ M, chkR r) (hl : M.length ≤ 200000) : ∀ (n i : Nat) (a : R), i + n = M.length → (a = zR ∨ chkR a) → Ev (fun k => region_Cover.l0 k (M.map ofR) ((M.map ofR).length : Int) (i : Int) a.x a.y a.w a.h) (tupR ((M.drop i).foldl rCover a))
  | 0, i, a, h, ha => by
    rw [List.drop_of_length_le (by omega)]
    refine Ev.next (G := fun k => some (tupR a)) (fun k => ?_) (Ev.ret _)
    rw [region_Cover.l0, if_neg (by rw [List.length_map]; omega)]; rfl
  | n + 1, i, a, h, ha => by
    have hi : i < M.length := by omega
    have hi' : i < (M.map ofR).length := by rw [List.length_map]; exact hi
    rw [List.drop_eq_getElem_cons hi, List.foldl_cons]
    have hm := hc M[i] (List.getElem_mem hi)
    have ha' : chkR (rCover a M[i]) := (foldl_cover [M[i]] a (fun r hr => by have e : r = M[i] := (by simpa using hr); rw [e]; exact hm) ha (.inl (by simp))).1
    refine Ev.next (G := fun k => (rect_Cover.f a.x a.y a.w a.h M[i].x M[i].y M[i].w M[i].h).bind fun bt => region_Cover.l0 k (M.map ofR) ((M.map ofR).length : Int) ((i + 1 : Nat) : Int) bt.1 bt.2.1 bt.2.2.1 bt.2.2.2) (fun k => ?_) (Ev.bind0 (cov1 (sm_of ha) (sm_of (.inr hm))) (Cover_l hc hl n (i + 1) _ (by omega) (.inr ha')))
    rw [region_Cover.l0, if_pos (by omega), if_pos (by omega), if_pos (by omega), rdT hi', List.getElem_map, w64 (by omega) (by omega)]
    rfl
theorem Cover_f {M : List R} (h : Rg M) (hl : M.length ≤ 200000) : Ev (fun k => region_Cover.f k (M.map ofR)) (tupR (coverF M)) := by
  unfold region_Cover.f
  refine Ev.bind0 (Check_f h hl) ?_
  refine Ev.pos rfl ?_
  unfold coverF
  rw [if_pos (show (bandsF M).isSome = true from h)]
  exact Cover_l h.chk hl M.length 0 zR (by omega) (.inl rfl)
theorem put_len3 (op : Bool → Bool → Bool) (h0 : op false false = false) (a b : List R) (ha : a.length ≤ 40) (hb : b.length ≤ 1) : (joinF op a b).length ≤ 6724 := by
  rw [join_make h0]
  have hx : InXY ((a ++ b).flatMap fun r => [r.x, r.x + r.w]) ((a ++ b).flatMap fun r => [r.y, r.y + r.h]) (a ++ b) := fun r hr =>
    ⟨⟨List.mem_flatMap.2 ⟨r, hr, by simp⟩, List.mem_flatMap.2 ⟨r, hr, by simp⟩⟩, List.mem_flatMap.2 ⟨r, hr, by simp⟩, List.mem_flatMap.2 ⟨r, hr, by simp⟩⟩
  have h2 : ∀ (l : List R) (f g : R → Int), (l.flatMap fun r => [f r, g r]).length = 2 * l.length := by
    intro l f g
    induction l with
    | nil => rfl
    | cons a l ih => rw [List.flatMap_cons, List.length_append, ih]; simp; omega
  refine Nat.le_trans (make_xy op hx).2 ?_
  rw [h2, h2, List.length_append]
  exact Nat.le_trans (Nat.mul_le_mul (show 2 * (a.length + b.length) ≤ 82 by omega) (show 2 * (a.length + b.length) ≤ 82 by omega)) (by omega)
theorem put_len1 (op : Bool → Bool → Bool) (h0 : op false false = false) (a b : List R) (ha : a.length ≤ 40) (hb : b.length ≤ 1) : (joinF op a b).length ≤ 200000 := Nat.le_trans (put_len3 op h0 a b ha hb) (by omega)
theorem put_len2 {a b : List R} (ha : a.length ≤ 40) (hb : b.length ≤ 1) : (joinF (· && ·) a b).length ≤ 10000 := by
  have := put_len3 (· && ·) rfl a b ha hb
  omega
end Go.Proofs.Ytogcokfildbodaa.PM
