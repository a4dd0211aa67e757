/- Texts of this claim, one behind the other: each begins with its own remark. -/
import Derived.Test.YtclpppejabfbbaaPCRef1
import Derived.Test.YtclpppejabfbbaaPCGivenS
import Derived.Test.YtclpppejabfbbaaRf5
/- What the printed functions of the reference answer, third part: Bound, Of. -/
set_option linter.unusedSimpArgs false
namespace Go.Proofs.Ytclpppejabfbbaa.PC
open Go.RowKit Go.Proofs.YtclpppejabfbbaaW.PrintWords Go.Proofs.Ytclpppejabfbbaa.Reg Go.Proofs.Ytclpppejabfbbaa.Rect Go.Proofs.Ytclpppejabfbbaa.Wk
open Go.Proofs.YtclpppejabfbbaaW.PrintWords (mx mn)
set_option linter.unusedVariables false

theorem mx_max (a b : Int) : mx a b = max a b := by unfold mx; split <;> omega
end Go.Proofs.Ytclpppejabfbbaa.PC
/- region.Of, region.Cover as the plain ones. -/
set_option linter.unusedSimpArgs false
namespace Go.Proofs.Ytclpppejabfbbaa.PC
open Go.RowKit Go.Proofs.YtclpppejabfbbaaW.PrintWords Go.Proofs.Ytclpppejabfbbaa.Reg Go.Proofs.Ytclpppejabfbbaa.Rect Go.Proofs.Ytclpppejabfbbaa.Wk
set_option linter.unusedVariables false

theorem emp9 (x y w h : Int) : rect_Empty.f x y w h = some (emp ⟨x, y, w, h⟩) := by
  unfold rect_Empty.f emp
  by_cases hw : w < 1 <;> simp [hw]
theorem Of_f {r : R} (h : I64 r) : region_Of.f r.x r.y r.w r.h = some ((ofF r).map ofR) := by
  obtain ⟨hx, hy, hw, hh⟩ := h
  unfold region_Of.f rect_Bound.f
  rw [i64b_iff.2 hx, i64b_iff.2 hy, i64b_iff.2 hw, i64b_iff.2 hh, if_pos (by rfl), Option.bind_some]
  show (rect_Empty.f (rBound r).x (rBound r).y (rBound r).w (rBound r).h).bind _ = _
  rw [emp9, Option.bind_some]
  unfold ofF
  show (if emp (rBound r) = true then _ else _) = _
  cases he : emp (rBound r) with
  | true => rfl
  | false => rfl
theorem sm_z : Rect.Sm zR := by unfold Rect.Sm zR; simp only; omega
theorem sm_of {a : R} (h : a = zR ∨ chkR a) : Rect.Sm a := by
  rcases h with rfl | h
  · exact sm_z
  · exact Sm.of_chk (chk_iff.2 h)
theorem cov1 {a b : R} (ha : Rect.Sm a) (hb : Rect.Sm b) : rect_Cover.f a.x a.y a.w a.h b.x b.y b.w b.h = some (tupR (rCover a b)) := by
  unfold rect_Cover.f
  have h1 : decide (Rect.Sm ⟨a.x, a.y, a.w, a.h⟩) = true := decide_eq_true ha
  have h2 : decide (Rect.Sm ⟨b.x, b.y, b.w, b.h⟩) = true := decide_eq_true hb
  rw [h1, h2, if_pos (by rfl)]
theorem Cover_l {M : List R} (hc : ∀ r ∈ M, chkR r) (hl : M.length ≤ 200000) : ∀ (n i : Nat) (a : R), i + n = M.length → (a = zR ∨ chkR a) → Ev (fun k => region_Cover.l0 k (M.map ofR) ((M.map ofR).length : Int) (i : Int) a.x a.y a.w a.h) (tupR ((M.drop i).foldl rCover a))
  | 0, i, a, h, ha => by
    rw [List.drop_of_length_le (by omega)]
    refine Ev.next (G := fun k => some (tupR a)) (fun k => ?_) (Ev.ret _)
    rw [region_Cover.l0, if_neg (by rw [List.length_map]; omega)]; rfl
  | n + 1, i, a, h, ha => by
    have hi : i < M.length := by omega
    have hi' : i < (M.map ofR).length := by rw [List.length_map]; exact hi
    rw [List.drop_eq_getElem_cons hi, List.foldl_cons]
    have hm := hc M[i] (List.getElem_mem hi)
    have ha' : chkR (rCover a M[i]) := (foldl_cover [M[i]] a (fun r hr => by have e : r = M[i] := (by simpa using hr); rw [e]; exact hm) ha (.inl (by simp))).1
    refine Ev.next (G := fun k => (rect_Cover.f a.x a.y a.w a.h M[i].x M[i].y M[i].w M[i].h).bind fun bt => region_Cover.l0 k (M.map ofR) ((M.map ofR).length : Int) ((i + 1 : Nat) : Int) bt.1 bt.2.1 bt.2.2.1 bt.2.2.2) (fun k => ?_) (Ev.bind0 (cov1 (sm_of ha) (sm_of (.inr hm))) (Cover_l hc hl n (i + 1) _ (by omega) (.inr ha')))
    rw [region_Cover.l0, if_pos (by omega), if_pos (by omega), if_pos (by omega), rdT hi', List.getElem_map, w64 (by omega) (by omega)]
    rfl
theorem Cover_f {M : List R} (h : Rg M) (hl : M.length ≤ 200000) : Ev (fun k => region_Cover.f k (M.map ofR)) (tupR (coverF M)) := by
  unfold region_Cover.f
  refine Ev.bind0 (Check_f h hl) ?_
  refine Ev.pos rfl ?_
  unfold coverF
  rw [if_pos (show (bandsF M).isSome = true from h)]
  exact Cover_l h.chk hl M.length 0 zR (by omega) (.inl rfl)
theorem put_len3 (op : Bool → Bool → Bool) (h0 : op false false = false) (a b : List R) (ha : a.length ≤ 40) (hb : b.length ≤ 1) : (joinF op a b).length ≤ 6724 := by
  rw [join_make h0]
  have hx : InXY ((a ++ b).flatMap fun r => [r.x, r.x + r.w]) ((a ++ b).flatMap fun r => [r.y, r.y + r.h]) (a ++ b) := fun r hr =>
    ⟨⟨List.mem_flatMap.2 ⟨r, hr, by simp⟩, List.mem_flatMap.2 ⟨r, hr, by simp⟩⟩, List.mem_flatMap.2 ⟨r, hr, by simp⟩, List.mem_flatMap.2 ⟨r, hr, by simp⟩⟩
  have h2 : ∀ (l : List R) (f g : R → Int), (l.flatMap fun r => [f r, g r]).length = 2 * l.length := by
    intro l f g
    induction l with
    | nil => rfl
    | cons a l ih => rw [List.flatMap_cons, List.length_append, ih]; simp; omega
  refine Nat.le_trans (make_xy op hx).2 ?_
  rw [h2, h2, List.length_append]
  exact Nat.le_trans (Nat.mul_le_mul (show 2 * (a.length + b.length) ≤ 82 by omega) (show 2 * (a.length + b.length) ≤ 82 by omega)) (by omega)
theorem put_len1 (op : Bool → Bool → Bool) (h0 : op false false = false) (a b : List R) (ha : a.length ≤ 40) (hb : b.length ≤ 1) : (joinF op a b).length ≤ 200000 := Nat.le_trans (put_len3 op h0 a b ha hb) (by omega)
end Go.Proofs.Ytclpppejabfbbaa.PC
