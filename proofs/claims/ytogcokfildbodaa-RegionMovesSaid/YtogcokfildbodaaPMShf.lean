/- Shift, Cover: the program's and the reference's, as the plain ones. -/
import Derived.Test.YtogcokfildbodaaPMR
import Derived.Test.YtogcokfildbodaaPMx3
set_option linter.unusedSimpArgs false
namespace Go.Proofs.Ytogcokfildbodaa.PM
open Go.RowKit Go.Proofs.YtogcokfildbodaaW.PrintWords Go.Proofs.Ytogcokfildbodaa.Reg Go.Proofs.Ytogcokfildbodaa.Rect Go.Proofs.Ytogcokfildbodaa.Wk
open Go.Proofs.YtogcokfildbodaaW.PrintWords (mx mn)
set_option linter.unusedVariables false

theorem mn_min (a b : Int) : mn a b = min a b := by unfold mn; split <;> omega
/-! the program's, at any list -/
theorem to_back (l : List S23) : (l.map toR).map ofR = l := map_back l
theorem okL_any {l : List S23} (h64 : ∀ s ∈ l, I64 (toR s)) (hl : l.length ≤ 200000) : okL l = true := by
  simp only [okL, Bool.and_eq_true, decide_eq_true_eq, List.all_eq_true]
  refine ⟨hl, fun s hs => ?_⟩
  have := h64 s hs
  unfold I64 toR at this
  simp only [okS, Bool.and_eq_true, i64b_iff]
  exact this
theorem PCover_eq {l : List S23} (h64 : ∀ s ∈ l, I64 (toR s)) (hl : l.length ≤ 200000) : Ev (fun k => region_Cover.f k l) (tupR (coverF (l.map toR))) := by
  cases hb : (bandsF (l.map toR)).isSome with
  | true =>
    have := Cover_f (M := l.map toR) hb (by rw [List.length_map]; exact hl)
    rwa [to_back] at this
  | false =>
    unfold region_Cover.f
    refine Ev.bind0 (v := false) (by unfold region_Check.f; rw [okL_any h64 hl, if_pos (by rfl), hb]) ?_
    refine Ev.neg (by simp) ?_
    unfold coverF
    rw [hb]
    exact Ev.ret _
theorem PShift_f {l : List S23} (h64 : ∀ s ∈ l, I64 (toR s)) (hl : l.length ≤ 200000) (x y : Int) : region_Shift.f l x y = some ((shiftF (l.map toR) x y).map ofR) := by
  unfold region_Shift.f; rw [okL_any h64 hl, if_pos (by rfl)]
theorem shift_len (l : List R) (x y : Int) : (shiftF l x y).length ≤ l.length := by
  cases hx : farB x with
  | true => unfold shiftF; rw [hx]; simp
  | false =>
    cases hy : farB y with
    | true => unfold shiftF; rw [hy]; simp
    | false =>
      cases h : (bandsF l).isSome with
      | false => unfold shiftF; rw [h]; simp
      | true =>
        obtain ⟨B, hB⟩ := Option.isSome_iff_exists.1 h
        obtain ⟨c, e, _⟩ := bands_sound hB
        have hi := clipL_inv (x := x) (y := y) c.inv
        have e2 : shiftF l x y = rectsF (clipL x y B) := by
          unfold shiftF
          rw [hx, hy, hB, e, mov_flat (inv_pos c.inv), grp_flat (clipL x y B) [] _ hi.1.choose_spec fun b hb => (hi.2 b hb).1]
          rfl
        rw [e2]
        refine Nat.le_trans (flat_append_le hi) ?_
        rw [← mov_flat (inv_pos c.inv), ← e]
        unfold movF
        exact Nat.le_trans (List.length_filter_le _ _) (by rw [List.length_map]; exact Nat.le_refl _)
/-! the reference's -/
theorem Shift1 {r : R} {x y : Int} (hs : emp r = false → Rect.Sm r) (hx : -4294967296 ≤ x ∧ x ≤ 4294967296) (hy : -4294967296 ≤ y ∧ y ≤ 4294967296) : tableauref07_Shift.f r.x r.y r.w r.h x y = some (tup (rShift r x y)) := by
  unfold tableauref07_Shift.f rShift
  rw [emp0, Option.bind_some]
  show (if emp r = true then _ else _) = _
  cases he : emp r with
  | true => rfl
  | false =>
    have := hs he
    unfold Rect.Sm at this
    rw [if_neg (by simp), w64 (by omega) (by omega), w64 (by omega) (by omega)]
    rfl
theorem RShift_l {L : List S23} (hc : ∀ s ∈ L, chkR (toR s)) (hl : L.length ≤ 10000) {x y : Int} (hx : -16777216 ≤ x ∧ x ≤ 16777216) (hy : -16777216 ≤ y ∧ y ≤ 16777216) : ∀ (n i : Nat) (M : List R), i + n = L.length → M.length ≤ i → (∀ r ∈ M, chkR r) →
    Ev (fun k => tableauref08_Shift.l0 k L x y (M.map ofR) (i : Int)) ((makeR orB (M ++ movF ((L.drop i).map toR) x y) []).map ofR)
  | 0, i, M, h, hm, hM => by
    rw [List.drop_of_length_le (by omega)]
    have hmk := make1_eq (a := M.map ofR) (b := []) (o := 0) (okM_iff.2 ⟨by rw [List.length_map]; omega, by rw [to_map]; exact fun r hr => chk_iff.2 (hM r hr)⟩) (okM_iff.2 ⟨by simp, by simp⟩)
    rw [to_map] at hmk
    refine Ev.next (fun k => by rw [tableauref08_Shift.l0, if_neg (by omega)]) ?_
    refine Ev.bind0 hmk ?_
    rw [show M ++ movF (([] : List S23).map toR) x y = M by simp [movF]]
    exact Ev.ret _
  | n + 1, i, M, h, hm, hM => by
    have hi : i < L.length := by omega
    have hr := hc _ (List.getElem_mem hi)
    have e1 : wrap64 ((i : Int) + 1) = ((i + 1 : Nat) : Int) := by rw [w64 (by omega) (by omega)]; rfl
    have hsm : emp (toR L[i]) = false → Rect.Sm (toR L[i]) := fun _ => Sm.of_chk (chk_iff.2 hr)
    rw [List.drop_eq_getElem_cons hi, List.map_cons, movF_cons]
    refine Ev.next (fun k => by rw [tableauref08_Shift.l0, if_pos (by omega), if_pos (by omega), rdT hi, e1]) ?_
    refine Ev.bind0 (Shift1 (r := toR L[i]) hsm (by omega) (by omega)) ?_
    refine Ev.bind (bound0 (r := rShift (toR L[i]) x y) (i64_shift hsm (by omega) (by omega))) ?_
    refine Ev.bind0 (emp0 _ _ _ _) ?_
    show Ev (fun k => if emp (mov x y (toR L[i])) = true then _ else _) _
    cases he : emp (mov x y (toR L[i])) with
    | true =>
      rw [if_pos rfl]
      refine Ev.pos rfl ?_
      exact RShift_l hc hl hx hy n (i + 1) M (by omega) (by omega) hM
    | false =>
      rw [if_neg (by simp)]
      refine Ev.neg (by simp) ?_
      refine Ev.pos (by rw [List.length_map]; omega) ?_
      have ih := RShift_l hc hl hx hy n (i + 1) (M ++ [mov x y (toR L[i])]) (by omega) (by rw [List.length_append, List.length_singleton]; omega) (fun r hr' => by
        rcases List.mem_append.1 hr' with h1 | h1
        · exact hM r h1
        · have e : r = mov x y (toR L[i]) := (by simpa using h1)
          rw [e]; exact chk_iff.1 (chk_bound he))
      rw [List.map_append, List.append_assoc] at ih
      exact ih
theorem far_iff (n : Int) : farB n = true ↔ n < -16777216 ∨ 16777216 < n := by unfold farB; simp
theorem RShift_eq {L : List S23} (h64 : ∀ s ∈ L, I64 (toR s)) (hl : L.length ≤ 10000) {x y : Int} (hx : -9223372036854775808 ≤ x ∧ x ≤ 9223372036854775807) (hy : -9223372036854775808 ≤ y ∧ y ≤ 9223372036854775807) : Ev (fun k => tableauref08_Shift.f k L x y) ((shiftF (L.map toR) x y).map ofR) := by
  have jt : (shiftF (L.map toR) x y = []) → Ev (fun k => tableauref08_Shift.j0 k L x y true) ((shiftF (L.map toR) x y).map ofR) := fun h => by
    rw [h]
    exact Ev.next (fun k => by rw [tableauref08_Shift.j0, if_pos rfl]; rfl) (Ev.ret _)
  have hfx : farB x = true → shiftF (L.map toR) x y = [] := fun h => by unfold shiftF; rw [h]; rfl
  have hfy : farB y = true → shiftF (L.map toR) x y = [] := fun h => by unfold shiftF; rw [h]; simp
  unfold tableauref08_Shift.f
  refine Ev.bind (Check_eq h64 hl) ?_
  cases hc : chkF (L.map toR) with
  | false =>
    refine Ev.neg (by simp) ?_
    refine jt ?_
    rw [chk_bands] at hc
    unfold shiftF; rw [hc]; simp
  | true =>
    refine Ev.pos rfl ?_
    rw [mx_max, mx_max, mx_max]
    by_cases h1 : x = -9223372036854775808
    · have e := hfx (by rw [far_iff]; omega)
      refine Ev.congr (fun k => ?_) (jt e)
      rw [if_pos h1, ite_self]
    · by_cases h2 : y = -9223372036854775808
      · have e := hfy (by rw [far_iff]; omega)
        refine Ev.congr (fun k => ?_) (jt e)
        rw [if_neg h1, show (y == -9223372036854775808) = true by simpa using h2, ite_self]
      · rw [w64 (n := -x) (by omega) (by omega), w64 (n := -y) (by omega) (by omega)]
        by_cases h3 : max (max (max x (-x)) y) (-y) > 16777216
        · refine Ev.pos h3 (jt ?_)
          by_cases h4 : farB x = true
          · exact hfx h4
          · refine hfy ?_
            rw [far_iff] at h4 ⊢
            omega
        · refine Ev.neg h3 ?_
          refine Ev.neg h1 ?_
          rw [show (y == -9223372036854775808) = false by simpa using h2]
          refine Ev.next (G := fun k => tableauref08_Shift.l0 k L x y [] 0) (fun k => by rw [tableauref08_Shift.j0, if_neg (by simp)]) ?_
          have hcL : ∀ s ∈ L, chkR (toR s) := fun s hs => by
            unfold chkF at hc
            rw [Bool.and_eq_true, List.all_eq_true] at hc
            exact chk_iff.1 (hc.1 _ (List.mem_map_of_mem hs))
          have hr := RShift_l hcL hl (x := x) (y := y) (by omega) (by omega) L.length 0 [] (by omega) (by simp) (by simp)
          have e : shiftF (L.map toR) x y = makeR orB (movF (L.map toR) x y) [] := by
            rw [shift_eq]
            unfold shiftR
            rw [show farB x = false by rw [Bool.eq_false_iff]; intro h; rw [far_iff] at h; omega, show farB y = false by rw [Bool.eq_false_iff]; intro h; rw [far_iff] at h; omega, hc]
            rfl
          rw [e]
          exact hr
theorem Cover1 {a b : R} (ha : Rect.Sm a) (hb : Rect.Sm b) : Ev (fun k => tableauref07_Cover.f k a.x a.y a.w a.h b.x b.y b.w b.h) (tup (rCover a b)) := by
  unfold Rect.Sm at ha hb
  unfold tableauref07_Cover.f rCover
  refine Ev.bind0 (emp0 _ _ _ _) ?_
  show Ev (fun k => if emp a = true then _ else _) _
  cases hea : emp a with
  | true =>
    refine Ev.pos rfl ?_
    refine Ev.bind0 (emp0 _ _ _ _) ?_
    show Ev (fun k => tableauref07_Cover.j0 k (emp b) a.x a.y a.w a.h b.x b.y b.w b.h) _
    cases heb : emp b with
    | true => exact Ev.next (G := fun k => some (tup zR)) (fun k => by rw [tableauref07_Cover.j0, if_pos rfl]; rfl) (Ev.ret _)
    | false =>
      refine Ev.next (fun k => by rw [tableauref07_Cover.j0, if_neg (by simp)]) ?_
      refine Ev.bind0 (emp0 _ _ _ _) ?_
      refine Ev.pos hea ?_
      exact Ev.ret _
  | false =>
    refine Ev.neg (by simp) ?_
    refine Ev.next (fun k => by rw [tableauref07_Cover.j0, if_neg (by simp)]) ?_
    refine Ev.bind0 (emp0 _ _ _ _) ?_
    refine Ev.neg (by rw [show emp ⟨a.x, a.y, a.w, a.h⟩ = emp a from rfl, hea]; simp) ?_
    refine Ev.bind0 (emp0 _ _ _ _) ?_
    show Ev (fun k => if emp b = true then _ else _) _
    cases heb : emp b with
    | true => exact Ev.pos rfl (Ev.ret _)
    | false =>
      have ea := emp_f.1 hea
      have eb := emp_f.1 heb
      refine Ev.neg (by simp) ?_
      rw [mx_max, mx_max, mn_min, mn_min, w64 (by omega) (by omega), w64 (by omega) (by omega), w64 (by omega) (by omega), w64 (by omega) (by omega)]
      refine Ev.bind0 (of0 (by omega) (by omega) (by omega) (by omega)) ?_
      exact Ev.ret _
theorem RCover_l {L : List S23} (h64 : ∀ s ∈ L, I64 (toR s)) (hl : L.length ≤ 10000) (hc : chkF (L.map toR) = true) : ∀ (n i : Nat) (a : R), i + n = L.length → (a = zR ∨ chkR a) → Ev (fun k => tableauref08_Cover.l0 k L (i : Int) a.x a.y a.w a.h) (tup (((L.drop i).map toR).foldl rCover a))
  | 0, i, a, h, ha => by
    rw [List.drop_of_length_le (by omega)]
    exact Ev.next (G := fun k => some (tup a)) (fun k => by rw [tableauref08_Cover.l0, if_neg (by omega)]; rfl) (Ev.ret _)
  | n + 1, i, a, h, ha => by
    have hi : i < L.length := by omega
    have e1 : wrap64 ((i : Int) + 1) = ((i + 1 : Nat) : Int) := by rw [w64 (by omega) (by omega)]; rfl
    have hr : chkR (toR L[i]) := by
      have hc' := hc
      unfold chkF at hc'
      rw [Bool.and_eq_true, List.all_eq_true] at hc'
      exact chk_iff.1 (hc'.1 _ (List.mem_map_of_mem (List.getElem_mem hi)))
    have ha' : chkR (rCover a (toR L[i])) := (foldl_cover [toR L[i]] a (fun r hr' => by have e : r = toR L[i] := (by simpa using hr'); rw [e]; exact hr) ha (.inl (by simp))).1
    rw [List.drop_eq_getElem_cons hi, List.map_cons, List.foldl_cons]
    refine Ev.next (fun k => by rw [tableauref08_Cover.l0, if_pos (by omega), rdT hi, e1]) ?_
    refine Ev.bind (Check_eq h64 hl) ?_
    rw [hc]
    refine Ev.pos rfl ?_
    refine Ev.pos (by omega) ?_
    refine Ev.bind (Cover1 (a := a) (b := toR L[i]) (sm_of ha) (sm_of (.inr hr))) ?_
    exact RCover_l h64 hl hc n (i + 1) _ (by omega) (.inr ha')
theorem RCover_eq {L : List S23} (h64 : ∀ s ∈ L, I64 (toR s)) (hl : L.length ≤ 10000) : Ev (fun k => tableauref08_Cover.f k L) (tup (coverF (L.map toR))) := by
  unfold tableauref08_Cover.f
  cases hc : chkF (L.map toR) with
  | true =>
    have := RCover_l h64 hl hc L.length 0 zR (by omega) (.inl rfl)
    rw [List.drop_zero] at this
    rw [chk_bands] at hc
    unfold coverF
    rw [if_pos hc]
    exact this
  | false =>
    have hb := hc
    rw [chk_bands] at hb
    unfold coverF
    rw [hb]
    by_cases h0 : 0 < L.length
    · refine Ev.next (fun k => by rw [tableauref08_Cover.l0, if_pos (by omega)]) ?_
      refine Ev.bind (Check_eq h64 hl) ?_
      rw [hc]
      exact Ev.neg (by simp) (Ev.ret _)
    · exact Ev.next (G := fun k => some (tup zR)) (fun k => by rw [tableauref08_Cover.l0, if_neg (by omega)]; rfl) (Ev.ret _)
end Go.Proofs.Ytogcokfildbodaa.PM
