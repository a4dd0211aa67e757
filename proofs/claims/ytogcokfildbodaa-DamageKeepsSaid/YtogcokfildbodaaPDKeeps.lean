/- DamageKeeps: what the printed law answers, is true. -/
import Derived.Test.YtogcokfildbodaaPDDam
import Derived.Test.YtogcokfildbodaaPDx4
set_option linter.unusedSimpArgs false
namespace Go.Proofs.Ytogcokfildbodaa.PD
open Go.RowKit Go.Proofs.YtogcokfildbodaaW.PrintWords Go.Proofs.Ytogcokfildbodaa.Reg Go.Proofs.Ytogcokfildbodaa.Rect Go.Proofs.Ytogcokfildbodaa.Wk
set_option linter.unusedVariables false

theorem RgCheck {M : List R} (h : Rg M) (hl : M.length ≤ 10000) : Ev (fun k => tableauref08_Check.f k (M.map ofR)) true := by
  have h1 := Check_eq (l := M.map ofR) (rg64 h) (by rw [List.length_map]; exact hl)
  rw [to_map, chk_bands, show (bandsF M).isSome = true from h] at h1
  exact h1
theorem RgHas {M : List R} (h : Rg M) (hl : M.length ≤ 10000) {p q : Int} (hp : -9223372036854775808 ≤ p ∧ p ≤ 9223372036854775807) (hq : -9223372036854775808 ≤ q ∧ q ≤ 9223372036854775807) : Ev (fun k => tableauref08_Has.f k (M.map ofR) p q) (hasL M p q) := by
  have h1 := Has_eq (l := M.map ofR) ⟨by rw [List.length_map]; omega, rg64 h⟩ hp hq
  rwa [to_map] at h1
theorem keeps_l {l : List S23} (h64 : ∀ s ∈ l, I64 (toR s)) (hl : l.length ≤ 12) {r : R} (hr : I64 r) {p q : Int} (hf : Reg.fld p q) : ∀ (n i : Nat) (b : Bool), i + n = l.length → b = hasL ((l.take i).map toR) p q → Ev (fun k => tableaulaw09_DamageKeeps.l0 k l p q b (i : Int) r.x r.y r.w r.h) true
  | 0, i, b, h, hb => by
    have hp : -9223372036854775808 ≤ p ∧ p ≤ 9223372036854775807 := by unfold Reg.fld at hf; omega
    have hq : -9223372036854775808 ≤ q ∧ q ≤ 9223372036854775807 := by unfold Reg.fld at hf; omega
    rw [List.take_of_length_le (by omega)] at hb
    have fA := Add_eq h64 (by omega) hr
    have fC := Clip_eq h64 (by omega) hr
    have fF := Flat_eq h64 (by omega)
    have lA := len_put (flatF (l.map toR)) r
    have lF := len_flat (l.map toR)
    have lC := put_len2 lF (len_of r)
    have rA : Rg (damAdd (l.map toR) r) := rg_put _ _
    have rF := rg_flat (l.map toR)
    have rC : Rg (joinF (· && ·) (flatF (l.map toR)) (ofF r)) := rg_join rfl _ _
    have hC : hasL (joinF (· && ·) (flatF (l.map toR)) (ofF r)) p q = (hasL (flatF (l.map toR)) p q && (rHas r p q && decide (Reg.fld p q))) := by rw [has_join rfl rF (rg_of r), has_of]
    rw [decide_eq_true hf, Bool.and_true] at hC
    have hA : b = true ∨ rHas r p q = true → hasL (damAdd (l.map toR) r) p q = true := fun h => has_put rF (h.elim (fun h => .inl (has_flat_dam (hb ▸ h) hf)) (fun h => .inr ⟨h, hf⟩))
    change (damAdd (l.map toR) r).length ≤ 40 at lA
    have gA := RgHas rA (by omega) hp hq
    have gC := RgHas rC lC hp hq
    have gF := RgHas rF (by omega) hp hq
    have cA := RgCheck rA (by omega)
    have cC := RgCheck rC lC
    rw [hC] at gC
    have hon : tableauref07_Has.f r.x r.y r.w r.h p q = some (rHas r p q) := has0 hr hp hq
    clear hC hb
    generalize damAdd (l.map toR) r = A at *
    generalize joinF (· && ·) (flatF (l.map toR)) (ofF r) = C at *
    generalize flatF (l.map toR) = F at *
    generalize hasL F p q = f at *
    generalize hasL A p q = a at *
    refine Ev.next (fun k => by rw [tableaulaw09_DamageKeeps.l0, if_neg (by omega)]) ?_
    refine Ev.bind0 hon ?_
    refine Ev.bind fA ?_
    refine Ev.bind fC ?_
    generalize rHas r p q = on at *
    have fin : Ev (fun k => (tableauref08_Check.f k (A.map ofR)).bind fun t => if t = true then (tableauref08_Check.f k (C.map ofR)).bind fun t => if t = true then (if ((A.map ofR).length : Int) ≤ 40 then (tableaulaw09_awake.f k).bind fun t => some t else some false) else some false else some false) true := by
      refine Ev.bind cA ?_
      refine Ev.pos rfl ?_
      refine Ev.bind cC ?_
      refine Ev.pos rfl ?_
      refine Ev.pos (by rw [List.length_map]; omega) ?_
      exact Ev.bind awake9 (Ev.ret _)
    cases b with
    | true =>
      refine Ev.pos rfl ?_
      rw [hA (.inl rfl)] at gA
      refine Ev.bind gA ?_
      refine Ev.pos rfl ?_
      refine Ev.bind gC ?_
      cases on with
      | true =>
        refine Ev.pos rfl ?_
        refine Ev.bind fF ?_
        refine Ev.bind gF ?_
        refine Ev.pos (by simp) ?_
        exact fin
      | false =>
        refine Ev.neg (by simp) ?_
        refine Ev.pos (by simp) ?_
        exact fin
    | false =>
      refine Ev.neg (by simp) ?_
      cases on with
      | true =>
        refine Ev.pos rfl ?_
        rw [hA (.inr rfl)] at gA
        refine Ev.bind gA ?_
        refine Ev.pos rfl ?_
        refine Ev.bind gC ?_
        refine Ev.bind fF ?_
        refine Ev.bind gF ?_
        refine Ev.pos (by simp) ?_
        exact fin
      | false =>
        refine Ev.neg (by simp) ?_
        refine Ev.bind gC ?_
        refine Ev.pos (by simp) ?_
        exact fin
  | n + 1, i, b, h, hb => by
    have hp : -9223372036854775808 ≤ p ∧ p ≤ 9223372036854775807 := by unfold Reg.fld at hf; omega
    have hq : -9223372036854775808 ≤ q ∧ q ≤ 9223372036854775807 := by unfold Reg.fld at hf; omega
    have hi : i < l.length := by omega
    have e1 : wrap64 ((i : Int) + 1) = ((i + 1 : Nat) : Int) := by rw [w64 (by omega) (by omega)]; rfl
    have ht : hasL ((l.take (i + 1)).map toR) p q = (hasL ((l.take i).map toR) p q || rHas (toR l[i]) p q) := by
      rw [List.take_succ_eq_append_getElem hi, List.map_append]
      unfold hasL
      rw [List.any_append]; simp
    rw [← hb] at ht
    cases b with
    | true =>
      refine Ev.next (fun k => by rw [tableaulaw09_DamageKeeps.l0, if_pos (by omega), if_pos rfl, e1]) (keeps_l h64 hl hr hf n (i + 1) true (by omega) (by rw [ht]; rfl))
    | false =>
      refine Ev.next (fun k => by rw [tableaulaw09_DamageKeeps.l0, if_pos (by omega), if_neg (by simp), if_pos (by omega), rdT hi, e1]) ?_
      refine Ev.bind0 (has0 (h64 _ (List.getElem_mem hi)) hp hq) ?_
      exact keeps_l h64 hl hr hf n (i + 1) _ (by omega) (by rw [ht]; rfl)
/-- **The law, of any list, rectangle and numbers.** -/
theorem keeps_true {l : List S23} (h64 : ∀ s ∈ l, I64 (toR s)) {r : R} (hr : I64 r) (a b : Int) : ∃ k, tableaulaw09_DamageKeeps.f k l r.x r.y r.w r.h a b = some true := by
  have e : Ev (fun k => tableaulaw09_DamageKeeps.f k l r.x r.y r.w r.h a b) true := by
    unfold tableaulaw09_DamageKeeps.f
    by_cases hl : (l.length : Int) > 12
    · refine Ev.pos hl ?_
      exact Ev.bind awake9 (Ev.ret _)
    · refine Ev.neg hl ?_
      obtain ⟨x, hx, x0, x1⟩ := Place_eq a 33554432 (by omega) (by omega)
      obtain ⟨y, hy, y0, y1⟩ := Place_eq b 33554432 (by omega) (by omega)
      refine Ev.bind0 hx ?_
      refine Ev.bind0 hy ?_
      rw [w64 (by omega) (by omega), w64 (by omega) (by omega)]
      exact keeps_l h64 (by omega) hr (by unfold Reg.fld; omega) l.length 0 false (by omega) rfl
  obtain ⟨K, hK⟩ := e
  exact ⟨K, hK K (Nat.le_refl _)⟩
end Go.Proofs.Ytogcokfildbodaa.PD
