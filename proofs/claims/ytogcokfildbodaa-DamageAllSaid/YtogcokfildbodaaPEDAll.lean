/- DamageAll: what the printed law answers, is true. -/
import Derived.Test.YtogcokfildbodaaPEDam
import Derived.Test.YtogcokfildbodaaPEShf
import Derived.Test.YtogcokfildbodaaPEx5
set_option linter.unusedVariables false
set_option linter.unusedSimpArgs false
namespace Go.Proofs.Ytogcokfildbodaa.PE
open Go.RowKit Go.Proofs.YtogcokfildbodaaW.PrintWords Go.Proofs.Ytogcokfildbodaa.Reg Go.Proofs.Ytogcokfildbodaa.Rect Go.Proofs.Ytogcokfildbodaa.Wk

theorem OfR_eq {r : R} (h : I64 r) : Ev (fun k => tableauref08_Of.f k r.x r.y r.w r.h) ((ofF r).map ofR) := by
  have := Of_eq (s := ofR r) h
  rwa [to_of] at this
theorem put_eq {M : List R} (hM : Rg M) (hm : M.length ≤ 40) {r : R} (hr : I64 r) : Ev (fun k => tableauref09_put.f k (M.map ofR) r.x r.y r.w r.h) ((putF M r).map ofR) := by
  have hlo := len_of r
  have hmk := Make_eq (a := M.map ofR) (b := (ofF r).map ofR) (o := 0) (rg64 hM) (rg64 (rg_of r)) (by rw [List.length_map]; omega) (by rw [List.length_map]; omega)
  rw [to_map, to_map, opN0, ← join_make (op := orB) rfl] at hmk
  have hml := put_len3 orB rfl M (ofF r) hm hlo
  have hrm : Rg (joinF orB M (ofF r)) := rg_join rfl _ _
  have hput : putF M r = if 40 < (joinF orB M (ofF r)).length then ofF (coverF (joinF orB M (ofF r))) else joinF orB M (ofF r) := rfl
  generalize joinF orB M (ofF r) = m at *
  unfold tableauref09_put.f
  refine Ev.bind (OfR_eq hr) ?_
  refine Ev.bind hmk ?_
  by_cases h40 : 40 < m.length
  · rw [if_pos h40] at hput
    refine Ev.pos (by rw [List.length_map]; omega) ?_
    have hc := (cover_chk hrm (by intro e; rw [e] at h40; simp at h40)).1
    have hcv := RCover_eq (L := m.map ofR) (rg64 hrm) (by rw [List.length_map]; omega)
    rw [to_map] at hcv
    refine Ev.bind hcv ?_
    rw [hput, of_chk (chk_iff.2 hc)]
    exact Ev.ret _
  · rw [if_neg h40] at hput
    refine Ev.neg (by rw [List.length_map]; omega) ?_
    rw [hput]
    exact Ev.ret _
theorem rflat_l {l : List S23} (h64 : ∀ s ∈ l, I64 (toR s)) (hl : l.length ≤ 1000000) : ∀ (n i : Nat) (M : List R), i + n = l.length → Rg M → M.length ≤ 40 → Ev (fun k => tableauref09_Flat.l0 k l (M.map ofR) (i : Int)) ((((l.drop i).map toR).foldl putF M).map ofR)
  | 0, i, M, h, hM, hm => by
    rw [List.drop_of_length_le (by omega)]
    exact Ev.next (G := fun k => some (M.map ofR)) (fun k => by rw [tableauref09_Flat.l0, if_neg (by omega)]) (Ev.ret _)
  | n + 1, i, M, h, hM, hm => by
    have hi : i < l.length := by omega
    have e1 : wrap64 ((i : Int) + 1) = ((i + 1 : Nat) : Int) := by rw [w64 (by omega) (by omega)]; rfl
    rw [List.drop_eq_getElem_cons hi, List.map_cons, List.foldl_cons]
    refine Ev.next (fun k => by rw [tableauref09_Flat.l0, if_pos (by omega), if_pos (by omega), rdT hi, e1]) ?_
    refine Ev.bind (put_eq hM hm (h64 _ (List.getElem_mem hi))) ?_
    exact rflat_l h64 hl n (i + 1) _ (by omega) (rg_put _ _) (len_put _ _)
theorem RFlat_eq {l : List S23} (h64 : ∀ s ∈ l, I64 (toR s)) (hl : l.length ≤ 1000000) : Ev (fun k => tableauref09_Flat.f k l) ((flatF (l.map toR)).map ofR) := rflat_l h64 hl l.length 0 [] (by omega) Rg.nil (by simp)
theorem RAdd_eq {l : List S23} (h64 : ∀ s ∈ l, I64 (toR s)) (hl : l.length ≤ 1000000) {r : R} (hr : I64 r) : Ev (fun k => tableauref09_Add.f k l r.x r.y r.w r.h) ((damAdd (l.map toR) r).map ofR) := by
  unfold tableauref09_Add.f
  refine Ev.bind (RFlat_eq h64 hl) ?_
  exact Ev.bind (put_eq (rg_flat _) (len_flat _) hr) (Ev.ret _)
theorem RClip_eq {l : List S23} (h64 : ∀ s ∈ l, I64 (toR s)) (hl : l.length ≤ 1000000) {r : R} (hr : I64 r) : Ev (fun k => tableauref09_Clip.f k l r.x r.y r.w r.h) ((joinF (· && ·) (flatF (l.map toR)) (ofF r)).map ofR) := by
  unfold tableauref09_Clip.f
  have lF := len_flat (l.map toR)
  have hlo := len_of r
  have hmk := Make_eq (a := (flatF (l.map toR)).map ofR) (b := (ofF r).map ofR) (o := 2) (rg64 (rg_flat _)) (rg64 (rg_of r)) (by rw [List.length_map]; omega) (by rw [List.length_map]; omega)
  rw [to_map, to_map, ← join_make (op := opN 2) rfl] at hmk
  refine Ev.bind (RFlat_eq h64 hl) ?_
  refine Ev.bind (OfR_eq hr) ?_
  exact Ev.bind hmk (Ev.ret _)
theorem Moves_eq {l : List S23} (h64 : ∀ s ∈ l, I64 (toR s)) (hl : l.length ≤ 1000000) {x y : Int} (hx : -9223372036854775808 ≤ x ∧ x ≤ 9223372036854775807) (hy : -9223372036854775808 ≤ y ∧ y ≤ 9223372036854775807) :
    Ev (fun k => damage_Move.f k l x y) ((shiftF (flatF (l.map toR)) x y).map ofR) ∧ Ev (fun k => tableauref09_Move.f k l x y) ((shiftF (flatF (l.map toR)) x y).map ofR) := by
  have lF := len_flat (l.map toR)
  have rF := rg_flat (l.map toR)
  constructor
  · unfold damage_Move.f
    refine Ev.bind (Flat_eq h64 (by omega)) ?_
    have h1 := PShift_f (rg64 rF) (by rw [List.length_map]; omega) x y
    rw [to_map] at h1
    exact Ev.bind0 h1 (Ev.ret _)
  · unfold tableauref09_Move.f
    refine Ev.bind (RFlat_eq h64 hl) ?_
    have h1 := RShift_eq (L := (flatF (l.map toR)).map ofR) (rg64 rF) (by rw [List.length_map]; omega) hx hy
    rw [to_map] at h1
    exact Ev.bind h1 (Ev.ret _)
/-- **The law, of any list, rectangle and numbers.** -/
theorem dall_true {l : List S23} (h64 : ∀ s ∈ l, I64 (toR s)) {r : R} (hr : I64 r) {x y : Int} (hx : -9223372036854775808 ≤ x ∧ x ≤ 9223372036854775807) (hy : -9223372036854775808 ≤ y ∧ y ≤ 9223372036854775807) : ∃ k, tableaulaw09_DamageAll.f k l r.x r.y r.w r.h x y = some true := by
  have e : Ev (fun k => tableaulaw09_DamageAll.f k l r.x r.y r.w r.h x y) true := by
    unfold tableaulaw09_DamageAll.f
    by_cases hl : (l.length : Int) > 12
    · exact Ev.pos hl (Ev.bind awake9 (Ev.ret _))
    · have lF := len_flat (l.map toR)
      have hlo := len_of r
      have lC := put_len3 (· && ·) rfl (flatF (l.map toR)) (ofF r) lF hlo
      have lS := shift_len (flatF (l.map toR)) x y
      have lA := len_put (flatF (l.map toR)) r
      change (damAdd (l.map toR) r).length ≤ 40 at lA
      obtain ⟨v1, v2⟩ := Moves_eq h64 (by omega) hx hy
      refine Ev.neg hl ?_
      refine Ev.bind0 (v := l) (by unfold tableaulaw00_Rects.f; rw [okL_any h64 (by omega), if_pos (by rfl)]) ?_
      refine Ev.bind (Flat_eq h64 (by omega)) ?_
      refine Ev.bind (RFlat_eq h64 (by omega)) ?_
      refine Ev.bind (SameRects_of rfl (by omega)) ?_
      refine Ev.pos rfl ?_
      refine Ev.bind (Add_eq h64 (by omega) hr) ?_
      refine Ev.bind (RAdd_eq h64 (by omega) hr) ?_
      refine Ev.bind (SameRects_of rfl (by omega)) ?_
      refine Ev.pos rfl ?_
      refine Ev.bind (Clip_eq h64 (by omega) hr) ?_
      refine Ev.bind (RClip_eq h64 (by omega) hr) ?_
      refine Ev.bind (SameRects_of rfl (by omega)) ?_
      refine Ev.pos rfl ?_
      refine Ev.bind v1 ?_
      refine Ev.bind v2 ?_
      refine Ev.bind (SameRects_of rfl (by omega)) ?_
      refine Ev.pos rfl ?_
      refine Ev.bind (SameRects_eq (by omega)) ?_
      refine Ev.pos rfl ?_
      exact Ev.bind awake9 (Ev.ret _)
  obtain ⟨K, hK⟩ := e
  exact ⟨K, hK K (Nat.le_refl _)⟩
end Go.Proofs.Ytogcokfildbodaa.PE
