/- What the printed functions of the package damage answer. -/
import Derived.Test.YtogcokfildbodaaPER
set_option linter.unusedSimpArgs false
namespace Go.Proofs.Ytogcokfildbodaa.PE
open Go.RowKit Go.Proofs.YtogcokfildbodaaW.PrintWords Go.Proofs.Ytogcokfildbodaa.Reg Go.Proofs.Ytogcokfildbodaa.Rect Go.Proofs.Ytogcokfildbodaa.Wk
set_option linter.unusedVariables false

theorem add_l {l : List S23} (h64 : ∀ s ∈ l, I64 (toR s)) (hl : l.length ≤ 9223372036854775806) : ∀ (n i : Nat) (M : List R), i + n = l.length → Rg M → M.length ≤ 40 → Ev (fun k => damage_add.l0 k (M.map ofR) l (l.length : Int) (i : Int)) ((((l.drop i).map toR).foldl putF M).map ofR)
  | 0, i, M, h, hM, hm => by
    rw [List.drop_of_length_le (by omega)]
    exact Ev.next (G := fun k => some (M.map ofR)) (fun k => by rw [damage_add.l0, if_neg (by omega)]) (Ev.ret _)
  | n + 1, i, M, h, hM, hm => by
    have hi : i < l.length := by omega
    have hr := h64 _ (List.getElem_mem hi)
    have e1 : wrap64 ((i : Int) + 1) = ((i + 1 : Nat) : Int) := by rw [w64 (by omega) (by omega)]; rfl
    have hlo := len_of (toR l[i])
    rw [List.drop_eq_getElem_cons hi, List.map_cons, List.foldl_cons]
    have ih := add_l h64 hl n (i + 1) (putF M (toR l[i])) (by omega) (rg_put _ _) (len_put _ _)
    have hu := Union_f hM (rg_of (toR l[i])) (by omega) (by omega)
    have hml := put_len1 (· || ·) rfl M (ofF (toR l[i])) hm hlo
    have hrm : Rg (joinF (· || ·) M (ofF (toR l[i]))) := rg_join rfl _ _
    have hput : putF M (toR l[i]) = if 40 < (joinF (· || ·) M (ofF (toR l[i]))).length then ofF (coverF (joinF (· || ·) M (ofF (toR l[i])))) else joinF (· || ·) M (ofF (toR l[i])) := rfl
    generalize joinF (· || ·) M (ofF (toR l[i])) = m at *
    refine Ev.next (fun k => by rw [damage_add.l0, if_pos (by omega), if_pos (by omega), if_pos (by omega), rdT hi, e1]) ?_
    refine Ev.bind0 (Of_f hr) ?_
    refine Ev.bind0 hu ?_
    by_cases h40 : 40 < m.length
    · rw [if_pos h40] at hput
      refine Ev.pos (by rw [List.length_map]; omega) ?_
      refine Ev.bind (Cover_f hrm hml) ?_
      have hc := (cover_chk hrm (by intro e; rw [e] at h40; simp at h40)).1
      refine Ev.bind0 (Of_f (chk64 hc)) ?_
      rw [hput] at ih ⊢
      exact ih
    · rw [if_neg h40] at hput
      refine Ev.neg (by rw [List.length_map]; omega) ?_
      rw [hput] at ih ⊢
      exact ih
theorem add_eq {l : List S23} (h64 : ∀ s ∈ l, I64 (toR s)) (hl : l.length ≤ 9223372036854775806) {M : List R} (hM : Rg M) (hm : M.length ≤ 40) : Ev (fun k => damage_add.f k (M.map ofR) l) (((l.map toR).foldl putF M).map ofR) :=
  add_l h64 hl l.length 0 M (by omega) hM hm
theorem Flat_eq {l : List S23} (h64 : ∀ s ∈ l, I64 (toR s)) (hl : l.length ≤ 9223372036854775806) : Ev (fun k => damage_Flat.f k l) ((flatF (l.map toR)).map ofR) := by
  unfold damage_Flat.f
  exact Ev.bind (add_eq (M := []) h64 hl Rg.nil (by simp)) (Ev.ret _)
theorem Add_eq {l : List S23} (h64 : ∀ s ∈ l, I64 (toR s)) (hl : l.length ≤ 9223372036854775806) {r : R} (hr : I64 r) : Ev (fun k => damage_Add.f k l r.x r.y r.w r.h) ((damAdd (l.map toR) r).map ofR) := by
  unfold damage_Add.f
  refine Ev.bind (Flat_eq h64 hl) ?_
  refine Ev.bind (add_eq (l := [ofR r]) (fun s hs => by have e : s = ofR r := (by simpa using hs); rw [e]; exact hr) (by simp) (rg_flat _) (len_flat _)) ?_
  exact Ev.ret _
theorem Clip_eq {l : List S23} (h64 : ∀ s ∈ l, I64 (toR s)) (hl : l.length ≤ 9223372036854775806) {r : R} (hr : I64 r) : Ev (fun k => damage_Clip.f k l r.x r.y r.w r.h) ((joinF (· && ·) (flatF (l.map toR)) (ofF r)).map ofR) := by
  unfold damage_Clip.f
  refine Ev.bind (Flat_eq h64 hl) ?_
  refine Ev.bind0 (Of_f hr) ?_
  exact Ev.bind0 (Intersect_f (rg_flat _) (rg_of _) (by have := len_flat (l.map toR); omega) (by have := len_of r; omega)) (Ev.ret _)
theorem awake9 : Ev (fun k => tableaulaw09_awake.f k) true := by
  have i1 : I64 (⟨0, 0, 2, 2⟩ : R) := by unfold I64; simp only; omega
  have i2 : I64 (⟨5, 0, 1, 1⟩ : R) := by unfold I64; simp only; omega
  have h1 := Add_eq (l := []) (by simp) (by simp) i1
  have h2 := Clip_eq (l := [ofR ⟨0, 0, 2, 2⟩]) (fun s hs => by have e : s = ofR ⟨0, 0, 2, 2⟩ := (by simpa using hs); rw [e]; exact i1) (by simp) i2
  rw [show damAdd (([] : List S23).map toR) ⟨0, 0, 2, 2⟩ = [⟨0, 0, 2, 2⟩] from by decide] at h1
  rw [show joinF (· && ·) (flatF (([ofR ⟨0, 0, 2, 2⟩]).map toR)) (ofF ⟨5, 0, 1, 1⟩) = [] from by decide] at h2
  unfold tableaulaw09_awake.f
  refine Ev.bind h1 ?_
  refine Ev.pos rfl ?_
  refine Ev.pos (by decide) ?_
  refine Ev.pos rfl ?_
  exact Ev.bind h2 (Ev.ret _)
end Go.Proofs.Ytogcokfildbodaa.PE
