/- Texts of this claim, one behind the other: each begins with its own remark. -/
import Derived.Test.YtclpppejabfbbaaPFRef1T
/- What the printed functions of the package damage answer. -/
set_option linter.unusedSimpArgs false
namespace Go.Proofs.Ytclpppejabfbbaa.PF
open Go.RowKit Go.Proofs.YtclpppejabfbbaaW.PrintWords Go.Proofs.Ytclpppejabfbbaa.Reg Go.Proofs.Ytclpppejabfbbaa.Rect Go.Proofs.Ytclpppejabfbbaa.Wk
set_option linter.unusedVariables false

theorem add_l {l : List S26} (h64 : ∀ s ∈ l, I64 (toR s)) (hl : l.length ≤ 9223372036854775806) : ∀ (n i : Nat) (M : List R), i + n = l.length → Rg M → M.length ≤ 40 → Ev (fun k => damage_add.l0 k (M.map ofR) l (l.length : Int) (i : Int)) ((((l.drop i).map toR).foldl putF M).map ofR)
  | 0, i, M, h, hM, hm => by
    rw [List.drop_of_length_le (by omega)]
    exact Ev.next (G := fun k => some (M.map ofR)) (fun k => by rw [damage_add.l0, if_neg (by omega)]) (Ev.ret _)
  | n + 1, i, M, h, hM, hm => by
    have hi : i < l.length := by omega
    have hr := h64 _ (List.getElem_mem hi)
    have e1 : wrap64 ((i : Int) + 1) = ((i + 1 : Nat) : Int) := by rw [w64 (by omega) (by omega)]; rfl
    have hlo := len_of (toR l[i])
    rw [List.drop_eq_getElem_cons hi, List.map_cons, List.foldl_cons]
    have ih := add_l h64 hl n (i + 1) (putF M (toR l[i])) (by omega) (rg_put _ _) (len_put _ _)
    have hu := Union_f hM (rg_of (toR l[i])) (by omega) (by omega)
    have hml := put_len1 (· || ·) rfl M (ofF (toR l[i])) hm hlo
    have hrm : Rg (joinF (· || ·) M (ofF (toR l[i]))) := rg_join rfl _ _
    have hput : putF M (toR l[i]) = if 40 < (joinF (· || ·) M (ofF (toR l[i]))).length then ofF (coverF (joinF (· || ·) M (ofF (toR l[i])))) else joinF (· || ·) M (ofF (toR l[i])) := rfl
    generalize joinF (· || ·) M (ofF (toR l[i])) = m at *
    refine Ev.next (fun k => by rw [damage_add.l0, if_pos (by omega), if_pos (by omega), if_pos (by omega), rdT hi, e1]) ?_
    refine Ev.bind0 (Of_f hr) ?_
    refine Ev.bind0 hu ?_
    by_cases h40 : 40 < m.length
    · rw [if_pos h40] at hput
      refine Ev.pos (by rw [List.length_map]; omega) ?_
      refine Ev.bind (Cover_f hrm hml) ?_
      have hc := (cover_chk hrm (by intro e; rw [e] at h40; simp at h40)).1
      refine Ev.bind0 (Of_f (chk64 hc)) ?_
      rw [hput] at ih ⊢
      exact ih
    · rw [if_neg h40] at hput
      refine Ev.neg (by rw [List.length_map]; omega) ?_
      rw [hput] at ih ⊢
      exact ih
theorem add_eq {l : List S26} (h64 : ∀ s ∈ l, I64 (toR s)) (hl : l.length ≤ 9223372036854775806) {M : List R} (hM : Rg M) (hm : M.length ≤ 40) : Ev (fun k => damage_add.f k (M.map ofR) l) (((l.map toR).foldl putF M).map ofR) :=
  add_l h64 hl l.length 0 M (by omega) hM hm
theorem Flat_eq {l : List S26} (h64 : ∀ s ∈ l, I64 (toR s)) (hl : l.length ≤ 9223372036854775806) : Ev (fun k => damage_Flat.f k l) ((flatF (l.map toR)).map ofR) := by
  unfold damage_Flat.f
  exact Ev.bind (add_eq (M := []) h64 hl Rg.nil (by simp)) (Ev.ret _)
theorem Add_eq {l : List S26} (h64 : ∀ s ∈ l, I64 (toR s)) (hl : l.length ≤ 9223372036854775806) {r : R} (hr : I64 r) : Ev (fun k => damage_Add.f k l r.x r.y r.w r.h) ((damAdd (l.map toR) r).map ofR) := by
  unfold damage_Add.f
  refine Ev.bind (Flat_eq h64 hl) ?_
  refine Ev.bind (add_eq (l := [ofR r]) (fun s hs => by have e : s = ofR r := (by simpa using hs); rw [e]; exact hr) (by simp) (rg_flat _) (len_flat _)) ?_
  exact Ev.ret _
end Go.Proofs.Ytclpppejabfbbaa.PF
/- Shift, Cover: the program's and the reference's, as the plain ones. -/
set_option linter.unusedSimpArgs false
namespace Go.Proofs.Ytclpppejabfbbaa.PF
open Go.RowKit Go.Proofs.YtclpppejabfbbaaW.PrintWords Go.Proofs.Ytclpppejabfbbaa.Reg Go.Proofs.Ytclpppejabfbbaa.Rect Go.Proofs.Ytclpppejabfbbaa.Wk
open Go.Proofs.YtclpppejabfbbaaW.PrintWords (mx mn)
set_option linter.unusedVariables false

/-! the program's, at any list -/
theorem okL_any {l : List S26} (h64 : ∀ s ∈ l, I64 (toR s)) (hl : l.length ≤ 200000) : okL l = true := by
  simp only [okL, Bool.and_eq_true, decide_eq_true_eq, List.all_eq_true]
  refine ⟨hl, fun s hs => ?_⟩
  have := h64 s hs
  unfold I64 toR at this
  simp only [okS, Bool.and_eq_true, i64b_iff]
  exact this
/-! the reference's -/
theorem RCover_l {L : List S26} (h64 : ∀ s ∈ L, I64 (toR s)) (hl : L.length ≤ 10000) (hc : chkF (L.map toR) = true) : ∀ (n i : Nat) (a : R), i + n = L.length → (a = zR ∨ chkR a) → Ev (fun k => tableauref08_Cover.l0 k L (i : Int) a.x a.y a.w a.h) (tup (((L.drop i).map toR).foldl rCover a))
  | 0, i, a, h, ha => by
    rw [List.drop_of_length_le (by omega)]
    exact Ev.next (G := fun k => some (tup a)) (fun k => by rw [tableauref08_Cover.l0, if_neg (by omega)]; rfl) (Ev.ret _)
  | n + 1, i, a, h, ha => by
    have hi : i < L.length := by omega
    have e1 : wrap64 ((i : Int) + 1) = ((i + 1 : Nat) : Int) := by rw [w64 (by omega) (by omega)]; rfl
    have hr : chkR (toR L[i]) := by
      have hc' := hc
      unfold chkF at hc'
      rw [Bool.and_eq_true, List.all_eq_true] at hc'
      exact chk_iff.1 (hc'.1 _ (List.mem_map_of_mem (List.getElem_mem hi)))
    have ha' : chkR (rCover a (toR L[i])) := (foldl_cover [toR L[i]] a (fun r hr' => by have e : r = toR L[i] := (by simpa using hr'); rw [e]; exact hr) ha (.inl (by simp))).1
    rw [List.drop_eq_getElem_cons hi, List.map_cons, List.foldl_cons]
    refine Ev.next (fun k => by rw [tableauref08_Cover.l0, if_pos (by omega), rdT hi, e1]) ?_
    refine Ev.bind (Check_eq h64 hl) ?_
    rw [hc]
    refine Ev.pos rfl ?_
    refine Ev.pos (by omega) ?_
    refine Ev.bind0 (tableauref07_Cover.eq (a := a) (b := toR L[i]) (sm_of ha) (sm_of (.inr hr))) ?_
    exact RCover_l h64 hl hc n (i + 1) _ (by omega) (.inr ha')
theorem RCover_eq {L : List S26} (h64 : ∀ s ∈ L, I64 (toR s)) (hl : L.length ≤ 10000) : Ev (fun k => tableauref08_Cover.f k L) (tup (coverF (L.map toR))) := by
  unfold tableauref08_Cover.f
  cases hc : chkF (L.map toR) with
  | true =>
    have := RCover_l h64 hl hc L.length 0 zR (by omega) (.inl rfl)
    rw [List.drop_zero] at this
    rw [chk_bands] at hc
    unfold coverF
    rw [if_pos hc]
    exact this
  | false =>
    have hb := hc
    rw [chk_bands] at hb
    unfold coverF
    rw [hb]
    by_cases h0 : 0 < L.length
    · refine Ev.next (fun k => by rw [tableauref08_Cover.l0, if_pos (by omega)]) ?_
      refine Ev.bind (Check_eq h64 hl) ?_
      rw [hc]
      exact Ev.neg (by simp) (Ev.ret _)
    · exact Ev.next (G := fun k => some (tup zR)) (fun k => by rw [tableauref08_Cover.l0, if_neg (by omega)]; rfl) (Ev.ret _)
end Go.Proofs.Ytclpppejabfbbaa.PF
