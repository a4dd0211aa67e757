/- DamageMany: what the printed law answers, is true. -/
import Derived.Test.YtogcokfildbodaaPDDam
import Derived.Test.YtogcokfildbodaaPDx5
set_option linter.unusedSimpArgs false
namespace Go.Proofs.Ytogcokfildbodaa.PD
open Go.RowKit Go.Proofs.YtogcokfildbodaaW.PrintWords Go.Proofs.Ytogcokfildbodaa.Reg Go.Proofs.Ytogcokfildbodaa.Rect Go.Proofs.Ytogcokfildbodaa.Wk
set_option linter.unusedVariables false

def dotF (i : Nat) : R := ⟨2 * (i : Int), 0, 1, 1⟩
def dots (k : Nat) : List R := (List.range k).map dotF
def dotE (k : Nat) : List R := if k ≤ 40 then dots k else ⟨0, 0, 81, 1⟩ :: (dots k).drop 41
theorem dots_succ (k : Nat) : dots (k + 1) = dots k ++ [dotF k] := by unfold dots; rw [List.range_succ, List.map_append]; rfl
theorem dot_step : ∀ k, k < 60 → putF (dotE k) (dotF k) = dotE (k + 1) := by decide +kernel
theorem flat_dots : ∀ k, k ≤ 60 → flatF (dots k) = dotE k
  | 0, _ => rfl
  | k + 1, h => by
    have ih := flat_dots k (by omega)
    unfold flatF at ih ⊢
    rw [dots_succ, List.foldl_append, ih]
    exact dot_step k (by omega)
theorem dots_len (k : Nat) : (dots k).length = k := by simp [dots]
theorem dot64 {k : Nat} (hk : k ≤ 60) : ∀ s ∈ (dots k).map ofR, I64 (toR s) := by
  intro s hs
  obtain ⟨r, hr, rfl⟩ := List.mem_map.1 hs
  obtain ⟨i, hi, rfl⟩ := List.mem_map.1 hr
  have := List.mem_range.1 hi
  rw [to_of]
  unfold I64 dotF; simp only; omega
theorem many_l {K : Nat} (hK : K < 60) : ∀ (n i : Nat), i + n = K → Ev (fun k => tableaulaw09_DamageMany.l0 k (K : Int) ((dots i).map ofR) (i : Int)) true
  | 0, i, h => by
    obtain rfl : i = K := by omega
    have hf := Flat_eq (dot64 (k := i) (by omega)) (by rw [List.length_map, dots_len]; omega)
    rw [to_map, flat_dots i (by omega)] at hf
    refine Ev.next (fun k => by rw [tableaulaw09_DamageMany.l0, if_neg (by omega)]) ?_
    refine Ev.bind hf ?_
    by_cases h40 : i ≤ 40
    · refine Ev.pos (by omega) ?_
      refine Ev.bind (SameRects_of (show dotE i = dots i by unfold dotE; rw [if_pos h40]) (by unfold dotE; rw [if_pos h40, dots_len]; omega)) ?_
      refine Ev.pos rfl ?_
      exact Ev.bind awake9 (Ev.ret _)
    · have hE : dotE i = ⟨0, 0, 81, 1⟩ :: (dots i).drop 41 := by unfold dotE; rw [if_neg h40]
      rw [hE]
      refine Ev.neg (by omega) ?_
      refine Ev.pos (by rw [List.length_map, List.length_cons, List.length_drop, dots_len, w64 (by omega) (by omega)]; omega) ?_
      refine Ev.pos (by rw [List.length_map, List.length_cons]; omega) ?_
      refine Ev.pos rfl ?_
      exact Ev.bind awake9 (Ev.ret _)
  | n + 1, i, h => by
    have e1 : wrap64 ((i : Int) + 1) = ((i + 1 : Nat) : Int) := by rw [w64 (by omega) (by omega)]; rfl
    have ih := many_l hK n (i + 1) (by omega)
    rw [dots_succ, List.map_append] at ih
    refine Ev.next (fun k => by rw [tableaulaw09_DamageMany.l0, if_pos (by omega), if_pos (by rw [List.length_map, dots_len]; omega), e1, w64 (by omega) (by omega)]; rfl) ih
/-- **The law, of any number.** -/
theorem many_true (a : Int) : ∃ k, tableaulaw09_DamageMany.f k a = some true := by
  have e : Ev (fun k => tableaulaw09_DamageMany.f k a) true := by
    unfold tableaulaw09_DamageMany.f
    obtain ⟨x, hx, x0, x1⟩ := Place_eq a 60 (by omega) (by omega)
    refine Ev.bind0 hx ?_
    obtain ⟨K, rfl⟩ : ∃ K : Nat, x = K := ⟨x.toNat, by omega⟩
    exact many_l (by omega) K 0 (by omega)
  obtain ⟨K, hK⟩ := e
  exact ⟨K, hK K (Nat.le_refl _)⟩
end Go.Proofs.Ytogcokfildbodaa.PD
