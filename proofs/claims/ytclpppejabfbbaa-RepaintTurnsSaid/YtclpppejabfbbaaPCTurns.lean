/- RepaintTurns: what the printed law answers, is true. -/
import Derived.Test.YtclpppejabfbbaaPCRpN
import Derived.Test.YtclpppejabfbbaaPCx10
set_option linter.unusedVariables false
set_option linter.unusedSimpArgs false
namespace Go.Proofs.Ytclpppejabfbbaa.PC
open Go.RowKit Go.Proofs.YtclpppejabfbbaaW.PrintWords Go.Proofs.Ytclpppejabfbbaa.Reg Go.Proofs.Ytclpppejabfbbaa.Rect Go.Proofs.Ytclpppejabfbbaa.Wk

theorem dlist_nil (v : S54) : dList v [] = [] := by
  unfold dList
  split <;> rfl
theorem step_len (a b : List S54) (i : Nat) : (stepL a b [] i).length ≤ (if i < a.length then 1 else 0) + (if i < b.length then 1 else 0) := by
  rw [stepL_eq]
  split
  · rw [dlist_nil]; exact Nat.zero_le _
  · rw [List.length_append]
    by_cases h : i < a.length <;> by_cases h' : i < b.length <;> simp [h, h']
theorem seq_len (a b : List S54) : ∀ n i, (seqL a b [] n i).length ≤ (a.length - i) + (b.length - i)
  | 0, i => Nat.zero_le _
  | n + 1, i => by
    rw [seqL_succ, List.length_append]
    have h1 := step_len a b i
    have h2 := seq_len a b n (i + 1)
    split at h1 <;> split at h1 <;> omega
theorem eqV_comm (a b : S54) : eqV a b = eqV b a := by
  cases h : eqV b a with
  | true => rw [eqV_iff.1 h]; exact eqV_iff.2 rfl
  | false =>
    cases h2 : eqV a b with
    | false => rfl
    | true =>
      rw [eqV_iff.1 h2] at h
      rw [eqV_iff.2 rfl] at h
      cases h
theorem step_mem (a b : List S54) (i : Nat) (r : R) (h : r ∈ stepL a b [] i) : r ∈ stepL b a [] i := by
  rw [stepL_eq] at h ⊢
  rw [eqV_comm (atV b i), Bool.and_left_comm]
  split at h
  · rw [dlist_nil] at h; cases h
  · rename_i hc
    rw [if_neg hc]
    exact List.mem_append.2 (List.mem_append.1 h).symm
theorem seq_mem (a b : List S54) (n i : Nat) (r : R) (h : r ∈ seqL a b [] n i) : r ∈ seqL b a [] n i := by
  obtain ⟨j, hj, hr⟩ := List.mem_flatMap.1 h
  exact List.mem_flatMap.2 ⟨j, hj, step_mem a b j r hr⟩
theorem seq_none (a : List S54) (d : S52) (hs : ∀ v ∈ a, d.f0 ≠ v.f0) : ∀ n i, i + n ≤ a.length → seqL a a [d] n i = []
  | 0, i, h => rfl
  | n + 1, i, h => by
    have hi : i < a.length := by omega
    rw [seqL_succ, seq_none a d hs n (i + 1) (by omega), List.append_nil, stepL_eq, if_pos (by rw [eqV_iff.2 rfl, decide_eq_true hi]; rfl), at_eq hi]
    unfold dList
    split
    · rw [List.flatMap_cons, List.flatMap_nil, List.append_nil]
      exact if_neg (hs _ (List.getElem_mem hi))
    · rfl
theorem turns_l {a : List S54} {X Y Z : List S26} (hn : a.length ≤ 9223372036854775807) (hx : X = Y) (hX : X.length ≤ 10000) (h64 : ∀ s ∈ X, I64 (toR s)) (hc : chkF (X.map toR) = true) (hz : (∀ v ∈ a, 0 ≤ v.f0) → Z = []) : ∀ (n i : Nat), i + n = a.length → (∀ v ∈ a.take i, 0 ≤ v.f0) → Ev (fun k => tableaulaw24_RepaintTurns.l0 k a X Y Z (i : Int)) true
  | 0, i, h, hv => by
    rw [List.take_of_length_le (by omega)] at hv
    refine Ev.next (fun k => by rw [tableaulaw24_RepaintTurns.l0, if_neg (by omega)]) ?_
    rw [← hx, hz hv]
    refine Ev.bind (SameRects_eq (by omega)) ?_
    refine Ev.pos rfl ?_
    refine Ev.pos rfl ?_
    have := Check_eq h64 hX
    rw [hc] at this
    refine Ev.bind this ?_
    refine Ev.pos rfl ?_
    exact Ev.bind awake24 (Ev.ret true)
  | n + 1, i, h, hv => by
    have hi : i < a.length := by omega
    have e1 : wrap64 ((i : Int) + 1) = ((i + 1 : Nat) : Int) := by rw [w64 (by omega) (by omega)]; rfl
    refine Ev.next (fun k => by rw [tableaulaw24_RepaintTurns.l0, if_pos (by omega), if_pos (by omega), rdV hi, e1]) ?_
    by_cases c : a[i].f0 < 0
    · exact Ev.pos c (Ev.bind awake24 (Ev.ret true))
    · refine Ev.neg c ?_
      refine turns_l hn hx hX h64 hc hz n (i + 1) (by omega) fun v hm => ?_
      rw [List.take_succ_eq_append_getElem hi] at hm
      rcases List.mem_append.1 hm with hm | hm
      · exact hv v hm
      · rw [List.mem_singleton] at hm
        rw [hm]; omega
/-- **The law, of any lists and number.** -/
theorem turns_true {a b : List S54} (n : Int) (n1 : a.length ≤ 9223372036854775807) (n2 : b.length ≤ 9223372036854775807) : ∃ k, tableaulaw24_RepaintTurns.f k a b n = some true := by
  have ht : Ev (fun k => tableaulaw24_RepaintTurns.j0 k a b n true) true :=
    Ev.next (fun k => by rw [tableaulaw24_RepaintTurns.j0, if_pos rfl]) (Ev.bind awake24 (Ev.ret true))
  have e : Ev (fun k => tableaulaw24_RepaintTurns.f k a b n) true := by
    unfold tableaulaw24_RepaintTurns.f
    obtain ⟨b2, e2, r2⟩ := nearP a n1
    refine Ev.bind e2 ?_
    cases b2 with
    | false => exact Ev.neg (by decide) ht
    | true =>
      refine Ev.pos rfl ?_
      obtain ⟨b3, e3, r3⟩ := nearP b n2
      refine Ev.bind e3 ?_
      cases b3 with
      | false => exact Ev.neg (by decide) ht
      | true =>
        refine Ev.pos rfl ?_
        obtain ⟨v1, l1⟩ := r2 rfl
        obtain ⟨v2, l2⟩ := r3 rfl
        rw [w64 (by omega) (by omega)]
        by_cases h5 : (a.length : Int) + (b.length : Int) > 5
        · rw [decide_eq_true h5]; exact ht
        rw [decide_eq_false h5]
        obtain ⟨t, hp, t0, t1⟩ := Place_eq n 1000 (by omega) (by omega)
        have hd0 : Dok [] := ⟨by simp, by simp⟩
        have hd1 : Dok [⟨wrap64 (-1 - t), [⟨0, 0, 9, 9⟩]⟩] := ⟨by simp, fun d hm => by
          rw [List.mem_singleton] at hm
          rw [hm]
          refine ⟨by simp, fun s hs => ?_⟩
          simp only [List.mem_singleton] at hs
          rw [hs]
          unfold I64 toR; simp only; omega⟩
        have c1 := chgP v1 v2 hd0 (by omega) (by omega)
        have c2 := chgP v2 v1 hd0 (by omega) (by omega)
        have c3 := chgP v1 v1 hd1 (by omega) (by omega)
        have q1 := seq_len a b (max a.length b.length) 0
        have q2 := seq_len b a (max b.length a.length) 0
        have hxy : flatF (seqL a b [] (max a.length b.length) 0) = flatF (seqL b a [] (max b.length a.length) 0) := flat_perm (by omega) (by omega) (fun r => by
          rw [Nat.max_comm b.length a.length]
          exact ⟨seq_mem a b _ _ r, seq_mem b a _ _ r⟩)
        have lF := len_flat (seqL a b [] (max a.length b.length) 0)
        have rF := rg_flat (seqL a b [] (max a.length b.length) 0)
        refine Ev.next (fun k => by rw [tableaulaw24_RepaintTurns.j0, if_neg (by decide)]) ?_
        refine Ev.bind c1 ?_
        refine Ev.bind c2 ?_
        refine Ev.bind0 hp ?_
        refine Ev.bind c3 ?_
        refine turns_l n1 (by rw [hxy]) (by rw [List.length_map]; omega) (rg64 rF) (by rw [to_map]; exact (chk_bands _).trans rF) (fun hv => ?_) a.length 0 (by omega) (by simp)
        rw [seq_none a _ (fun v hm => ?_) _ _ (by omega)]
        · rfl
        · have := hv v hm
          show wrap64 (-1 - t) ≠ v.f0
          rw [w64 (by omega) (by omega)]
          omega
  obtain ⟨K, hK⟩ := e
  exact ⟨K, hK K (Nat.le_refl _)⟩
end Go.Proofs.Ytclpppejabfbbaa.PC
