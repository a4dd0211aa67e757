/- RepaintChanges: what the printed law answers, is true. -/
import Derived.Test.YtclpppejabfbbaaPFRpCT
import Derived.Test.YtclpppejabfbbaaPFx7
set_option linter.unusedVariables false
set_option linter.unusedSimpArgs false
namespace Go.Proofs.Ytclpppejabfbbaa.PF
open Go.RowKit Go.Proofs.YtclpppejabfbbaaW.PrintWords Go.Proofs.Ytclpppejabfbbaa.Reg Go.Proofs.Ytclpppejabfbbaa.Rect Go.Proofs.Ytclpppejabfbbaa.Wk

theorem dirt_l {ds : List S75} (h64 : ∀ d ∈ ds, ∀ s ∈ d.f1, I64 (toR s)) (hn : ds.length ≤ 9223372036854775807) : ∀ (n i : Nat), i + n = ds.length → (∀ d ∈ ds.take i, d.f1.length ≤ 8) → (0 < i → ds.length ≤ 8) →
    ∃ r, Ev (fun k => tableaulaw24_dirt.l0 k ds ((ds.take i).map cvD) (i : Int)) r ∧ (r.2 = true → r.1 = ds.map cvD ∧ ds.length ≤ 8 ∧ ∀ d ∈ ds, d.f1.length ≤ 8)
  | 0, i, h, hd, h8 => by
    rw [List.take_of_length_le (by omega)] at hd ⊢
    exact ⟨(ds.map cvD, true), Ev.next (G := fun _ => some (ds.map cvD, true)) (fun k => by rw [tableaulaw24_dirt.l0, if_neg (by omega)]) (Ev.ret _), fun _ => ⟨rfl, (Nat.eq_zero_or_pos i).elim (fun h0 => by omega) (fun h0 => h8 h0), hd⟩⟩
  | n + 1, i, h, hd, h8 => by
    have hi : i < ds.length := by omega
    have e1 : wrap64 ((i : Int) + 1) = ((i + 1 : Nat) : Int) := by rw [w64 (by omega) (by omega)]; rfl
    by_cases c1 : (ds.length : Int) > 8
    · exact ⟨([], false), Ev.next (G := fun _ => some ([], false)) (fun k => by rw [tableaulaw24_dirt.l0, if_pos (by omega), if_pos c1]) (Ev.ret _), fun hr => by cases hr⟩
    · by_cases c2 : (ds[i].f1.length : Int) > 8
      · exact ⟨([], false), Ev.next (G := fun _ => some ([], false)) (fun k => by rw [tableaulaw24_dirt.l0, if_pos (by omega), if_neg c1, if_pos (by omega), rdE hi, if_pos c2]) (Ev.ret _), fun hr => by cases hr⟩
      · have hrc : tableaulaw00_Rects.f ds[i].f1 = some ds[i].f1 := by
          unfold tableaulaw00_Rects.f
          rw [okL_any (h64 _ (List.getElem_mem hi)) (by omega), if_pos (by rfl)]
        obtain ⟨r, e, hr⟩ := dirt_l h64 hn n (i + 1) (by omega) (fun d hm => by
          rw [List.take_succ_eq_append_getElem hi] at hm
          rcases List.mem_append.1 hm with hm | hm
          · exact hd d hm
          · rw [List.mem_singleton] at hm
            rw [hm]; omega) (fun _ => by omega)
        refine ⟨r, Ev.next (fun k => by rw [tableaulaw24_dirt.l0, if_pos (by omega), if_neg c1, if_pos (by omega), rdE hi, if_neg c2, hrc, Option.bind_some, if_pos (by rw [List.length_map, List.length_take]; omega), e1]) ?_, hr⟩
        rw [List.take_succ_eq_append_getElem hi, List.map_append] at e
        exact e
theorem dirtD {ds : List S75} (h64 : ∀ d ∈ ds, ∀ s ∈ d.f1, I64 (toR s)) (hn : ds.length ≤ 9223372036854775807) : ∃ r, Ev (fun k => tableaulaw24_dirt.f k ds) r ∧ (r.2 = true → r.1 = ds.map cvD ∧ ds.length ≤ 8 ∧ ∀ d ∈ ds, d.f1.length ≤ 8) :=
  dirt_l h64 hn ds.length 0 (by omega) (by simp) (fun h => by omega)
/-- **The law, of any lists.** -/
theorem changes_true {old l : List S54} {ds : List S75} (h64 : ∀ d ∈ ds, ∀ s ∈ d.f1, I64 (toR s)) (n1 : old.length ≤ 9223372036854775807) (n2 : l.length ≤ 9223372036854775807) (n3 : ds.length ≤ 9223372036854775807) : ∃ k, tableaulaw24_RepaintChanges.f k old l ds = some true := by
  have ht : ∀ m, Ev (fun k => tableaulaw24_RepaintChanges.j0 k old l ds m true) true := fun m =>
    Ev.next (fun k => by rw [tableaulaw24_RepaintChanges.j0, if_pos rfl]) (Ev.bind awake24 (Ev.ret true))
  have e : Ev (fun k => tableaulaw24_RepaintChanges.f k old l ds) true := by
    unfold tableaulaw24_RepaintChanges.f
    obtain ⟨⟨m, b⟩, e1, r1⟩ := dirtD h64 n3
    refine Ev.bind e1 ?_
    cases b with
    | false => exact Ev.neg (fun q => by cases q) (ht _)
    | true =>
      refine Ev.pos rfl ?_
      obtain ⟨rfl, d1, d2⟩ : m = ds.map cvD ∧ _ := r1 rfl
      obtain ⟨b2, e2, r2⟩ := nearP old n1
      refine Ev.bind e2 ?_
      cases b2 with
      | false => exact Ev.neg (fun q => by cases q) (ht _)
      | true =>
        refine Ev.pos rfl ?_
        obtain ⟨b3, e3, r3⟩ := nearP l n2
        refine Ev.bind e3 ?_
        cases b3 with
        | false => exact ht _
        | true =>
          obtain ⟨v1, l1⟩ := r2 rfl
          obtain ⟨v2, l2⟩ := r3 rfl
          have hE : Eok ds := ⟨by omega, fun d hm => ⟨by have := d2 d hm; omega, h64 d hm⟩⟩
          have hD : Dok (ds.map cvD) := ⟨by rw [List.length_map]; omega, fun d hm => by
            obtain ⟨q, hq, rfl⟩ := List.mem_map.1 hm
            exact hE.2 q hq⟩
          have s1 := seq_same old l ds (max old.length l.length) 0 []
          rw [List.nil_append, List.nil_append] at s1
          have c1 := chgP v1 v2 hD (by omega) (by omega)
          have c2 := rchgP v1 v2 hE (by omega) (by omega)
          rw [s1] at c2
          have lF := len_flat (seqL old l (ds.map cvD) (max old.length l.length) 0)
          refine Ev.next (fun k => by rw [tableaulaw24_RepaintChanges.j0, if_neg (by decide), if_pos (by rw [List.length_nil]; omega), if_pos (by rw [List.length_nil]; omega), List.nil_append, List.nil_append]) ?_
          refine Ev.bind c1 ?_
          refine Ev.bind c2 ?_
          refine Ev.bind (SameRects_of rfl (by omega)) ?_
          refine Ev.pos rfl ?_
          exact Ev.bind awake24 (Ev.ret true)
  obtain ⟨K, hK⟩ := e
  exact ⟨K, hK K (Nat.le_refl _)⟩
end Go.Proofs.Ytclpppejabfbbaa.PF
