/- DamageOrders: what the printed law answers, is true. -/
import Derived.Test.YtogcokfildbodaaPODam
import Derived.Test.YtogcokfildbodaaPOx4
set_option linter.unusedSimpArgs false
namespace Go.Proofs.Ytogcokfildbodaa.PO
open Go.RowKit Go.Proofs.YtogcokfildbodaaW.PrintWords Go.Proofs.Ytogcokfildbodaa.Reg Go.Proofs.Ytogcokfildbodaa.Rect Go.Proofs.Ytogcokfildbodaa.Wk
set_option linter.unusedVariables false

theorem map_rg {l : List R} (h : Rg l) (hl : l.length ≤ 40) : flatF l = l := flat_self h hl
/-- **The law, of any list and number.** -/
theorem orders_true {l : List S23} (h64 : ∀ s ∈ l, I64 (toR s)) (a : Int) : ∃ k, tableaulaw09_DamageOrders.f k l a = some true := by
  have ht : Ev (fun k => tableaulaw09_DamageOrders.j0 k l a true) true :=
    Ev.next (fun k => by rw [tableaulaw09_DamageOrders.j0, if_pos rfl]) (Ev.bind awake9 (Ev.ret true))
  have e : Ev (fun k => tableaulaw09_DamageOrders.f k l a) true := by
    unfold tableaulaw09_DamageOrders.f
    by_cases hl : (l.length : Int) > 5
    · exact Ev.pos hl ht
    · refine Ev.neg hl ?_
      by_cases h0 : l.length = 0
      · rw [show (((l.length : Int) == 0) = true) by simp [h0]]
        exact ht
      · rw [show (((l.length : Int) == 0) = false) by simpa using h0]
        obtain ⟨t, hp, t0, t1⟩ := Place_eq a (l.length : Int) (by omega) (by omega)
        obtain ⟨i, rfl⟩ : ∃ i : Nat, t = i := ⟨t.toNat, by omega⟩
        have hi : i < l.length := by omega
        have hm64 : ∀ s ∈ l.drop i ++ l.take i, I64 (toR s) := by
          intro s hs
          rcases List.mem_append.1 hs with h | h
          · exact h64 s (List.mem_of_mem_drop h)
          · exact h64 s (List.mem_of_mem_take h)
        have hml : (l.drop i ++ l.take i).length = l.length := by rw [List.length_append, List.length_drop, List.length_take]; omega
        have hL : (l.map toR).length ≤ 5 := by rw [List.length_map]; omega
        have hM : ((l.drop i ++ l.take i).map toR).length ≤ 5 := by rw [List.length_map]; omega
        have hperm : flatF ((l.drop i ++ l.take i).map toR) = flatF (l.map toR) := flat_perm hM hL (fun r => by
          simp only [List.mem_map, List.mem_append]
          constructor
          · rintro ⟨s, h | h, rfl⟩
            · exact ⟨s, List.mem_of_mem_drop h, rfl⟩
            · exact ⟨s, List.mem_of_mem_take h, rfl⟩
          · rintro ⟨s, h, rfl⟩
            refine ⟨s, ?_, rfl⟩
            rw [← List.take_append_drop i l] at h
            exact (List.mem_append.1 h).symm)
        have hF := Flat_eq h64 (by omega)
        have hF2 := Flat_eq hm64 (by omega)
        rw [hperm] at hF2
        have lF := len_flat (l.map toR)
        have rF := rg_flat (l.map toR)
        have hA := Add_eq (l := (flatF (l.map toR)).map ofR) (rg64 rF) (by rw [List.length_map]; omega) (h64 _ (List.getElem_mem hi))
        have hin : toR l[i] ∈ l.map toR := List.mem_map_of_mem (List.getElem_mem hi)
        rw [to_map, add_in hin] at hA
        have hFF := Flat_eq (l := (flatF (l.map toR)).map ofR) (rg64 rF) (by rw [List.length_map]; omega)
        rw [to_map, flat_flat] at hFF
        have hS : Ev (fun k => tableaulaw00_SameRects.f k ((flatF (l.map toR)).map ofR) ((flatF (l.map toR)).map ofR)) true := SameRects_of rfl (by omega)
        refine Ev.next (fun k => by rw [tableaulaw09_DamageOrders.j0, if_neg (by simp)]) ?_
        refine Ev.bind0 hp ?_
        refine Ev.pos (by omega) ?_
        refine Ev.pos (by omega) ?_
        refine Ev.bind0 rfl ?_
        refine Ev.pos (by rw [List.length_drop, List.length_nil]; omega) ?_
        refine Ev.bind0 rfl ?_
        refine Ev.bind0 rfl ?_
        refine Ev.pos (by rw [List.nil_append, List.length_drop, List.length_take]; omega) ?_
        rw [List.nil_append, Int.toNat_natCast, rdT hi]
        refine Ev.bind hF ?_
        refine Ev.bind hF2 ?_
        refine Ev.bind hS ?_
        refine Ev.pos rfl ?_
        refine Ev.pos (by omega) ?_
        refine Ev.bind hA ?_
        refine Ev.bind hS ?_
        refine Ev.pos rfl ?_
        refine Ev.bind hFF ?_
        refine Ev.bind hS ?_
        refine Ev.pos rfl ?_
        exact Ev.bind awake9 (Ev.ret true)
  obtain ⟨K, hK⟩ := e
  exact ⟨K, hK K (Nat.le_refl _)⟩
end Go.Proofs.Ytogcokfildbodaa.PO
