/- Repaint: near, awake. -/
import Derived.Test.YtclpppejabfbbaaPCRpC
set_option linter.unusedVariables false
set_option linter.unusedSimpArgs false
namespace Go.Proofs.Ytclpppejabfbbaa.PC
open Go.RowKit Go.Proofs.YtclpppejabfbbaaW.PrintWords Go.Proofs.Ytclpppejabfbbaa.Reg Go.Proofs.Ytclpppejabfbbaa.Rect Go.Proofs.Ytclpppejabfbbaa.Wk

theorem near_l (l : List S54) (hn : l.length ≤ 9223372036854775807) : ∀ (n i : Nat), i + n = l.length → (∀ v ∈ l.take i, NearV v) → ∃ r, Ev (fun k => tableaulaw24_near.l0 k l (i : Int)) r ∧ (r = true → (∀ v ∈ l, NearV v) ∧ l.length ≤ 10)
  | 0, i, h, hv => by
    rw [List.take_of_length_le (by omega)] at hv
    exact ⟨decide ((l.length : Int) ≤ 10), Ev.next (G := fun _ => some (decide ((l.length : Int) ≤ 10))) (fun k => by rw [tableaulaw24_near.l0, if_neg (by omega)]) (Ev.ret _), fun hr => ⟨hv, by have := of_decide_eq_true hr; omega⟩⟩
  | n + 1, i, h, hv => by
    have hi : i < l.length := by omega
    have e1 : wrap64 ((i : Int) + 1) = ((i + 1 : Nat) : Int) := by rw [w64 (by omega) (by omega)]; rfl
    have st : ∀ k, tableaulaw24_near.l0 (k + 1) l (i : Int) = if mx (mx (mx l[i].f2 l[i].f3) l[i].f4) l[i].f5 > 67108864 then some false else if mn (mn (mn l[i].f2 l[i].f3) l[i].f4) l[i].f5 < -67108864 then some false else tableaulaw24_near.l0 k l ((i + 1 : Nat) : Int) := fun k => by
      rw [tableaulaw24_near.l0, if_pos (by omega), if_pos (by omega), rdV hi, e1]
    by_cases c1 : mx (mx (mx l[i].f2 l[i].f3) l[i].f4) l[i].f5 > 67108864
    · exact ⟨false, Ev.next st (Ev.pos c1 (Ev.ret _)), fun hr => by cases hr⟩
    · by_cases c2 : mn (mn (mn l[i].f2 l[i].f3) l[i].f4) l[i].f5 < -67108864
      · exact ⟨false, Ev.next st (Ev.neg c1 (Ev.pos c2 (Ev.ret _))), fun hr => by cases hr⟩
      · obtain ⟨r, e, hr⟩ := near_l l hn n (i + 1) (by omega) (fun v hm => by
          rw [List.take_succ_eq_append_getElem hi] at hm
          rcases List.mem_append.1 hm with hm | hm
          · exact hv v hm
          · rw [List.mem_singleton] at hm
            rw [hm]
            rw [mx_max, mx_max, mx_max] at c1
            rw [mn_min, mn_min, mn_min] at c2
            exact ⟨⟨by omega, by omega⟩, ⟨by omega, by omega⟩, ⟨by omega, by omega⟩, ⟨by omega, by omega⟩⟩)
        exact ⟨r, Ev.next st (Ev.neg c1 (Ev.neg c2 e)), hr⟩
theorem nearP (l : List S54) (hn : l.length ≤ 9223372036854775807) : ∃ r, Ev (fun k => tableaulaw24_near.f k l) r ∧ (r = true → (∀ v ∈ l, NearV v) ∧ l.length ≤ 10) := near_l l hn l.length 0 (by omega) (by simp)
theorem awake24 : Ev (fun k => tableaulaw24_awake.f k) true := by
  have h1 : ∀ v ∈ [(⟨1, 0, 0, 0, 2, 2⟩ : S54)], NearV v := by
    intro v hv
    rw [List.mem_singleton] at hv
    rw [hv]
    exact ⟨⟨by decide, by decide⟩, ⟨by decide, by decide⟩, ⟨by decide, by decide⟩, ⟨by decide, by decide⟩⟩
  have hd : Dok [] := ⟨by decide, by simp⟩
  have c1 := chgP (old := []) (l := [⟨1, 0, 0, 0, 2, 2⟩]) (ds := []) (by simp) h1 hd (by decide) (by decide)
  have c2 := chgP (old := [⟨1, 0, 0, 0, 2, 2⟩]) (l := [⟨1, 0, 0, 0, 2, 2⟩]) (ds := []) h1 h1 hd (by decide) (by decide)
  rw [show flatF (seqL [] [(⟨1, 0, 0, 0, 2, 2⟩ : S54)] [] (max ([] : List S54).length [(⟨1, 0, 0, 0, 2, 2⟩ : S54)].length) 0) = [⟨0, 0, 2, 2⟩] from by decide] at c1
  rw [show flatF (seqL [(⟨1, 0, 0, 0, 2, 2⟩ : S54)] [(⟨1, 0, 0, 0, 2, 2⟩ : S54)] [] (max [(⟨1, 0, 0, 0, 2, 2⟩ : S54)].length [(⟨1, 0, 0, 0, 2, 2⟩ : S54)].length) 0) = [] from by decide] at c2
  unfold tableaulaw24_awake.f
  refine Ev.bind0 rfl ?_
  refine Ev.bind c1 ?_
  refine Ev.bind c2 ?_
  refine Ev.pos rfl ?_
  refine Ev.pos rfl ?_
  refine Ev.pos (by decide) ?_
  exact Ev.ret true
end Go.Proofs.Ytclpppejabfbbaa.PC
