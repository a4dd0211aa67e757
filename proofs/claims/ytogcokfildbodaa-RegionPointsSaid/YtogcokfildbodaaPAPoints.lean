/- RegionPoints: what the printed law answers, is true. -/
import Derived.Test.YtogcokfildbodaaPARef3
import Derived.Test.YtogcokfildbodaaPAx4
namespace Go.Proofs.Ytogcokfildbodaa.PA
open Go.RowKit Go.Proofs.YtogcokfildbodaaW.PrintWords Go.Proofs.Ytogcokfildbodaa.Reg Go.Proofs.Ytogcokfildbodaa.Rect Go.Proofs.Ytogcokfildbodaa.Wk
set_option linter.unusedVariables false

theorem j1_eq {M N : List R} (hM : Rg M) (hN : Rg N) (sM : Small M) (sN : Small N) {p q : Int} (hp : -9223372036854775808 ≤ p ∧ p ≤ 9223372036854775807) (hq : -9223372036854775808 ≤ q ∧ q ≤ 9223372036854775807) :
    Ev (fun k => tableaulaw08_RegionPoints.j1 k (M.map ofR) (N.map ofR) p q) true := by
  have lM : M.length ≤ 200000 := by have := sM.1; omega
  have lN : N.length ≤ 200000 := by have := sN.1; omega
  have lU : (joinF (· || ·) M N).length ≤ 200000 := by have := join_len (· || ·) rfl sM sN; omega
  have lS : (joinF (fun a b => a && !b) M N).length ≤ 200000 := by have := join_len (fun a b => a && !b) rfl sM sN; omega
  have lI : (joinF (· && ·) M N).length ≤ 200000 := by have := join_len (· && ·) rfl sM sN; omega
  have rU : Rg (joinF (· || ·) M N) := rg_join rfl M N
  have rS : Rg (joinF (fun a b => a && !b) M N) := rg_join rfl M N
  have rI : Rg (joinF (· && ·) M N) := rg_join rfl M N
  have f1 := Has_f hM lM hp hq
  have f2 := Has_f hN lN hp hq
  have fu := Has_f rU lU hp hq
  have fs := Has_f rS lS hp hq
  have fi := Has_f rI lI hp hq
  rw [has_join rfl hM hN] at fu fs fi
  have hr := Has_eq (l := M.map ofR) (p := p) (q := q) ⟨by rw [List.length_map]; omega, rg64 hM⟩ hp hq
  rw [to_map] at hr
  have cu := Check_f rU lU
  have cs := Check_f rS lS
  have ci := Check_f rI lI
  generalize hasL M p q = x at *
  generalize hasL N p q = y at *
  apply Ev.next
  · intro k; rw [tableaulaw08_RegionPoints.j1]
  refine Ev.bind0 f1 ?_
  refine Ev.bind0 f2 ?_
  refine Ev.bind0 (Union_f hM hN lM lN) ?_
  refine Ev.bind0 (Subtract_f hM hN lM lN) ?_
  refine Ev.bind0 (Intersect_f hM hN lM lN) ?_
  refine Ev.bind0 fu ?_
  cases x <;> cases y <;>
    (simp only [Bool.true_or, Bool.or_true, Bool.or_self, Bool.or_false, Bool.false_or, Bool.true_and, Bool.false_and, Bool.and_false, Bool.not_true, Bool.not_false, beq_self_eq_true, if_true, Bool.false_eq_true, if_false] at *
     refine Ev.bind0 fs ?_
     simp only [beq_self_eq_true, if_true, Bool.not_true, Bool.not_false]
     refine Ev.bind0 fi ?_
     simp only [beq_self_eq_true, if_true]
     refine Ev.bind0 cu ?_
     simp only [if_true]
     refine Ev.bind0 cs ?_
     simp only [if_true]
     refine Ev.bind0 ci ?_
     simp only [if_true]
     refine Ev.bind hr ?_
     simp only [beq_self_eq_true, if_true]
     exact Ev.bind awake_eq (Ev.ret true))
theorem j0_f {M N : List R} (hM : Rg M) (hN : Rg N) (sM : Small M) (sN : Small N) (a b : Int) {p q : Int} (hp : -9223372036854775808 ≤ p ∧ p ≤ 9223372036854775807) (hq : -9223372036854775808 ≤ q ∧ q ≤ 9223372036854775807) :
    Ev (fun k => tableaulaw08_RegionPoints.j0 k a b (M.map ofR) (N.map ofR) p q false) true := by
  apply Ev.next
  · intro k; rw [tableaulaw08_RegionPoints.j0]
  simp only [Bool.false_eq_true, if_false]
  exact j1_eq hM hN sM sN hp hq
theorem j0_t {M N : List R} (hM : Rg M) (hN : Rg N) (sM : Small M) (sN : Small N) (a b : Int) {p q : Int} (hl : 0 < M.length) :
    Ev (fun k => tableaulaw08_RegionPoints.j0 k a b (M.map ofR) (N.map ofR) p q true) true := by
  apply Ev.next
  · intro k; rw [tableaulaw08_RegionPoints.j0]
  simp only [if_true]
  have hl2 := sM.1
  obtain ⟨v, hv, v0, v1⟩ := Place_eq b ((M.map ofR).length : Int) (by rw [List.length_map]; omega) (by rw [List.length_map]; omega)
  refine Ev.bind0 hv ?_
  obtain ⟨n, rfl⟩ : ∃ n : Nat, v = n := ⟨v.toNat, by omega⟩
  have hn : n < (M.map ofR).length := by omega
  simp only [v0, v1, if_true]
  rw [rdT hn]
  have hc := hM.chk (toR (M.map ofR)[n]) (by
    have : (M.map ofR)[n] ∈ M.map ofR := List.getElem_mem hn
    obtain ⟨r, hr, he⟩ := List.mem_map.1 this
    rw [← he, to_of]; exact hr)
  unfold chkR toR at hc
  simp only at hc
  obtain ⟨x, hx, x0, x1⟩ := Place_eq a ((M.map ofR)[n].f2) (by omega) (by omega)
  obtain ⟨y, hy, y0, y1⟩ := Place_eq b ((M.map ofR)[n].f3) (by omega) (by omega)
  refine Ev.bind0 hx ?_
  refine Ev.bind0 hy ?_
  rw [w64 (by omega) (by omega), w64 (by omega) (by omega)]
  exact j1_eq hM hN sM sN (by omega) (by omega)
/-- **The law, of any lists and numbers.** -/
theorem points_true {l0 l1 : List S23} (h0 : ∀ s ∈ l0, I64 (toR s)) (h1 : ∀ s ∈ l1, I64 (toR s)) (a b : Int) : ∃ k, tableaulaw08_RegionPoints.f k l0 l1 a b = some true := by
  obtain ⟨M, hM, sM, eM⟩ := made_eq h0
  obtain ⟨N, hN, sN, eN⟩ := made_eq h1
  obtain ⟨x, hx, x0, x1⟩ := Place_eq a 33554432 (by omega) (by omega)
  obtain ⟨y, hy, y0, y1⟩ := Place_eq b 33554432 (by omega) (by omega)
  have e : Ev (fun k => tableaulaw08_RegionPoints.f k l0 l1 a b) true := by
    unfold tableaulaw08_RegionPoints.f
    refine Ev.bind eM ?_
    refine Ev.bind eN ?_
    refine Ev.bind0 hx ?_
    refine Ev.bind0 hy ?_
    rw [w64 (by omega) (by omega), w64 (by omega) (by omega)]
    by_cases hl : 0 < M.length
    · have hl' : ((M.map ofR).length : Int) > 0 := by rw [List.length_map]; omega
      simp only [hl', if_true]
      cases (Go.bits .and .i64 a 1) == 0 with
      | true => exact j0_t hM hN sM sN a b hl
      | false => exact j0_f hM hN sM sN a b (by omega) (by omega)
    · have hl' : ¬ ((M.map ofR).length : Int) > 0 := by rw [List.length_map]; omega
      simp only [hl', if_false]
      exact j0_f hM hN sM sN a b (by omega) (by omega)
  obtain ⟨K, hK⟩ := e
  exact ⟨K, hK K (Nat.le_refl _)⟩
end Go.Proofs.Ytogcokfildbodaa.PA
