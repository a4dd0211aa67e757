/- RegionPlays: what the printed law answers, is true. -/
import Derived.Test.YtogcokfildbodaaPMPlay
import Derived.Test.YtogcokfildbodaaPMx5
set_option linter.unusedVariables false
set_option linter.unusedSimpArgs false
namespace Go.Proofs.Ytogcokfildbodaa.PM
open Go.RowKit Go.Proofs.YtogcokfildbodaaW.PrintWords Go.Proofs.Ytogcokfildbodaa.Reg Go.Proofs.Ytogcokfildbodaa.Rect Go.Proofs.Ytogcokfildbodaa.Wk

/-- **The law, of any lists and numbers.** -/
theorem plays_true {l0 l1 : List S23} (h0 : ∀ s ∈ l0, I64 (toR s)) (h1 : ∀ s ∈ l1, I64 (toR s)) (a b : Int) : ∃ k, tableaulaw08_RegionPlays.f k l0 l1 a b = some true := by
  obtain ⟨M, hM, sM, eM⟩ := made_eq h0
  obtain ⟨N, hN, sN, eN⟩ := made_eq h1
  obtain ⟨x, hx, x0, x1⟩ := Place_eq a 4096 (by omega) (by omega)
  obtain ⟨y, hy, y0, y1⟩ := Place_eq b 4096 (by omega) (by omega)
  have g0 := rg64 hM
  have g1 := rg64 hN
  have lM : (M.map ofR).length ≤ 200 := by have := sM.1; rw [List.length_map]; omega
  have lN : (N.map ofR).length ≤ 200 := by have := sN.1; rw [List.length_map]; omega
  have hC : (bandsF ((M.map ofR).map toR)).isSome = true := by rw [to_map]; exact hM
  generalize M.map ofR = A at *
  generalize N.map ofR = B at *
  have hc := PCheck_f g0 lM
  rw [hC] at hc
  obtain ⟨m0, s0⟩ := joins_same g0 g1 lM lN (op := orB) 0 rfl rfl
  obtain ⟨m1, s1⟩ := joins_same g0 g1 lM lN (op := subB) 1 rfl rfl
  obtain ⟨m2, s2⟩ := joins_same g0 g1 lM lN (op := andB) 2 rfl rfl
  have hn : wrap64 (-y) = -y := w64 (by omega) (by omega)
  have e : Ev (fun k => tableaulaw08_RegionPlays.f k l0 l1 a b) true := by
    unfold tableaulaw08_RegionPlays.f
    refine Ev.bind eM ?_
    refine Ev.bind eN ?_
    refine Ev.bind0 (PRects_f g0 lM) ?_
    refine Ev.bind0 (PRects_f g1 lN) ?_
    refine Ev.bind0 hx ?_
    refine Ev.bind0 hy ?_
    refine Ev.bind0 hc ?_
    refine Ev.pos rfl ?_
    refine Ev.bind0 (PUnion_f g0 g1 lM lN) ?_
    refine Ev.bind m0 ?_
    refine Ev.bind s0 ?_
    refine Ev.pos rfl ?_
    refine Ev.bind0 (PSubtract_f g0 g1 lM lN) ?_
    refine Ev.bind m1 ?_
    refine Ev.bind s1 ?_
    refine Ev.pos rfl ?_
    refine Ev.bind0 (PIntersect_f g0 g1 lM lN) ?_
    refine Ev.bind m2 ?_
    refine Ev.bind s2 ?_
    refine Ev.pos rfl ?_
    rw [hn]
    exact shift_same g0 lM (by omega) (by omega) (Ev.bind awake_eq (Ev.ret true))
  obtain ⟨K, hK⟩ := e
  exact ⟨K, hK K (Nat.le_refl _)⟩
end Go.Proofs.Ytogcokfildbodaa.PM
