/- RegionAreas: what the printed law answers, is true. -/
import Derived.Test.YtogcokfildbodaaPARef4
import Derived.Test.YtogcokfildbodaaPAx5
set_option linter.unusedSimpArgs false
namespace Go.Proofs.Ytogcokfildbodaa.PA
open Go.RowKit Go.Proofs.YtogcokfildbodaaW.PrintWords Go.Proofs.Ytogcokfildbodaa.Reg Go.Proofs.Ytogcokfildbodaa.Rect Go.Proofs.Ytogcokfildbodaa.Wk
set_option linter.unusedVariables false

/-- **The law, of any lists.** -/
theorem areas_true {l0 l1 : List S23} (h0 : ∀ s ∈ l0, I64 (toR s)) (h1 : ∀ s ∈ l1, I64 (toR s)) : ∃ k, tableaulaw08_RegionAreas.f k l0 l1 = some true := by
  obtain ⟨M, hM, sM, eM⟩ := made_eq h0
  obtain ⟨N, hN, sN, eN⟩ := made_eq h1
  have lM : M.length ≤ 4000 := by have := sM.1; omega
  have lN : N.length ≤ 4000 := by have := sN.1; omega
  have aj := area_join M N hM hN
  have fu := Union_f hM hN (by omega) (by omega)
  have fs := Subtract_f hM hN (by omega) (by omega)
  have fi := Intersect_f hM hN (by omega) (by omega)
  have rU : Rg (joinF (· || ·) M N) := rg_join rfl M N
  have rS : Rg (joinF (fun a b => a && !b) M N) := rg_join rfl M N
  have rI : Rg (joinF (· && ·) M N) := rg_join rfl M N
  have xU := Sm.join (op := (· || ·)) rfl sM.sm sN.sm
  have xS := Sm.join (op := (fun a b => a && !b)) rfl sM.sm sN.sm
  have xI := Sm.join (op := (· && ·)) rfl sM.sm sN.sm
  have hU := has_join (op := (· || ·)) rfl hM hN
  have hS := has_join (op := (fun a b => a && !b)) rfl hM hN
  have hI := has_join (op := (· && ·)) rfl hM hN
  change Reg.area (joinF (· || ·) M N) + Reg.area (joinF (· && ·) M N) = _ ∧ Reg.area (joinF (fun a b => a && !b) M N) + Reg.area (joinF (· && ·) M N) = _ at aj
  generalize joinF (· || ·) M N = U at *
  generalize joinF (fun a b => a && !b) M N = S at *
  generalize joinF (· && ·) M N = I at *
  have e1 : joinF (· || ·) S I = M := Rg.ext (rg_join rfl S I) hM fun p q => by
    rw [has_join rfl rS rI, hS, hI]; cases hasL M p q <;> cases hasL N p q <;> rfl
  have f1 := Union_f rS rI (by omega) (by omega)
  rw [e1] at f1
  have f2 := Subtract_f rU hN (by omega) (by omega)
  have rT : Rg (joinF (fun a b => a && !b) U N) := rg_join rfl U N
  have xT := (Sm.join (op := (fun a b => a && !b)) rfl xU.1 sN.sm).2
  have hT := has_join (op := (fun a b => a && !b)) rfl rU hN
  generalize joinF (fun a b => a && !b) U N = T at *
  have e2 : joinF (· || ·) T N = U := Rg.ext (rg_join rfl T N) rU fun p q => by
    rw [has_join rfl rT hN, hT, hU]; cases hasL M p q <;> cases hasL N p q <;> rfl
  have f3 := Union_f rT hN (by omega) (by omega)
  rw [e2] at f3
  have e3 : joinF (fun a b => a && !b) M M = [] := Rg.ext (rg_join rfl M M) Rg.nil fun p q => by
    rw [has_join rfl hM hM]; cases hasL M p q <;> rfl
  have f4 := Subtract_f hM hM (by omega) (by omega)
  rw [e3] at f4
  have aM := area_b hM (by omega)
  have aN := area_b hN (by omega)
  have aS := area_b rS (by omega)
  have aI := area_b rI (by omega)
  have aU := area_b rU (by omega)
  have e : Ev (fun k => tableaulaw08_RegionAreas.f k l0 l1) true := by
    unfold tableaulaw08_RegionAreas.f
    refine Ev.bind eM ?_
    refine Ev.bind eN ?_
    refine Ev.bind0 fu ?_
    refine Ev.bind0 fs ?_
    refine Ev.bind0 fi ?_
    refine Ev.bind (Area_eq rS (by omega)) ?_
    refine Ev.bind (Area_eq rI (by omega)) ?_
    refine Ev.bind (Area_eq hM (by omega)) ?_
    refine Ev.pos (by rw [w64 (by omega) (by omega)]; exact aj.2) ?_
    refine Ev.bind (Area_eq rU (by omega)) ?_
    refine Ev.bind (Area_eq rI (by omega)) ?_
    refine Ev.bind (Area_eq hM (by omega)) ?_
    refine Ev.bind (Area_eq hN (by omega)) ?_
    refine Ev.pos (by rw [aj.1]) ?_
    refine Ev.bind0 f1 ?_
    refine Ev.bind (SameRects_of rfl (by omega)) ?_
    refine Ev.pos rfl ?_
    refine Ev.bind0 f2 ?_
    refine Ev.bind0 f3 ?_
    refine Ev.bind (SameRects_of rfl (by omega)) ?_
    refine Ev.pos rfl ?_
    refine Ev.bind0 f4 ?_
    refine Ev.pos rfl ?_
    exact Ev.bind awake_eq (Ev.ret true)
  obtain ⟨K, hK⟩ := e
  exact ⟨K, hK K (Nat.le_refl _)⟩
end Go.Proofs.Ytogcokfildbodaa.PA
