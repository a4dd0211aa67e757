/- RegionAll: what the printed law answers, is true. -/
import Derived.Test.YtogcokfildbodaaPMPlay
import Derived.Test.YtogcokfildbodaaPMx6
set_option linter.unusedVariables false
set_option linter.unusedSimpArgs false
namespace Go.Proofs.Ytogcokfildbodaa.PM
open Go.RowKit Go.Proofs.YtogcokfildbodaaW.PrintWords Go.Proofs.Ytogcokfildbodaa.Reg Go.Proofs.Ytogcokfildbodaa.Rect Go.Proofs.Ytogcokfildbodaa.Wk

/-- **The law, of any lists, rectangle and numbers.** -/
theorem all_true {A B : List S23} (g0 : ∀ s ∈ A, I64 (toR s)) (g1 : ∀ s ∈ B, I64 (toR s)) {r : R} (hr : I64 r) {x y : Int} (hx : -9223372036854775808 ≤ x ∧ x ≤ 9223372036854775807) (hy : -9223372036854775808 ≤ y ∧ y ≤ 9223372036854775807) : ∃ k, tableaulaw08_RegionAll.f k A B r.x r.y r.w r.h x y = some true := by
  have aw : Ev (fun k => (tableaulaw08_awake.f k).bind fun t => some t) true := Ev.bind awake_eq (Ev.ret true)
  have jt : Ev (fun k => tableaulaw08_RegionAll.j0 k A B x y true r.x r.y r.w r.h) true := Ev.next (fun k => by rw [tableaulaw08_RegionAll.j0, if_pos rfl]) aw
  have e : Ev (fun k => tableaulaw08_RegionAll.f k A B r.x r.y r.w r.h x y) true := by
    unfold tableaulaw08_RegionAll.f
    refine Ev.bind0 (v := decide ((A.length : Int) ≤ 12)) rfl ?_
    by_cases hA : (A.length : Int) ≤ 12
    · refine Ev.pos (by simpa using hA) ?_
      refine Ev.bind0 (v := decide ((B.length : Int) ≤ 12)) rfl ?_
      by_cases hB : (B.length : Int) ≤ 12
      · rw [decide_eq_true hB]
        have lA : A.length ≤ 200 := by omega
        have lB : B.length ≤ 200 := by omega
        have hc := PCheck_f g0 lA
        have hrc := Check_eq g0 (show A.length ≤ 10000 by omega)
        rw [chk_bands] at hrc
        have hof := Of_eq (s := ofR r) hr
        rw [to_of] at hof
        have hh := PHas_f g0 lA hx hy
        have hrh := Has_eq (l := A) ⟨by omega, g0⟩ hx hy
        have hSA : Ev (fun k => tableaulaw00_SameRects.f k A A) true := SameRects_eq (by omega)
        obtain ⟨m0, s0⟩ := joins_same g0 g1 lA lB (op := orB) 0 rfl rfl
        obtain ⟨m1, s1⟩ := joins_same g0 g1 lA lB (op := subB) 1 rfl rfl
        obtain ⟨m2, s2⟩ := joins_same g0 g1 lA lB (op := andB) 2 rfl rfl
        refine Ev.next (fun k => by rw [tableaulaw08_RegionAll.j0, if_neg (by simp)]) ?_
        refine Ev.bind0 (PRects_f g0 lA) ?_
        refine Ev.bind0 (PRects_f g1 lB) ?_
        refine Ev.bind0 hc ?_
        refine Ev.bind hrc ?_
        refine Ev.neg (by simp) ?_
        refine Ev.bind0 (Of_f hr) ?_
        refine Ev.bind hof ?_
        refine Ev.bind (SameRects_of rfl (by have := len_of r; omega)) ?_
        refine Ev.next (fun k => by rw [tableaulaw08_RegionAll.j1, if_neg (by simp)]) ?_
        refine Ev.bind0 (PUnion_f g0 g1 lA lB) ?_
        refine Ev.bind m0 ?_
        refine Ev.bind s0 ?_
        refine Ev.pos rfl ?_
        refine Ev.bind0 (PSubtract_f g0 g1 lA lB) ?_
        refine Ev.bind m1 ?_
        refine Ev.bind s1 ?_
        refine Ev.pos rfl ?_
        refine Ev.bind0 (PIntersect_f g0 g1 lA lB) ?_
        refine Ev.bind m2 ?_
        refine Ev.bind s2 ?_
        refine Ev.next (fun k => by rw [tableaulaw08_RegionAll.j2, if_pos rfl]) ?_
        refine shift_same g0 lA hx hy (g := fun k => (region_Has.f A x y).bind fun t387 => ((tableauref08_Check.f k A).bind fun t388 => (if t388 = true then ((tableauref08_Has.f k A x y).bind fun t389 => (if (t387 == t389) = true then ((tableaulaw00_SameRects.f k A A).bind fun t390 => (if t390 = true then ((tableaulaw08_awake.f k).bind fun t391 => (some t391)) else (some false))) else (some false))) else (if (t387 == false) = true then ((tableaulaw00_SameRects.f k A A).bind fun t392 => (if t392 = true then ((tableaulaw08_awake.f k).bind fun t393 => (some t393)) else (some false))) else (some false))))) ?_
        refine Ev.bind0 hh ?_
        refine Ev.bind hrc ?_
        cases hb : (bandsF (A.map toR)).isSome with
        | true =>
          refine Ev.pos rfl ?_
          refine Ev.bind hrh ?_
          refine Ev.pos (by simp) ?_
          refine Ev.bind hSA ?_
          exact Ev.pos rfl aw
        | false =>
          refine Ev.neg (by simp) ?_
          refine Ev.pos (by simp) ?_
          refine Ev.bind hSA ?_
          exact Ev.pos rfl aw
      · rw [decide_eq_false hB]; exact jt
    · refine Ev.neg (by simpa using hA) ?_
      exact jt
  obtain ⟨K, hK⟩ := e
  exact ⟨K, hK K (Nat.le_refl _)⟩
end Go.Proofs.Ytogcokfildbodaa.PM
