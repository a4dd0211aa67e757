/- RegionLaws: what the printed law answers, is true. -/
import Derived.Test.YtogcokfildbodaaPARef4
import Derived.Test.YtogcokfildbodaaPAx6
set_option linter.unusedSimpArgs false
namespace Go.Proofs.Ytogcokfildbodaa.PA
open Go.RowKit Go.Proofs.YtogcokfildbodaaW.PrintWords Go.Proofs.Ytogcokfildbodaa.Reg Go.Proofs.Ytogcokfildbodaa.Rect Go.Proofs.Ytogcokfildbodaa.Wk
set_option linter.unusedVariables false

/-- **The law, of any lists.** -/
theorem laws_true {l0 l1 l2 : List S23} (h0 : ∀ s ∈ l0, I64 (toR s)) (h1 : ∀ s ∈ l1, I64 (toR s)) (h2 : ∀ s ∈ l2, I64 (toR s)) : ∃ k, tableaulaw08_RegionLaws.f k l0 l1 l2 = some true := by
  obtain ⟨A, hA, sA, eA⟩ := made_eq h0
  obtain ⟨B, hB, sB, eB⟩ := made_eq h1
  obtain ⟨C, hC, sC, eC⟩ := made_eq h2
  have lA : A.length ≤ 4000 := by have := sA.1; omega
  have lB : B.length ≤ 4000 := by have := sB.1; omega
  have lC : C.length ≤ 4000 := by have := sC.1; omega
  have tA := sA.sm
  have tB := sB.sm
  have tC := sC.sm
  clear h0 h1 h2 sA sB sC
  -- every answer: its points, its length
  have step : ∀ (op : Bool → Bool → Bool), op false false = false → ∀ {a b : List R}, Rg a → Rg b → ∀ {n m : Nat}, Sm n a → Sm m b → n + m ≤ 100 → ∃ c, joinF op a b = c ∧ Rg c ∧ Sm (n + m) c ∧ c.length ≤ 10000 ∧ ∀ p q, hasL c p q = op (hasL a p q) (hasL b p q) := fun op h0 a b ha hb n m sa sb hn =>
    ⟨_, rfl, rg_join h0 a b, (Sm.join h0 sa sb).1, Nat.le_trans (Sm.join h0 sa sb).2 (Nat.le_trans (Nat.mul_le_mul hn hn) (by omega)), has_join h0 ha hb⟩
  obtain ⟨AB, eAB, rAB, tAB, lAB, hAB⟩ := step (· || ·) rfl hA hB tA tB (by omega)
  obtain ⟨X, eX, rX, tX, lX, hX⟩ := step (· || ·) rfl rAB hC tAB tC (by omega)
  obtain ⟨CB, eCB, rCB, tCB, lCB, hCB⟩ := step (· || ·) rfl hC hB tC tB (by omega)
  obtain ⟨Y, eY, rY, tY, lY, hY⟩ := step (· || ·) rfl hA rCB tA tCB (by omega)
  obtain ⟨BC, eBC, rBC, tBC, lBC, hBC⟩ := step (· || ·) rfl hB hC tB tC (by omega)
  obtain ⟨Z, eZ, rZ, tZ, lZ, hZ⟩ := step (· && ·) rfl hA rBC tA tBC (by omega)
  obtain ⟨D, eD, rD, tD, lD, hD⟩ := step (· && ·) rfl hA hB tA tB (by omega)
  obtain ⟨E, eE, rE, tE, lE, hE⟩ := step (· && ·) rfl hC hA tC tA (by omega)
  obtain ⟨W, eW, rW, tW, lW, hW⟩ := step (· || ·) rfl rD rE tD tE (by omega)
  obtain ⟨F, eF, rF, tF, lF, hF⟩ := step (fun a b => a && !b) rfl hA hB tA tB (by omega)
  obtain ⟨V, eV, rV, tV, lV, hV⟩ := step (fun a b => a && !b) rfl rF hC tF tC (by omega)
  obtain ⟨G, eG, rG, tG, lG, hG⟩ := step (fun a b => a && !b) rfl hA rBC tA tBC (by omega)
  obtain ⟨U, eU, rU, tU, lU, hU⟩ := step (· || ·) rfl hA hA tA tA (by omega)
  obtain ⟨I, eI, rI, tI, lI, hI⟩ := step (· && ·) rfl hA hA tA tA (by omega)
  have q1 : X = Y := Rg.ext rX rY fun p q => by
    rw [hX, hAB, hY, hCB]; cases hasL A p q <;> cases hasL B p q <;> cases hasL C p q <;> rfl
  have q2 : Z = W := Rg.ext rZ rW fun p q => by
    rw [hZ, hBC, hW, hD, hE]; cases hasL A p q <;> cases hasL B p q <;> cases hasL C p q <;> rfl
  have q3 : V = G := Rg.ext rV rG fun p q => by
    rw [hV, hF, hG, hBC]; cases hasL A p q <;> cases hasL B p q <;> cases hasL C p q <;> rfl
  have q4 : U = A := Rg.ext rU hA fun p q => by
    rw [hU]; cases hasL A p q <;> rfl
  have q5 : I = A := Rg.ext rI hA fun p q => by
    rw [hI]; cases hasL A p q <;> rfl
  have fAB := Union_f hA hB (by omega) (by omega); rw [eAB] at fAB
  have fX := Union_f rAB hC (by omega) (by omega); rw [eX] at fX
  have fCB := Union_f hC hB (by omega) (by omega); rw [eCB] at fCB
  have fY := Union_f hA rCB (by omega) (by omega); rw [eY] at fY
  have fBC := Union_f hB hC (by omega) (by omega); rw [eBC] at fBC
  have fZ := Intersect_f hA rBC (by omega) (by omega); rw [eZ] at fZ
  have fD := Intersect_f hA hB (by omega) (by omega); rw [eD] at fD
  have fE := Intersect_f hC hA (by omega) (by omega); rw [eE] at fE
  have fW := Union_f rD rE (by omega) (by omega); rw [eW] at fW
  have fF := Subtract_f hA hB (by omega) (by omega); rw [eF] at fF
  have fV := Subtract_f rF hC (by omega) (by omega); rw [eV] at fV
  have fG := Subtract_f hA rBC (by omega) (by omega); rw [eG] at fG
  have fU := Union_f hA hA (by omega) (by omega); rw [eU] at fU
  have fI := Intersect_f hA hA (by omega) (by omega); rw [eI] at fI
  have e : Ev (fun k => tableaulaw08_RegionLaws.f k l0 l1 l2) true := by
    unfold tableaulaw08_RegionLaws.f
    refine Ev.bind eA ?_
    refine Ev.bind eB ?_
    refine Ev.bind eC ?_
    refine Ev.bind0 fAB ?_
    refine Ev.bind0 fX ?_
    refine Ev.bind0 fCB ?_
    refine Ev.bind0 fY ?_
    refine Ev.bind0 fBC ?_
    refine Ev.bind0 fZ ?_
    refine Ev.bind0 fD ?_
    refine Ev.bind0 fE ?_
    refine Ev.bind0 fW ?_
    refine Ev.bind0 fF ?_
    refine Ev.bind0 fV ?_
    refine Ev.bind (SameRects_of q1 (by omega)) ?_
    refine Ev.pos rfl ?_
    refine Ev.bind (SameRects_of q2 (by omega)) ?_
    refine Ev.pos rfl ?_
    refine Ev.bind0 fBC ?_
    refine Ev.bind0 fG ?_
    refine Ev.bind (SameRects_of q3 (by omega)) ?_
    refine Ev.pos rfl ?_
    refine Ev.bind0 fU ?_
    refine Ev.bind (SameRects_of q4 (by omega)) ?_
    refine Ev.pos rfl ?_
    refine Ev.bind0 fI ?_
    refine Ev.bind (SameRects_of q5 (by omega)) ?_
    refine Ev.pos rfl ?_
    exact Ev.bind awake_eq (Ev.ret true)
  obtain ⟨K, hK⟩ := e
  exact ⟨K, hK K (Nat.le_refl _)⟩
end Go.Proofs.Ytogcokfildbodaa.PA
