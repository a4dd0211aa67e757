/- The law RepaintChanges: for every input it answers true, and its arguments read as before; no condition beyond the row's own. -/
import Derived.Test.YtclpppejabfbbaaRows
import Derived.Test.YtclpppejabfbbaaPFWalkChangesT
import Derived.WalkKit
import Derived.ProofKit
import Derived.OpenShut
import Derived.ShutString
import Derived.ChangeOld
import Derived.Below
import Derived.SizedLaws
import Derived.Lib.SmallJoins
namespace Go.Proofs.Ytclpppejabfbbaa.repaintChangesRow
open Go.ChangeShapes Go.WideShapes Go.ChangeAt Go.RowKit Go.Joins
open Go.ChangeMaps (open_string shut_string)
set_option linter.unusedVariables false
theorem own : ownKnob Try.prog.godebug = none := by kernel_rfl
set_option maxRecDepth 100000 in
theorem lifted (os : Os) (started : os.Started) (H : Type) (enc : TypeId × Value → H) :
    ReturnsInHanded {} Try.checked os 7 .any (Rows.repaintChangesSpec.pre6 enc Try.prog Try.f7 Rows.repaintChangesRow.domain false) (Rows.repaintChangesSpec.post enc Try.prog Try.f7 false true false false) := by
  refine returnsInHanded_of_change_sized (C := Try.checked) own started (by kernel_rfl) Try.func7
    (ChangeSpec.witness6 (enc := enc) (C := Try.checked) false ⟨#[], #[.slice none 0 0, .slice none 0 0, .slice none 0 0], []⟩ 8 (by kernel_rfl) (by kernel_rfl) (by kernel_rfl) (by kernel_rfl)) ?_
  intro W base args ds gs before hval0 hW hcnd hsz0 _
  have hsz : (DataW.weightsEach Try.prog (Try.f7.params.toList ++ Rows.repaintChangesSpec.plain.varTypes Try.prog) (ds ++ gs)).all (· ≤ reachBytes) = true := hsz0
  have hval : ∀ (j : Nat) t v, Try.f7.params[j]? = some t → args[j]? = some v → Value.okWide Try.prog W .any base t v := hval0
  have hW' := hW
  obtain ⟨p, q, hA0, hV, rfl, hfz, hnd⟩ := hW
  have hA : DataW.TrodAll enc Try.prog W 0 (fun _ => true) true Try.f7.params.toList args.toList ds p := hA0
  rw [Try.params7] at hA hval hsz
  have laid : laidOutB Try.prog = true := by kernel_rfl
  obtain ⟨v0, vs0, d0, ds0, p0, q0, hargs, rfl, rfl, h0, r0⟩ := trodAll_cons hA
  obtain ⟨v1, vs1, d1, ds1, p1, q1, rfl, rfl, rfl, h1, r1⟩ := trodAll_cons r0
  obtain ⟨v2, vs2, d2, ds2, p2, q2, rfl, rfl, rfl, h2, r2⟩ := trodAll_cons r1
  obtain ⟨rfl, rfl, rfl⟩ := trodAll_nil r2
  obtain rfl : args = #[v0, v1, v2] := by cases args; simp_all
  obtain ⟨rfl, rfl⟩ := trodVars_none hV
  have lt0 : ∀ x ∈ p0, x.block < W.heap.size := fun x hx => hW'.lt x (by simp [hx])
  have k0 := h0
  have lt1 : ∀ x ∈ p1, x.block < W.heap.size := fun x hx => hW'.lt x (by simp [hx])
  have k1 := h1
  have lt2 : ∀ x ∈ p2, x.block < W.heap.size := fun x hx => hW'.lt x (by simp [hx])
  have k2 := h2
  obtain ⟨A0, n0, c0, rfl⟩ := okWide_slice Try.underlying42 (hval 0 42 v0 rfl rfl)
  obtain ⟨fuel0, hf0⟩ := h0
  obtain ⟨l0, ⟨B0, b0, e0, hl0, rd0⟩, I0⟩ := Go.Proofs.Ytclpppejabfbbaa.PF.opn_views _ _ _ _ _ _ _ _ _ hf0
  have e0' : Value.slice A0 n0 c0 = Value.slice B0 l0.length b0 := by simpa [Value.cells] using e0
  simp only [Value.slice.injEq] at e0'
  obtain ⟨rfl, rfl, rfl⟩ := e0'
  obtain ⟨A1, n1, c1, rfl⟩ := okWide_slice Try.underlying42 (hval 1 42 v1 rfl rfl)
  obtain ⟨fuel1, hf1⟩ := h1
  obtain ⟨l1, ⟨B1, b1, e1, hl1, rd1⟩, I1⟩ := Go.Proofs.Ytclpppejabfbbaa.PF.opn_views _ _ _ _ _ _ _ _ _ hf1
  have e1' : Value.slice A1 n1 c1 = Value.slice B1 l1.length b1 := by simpa [Value.cells] using e1
  simp only [Value.slice.injEq] at e1'
  obtain ⟨rfl, rfl, rfl⟩ := e1'
  obtain ⟨A2, n2, c2, rfl⟩ := okWide_slice Try.underlying43 (hval 2 43 v2 rfl rfl)
  obtain ⟨fuel2, hf2⟩ := h2
  obtain ⟨l2, ⟨B2, b2, e2, hl2, rd2⟩, I2⟩ := Go.Proofs.Ytclpppejabfbbaa.PF.opn_dirties _ _ _ _ _ _ _ _ _ hf2
  have e2' : Value.slice A2 n2 c2 = Value.slice B2 l2.length b2 := by simpa [Value.cells] using e2
  simp only [Value.slice.injEq] at e2'
  obtain ⟨rfl, rfl, rfl⟩ := e2'
  clear hA0 hval0 hsz0 hsz
  refine (Go.Proofs.Ytclpppejabfbbaa.PF.RepaintChanges_walk _ _ l0 _ _ l1 _ _ l2 W hl0 rd0 I0 hl1 rd1 I1 hl2 rd2 I2).mono fun e W' ⟨he, bel⟩ => ?_
  subst he
  exact ⟨_, rfl, _, _, _, [], _, [], hW', trodAll_mk1 (shut_bool Try.underlying4 _), (trodAll_cons_mk (Below.trod laid (by kernel_rfl) (of_decide_eq_true (by kernel_rfl)) k0 bel lt0) (trodAll_cons_mk (Below.trod laid (by kernel_rfl) (of_decide_eq_true (by kernel_rfl)) k1 bel lt1) (trodAll_cons_mk (Below.trod laid (by kernel_rfl) (of_decide_eq_true (by kernel_rfl)) k2 bel lt2) trodAll_mk0))), rfl, bel.frame _, fun h => by cases h⟩
theorem over : Rows.repaintChangesRow.holds Try.pinned (OpenSpec.ofChange Rows.repaintChangesSpec) :=
  OpenClaim.holds_of_wide 7 Try.f7 rfl rfl rfl rfl rfl rfl rfl ⟨rfl, rfl, rfl, rfl, rfl⟩ rfl rfl rfl rfl rfl (by kernel_rfl) Try.func7 (by kernel_rfl)
    (of_decide_eq_true (by kernel_rfl)) (by unfold Func.isWrapper; first | (rw [if_pos (by decide +kernel)]; kernel_rfl) | (rw [if_neg (by decide +kernel)]; exact ⟨rfl, rfl⟩))
    (fun os started H enc _ => lifted os started H enc)
theorem proved : Rows.RepaintChangesSaid := over
#print axioms proved
end Go.Proofs.Ytclpppejabfbbaa.repaintChangesRow
namespace Go.Proofs.Ytclpppejabfbbaa
/-- The row, under a short name, for the claim. -/
theorem repaintChanges_holds : Rows.RepaintChangesSaid := repaintChangesRow.proved
end Go.Proofs.Ytclpppejabfbbaa
