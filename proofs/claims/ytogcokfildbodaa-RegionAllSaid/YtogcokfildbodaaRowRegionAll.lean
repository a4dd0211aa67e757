/- The law RegionAll: for every input it answers true, and its arguments read as before; no condition beyond the row's own. -/
import Derived.Test.YtogcokfildbodaaRows
import Derived.Test.YtogcokfildbodaaPMWalkAll
import Derived.WalkKit
import Derived.ProofKit
import Derived.OpenShut
import Derived.ShutString
import Derived.ChangeOld
import Derived.Below
import Derived.SizedLaws
import Derived.Lib.SmallJoins
namespace Go.Proofs.Ytogcokfildbodaa.regionAllRow
open Go.ChangeShapes Go.WideShapes Go.ChangeAt Go.RowKit Go.Joins
open Go.ChangeMaps (open_string shut_string)
set_option linter.unusedVariables false
set_option linter.unusedSimpArgs false
theorem own : ownKnob Try.prog.godebug = none := by kernel_rfl
theorem cellsR : Try.prog.cellsOf 23 = 4 := by kernel_rfl
set_option maxRecDepth 100000 in
theorem lifted (os : Os) (started : os.Started) (H : Type) (enc : TypeId × Value → H) :
    ReturnsInHanded {} Try.checked os 14 .any (Rows.regionAllSpec.pre6 enc Try.prog Try.f14 Rows.regionAllRow.domain false) (Rows.regionAllSpec.post enc Try.prog Try.f14 false true false false) := by
  refine returnsInHanded_of_change_sized (C := Try.checked) own started (by kernel_rfl) Try.func14
    (ChangeSpec.witness6 (enc := enc) (C := Try.checked) false ⟨#[], #[.slice none 0 0, .slice none 0 0, .agg #[.int .i64 0, .int .i64 0, .int .i64 0, .int .i64 0], .int .i64 0, .int .i64 0], []⟩ 8 (by kernel_rfl) (by kernel_rfl) (by kernel_rfl) (by kernel_rfl)) ?_
  intro W base args ds gs before hval0 hW hcnd hsz0 _
  have hsz : (DataW.weightsEach Try.prog (Try.f14.params.toList ++ Rows.regionAllSpec.plain.varTypes Try.prog) (ds ++ gs)).all (· ≤ reachBytes) = true := hsz0
  have hval : ∀ (j : Nat) t v, Try.f14.params[j]? = some t → args[j]? = some v → Value.okWide Try.prog W .any base t v := hval0
  have hW' := hW
  obtain ⟨p, q, hA0, hV, rfl, hfz, hnd⟩ := hW
  have hA : DataW.TrodAll enc Try.prog W 0 (fun _ => true) true Try.f14.params.toList args.toList ds p := hA0
  rw [Try.params14] at hA hval hsz
  have laid : laidOutB Try.prog = true := by kernel_rfl
  obtain ⟨v0, vs0, d0, ds0, p0, q0, hargs, rfl, rfl, h0, r0⟩ := trodAll_cons hA
  obtain ⟨v1, vs1, d1, ds1, p1, q1, rfl, rfl, rfl, h1, r1⟩ := trodAll_cons r0
  obtain ⟨v2, vs2, d2, ds2, p2, q2, rfl, rfl, rfl, h2, r2⟩ := trodAll_cons r1
  obtain ⟨v3, vs3, d3, ds3, p3, q3, rfl, rfl, rfl, h3, r3⟩ := trodAll_cons r2
  obtain ⟨v4, vs4, d4, ds4, p4, q4, rfl, rfl, rfl, h4, r4⟩ := trodAll_cons r3
  obtain ⟨rfl, rfl, rfl⟩ := trodAll_nil r4
  obtain rfl : args = #[v0, v1, v2, v3, v4] := by cases args; simp_all
  obtain ⟨rfl, rfl⟩ := trodVars_none hV
  have lt0 : ∀ x ∈ p0, x.block < W.heap.size := fun x hx => hW'.lt x (by simp [hx])
  have k0 := h0
  have lt1 : ∀ x ∈ p1, x.block < W.heap.size := fun x hx => hW'.lt x (by simp [hx])
  have k1 := h1
  have lt2 : ∀ x ∈ p2, x.block < W.heap.size := fun x hx => hW'.lt x (by simp [hx])
  have k2 := h2
  obtain ⟨A0, n0, c0, rfl⟩ := okWide_slice Try.underlying25 (hval 0 25 v0 rfl rfl)
  obtain ⟨fuel0, hf0⟩ := h0
  obtain ⟨l0, ⟨B0, b0, e0, hl0, rd0⟩, I0⟩ := Go.Proofs.Ytogcokfildbodaa.PM.opn_rects _ _ _ _ _ _ _ _ _ hf0
  have e0' : Value.slice A0 n0 c0 = Value.slice B0 l0.length b0 := by simpa [Value.cells] using e0
  simp only [Value.slice.injEq] at e0'
  obtain ⟨rfl, rfl, rfl⟩ := e0'
  obtain ⟨A1, n1, c1, rfl⟩ := okWide_slice Try.underlying25 (hval 1 25 v1 rfl rfl)
  obtain ⟨fuel1, hf1⟩ := h1
  obtain ⟨l1, ⟨B1, b1, e1, hl1, rd1⟩, I1⟩ := Go.Proofs.Ytogcokfildbodaa.PM.opn_rects _ _ _ _ _ _ _ _ _ hf1
  have e1' : Value.slice A1 n1 c1 = Value.slice B1 l1.length b1 := by simpa [Value.cells] using e1
  simp only [Value.slice.injEq] at e1'
  obtain ⟨rfl, rfl, rfl⟩ := e1'
  obtain ⟨c20, c21, c22, c23, y20, y21, y22, y23, m2, rfl, rfl, rfl, hy20, hy21, hy22, hy23⟩ := open_agg4 Try.underlying23 (by kernel_rfl) cellsR (hval 2 23 v2 rfl rfl) h2
  obtain ⟨a20, e20, rfl, w20⟩ := DataW.trod_int Try.underlying3 hy20
  simp at e20; subst e20
  obtain ⟨a21, e21, rfl, w21⟩ := DataW.trod_int Try.underlying3 hy21
  simp at e21; subst e21
  obtain ⟨a22, e22, rfl, w22⟩ := DataW.trod_int Try.underlying3 hy22
  simp at e22; subst e22
  obtain ⟨a23, e23, rfl, w23⟩ := DataW.trod_int Try.underlying3 hy23
  simp at e23; subst e23
  obtain ⟨a3, rfl, rfl, rfl, w3⟩ := open_int Try.underlying3 (hval 3 3 v3 rfl rfl) h3
  obtain ⟨a4, rfl, rfl, rfl, w4⟩ := open_int Try.underlying3 (hval 4 3 v4 rfl rfl) h4
  clear hA0 hval0 hsz0 hsz
  refine (Go.Proofs.Ytogcokfildbodaa.PM.RegionAll_walk _ _ l0 _ _ l1 a20 w20 a21 w21 a22 w22 a23 w23 a3 w3 a4 w4 W hl0 rd0 I0 hl1 rd1 I1).mono fun e W' ⟨he, bel⟩ => ?_
  subst he
  exact ⟨_, rfl, _, _, _, [], _, [], hW', trodAll_mk1 (shut_bool Try.underlying4 _), (trodAll_cons_mk (Below.trod laid (by kernel_rfl) (of_decide_eq_true (by kernel_rfl)) k0 bel lt0) (trodAll_cons_mk (Below.trod laid (by kernel_rfl) (of_decide_eq_true (by kernel_rfl)) k1 bel lt1) (trodAll_cons_mk (Below.trod laid (by kernel_rfl) (of_decide_eq_true (by kernel_rfl)) k2 bel lt2) (trodAll_cons_mk (shut_int Try.underlying3 w3) (trodAll_cons_mk (shut_int Try.underlying3 w4) trodAll_mk0))))), rfl, bel.frame _, fun h => by cases h⟩
theorem over : Rows.regionAllRow.holds Try.pinned (OpenSpec.ofChange Rows.regionAllSpec) :=
  OpenClaim.holds_of_wide 14 Try.f14 rfl rfl rfl rfl rfl rfl rfl ⟨rfl, rfl, rfl, rfl, rfl⟩ rfl rfl rfl rfl rfl (by kernel_rfl) Try.func14 (by kernel_rfl)
    (of_decide_eq_true (by kernel_rfl)) (by unfold Func.isWrapper; first | (rw [if_pos (by decide +kernel)]; kernel_rfl) | (rw [if_neg (by decide +kernel)]; exact ⟨rfl, rfl⟩))
    (fun os started H enc _ => lifted os started H enc)
theorem proved : Rows.RegionAllSaid := over
#print axioms proved
end Go.Proofs.Ytogcokfildbodaa.regionAllRow
namespace Go.Proofs.Ytogcokfildbodaa
/-- The row, under a short name, for the claim. -/
theorem regionAll_holds : Rows.RegionAllSaid := regionAllRow.proved
end Go.Proofs.Ytogcokfildbodaa
