/- The law RectCorners: for every input it answers true, and its arguments read as before; no condition beyond the row's own. -/
import Derived.Test.YtghgngfmmncomaaRows
import Derived.Test.YtghgngfmmncomaaRectLaw
import Derived.WalkKit
import Derived.ProofKit
import Derived.OpenShut
import Derived.ShutString
import Derived.ChangeOld
import Derived.Below
import Derived.SizedLaws
import Derived.Lib.SmallJoins
namespace Go.Proofs.Ytghgngfmmncomaa.rectCornersRow
open Go.ChangeShapes Go.WideShapes Go.ChangeAt Go.RowKit Go.Joins
open Go.ChangeMaps (open_string shut_string)
set_option linter.unusedVariables false
theorem own : ownKnob Try.prog.godebug = none := by kernel_rfl
theorem cellsR : Try.prog.cellsOf 23 = 4 := by kernel_rfl
set_option maxRecDepth 100000 in
theorem lifted (os : Os) (started : os.Started) (H : Type) (enc : TypeId × Value → H) :
    ReturnsInHanded {} Try.checked os 3 .any (Rows.rectCornersSpec.pre6 enc Try.prog Try.f3 Rows.rectCornersRow.domain false) (Rows.rectCornersSpec.post enc Try.prog Try.f3 false true false false) := by
  refine returnsInHanded_of_change_sized (C := Try.checked) own started (by kernel_rfl) Try.func3
    (ChangeSpec.witness6 (enc := enc) (C := Try.checked) false ⟨#[], #[.agg #[.int .i64 0, .int .i64 0, .int .i64 0, .int .i64 0]], []⟩ 8 (by kernel_rfl) (by kernel_rfl) (by kernel_rfl) (by kernel_rfl)) ?_
  intro W base args ds gs before hval0 hW hcnd hsz0 _
  have hsz : (DataW.weightsEach Try.prog (Try.f3.params.toList ++ Rows.rectCornersSpec.plain.varTypes Try.prog) (ds ++ gs)).all (· ≤ reachBytes) = true := hsz0
  have hval : ∀ (j : Nat) t v, Try.f3.params[j]? = some t → args[j]? = some v → Value.okWide Try.prog W .any base t v := hval0
  have hW' := hW
  obtain ⟨p, q, hA0, hV, rfl, hfz, hnd⟩ := hW
  have hA : DataW.TrodAll enc Try.prog W 0 (fun _ => true) true Try.f3.params.toList args.toList ds p := hA0
  rw [Try.params3] at hA hval hsz
  have laid : laidOutB Try.prog = true := by kernel_rfl
  obtain ⟨v0, vs0, d0, ds0, p0, q0, hargs, rfl, rfl, h0, r0⟩ := trodAll_cons hA
  obtain ⟨rfl, rfl, rfl⟩ := trodAll_nil r0
  obtain rfl : args = #[v0] := by cases args; simp_all
  obtain ⟨rfl, rfl⟩ := trodVars_none hV
  have lt0 : ∀ x ∈ p0, x.block < W.heap.size := fun x hx => hW'.lt x (by simp [hx])
  have k0 := h0
  obtain ⟨c00, c01, c02, c03, y00, y01, y02, y03, m0, rfl, rfl, rfl, hy00, hy01, hy02, hy03⟩ := open_agg4 Try.underlying23 (by kernel_rfl) cellsR (hval 0 23 v0 rfl rfl) h0
  obtain ⟨a00, e00, rfl, w00⟩ := DataW.trod_int Try.underlying3 hy00
  simp at e00; subst e00
  obtain ⟨a01, e01, rfl, w01⟩ := DataW.trod_int Try.underlying3 hy01
  simp at e01; subst e01
  obtain ⟨a02, e02, rfl, w02⟩ := DataW.trod_int Try.underlying3 hy02
  simp at e02; subst e02
  obtain ⟨a03, e03, rfl, w03⟩ := DataW.trod_int Try.underlying3 hy03
  simp at e03; subst e03
  clear hA0 hval0 hsz0 hsz
  refine (Rect.RectCorners_walk a00 w00 a01 w01 a02 w02 a03 w03 W ).mono fun e W' ⟨he, bel⟩ => ?_
  subst he
  exact ⟨_, rfl, _, _, _, [], _, [], hW', trodAll_mk1 (shut_bool Try.underlying4 _), (trodAll_cons_mk (Below.trod laid (by kernel_rfl) (of_decide_eq_true (by kernel_rfl)) k0 bel lt0) trodAll_mk0), rfl, bel.frame _, fun h => by cases h⟩
theorem over : Rows.rectCornersRow.holds Try.pinned (OpenSpec.ofChange Rows.rectCornersSpec) :=
  OpenClaim.holds_of_wide 3 Try.f3 rfl rfl rfl rfl rfl rfl rfl ⟨rfl, rfl, rfl, rfl, rfl⟩ rfl rfl rfl rfl rfl (by kernel_rfl) Try.func3 (by kernel_rfl)
    (of_decide_eq_true (by kernel_rfl)) (by unfold Func.isWrapper; first | (rw [if_pos (by decide +kernel)]; kernel_rfl) | (rw [if_neg (by decide +kernel)]; exact ⟨rfl, rfl⟩))
    (fun os started H enc _ => lifted os started H enc)
theorem proved : Rows.RectCornersSaid := over
#print axioms proved
end Go.Proofs.Ytghgngfmmncomaa.rectCornersRow
namespace Go.Proofs.Ytghgngfmmncomaa
/-- The row, under a short name, for the claim. -/
theorem rectCorners_holds : Rows.RectCornersSaid := rectCornersRow.proved
end Go.Proofs.Ytghgngfmmncomaa
