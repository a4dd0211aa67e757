/- The law StateAll: for every input it answers true, and its arguments read as before; no condition beyond the row's own. -/
import Derived.Test.YtnboncbekcodnaaRows
import Derived.Test.YtnboncbekcodnaaPRWalkStAll
import Derived.WalkKit
import Derived.ProofKit
import Derived.OpenShut
import Derived.ShutString
import Derived.ChangeOld
import Derived.Below
import Derived.SizedLaws
import Derived.Lib.SmallJoins
namespace Go.Proofs.Ytnboncbekcodnaa.stateAllRow
open Go.ChangeShapes Go.WideShapes Go.ChangeAt Go.RowKit Go.Joins Go.Proofs.Ytnboncbekcodnaa.PR
open Go.ChangeMaps (open_string shut_string)
set_option linter.unusedVariables false
theorem own : ownKnob Try.prog.godebug = none := by kernel_rfl
theorem cellsC : Try.prog.cellsOf 24 = 3 := by kernel_rfl
set_option maxRecDepth 100000 in
theorem lifted (os : Os) (started : os.Started) (H : Type) (enc : TypeId × Value → H) :
    ReturnsInHanded {} Try.checked os 6 .any (Rows.stateAllSpec.pre6 enc Try.prog Try.f6 Rows.stateAllRow.domain false) (Rows.stateAllSpec.post enc Try.prog Try.f6 false true false false) := by
  refine returnsInHanded_of_change_sized (C := Try.checked) own started (by kernel_rfl) Try.func6
    (ChangeSpec.witness6 (enc := enc) (C := Try.checked) false ⟨#[], #[.agg #[.bool false, .int .i64 0, .slice none 0 0, .slice none 0 0, .bool false, .bool false, .slice none 0 0, .bool false, .slice none 0 0, .slice none 0 0], .agg #[.bool false, .int .i64 0, .slice none 0 0, .slice none 0 0, .bool false, .bool false, .slice none 0 0, .bool false, .slice none 0 0, .slice none 0 0], .slice none 0 0, .agg #[.int .i64 0, .int .i64 0, .int .i64 0]], []⟩ 8 (by kernel_rfl) (by kernel_rfl) (by kernel_rfl) (by kernel_rfl)) ?_
  intro W base args ds gs before hval0 hW hcnd hsz0 _
  have hsz : (DataW.weightsEach Try.prog (Try.f6.params.toList ++ Rows.stateAllSpec.plain.varTypes Try.prog) (ds ++ gs)).all (· ≤ reachBytes) = true := hsz0
  have hval : ∀ (j : Nat) t v, Try.f6.params[j]? = some t → args[j]? = some v → Value.okWide Try.prog W .any base t v := hval0
  have hW' := hW
  obtain ⟨p, q, hA0, hV, rfl, hfz, hnd⟩ := hW
  have hA : DataW.TrodAll enc Try.prog W 0 (fun _ => true) true Try.f6.params.toList args.toList ds p := hA0
  rw [Try.params6] at hA hval hsz
  have laid : laidOutB Try.prog = true := by kernel_rfl
  obtain ⟨v0, vs0, d0, ds0, p0, q0, hargs, rfl, rfl, h0, r0⟩ := trodAll_cons hA
  obtain ⟨v1, vs1, d1, ds1, p1, q1, rfl, rfl, rfl, h1, r1⟩ := trodAll_cons r0
  obtain ⟨v2, vs2, d2, ds2, p2, q2, rfl, rfl, rfl, h2, r2⟩ := trodAll_cons r1
  obtain ⟨v3, vs3, d3, ds3, p3, q3, rfl, rfl, rfl, h3, r3⟩ := trodAll_cons r2
  obtain ⟨rfl, rfl, rfl⟩ := trodAll_nil r3
  obtain rfl : args = #[v0, v1, v2, v3] := by cases args; simp_all
  obtain ⟨rfl, rfl⟩ := trodVars_none hV
  have lt0 : ∀ x ∈ p0, x.block < W.heap.size := fun x hx => hW'.lt x (by simp [hx])
  have k0 := h0
  have lt1 : ∀ x ∈ p1, x.block < W.heap.size := fun x hx => hW'.lt x (by simp [hx])
  have k1 := h1
  have lt2 : ∀ x ∈ p2, x.block < W.heap.size := fun x hx => hW'.lt x (by simp [hx])
  have k2 := h2
  have lt3 : ∀ x ∈ p3, x.block < W.heap.size := fun x hx => hW'.lt x (by simp [hx])
  have k3 := h3
  obtain ⟨cs0, rfl, _⟩ := okWide_struct Try.underlying33 (hval 0 33 v0 rfl rfl)
  obtain ⟨fuel0, hf0⟩ := h0
  obtain ⟨t0, s0, e0, rd0, cp0⟩ := Go.Proofs.Ytnboncbekcodnaa.PR.opn_state hf0
  obtain rfl : cs0 = Go.Proofs.Ytnboncbekcodnaa.St.stV t0 s0 := by (apply Array.ext'; simpa [Value.cells] using e0)
  obtain ⟨cs1, rfl, _⟩ := okWide_struct Try.underlying33 (hval 1 33 v1 rfl rfl)
  obtain ⟨fuel1, hf1⟩ := h1
  obtain ⟨t1, s1, e1, rd1, cp1⟩ := Go.Proofs.Ytnboncbekcodnaa.PR.opn_state hf1
  obtain rfl : cs1 = Go.Proofs.Ytnboncbekcodnaa.St.stV t1 s1 := by (apply Array.ext'; simpa [Value.cells] using e1)
  obtain ⟨A2, n2, c2, rfl⟩ := okWide_slice Try.underlying22 (hval 2 22 v2 rfl rfl)
  obtain ⟨fuel2, hf2⟩ := h2
  obtain ⟨l2, ⟨B2, b2, e2, hl2, rd2⟩, I2⟩ := Go.Proofs.Ytnboncbekcodnaa.PR.opn_children _ _ _ _ _ _ _ _ _ hf2
  have e2' : Value.slice A2 n2 c2 = Value.slice B2 l2.length b2 := by simpa [Value.cells] using e2
  simp only [Value.slice.injEq] at e2'
  obtain ⟨rfl, rfl, rfl⟩ := e2'
  obtain ⟨c30, c31, c32, y30, y31, y32, m3, rfl, rfl, rfl, hy30, hy31, hy32⟩ := open_agg3 Try.underlying24 (by kernel_rfl) cellsC (hval 3 24 v3 rfl rfl) h3
  obtain ⟨a30, e30, rfl, w30⟩ := DataW.trod_int Try.underlying3 hy30
  simp at e30; subst e30
  obtain ⟨a31, e31, rfl, w31⟩ := DataW.trod_int Try.underlying3 hy31
  simp at e31; subst e31
  obtain ⟨a32, e32, rfl, w32⟩ := DataW.trod_int Try.underlying3 hy32
  simp at e32; subst e32
  clear hA0 hval0 hsz0 hsz
  refine (StateAll_walk t0 s0 t1 s1 _ _ l2 a30 w30 a31 w31 a32 w32 W rd0 cp0 rd1 cp1 hl2 rd2 I2).mono fun e W' ⟨he, bel⟩ => ?_
  subst he
  exact ⟨_, rfl, _, _, _, [], _, [], hW', trodAll_mk1 (shut_bool Try.underlying4 _), (trodAll_cons_mk (Below.trod laid (by kernel_rfl) (of_decide_eq_true (by kernel_rfl)) k0 bel lt0) (trodAll_cons_mk (Below.trod laid (by kernel_rfl) (of_decide_eq_true (by kernel_rfl)) k1 bel lt1) (trodAll_cons_mk (Below.trod laid (by kernel_rfl) (of_decide_eq_true (by kernel_rfl)) k2 bel lt2) (trodAll_cons_mk (Below.trod laid (by kernel_rfl) (of_decide_eq_true (by kernel_rfl)) k3 bel lt3) trodAll_mk0)))), rfl, bel.frame _, fun h => by cases h⟩
theorem over : Rows.stateAllRow.holds Try.pinned (OpenSpec.ofChange Rows.stateAllSpec) :=
  OpenClaim.holds_of_wide 6 Try.f6 rfl rfl rfl rfl rfl rfl rfl ⟨rfl, rfl, rfl, rfl, rfl⟩ rfl rfl rfl rfl rfl (by kernel_rfl) Try.func6 (by kernel_rfl)
    (of_decide_eq_true (by kernel_rfl)) (by unfold Func.isWrapper; first | (rw [if_pos (by decide +kernel)]; kernel_rfl) | (rw [if_neg (by decide +kernel)]; exact ⟨rfl, rfl⟩))
    (fun os started H enc _ => lifted os started H enc)
theorem proved : Rows.StateAllSaid := over
#print axioms proved
end Go.Proofs.Ytnboncbekcodnaa.stateAllRow
namespace Go.Proofs.Ytnboncbekcodnaa
/-- The row, under a short name, for the claim. -/
theorem stateAll_holds : Rows.StateAllSaid := stateAllRow.proved
end Go.Proofs.Ytnboncbekcodnaa
