/- A child that came in, read as the print's kind. -/
import Derived.Test.YtnbienpcelbkiaaPQSGiven
import Derived.Test.YtnbienpcelbkiaaOpen
set_option linter.unusedVariables false
set_option linter.unusedSimpArgs false
namespace Go.Proofs.Ytnbienpcelbkiaa.PQ
open Go.RowKit Go.Proofs.Ytnbienpcelbkiaa.Open Go.Proofs.YtnbienpcelbkiaaW.PrintWords

theorem opn_child : Opn Try.prog 24 k24 (fun s => True) := by
  intro H enc w base spare held fuel cs x h
  obtain ⟨hl, hf⟩ := trod_ones Try.underlying24 (by kernel_rfl) (by kernel_rfl) h
  obtain ⟨c0, m0, y0, e0, t0⟩ := hf 0 _ rfl
  obtain ⟨c1, m1, y1, e1, t1⟩ := hf 1 _ rfl
  obtain ⟨c2, m2, y2, e2, t2⟩ := hf 2 _ rfl
  obtain ⟨a0, k0, b0⟩ := opn_int Try.underlying3 _ _ _ _ _ _ _ _ _ t0
  obtain ⟨a1, k1, b1⟩ := opn_int Try.underlying3 _ _ _ _ _ _ _ _ _ t1
  obtain ⟨a2, k2, b2⟩ := opn_int Try.underlying3 _ _ _ _ _ _ _ _ _ t2
  obtain rfl : c0 = .int .i64 a0 := by simpa [Kd.int, Kd.scalar] using k0
  obtain rfl : c1 = .int .i64 a1 := by simpa [Kd.int, Kd.scalar] using k1
  obtain rfl : c2 = .int .i64 a2 := by simpa [Kd.int, Kd.scalar] using k2
  have hcs : cs = [.int .i64 a0, .int .i64 a1, .int .i64 a2] := by
    match cs, hl, e0, e1, e2 with
    | [_, _, _], _, e0, e1, e2 => simp at e0 e1 e2; simp [e0, e1, e2]
  refine ⟨⟨a0, a1, a2⟩, ?_, trivial⟩
  rw [hcs]; exact k24_mk w _
theorem opn_children : Opn Try.prog 22 (Kd.slice 24 k24) (fun l => l.length ≤ 9223372036854775807 ∧ ∀ s ∈ l, True) :=
  opn_slice Try.underlying22 (by kernel_rfl) opn_child
end Go.Proofs.Ytnbienpcelbkiaa.PQ
