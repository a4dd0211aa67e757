/- A rectangle that came in, read as the print's kind. -/
import Derived.Test.YtogcokfildbodaaPMG
import Derived.Test.YtogcokfildbodaaOpen
set_option linter.unusedVariables false
set_option linter.unusedSimpArgs false
namespace Go.Proofs.Ytogcokfildbodaa.PM
open Go.RowKit Go.Proofs.Ytogcokfildbodaa.Rect Go.Proofs.Ytogcokfildbodaa.Open Go.Proofs.YtogcokfildbodaaW.PrintWords

theorem opn_rect : Opn Try.prog 23 k23 (fun s => I64 (toR s)) := by
  intro H enc w base spare held fuel cs x h
  obtain ⟨hl, hf⟩ := trod_ones Try.underlying23 (by kernel_rfl) (by kernel_rfl) h
  obtain ⟨c0, m0, y0, e0, t0⟩ := hf 0 _ rfl
  obtain ⟨c1, m1, y1, e1, t1⟩ := hf 1 _ rfl
  obtain ⟨c2, m2, y2, e2, t2⟩ := hf 2 _ rfl
  obtain ⟨c3, m3, y3, e3, t3⟩ := hf 3 _ rfl
  obtain ⟨a0, k0, b0⟩ := opn_int Try.underlying3 _ _ _ _ _ _ _ _ _ t0
  obtain ⟨a1, k1, b1⟩ := opn_int Try.underlying3 _ _ _ _ _ _ _ _ _ t1
  obtain ⟨a2, k2, b2⟩ := opn_int Try.underlying3 _ _ _ _ _ _ _ _ _ t2
  obtain ⟨a3, k3, b3⟩ := opn_int Try.underlying3 _ _ _ _ _ _ _ _ _ t3
  obtain rfl : c0 = .int .i64 a0 := by simpa [Kd.int, Kd.scalar] using k0
  obtain rfl : c1 = .int .i64 a1 := by simpa [Kd.int, Kd.scalar] using k1
  obtain rfl : c2 = .int .i64 a2 := by simpa [Kd.int, Kd.scalar] using k2
  obtain rfl : c3 = .int .i64 a3 := by simpa [Kd.int, Kd.scalar] using k3
  have hcs : cs = [.int .i64 a0, .int .i64 a1, .int .i64 a2, .int .i64 a3] := by
    match cs, hl, e0, e1, e2, e3 with
    | [_, _, _, _], _, e0, e1, e2, e3 => simp at e0 e1 e2 e3; simp [e0, e1, e2, e3]
  refine ⟨⟨a0, a1, a2, a3⟩, ?_, bounds_i64 b0, bounds_i64 b1, bounds_i64 b2, bounds_i64 b3⟩
  rw [hcs]; exact k23_mk w _
theorem opn_rects : Opn Try.prog 25 (Kd.slice 23 k23) (fun l => l.length ≤ 9223372036854775807 ∧ ∀ s ∈ l, I64 (toR s)) :=
  opn_slice Try.underlying25 (by kernel_rfl) opn_rect
end Go.Proofs.Ytogcokfildbodaa.PM
