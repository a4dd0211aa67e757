/- Texts of this claim, one behind the other: each begins with its own remark. -/
import Derived.Test.YtclpppejabfbbaaPFGiven
import Derived.Test.YtclpppejabfbbaaOpen
/- A rectangle that came in, read as the print's kind. -/
set_option linter.unusedVariables false
set_option linter.unusedSimpArgs false
namespace Go.Proofs.Ytclpppejabfbbaa.PF
open Go.RowKit Go.Proofs.Ytclpppejabfbbaa.Rect Go.Proofs.Ytclpppejabfbbaa.Open Go.Proofs.YtclpppejabfbbaaW.PrintWords

theorem opn_rect : Opn Try.prog 26 k26 (fun s => I64 (toR s)) := by
  intro H enc w base spare held fuel cs x h
  obtain ⟨hl, hf⟩ := trod_ones Try.underlying26 (by kernel_rfl) (by kernel_rfl) h
  obtain ⟨c0, m0, y0, e0, t0⟩ := hf 0 _ rfl
  obtain ⟨c1, m1, y1, e1, t1⟩ := hf 1 _ rfl
  obtain ⟨c2, m2, y2, e2, t2⟩ := hf 2 _ rfl
  obtain ⟨c3, m3, y3, e3, t3⟩ := hf 3 _ rfl
  obtain ⟨a0, k0, b0⟩ := opn_int Try.underlying3 _ _ _ _ _ _ _ _ _ t0
  obtain ⟨a1, k1, b1⟩ := opn_int Try.underlying3 _ _ _ _ _ _ _ _ _ t1
  obtain ⟨a2, k2, b2⟩ := opn_int Try.underlying3 _ _ _ _ _ _ _ _ _ t2
  obtain ⟨a3, k3, b3⟩ := opn_int Try.underlying3 _ _ _ _ _ _ _ _ _ t3
  obtain rfl : c0 = .int .i64 a0 := by simpa [Kd.int, Kd.scalar] using k0
  obtain rfl : c1 = .int .i64 a1 := by simpa [Kd.int, Kd.scalar] using k1
  obtain rfl : c2 = .int .i64 a2 := by simpa [Kd.int, Kd.scalar] using k2
  obtain rfl : c3 = .int .i64 a3 := by simpa [Kd.int, Kd.scalar] using k3
  have hcs : cs = [.int .i64 a0, .int .i64 a1, .int .i64 a2, .int .i64 a3] := by
    match cs, hl, e0, e1, e2, e3 with
    | [_, _, _, _], _, e0, e1, e2, e3 => simp at e0 e1 e2 e3; simp [e0, e1, e2, e3]
  refine ⟨⟨a0, a1, a2, a3⟩, ?_, bounds_i64 b0, bounds_i64 b1, bounds_i64 b2, bounds_i64 b3⟩
  rw [hcs]; exact k26_mk w _
theorem opn_rects : Opn Try.prog 22 (Kd.slice 26 k26) (fun l => l.length ≤ 9223372036854775807 ∧ ∀ s ∈ l, I64 (toR s)) :=
  opn_slice Try.underlying22 (by kernel_rfl) opn_rect
end Go.Proofs.Ytclpppejabfbbaa.PF
/- Views and damages that came in, read as the print's kinds. -/
set_option linter.unusedVariables false
set_option linter.unusedSimpArgs false
namespace Go.Proofs.Ytclpppejabfbbaa.PF
open Go.RowKit Go.Proofs.Ytclpppejabfbbaa.Rect Go.Proofs.Ytclpppejabfbbaa.Open Go.Proofs.YtclpppejabfbbaaW.PrintWords

theorem opn_view : Opn Try.prog 54 k54 (fun s => True) := by
  intro H enc w base spare held fuel cs x h
  obtain ⟨hl, hf⟩ := trod_ones Try.underlying54 (by kernel_rfl) (by kernel_rfl) h
  obtain ⟨c0, m0, y0, e0, t0⟩ := hf 0 _ rfl
  obtain ⟨c1, m1, y1, e1, t1⟩ := hf 1 _ rfl
  obtain ⟨c2, m2, y2, e2, t2⟩ := hf 2 _ rfl
  obtain ⟨c3, m3, y3, e3, t3⟩ := hf 3 _ rfl
  obtain ⟨c4, m4, y4, e4, t4⟩ := hf 4 _ rfl
  obtain ⟨c5, m5, y5, e5, t5⟩ := hf 5 _ rfl
  obtain ⟨a0, k0, b0⟩ := opn_int Try.underlying3 _ _ _ _ _ _ _ _ _ t0
  obtain rfl : c0 = .int .i64 a0 := by simpa [Kd.int, Kd.scalar] using k0
  obtain ⟨a1, k1, b1⟩ := opn_int Try.underlying3 _ _ _ _ _ _ _ _ _ t1
  obtain rfl : c1 = .int .i64 a1 := by simpa [Kd.int, Kd.scalar] using k1
  obtain ⟨a2, k2, b2⟩ := opn_int Try.underlying3 _ _ _ _ _ _ _ _ _ t2
  obtain rfl : c2 = .int .i64 a2 := by simpa [Kd.int, Kd.scalar] using k2
  obtain ⟨a3, k3, b3⟩ := opn_int Try.underlying3 _ _ _ _ _ _ _ _ _ t3
  obtain rfl : c3 = .int .i64 a3 := by simpa [Kd.int, Kd.scalar] using k3
  obtain ⟨a4, k4, b4⟩ := opn_int Try.underlying3 _ _ _ _ _ _ _ _ _ t4
  obtain rfl : c4 = .int .i64 a4 := by simpa [Kd.int, Kd.scalar] using k4
  obtain ⟨a5, k5, b5⟩ := opn_int Try.underlying3 _ _ _ _ _ _ _ _ _ t5
  obtain rfl : c5 = .int .i64 a5 := by simpa [Kd.int, Kd.scalar] using k5
  have hcs : cs = [.int .i64 a0, .int .i64 a1, .int .i64 a2, .int .i64 a3, .int .i64 a4, .int .i64 a5] := by
    match cs, hl, e0, e1, e2, e3, e4, e5 with
    | [_, _, _, _, _, _], _, e0, e1, e2, e3, e4, e5 => simp at e0 e1 e2 e3 e4 e5; simp [e0, e1, e2, e3, e4, e5]
  refine ⟨⟨a0, a1, a2, a3, a4, a5⟩, ?_, trivial⟩
  rw [hcs]; exact k54_mk w _
theorem opn_views : Opn Try.prog 42 (Kd.slice 54 k54) (fun l => l.length ≤ 9223372036854775807 ∧ ∀ s ∈ l, True) :=
  opn_slice Try.underlying42 (by kernel_rfl) opn_view
theorem opn_dirty : Opn Try.prog 75 k75 (fun d => ∀ s ∈ d.f1, I64 (toR s)) := by
  intro H enc w base spare held fuel cs x h
  obtain ⟨hl, hf⟩ := trod_ones Try.underlying75 (by kernel_rfl) (by kernel_rfl) h
  obtain ⟨c0, m0, y0, e0, t0⟩ := hf 0 _ rfl
  obtain ⟨c1, m1, y1, e1, t1⟩ := hf 1 _ rfl
  obtain ⟨a0, k0, b0⟩ := opn_int Try.underlying3 _ _ _ _ _ _ _ _ _ t0
  obtain rfl : c0 = .int .i64 a0 := by simpa [Kd.int, Kd.scalar] using k0
  obtain ⟨l1, ⟨A1, b1, q1, hl1, rd1⟩, I1⟩ := opn_rects _ _ _ _ _ _ _ _ _ t1
  obtain rfl : c1 = .slice A1 l1.length b1 := by simpa using q1
  have hcs : cs = [.int .i64 a0, .slice A1 l1.length b1] := by
    match cs, hl, e0, e1 with
    | [_, _], _, e0, e1 => simp at e0 e1; simp [e0, e1]
  refine ⟨⟨a0, l1⟩, ?_, I1.2⟩
  rw [hcs]; exact k75_mk w ⟨a0, l1⟩ hl1 rd1
theorem opn_dirties : Opn Try.prog 43 (Kd.slice 75 k75) (fun l => l.length ≤ 9223372036854775807 ∧ ∀ d ∈ l, ∀ s ∈ d.f1, I64 (toR s)) :=
  opn_slice Try.underlying43 (by kernel_rfl) opn_dirty
end Go.Proofs.Ytclpppejabfbbaa.PF
