/- A state that came in, read as rows. -/
import Derived.Test.YtnboncbekcodnaaPRStK
import Derived.Test.YtnboncbekcodnaaOpen
set_option linter.unusedVariables false
set_option linter.unusedSimpArgs false
namespace Go.Proofs.Ytnboncbekcodnaa.PR
open Go.RowKit Go.Proofs.Ytnboncbekcodnaa.Open Go.Proofs.YtnboncbekcodnaaW.PrintWords Go.Proofs.Ytnboncbekcodnaa.Kit Go.Proofs.Ytnboncbekcodnaa.St

theorem opn_rect : Opn Try.prog 47 k47 (fun s => True) := by
  intro H enc w base spare held fuel cs x h
  obtain ⟨hl, hf⟩ := trod_ones Try.underlying47 (by kernel_rfl) (by kernel_rfl) h
  obtain ⟨c0, m0, y0, e0, t0⟩ := hf 0 _ rfl
  obtain ⟨c1, m1, y1, e1, t1⟩ := hf 1 _ rfl
  obtain ⟨c2, m2, y2, e2, t2⟩ := hf 2 _ rfl
  obtain ⟨c3, m3, y3, e3, t3⟩ := hf 3 _ rfl
  obtain ⟨a0, k0, b0⟩ := opn_int Try.underlying3 _ _ _ _ _ _ _ _ _ t0
  obtain rfl : c0 = .int .i64 a0 := by simpa [Kd.int, Kd.scalar] using k0
  obtain ⟨a1, k1, b1⟩ := opn_int Try.underlying3 _ _ _ _ _ _ _ _ _ t1
  obtain rfl : c1 = .int .i64 a1 := by simpa [Kd.int, Kd.scalar] using k1
  obtain ⟨a2, k2, b2⟩ := opn_int Try.underlying3 _ _ _ _ _ _ _ _ _ t2
  obtain rfl : c2 = .int .i64 a2 := by simpa [Kd.int, Kd.scalar] using k2
  obtain ⟨a3, k3, b3⟩ := opn_int Try.underlying3 _ _ _ _ _ _ _ _ _ t3
  obtain rfl : c3 = .int .i64 a3 := by simpa [Kd.int, Kd.scalar] using k3
  have hcs : cs = [.int .i64 a0, .int .i64 a1, .int .i64 a2, .int .i64 a3] := by
    match cs, hl, e0, e1, e2, e3 with
    | [_, _, _, _], _, e0, e1, e2, e3 => simp at e0 e1 e2 e3; simp [e0, e1, e2, e3]
  refine ⟨⟨a0, a1, a2, a3⟩, ?_, trivial⟩
  rw [hcs]; exact k47_mk w _
theorem opn_child : Opn Try.prog 24 k24 (fun s => True) := by
  intro H enc w base spare held fuel cs x h
  obtain ⟨hl, hf⟩ := trod_ones Try.underlying24 (by kernel_rfl) (by kernel_rfl) h
  obtain ⟨c0, m0, y0, e0, t0⟩ := hf 0 _ rfl
  obtain ⟨c1, m1, y1, e1, t1⟩ := hf 1 _ rfl
  obtain ⟨c2, m2, y2, e2, t2⟩ := hf 2 _ rfl
  obtain ⟨a0, k0, b0⟩ := opn_int Try.underlying3 _ _ _ _ _ _ _ _ _ t0
  obtain rfl : c0 = .int .i64 a0 := by simpa [Kd.int, Kd.scalar] using k0
  obtain ⟨a1, k1, b1⟩ := opn_int Try.underlying3 _ _ _ _ _ _ _ _ _ t1
  obtain rfl : c1 = .int .i64 a1 := by simpa [Kd.int, Kd.scalar] using k1
  obtain ⟨a2, k2, b2⟩ := opn_int Try.underlying3 _ _ _ _ _ _ _ _ _ t2
  obtain rfl : c2 = .int .i64 a2 := by simpa [Kd.int, Kd.scalar] using k2
  have hcs : cs = [.int .i64 a0, .int .i64 a1, .int .i64 a2] := by
    match cs, hl, e0, e1, e2 with
    | [_, _, _], _, e0, e1, e2 => simp at e0 e1 e2; simp [e0, e1, e2]
  refine ⟨⟨a0, a1, a2⟩, ?_, trivial⟩
  rw [hcs]; exact k24_mk w _
theorem opn_rects : Opn Try.prog 30 (Kd.slice 47 k47) (fun l => l.length ≤ 9223372036854775807 ∧ ∀ s ∈ l, True) :=
  opn_slice Try.underlying30 (by kernel_rfl) opn_rect
theorem opn_children : Opn Try.prog 22 (Kd.slice 24 k24) (fun l => l.length ≤ 9223372036854775807 ∧ ∀ s ∈ l, True) :=
  opn_slice Try.underlying22 (by kernel_rfl) opn_child
theorem opn_ints : Opn Try.prog 31 (Kd.slice 3 (Kd.int .i64)) (fun l => l.length ≤ 9223372036854775807 ∧ ∀ s ∈ l, (Lit.int .i64 s).wf = true) :=
  opn_slice Try.underlying31 (by kernel_rfl) (opn_int Try.underlying3)
theorem opn_state {H : Type} {enc : TypeId × Value → H} {w : World} {base : Nat} {spare : Nat → Bool} {held : Bool} {fuel : Nat} {cs : List Value} {x : DataW H × List MemPlace} (h : DataW.trod enc Try.prog w base spare held fuel 33 cs = some x) :
    ∃ t h, cs = (stV t h).toList ∧ StR w w.heap.size t h ∧ StC t h := by
  obtain ⟨hl, hf⟩ := trod_ones Try.underlying33 (by kernel_rfl) (by kernel_rfl) h
  obtain ⟨c0, m0, y0, e0, t0⟩ := hf 0 _ rfl
  obtain ⟨c1, m1, y1, e1, t1⟩ := hf 1 _ rfl
  obtain ⟨c2, m2, y2, e2, t2⟩ := hf 2 _ rfl
  obtain ⟨c3, m3, y3, e3, t3⟩ := hf 3 _ rfl
  obtain ⟨c4, m4, y4, e4, t4⟩ := hf 4 _ rfl
  obtain ⟨c5, m5, y5, e5, t5⟩ := hf 5 _ rfl
  obtain ⟨c6, m6, y6, e6, t6⟩ := hf 6 _ rfl
  obtain ⟨c7, m7, y7, e7, t7⟩ := hf 7 _ rfl
  obtain ⟨c8, m8, y8, e8, t8⟩ := hf 8 _ rfl
  obtain ⟨c9, m9, y9, e9, t9⟩ := hf 9 _ rfl
  obtain ⟨a0, k0, b0⟩ := opn_bool Try.underlying4 _ _ _ _ _ _ _ _ _ t0
  obtain rfl : c0 = .bool a0 := by simpa [Kd.int, Kd.bool, Kd.scalar] using k0
  obtain ⟨a1, k1, b1⟩ := opn_int Try.underlying3 _ _ _ _ _ _ _ _ _ t1
  obtain rfl : c1 = .int .i64 a1 := by simpa [Kd.int, Kd.bool, Kd.scalar] using k1
  obtain ⟨l2, ⟨A2, b2, q2, hl2, rd2⟩, I2⟩ := opn_rects _ _ _ _ _ _ _ _ _ t2
  obtain rfl : c2 = .slice A2 l2.length b2 := by simpa using q2
  obtain ⟨l3, ⟨A3, b3, q3, hl3, rd3⟩, I3⟩ := opn_ints _ _ _ _ _ _ _ _ _ t3
  obtain rfl : c3 = .slice A3 l3.length b3 := by simpa using q3
  obtain ⟨a4, k4, b4⟩ := opn_bool Try.underlying4 _ _ _ _ _ _ _ _ _ t4
  obtain rfl : c4 = .bool a4 := by simpa [Kd.int, Kd.bool, Kd.scalar] using k4
  obtain ⟨a5, k5, b5⟩ := opn_bool Try.underlying4 _ _ _ _ _ _ _ _ _ t5
  obtain rfl : c5 = .bool a5 := by simpa [Kd.int, Kd.bool, Kd.scalar] using k5
  obtain ⟨l6, ⟨A6, b6, q6, hl6, rd6⟩, I6⟩ := opn_rects _ _ _ _ _ _ _ _ _ t6
  obtain rfl : c6 = .slice A6 l6.length b6 := by simpa using q6
  obtain ⟨a7, k7, b7⟩ := opn_bool Try.underlying4 _ _ _ _ _ _ _ _ _ t7
  obtain rfl : c7 = .bool a7 := by simpa [Kd.int, Kd.bool, Kd.scalar] using k7
  obtain ⟨l8, ⟨A8, b8, q8, hl8, rd8⟩, I8⟩ := opn_ints _ _ _ _ _ _ _ _ _ t8
  obtain rfl : c8 = .slice A8 l8.length b8 := by simpa using q8
  obtain ⟨l9, ⟨A9, b9, q9, hl9, rd9⟩, I9⟩ := opn_children _ _ _ _ _ _ _ _ _ t9
  obtain rfl : c9 = .slice A9 l9.length b9 := by simpa using q9
  refine ⟨⟨a0, a1, l2.map toR, l3, a4, a5, l6.map toR, a7, l8, l9.map toC⟩, ⟨A2, b2, A3, b3, A6, b6, A8, b8, A9, b9⟩, ?_, ⟨C_rect rd2, C_ints rd3, C_rect rd6, C_ints rd8, C_child rd9⟩, ⟨by rw [List.length_map]; exact hl2, hl3, by rw [List.length_map]; exact hl6, hl8, by rw [List.length_map]; exact hl9⟩⟩
  simp only [stV, List.length_map]
  match cs, hl, e0, e1, e2, e3, e4, e5, e6, e7, e8, e9 with
  | [_, _, _, _, _, _, _, _, _, _], _, e0, e1, e2, e3, e4, e5, e6, e7, e8, e9 => simp at e0 e1 e2 e3 e4 e5 e6 e7 e8 e9; simp [e0, e1, e2, e3, e4, e5, e6, e7, e8, e9]
end Go.Proofs.Ytnboncbekcodnaa.PR
