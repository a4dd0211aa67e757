/- Rectangles that came in. -/
import Derived.Test.YtjjdgbhplechbaaDoorCvO
set_option linter.unusedVariables false
set_option linter.unusedSimpArgs false
namespace Go.Proofs.YtjjdgbhplechbaaDoor.Cv
open Go.RowKit Go.ChangeShapes Go.WideShapes Go.Deep Go.Proofs.YtjjdgbhplechbaaDoor.Kit Go.Proofs.YtjjdgbhplechbaaDoor.Rect
section
variable {H : Type} {enc : TypeId × Value → H} {w : World} {base : Nat} {spare : Nat → Bool} {held : Bool} {fuel : Nat} {cs : List Value} {x : DataW H × List MemPlace}
theorem open_rcs (h : DataW.trod enc Tryd.prog w base spare held fuel 33 cs = some x) :
    ∃ (A : Option Addr) (l : List R) (c : Nat), cs = [.slice A l.length c] ∧ l.length ≤ c ∧ Rds w w.heap.size 4 A l.length (l.flatMap rC) ∧ (∀ r ∈ l, I64 r) ∧ l.length ≤ 9223372036854775807 := by
  exact open_rows rC 4 (by omega) (fun _ => rfl) I64 Tryd.underlying33 (by kernel_rfl) (fun fuel cs x h => by
    obtain ⟨hl, hf⟩ := trod_ones Tryd.underlying32 (by kernel_rfl) (by kernel_rfl) h
    obtain ⟨c0, m0, y0, e0, t0⟩ := hf 0 _ rfl
    obtain ⟨a0, k0, _, w0⟩ := DataW.trod_int Tryd.underlying3 t0
    obtain rfl : c0 = .int .i64 a0 := by simpa using k0
    obtain ⟨c1, m1, y1, e1, t1⟩ := hf 1 _ rfl
    obtain ⟨a1, k1, _, w1⟩ := DataW.trod_int Tryd.underlying3 t1
    obtain rfl : c1 = .int .i64 a1 := by simpa using k1
    obtain ⟨c2, m2, y2, e2, t2⟩ := hf 2 _ rfl
    obtain ⟨a2, k2, _, w2⟩ := DataW.trod_int Tryd.underlying3 t2
    obtain rfl : c2 = .int .i64 a2 := by simpa using k2
    obtain ⟨c3, m3, y3, e3, t3⟩ := hf 3 _ rfl
    obtain ⟨a3, k3, _, w3⟩ := DataW.trod_int Tryd.underlying3 t3
    obtain rfl : c3 = .int .i64 a3 := by simpa using k3
    have := bounds_i64 w0
    have := bounds_i64 w1
    have := bounds_i64 w2
    have := bounds_i64 w3
    refine ⟨⟨a0, a1, a2, a3⟩, ?_, by unfold I64; simp only; omega⟩
    match cs, hl, e0, e1, e2, e3 with
    | [_, _, _, _], _, e0, e1, e2, e3 => simp at e0 e1 e2 e3; simp [rC, rV, e0, e1, e2, e3]) h
end
end Go.Proofs.YtjjdgbhplechbaaDoor.Cv
