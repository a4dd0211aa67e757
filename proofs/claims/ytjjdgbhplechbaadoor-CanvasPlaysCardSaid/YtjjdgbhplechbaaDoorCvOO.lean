/- Rectangles and calls that came in. Printed by gen_oo.py. -/
import Derived.Test.YtjjdgbhplechbaaDoorCvO
import Derived.Test.YtjjdgbhplechbaaDoorCvOp
set_option linter.unusedVariables false
set_option linter.unusedSimpArgs false
namespace Go.Proofs.YtjjdgbhplechbaaDoor.Cv
open Go.RowKit Go.ChangeShapes Go.WideShapes Go.Deep Go.Proofs.YtjjdgbhplechbaaDoor.Kit Go.Proofs.YtjjdgbhplechbaaDoor.Rect
section
variable {H : Type} {enc : TypeId × Value → H} {w : World} {base : Nat} {spare : Nat → Bool} {held : Bool} {fuel : Nat} {cs : List Value} {x : DataW H × List MemPlace}
theorem open_rcs (h : DataW.trod enc Tryd.prog w base spare held fuel 33 cs = some x) :
    ∃ (A : Option Addr) (l : List R) (c : Nat), cs = [.slice A l.length c] ∧ l.length ≤ c ∧ Rds w w.heap.size 4 A l.length (l.flatMap rC) ∧ (∀ r ∈ l, I64 r) ∧ l.length ≤ 9223372036854775807 := by
  exact open_rows rC 4 (by omega) (fun _ => rfl) I64 Tryd.underlying33 (by kernel_rfl) (fun fuel cs x h => by
    obtain ⟨hl, hf⟩ := trod_ones Tryd.underlying32 (by kernel_rfl) (by kernel_rfl) h
    obtain ⟨c0, m0, y0, e0, t0⟩ := hf 0 _ rfl
    obtain ⟨a0, k0, _, w0⟩ := DataW.trod_int Tryd.underlying3 t0
    obtain rfl : c0 = .int .i64 a0 := by simpa using k0
    obtain ⟨c1, m1, y1, e1, t1⟩ := hf 1 _ rfl
    obtain ⟨a1, k1, _, w1⟩ := DataW.trod_int Tryd.underlying3 t1
    obtain rfl : c1 = .int .i64 a1 := by simpa using k1
    obtain ⟨c2, m2, y2, e2, t2⟩ := hf 2 _ rfl
    obtain ⟨a2, k2, _, w2⟩ := DataW.trod_int Tryd.underlying3 t2
    obtain rfl : c2 = .int .i64 a2 := by simpa using k2
    obtain ⟨c3, m3, y3, e3, t3⟩ := hf 3 _ rfl
    obtain ⟨a3, k3, _, w3⟩ := DataW.trod_int Tryd.underlying3 t3
    obtain rfl : c3 = .int .i64 a3 := by simpa using k3
    have := bounds_i64 w0
    have := bounds_i64 w1
    have := bounds_i64 w2
    have := bounds_i64 w3
    refine ⟨⟨a0, a1, a2, a3⟩, ?_, by unfold I64; simp only; omega⟩
    match cs, hl, e0, e1, e2, e3 with
    | [_, _, _, _], _, e0, e1, e2, e3 => simp at e0 e1 e2 e3; simp [rC, rV, e0, e1, e2, e3]) h
theorem op_of (h : DataW.trod enc Tryd.prog w base spare held fuel 50 cs = some x) :
    ∃ o : Op, cs = opC o ∧ OpOk w w.heap.size o ∧ o.P.length ≤ 9223372036854775807 ∧ o.cl.length ≤ 9223372036854775807 := by
  obtain ⟨hl, hf⟩ := trod_ones Tryd.underlying50 (by kernel_rfl) (by kernel_rfl) h
  obtain ⟨c0, m0, y0, e0, t0⟩ := hf 0 _ rfl
  obtain ⟨a0, k0, _, w0⟩ := DataW.trod_int Tryd.underlying3 t0
  obtain rfl : c0 = .int .i64 a0 := by simpa using k0
  obtain ⟨c1, m1, y1, e1, t1⟩ := hf 1 _ rfl
  obtain ⟨a1, k1, _, w1⟩ := DataW.trod_int Tryd.underlying3 t1
  obtain rfl : c1 = .int .i64 a1 := by simpa using k1
  obtain ⟨c2, m2, y2, e2, t2⟩ := hf 2 _ rfl
  obtain ⟨a2, k2, _, w2⟩ := DataW.trod_int Tryd.underlying3 t2
  obtain rfl : c2 = .int .i64 a2 := by simpa using k2
  obtain ⟨c3, m3, y3, e3, t3⟩ := hf 3 _ rfl
  obtain ⟨a3, k3, _, w3⟩ := DataW.trod_int Tryd.underlying3 t3
  obtain rfl : c3 = .int .i64 a3 := by simpa using k3
  obtain ⟨c4, m4, y4, e4, t4⟩ := hf 4 _ rfl
  obtain ⟨a4, k4, _, w4⟩ := DataW.trod_int Tryd.underlying3 t4
  obtain rfl : c4 = .int .i64 a4 := by simpa using k4
  obtain ⟨c5, m5, y5, e5, t5⟩ := hf 5 _ rfl
  obtain ⟨a5, k5, _, w5⟩ := DataW.trod_int Tryd.underlying22 t5
  obtain rfl : c5 = .int .u32 a5 := by simpa using k5
  obtain ⟨c6, m6, y6, e6, t6⟩ := hf 6 _ rfl
  obtain ⟨A6, P6, b6, k6, _, hr6, hu6, mx6⟩ := open_words t6
  obtain rfl : c6 = .slice A6 P6.length b6 := by simpa using k6
  obtain ⟨c7, m7, y7, e7, t7⟩ := hf 7 _ rfl
  obtain ⟨A7, P7, b7, k7, _, hr7, hu7, mx7⟩ := open_rcs t7
  obtain rfl : c7 = .slice A7 P7.length b7 := by simpa using k7
  have := bounds_u32 w5
  refine ⟨⟨a0, a1, a2, a3, a4, a5, P6, A6, b6, P7, A7, b7⟩, ?_, ⟨hr6, hr7, hu6, by simp only; omega, hu7⟩, mx6, mx7⟩
  match cs, hl, e0, e1, e2, e3, e4, e5, e6, e7 with
  | [_, _, _, _, _, _, _, _], _, e0, e1, e2, e3, e4, e5, e6, e7 => simp at e0 e1 e2 e3 e4 e5 e6 e7; simp [opC, e0, e1, e2, e3, e4, e5, e6, e7]
theorem open_ops (h : DataW.trod enc Tryd.prog w base spare held fuel 42 cs = some x) :
    ∃ (A : Option Addr) (l : List Op) (c : Nat), cs = [.slice A l.length c] ∧ l.length ≤ c ∧ RdO w w.heap.size A l ∧ l.length ≤ 9223372036854775807 := by
  obtain ⟨A, l, c, e, hc, hr, hI, hm⟩ := open_rows opC 8 (by omega) opC_len (OpOk w w.heap.size) Tryd.underlying42 (by kernel_rfl) (fun fuel cs x h => by
    obtain ⟨o, e, ho, _⟩ := op_of h
    exact ⟨o, e, ho⟩) h
  exact ⟨A, l, c, e, hc, ⟨hr, hI⟩, hm⟩
end
end Go.Proofs.YtjjdgbhplechbaaDoor.Cv
