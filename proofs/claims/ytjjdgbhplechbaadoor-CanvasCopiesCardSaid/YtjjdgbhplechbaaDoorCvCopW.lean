/- CanvasCopies: the walk for the row. -/
import Derived.Test.YtjjdgbhplechbaaDoorCvCop
set_option linter.unusedVariables false
set_option linter.unusedSimpArgs false
namespace Go.Proofs.YtjjdgbhplechbaaDoor.Cv
open Go.RowKit Go.Proofs.YtjjdgbhplechbaaDoor.Kit
theorem u32_of {n : Int} (h : (Lit.int .u32 n).wf = true) : 0 ≤ n ∧ n < 4294967296 := by
  have := bounds_u32 h
  omega
theorem CanvasCopies_walk (a : Int) (wa : (Lit.int .i64 a).wf = true) (b : Int) (wb : (Lit.int .i64 b).wf = true) (col : Int) (wc : (Lit.int .u32 col).wf = true) (x : Int) (wx : (Lit.int .i64 x).wf = true) (y : Int) (wy : (Lit.int .i64 y).wf = true) (w : World) :
    Calls Tryd.prog 3 #[.int .i64 a, .int .i64 b, .int .u32 col, .int .i64 x, .int .i64 y] w fun e w' => e = .returned (.bool true) ∧ Below w.heap.size w w' := copies_law a b col x y w (u32_of wc)
end Go.Proofs.YtjjdgbhplechbaaDoor.Cv
