/- PaintFolds: the walk for the row. -/
import Derived.Test.YtjjdgbhplechbaaDoorCvFol
import Derived.Test.YtjjdgbhplechbaaDoorCvO
set_option linter.unusedVariables false
set_option linter.unusedSimpArgs false
namespace Go.Proofs.YtjjdgbhplechbaaDoor.Cv
open Go.RowKit Go.Proofs.YtjjdgbhplechbaaDoor.Kit
theorem PaintFolds_walk (a : Int) (wa : (Lit.int .i64 a).wf = true) (b : Int) (wb : (Lit.int .i64 b).wf = true) (back : Int) (wk : (Lit.int .u32 back).wf = true) (A : Option Addr) (lc : Nat) (l : List Vw) (A' : Option Addr) (lc' : Nat) (im : List Im) (i : Int) (wi : (Lit.int .i64 i).wf = true) (j : Int) (wj : (Lit.int .i64 j).wf = true) (w : World)
    (hl : l.length ≤ lc) (rd : Rds w w.heap.size 6 A l.length (l.flatMap vwC)) (mx : l.length ≤ 9223372036854775807) (hl' : im.length ≤ lc') (rd' : RdI w w.heap.size A' im) (mx' : im.length ≤ 9223372036854775807) :
    Calls Tryd.prog 7 #[.int .i64 a, .int .i64 b, .int .u32 back, .slice A l.length lc, .slice A' im.length lc', .int .i64 i, .int .i64 j] w fun e w' => e = .returned (.bool true) ∧ Below w.heap.size w w' :=
  folds_law a b back A lc l A' lc' im i j w (by have := bounds_u32 wk; omega) rd rd'
end Go.Proofs.YtjjdgbhplechbaaDoor.Cv
