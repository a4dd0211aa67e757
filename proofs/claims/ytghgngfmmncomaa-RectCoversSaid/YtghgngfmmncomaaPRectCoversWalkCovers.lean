/- RectCovers: the walk for the row, out of the print's contract and the plain law. -/
import Derived.Test.YtghgngfmmncomaaPRectCoversCovers
import Derived.Test.YtghgngfmmncomaaPRectCoversOpenR
namespace Go.Proofs.Ytghgngfmmncomaa.PRectCovers
open Go.RowKit Go.Proofs.Ytghgngfmmncomaa.Rect Go.Proofs.YtghgngfmmncomaaW.PrintWords
theorem RectCovers_walk (A : Option Addr) (c : Nat) (l : List S23) (v : Int) (wv : (Lit.int .i64 v).wf = true) (w : World) (hc : l.length ≤ c) (hr : Kd.C k23 w A l.length l) (hI : l.length ≤ 9223372036854775807 ∧ ∀ s ∈ l, I64 (toR s)) :
    Calls Try.prog 7 #[.slice A l.length c, .int .i64 v] w fun e w' => e = .returned (.bool true) ∧ Below w.heap.size w w' :=
  tableaulaw07_RectCovers.calls 100 A c l v true w hr hc (RectCovers_pure l v hI.1 hI.2)
end Go.Proofs.Ytghgngfmmncomaa.PRectCovers
