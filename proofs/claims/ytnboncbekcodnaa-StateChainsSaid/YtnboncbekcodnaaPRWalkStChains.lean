/- StateChains: the walk for the row. -/
import Derived.Test.YtnboncbekcodnaaPRStChains
import Derived.Test.YtnboncbekcodnaaPRStOpen
set_option linter.unusedVariables false
set_option linter.unusedSimpArgs false
namespace Go.Proofs.Ytnboncbekcodnaa.PR
open Go.RowKit Go.Proofs.YtnboncbekcodnaaW.PrintWords Go.Proofs.Ytnboncbekcodnaa.St
theorem StateChains_walk (n : Stt) (hn : Hd) (a : Stt) (ha : Hd) (b : Stt) (hb : Hd) (w : World) (rn : StR w w.heap.size n hn) (cn : StC n hn) (ra : StR w w.heap.size a ha) (ca : StC a ha) (rb : StR w w.heap.size b hb) (cb : StC b hb) :
    Calls Try.prog 4 #[.agg (stV n hn), .agg (stV a ha), .agg (stV b hb)] w fun e w' => e = .returned (.bool true) ∧ Below w.heap.size w w' := chains_law n a b hn ha hb w rn cn ra ca rb cb
end Go.Proofs.Ytnboncbekcodnaa.PR
