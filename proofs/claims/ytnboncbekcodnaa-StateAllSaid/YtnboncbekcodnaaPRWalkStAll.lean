/- StateAll: the walk for the row. -/
import Derived.Test.YtnboncbekcodnaaPRStAll
import Derived.Test.YtnboncbekcodnaaPRStOpen
set_option linter.unusedVariables false
set_option linter.unusedSimpArgs false
namespace Go.Proofs.Ytnboncbekcodnaa.PR
open Go.RowKit Go.Proofs.YtnboncbekcodnaaW.PrintWords Go.Proofs.Ytnboncbekcodnaa.St
theorem StateAll_walk (a : Stt) (ha : Hd) (b : Stt) (hb : Hd) (A : Option Addr) (lc : Nat) (l : List S24) (x : Int) (wx : (Lit.int .i64 x).wf = true) (y : Int) (wy : (Lit.int .i64 y).wf = true) (z : Int) (wz : (Lit.int .i64 z).wf = true) (w : World)
    (ra : StR w w.heap.size a ha) (ca : StC a ha) (rb : StR w w.heap.size b hb) (cb : StC b hb) (hl : l.length ≤ lc) (rl : Kd.C k24 w A l.length l) (hI : l.length ≤ 9223372036854775807 ∧ ∀ s ∈ l, True) :
    Calls Try.prog 6 #[.agg (stV a ha), .agg (stV b hb), .slice A l.length lc, .agg #[.int .i64 x, .int .i64 y, .int .i64 z]] w fun e w' => e = .returned (.bool true) ∧ Below w.heap.size w w' := by
  have h := all_law a b ha hb A lc (l.map toC) ⟨x, y, z⟩ w ra ca rb cb (C_child rl) (by rw [List.length_map]; exact hl)
  rw [List.length_map] at h
  exact h
end Go.Proofs.Ytnboncbekcodnaa.PR
