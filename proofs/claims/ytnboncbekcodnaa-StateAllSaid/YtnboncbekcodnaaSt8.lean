/- The walk: few. -/
import Derived.Test.YtnboncbekcodnaaSt7
set_option linter.unusedVariables false
set_option linter.unusedSimpArgs false
namespace Go.Proofs.Ytnboncbekcodnaa.St
open Go.RowKit Go.Proofs.Ytnboncbekcodnaa.Kit

instance (k : Nat) (t : Stt) : Decidable (StN k t) :=
  if h : t.D.length ≤ k ∧ t.F.length ≤ k ∧ t.R.length ≤ k ∧ t.O.length ≤ k ∧ t.P.length ≤ k then .isTrue ⟨h.1, h.2.1, h.2.2.1, h.2.2.2.1, h.2.2.2.2⟩ else .isFalse fun q => h ⟨q.d, q.f, q.r, q.o, q.p⟩
theorem Bk.c10 {w : World} {g : Nat} {t : TypeId} {x0 x1 x2 x3 x4 x5 x6 x7 x8 x9 : Value} (h : Bk w g t #[x0, x1, x2, x3, x4, x5, x6, x7, x8, x9]) :
    w.cell? ⟨g, 0, none⟩ = some x0 ∧ w.cell? ⟨g, 1, none⟩ = some x1 ∧ w.cell? ⟨g, 2, none⟩ = some x2 ∧ w.cell? ⟨g, 3, none⟩ = some x3 ∧ w.cell? ⟨g, 4, none⟩ = some x4 ∧ w.cell? ⟨g, 5, none⟩ = some x5 ∧ w.cell? ⟨g, 6, none⟩ = some x6 ∧ w.cell? ⟨g, 7, none⟩ = some x7 ∧ w.cell? ⟨g, 8, none⟩ = some x8 ∧ w.cell? ⟨g, 9, none⟩ = some x9 :=
  ⟨h.cell 0, h.cell 1, h.cell 2, h.cell 3, h.cell 4, h.cell 5, h.cell 6, h.cell 7, h.cell 8, h.cell 9⟩
set_option maxHeartbeats 8000000 in
theorem few_any (t : Stt) (h : Hd) (w : World) :
    Calls Try.prog 10 #[.agg (stV t h)] w fun e w' => e = .returned (.bool (decide (StN 60 t))) ∧ Below w.heap.size w w' := by
  go_enter Try.func10, Try.ntmps10
  go_wp2
  all_goals go_ret
  all_goals refine ⟨?_, bl_alloc (Below.refl _ _) _⟩
  all_goals first
    | (rw [decide_eq_false (fun q : StN 60 t => by have := q.d; have := q.f; have := q.r; have := q.o; have := q.p; omega)]; rfl)
    | exact congrArg (fun b => Ending.returned (.bool b)) (decide_eq_decide.2 (show (t.P.length : Int) ≤ 60 ↔ StN 60 t from ⟨fun q => ⟨by omega, by omega, by omega, by omega, by omega⟩, fun q => by have := q.p; omega⟩))
end Go.Proofs.Ytnboncbekcodnaa.St
