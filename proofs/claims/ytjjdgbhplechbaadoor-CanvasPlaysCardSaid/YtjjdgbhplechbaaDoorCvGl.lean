/- What the row's condition says of the package's variable that is read: an error's value that is not nil. -/
import Derived.Test.YtjjdgbhplechbaaDoorRows
import Derived.Test.YtjjdgbhplechbaaDoorKit
import Derived.Stop.LaidErr
import Derived.Stop.ErrReads
import Derived.LaidMore
set_option linter.unusedVariables false
set_option linter.unusedSimpArgs false
namespace Go.Proofs.YtjjdgbhplechbaaDoor.Cv
open Go.ChangeShapes Go.WideShapes Go.RowKit
theorem star_eq : "*" ++ "errors.errorString" = "*errors.errorString" := by decide
theorem row_err (u : TypeId) (h : Tryd.prog.typeName? 3 u = some "*errors.errorString") : u = 193 :=
  typeName_ptr_named (nm := "errors.errorString") (by rw [star_eq]; kernel_rfl) (by kernel_rfl) (by decide) u (by rw [star_eq]; exact h)
theorem err_cell {W : World} (h : laidMetH Tryd.prog Rows.canvasPlaysRow.laid W) : ∃ t v, W.cell? ⟨0, 0, none⟩ = some (.iface t v) := by
  rw [MakeChecks.laidMetH_plain _ _ _ (by kernel_rfl)] at h
  have hg : Tryd.prog.globalNamed "tableau/api.ErrArg" = some 0 := by kernel_rfl
  obtain ⟨a0, s0, hv0, _⟩ := laid_sentinel (g := 0) (ti := 26) h hg (by kernel_rfl) Tryd.underlying26 row_err Tryd.underlying193 Tryd.underlying210 rfl rfl Tryd.underlying9 (by kernel_rfl) (by kernel_rfl)
  exact ⟨_, _, by simpa using World.var?_cell hg hv0 0⟩
end Go.Proofs.YtjjdgbhplechbaaDoor.Cv
