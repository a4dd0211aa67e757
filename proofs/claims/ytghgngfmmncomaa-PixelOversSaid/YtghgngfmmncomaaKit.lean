/- Small words for walks: what stays of the world below a call, casts, results. No program. -/
import Derived.WalkKit
import Derived.WalkSpells
import Derived.WalkLawsBesides
import Derived.Below
import Derived.Deep.Draws
import Derived.Lib.Hide
namespace Go.Proofs.Ytghgngfmmncomaa.Kit
open Go.RowKit

theorem ret_int {k : IntKind} {a b : Int} (h : a = b) : Ending.returned (.int k a) = .returned (.int k b) := by rw [h]
theorem ret_bool {a b : Bool} (h : a = b) : Ending.returned (.bool a) = .returned (.bool b) := by rw [h]
theorem i64_in {n : Int} (h0 : -9223372036854775808 ≤ n) (h1 : n ≤ 9223372036854775807) : IntKind.i64.wrap n = n := by
  rw [IntKind.wrap_i64]; omega
theorem w64_in {n : Int} (h0 : -9223372036854775808 ≤ n) (h1 : n ≤ 9223372036854775807) : wrap64 n = n := by
  unfold wrap64; omega

section
variable {w a b : World}
theorem bl_step (h : Below w.heap.size w a) (k : Below a.heap.size a b) : Below w.heap.size w b := h.trans (k.mono h.size)
theorem bl_alloc (h : Below w.heap.size w a) (o : Obj) : Below w.heap.size w (a.alloc o) := h.alloc h.size o
theorem bl_drew (h : Below w.heap.size w a) : Below w.heap.size w a.drew := ⟨h.os, h.tape, h.output, h.size, h.block⟩
theorem bl_drewN (h : Below w.heap.size w a) (n : Nat) : Below w.heap.size w (a.drewN n) := ⟨h.os, h.tape, h.output, h.size, h.block⟩
theorem bl_set (h : Below w.heap.size w a) {p : Addr} (hp : w.heap.size ≤ p.block) (u : Value) : Below w.heap.size w (a.setCell p u) := h.setCell hp u
end

/-! min and max of numbers, under names of their own, so that no walk parts at them -/
def mxI (x y : Int) : Int := if x < y then y else x
def mnI (x y : Int) : Int := if y < x then y else x
theorem mxI_max (x y : Int) : mxI x y = max x y := by unfold mxI; split <;> omega
theorem mnI_min (x y : Int) : mnI x y = min x y := by unfold mnI; split <;> omega
theorem bmax2 (k k' : IntKind) (x y : Int) : Builtin.max2 (.int k x) (.int k' y) = pure (.int k (mxI x y)) := by
  simp only [Builtin.max2, gt_iff_lt, mxI]
theorem bmin2 (k k' : IntKind) (x y : Int) : Builtin.min2 (.int k x) (.int k' y) = pure (.int k (mnI x y)) := by
  simp only [Builtin.min2, mnI]
section
variable (ats : Array TypeId) (ty : TypeId) (a b c d : Value)
theorem bmax_2 : Builtin.max_ ats ty #[a, b] = (Builtin.max2 a b >>= fun s => pure s) := by simp only [Builtin.max_, List.foldlM_cons, List.foldlM_nil]
theorem bmin_2 : Builtin.min_ ats ty #[a, b] = (Builtin.min2 a b >>= fun s => pure s) := by simp only [Builtin.min_, List.foldlM_cons, List.foldlM_nil]
theorem bmax_3 : Builtin.max_ ats ty #[a, b, c] = (Builtin.max2 a b >>= fun s => Builtin.max2 s c >>= fun s => pure s) := by simp only [Builtin.max_, List.foldlM_cons, List.foldlM_nil]
theorem bmin_3 : Builtin.min_ ats ty #[a, b, c] = (Builtin.min2 a b >>= fun s => Builtin.min2 s c >>= fun s => pure s) := by simp only [Builtin.min_, List.foldlM_cons, List.foldlM_nil]
theorem bmax_4 : Builtin.max_ ats ty #[a, b, c, d] = (Builtin.max2 a b >>= fun s => Builtin.max2 s c >>= fun s => Builtin.max2 s d >>= fun s => pure s) := by simp only [Builtin.max_, List.foldlM_cons, List.foldlM_nil]
theorem bmin_4 : Builtin.min_ ats ty #[a, b, c, d] = (Builtin.min2 a b >>= fun s => Builtin.min2 s c >>= fun s => Builtin.min2 s d >>= fun s => pure s) := by simp only [Builtin.min_, List.foldlM_cons, List.foldlM_nil]
end
end Go.Proofs.Ytghgngfmmncomaa.Kit
