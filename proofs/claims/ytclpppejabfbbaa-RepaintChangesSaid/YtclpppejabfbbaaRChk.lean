/- Texts of this claim, one behind the other: each begins with its own remark. -/
import Derived.Test.YtclpppejabfbbaaRectMath
import Derived.Test.YtclpppejabfbbaaKit
import Derived.Test.YtclpppejabfbbaaRows
import Derived.Deep.RegionHeld3
import Derived.Deep.AppendLies
import Derived.Deep.QuietTactic
import Derived.BigQuiet
/- The walk of rect.Check. -/
set_option linter.unusedVariables false
set_option linter.unusedSimpArgs false
namespace Go.Proofs.Ytclpppejabfbbaa.Rect
open Go.RowKit Go.Proofs.Ytclpppejabfbbaa.Kit
attribute [local go_sem high] bmax2 bmin2 bmax_2 bmin_2 bmax_3 bmin_3 bmax_4 bmin_4

def edgeB (x n : Int) : Bool := decide (-16777216 ≤ x) && (decide (1 ≤ n) && decide (x + n ≤ 16777216))
set_option maxHeartbeats 2000000 in
theorem edge_any (x n : Int) (w : World) (_ : -9223372036854775808 ≤ x) (_ : x ≤ 9223372036854775807) (_ : n ≤ 9223372036854775807) :
    Calls Try.prog 95 #[.int .i64 x, .int .i64 n] w fun e w' => e = .returned (.bool (edgeB x n)) ∧ w = w' := by
  go_enter Try.func95, Try.ntmps95
  go_wp2
  all_goals
    go_ret
    refine ⟨ret_bool ?_, rfl⟩
    rw [Bool.eq_iff_iff]; simp [edgeB]; try omega
theorem edge_chk (x y a b : Int) : (edgeB x a && edgeB y b) = rChk ⟨x, y, a, b⟩ := by
  rw [Bool.eq_iff_iff, chk_iff]; simp [edgeB, chkR]; omega
set_option maxHeartbeats 4000000 in
theorem Check_any (ax ay aw ah : Int) (w : World) (hr : I64 ⟨ax, ay, aw, ah⟩) :
    Calls Try.prog 79 #[.agg #[.int .i64 ax, .int .i64 ay, .int .i64 aw, .int .i64 ah]] w fun e w' => e = .returned (.bool (rChk ⟨ax, ay, aw, ah⟩)) ∧ Below w.heap.size w w' := by
  obtain ⟨⟨x0, x1⟩, ⟨y0, y1⟩, ⟨w0, w1⟩, h0, h1⟩ := hr
  simp only at x0 x1 y0 y1 w0 w1 h0 h1
  rw [← edge_chk]
  by_cases he : edgeB ax aw = true
  · go_enter Try.func79, Try.ntmps79
    go_wp2_with fail
    refine (edge_any _ _ _ x0 x1 w1).mono ?_
    rintro e wx ⟨rfl, rfl⟩
    go_wp2_with fail
    refine (edge_any _ _ _ y0 y1 h1).mono ?_
    rintro e wx ⟨rfl, rfl⟩
    go_wp2_with fail
    go_ret
    refine ⟨ret_bool (by rw [he]; rfl), ?_⟩
    repeat (first | (with_reducible exact Below.refl _ _) | (with_reducible apply bl_alloc) | (with_reducible apply bl_drew) | (with_reducible apply bl_drewN) | ((with_reducible refine bl_set ?_ ?hs _); case hs => (simp; try omega)) | (with_reducible refine bl_step ?_ (by assumption)))
  · have he : edgeB ax aw = false := by simpa using he
    go_enter Try.func79, Try.ntmps79
    go_wp2_with fail
    refine (edge_any _ _ _ x0 x1 w1).mono ?_
    rintro e wx ⟨rfl, rfl⟩
    go_wp2_with fail
    go_ret
    refine ⟨ret_bool (by rw [he]; rfl), ?_⟩
    repeat (first | (with_reducible exact Below.refl _ _) | (with_reducible apply bl_alloc) | (with_reducible apply bl_drew) | (with_reducible apply bl_drewN) | ((with_reducible refine bl_set ?_ ?hs _); case hs => (simp; try omega)) | (with_reducible refine bl_step ?_ (by assumption)))
end Go.Proofs.Ytclpppejabfbbaa.Rect
/- The walks through the package rect: what each call answers. -/
set_option linter.unusedVariables false
set_option linter.unusedSimpArgs false
namespace Go.Proofs.Ytclpppejabfbbaa.Rect
open Go.RowKit Go.Proofs.Ytclpppejabfbbaa.Kit
attribute [local go_sem high] bmax2 bmin2 bmax_2 bmin_2 bmax_3 bmin_3 bmax_4 bmin_4

set_option maxHeartbeats 1000000 in
theorem Empty_any (x y a b : Int) (w : World) : Calls Try.prog 60 #[.agg #[.int .i64 x, .int .i64 y, .int .i64 a, .int .i64 b]] w fun e w' => e = .returned (.bool (emp ⟨x, y, a, b⟩)) ∧ Below w.heap.size w w' := by
  go_enter Try.func60, Try.ntmps60
  go_wp2
  all_goals
    go_ret
    refine ⟨ret_bool ?_, (Below.refl _ _).alloc (Nat.le_refl _) _⟩
    rw [Bool.eq_iff_iff]; simp only [emp_t]; simp; try omega

theorem u64_sub {x p : Int} (h0 : x ≤ p) (hx : -9223372036854775808 ≤ x) (hp' : p ≤ 9223372036854775807) :
    IntKind.u64.wrap (IntKind.u64.wrap p - IntKind.u64.wrap x) = p - x := by
  have e : ∀ n : Int, IntKind.u64.wrap n = n % 18446744073709551616 := fun n => by simp [IntKind.wrap, IntKind.bits, IntKind.signed]
  rw [e, e, e]
  omega

theorem bcell {W w1 : World} (hb : Below W.heap.size W w1) : (∀ b o, b < W.heap.size → w1.cell? ⟨b, o, none⟩ = W.cell? ⟨b, o, none⟩) ∧ (∀ b o, b < W.heap.size → w1.frozen? ⟨b, o, none⟩ = W.frozen? ⟨b, o, none⟩) :=
  ⟨fun b o h => hb.cell (p := ⟨b, o, none⟩) h, fun b o h => hb.frozen (p := ⟨b, o, none⟩) h⟩

end Go.Proofs.Ytclpppejabfbbaa.Rect
