/- The walks through the package rect: what each call answers. -/
import Derived.Test.YtogcokfildbodaaRChk
import Derived.Test.YtogcokfildbodaaKit
import Derived.Test.YtogcokfildbodaaRectMath
import Derived.Deep.RegionHeld3
import Derived.Deep.AppendLies
import Derived.Deep.QuietTactic
import Derived.BigQuiet
set_option linter.unusedVariables false
set_option linter.unusedSimpArgs false
namespace Go.Proofs.Ytogcokfildbodaa.Rect
open Go.RowKit Go.Proofs.Ytogcokfildbodaa.Kit
attribute [local go_sem high] bmax2 bmin2 bmax_2 bmin_2 bmax_3 bmin_3 bmax_4 bmin_4

set_option maxHeartbeats 1000000 in
theorem Empty_any (x y a b : Int) (w : World) : Calls Try.prog 64 #[.agg #[.int .i64 x, .int .i64 y, .int .i64 a, .int .i64 b]] w fun e w' => e = .returned (.bool (emp ⟨x, y, a, b⟩)) ∧ Below w.heap.size w w' := by
  go_enter Try.func64, Try.ntmps64
  go_wp2
  all_goals
    go_ret
    refine ⟨ret_bool ?_, (Below.refl _ _).alloc (Nat.le_refl _) _⟩
    rw [Bool.eq_iff_iff]; simp only [emp_t]; simp; try omega

theorem u64_sub {x p : Int} (h0 : x ≤ p) (hx : -9223372036854775808 ≤ x) (hp' : p ≤ 9223372036854775807) :
    IntKind.u64.wrap (IntKind.u64.wrap p - IntKind.u64.wrap x) = p - x := by
  have e : ∀ n : Int, IntKind.u64.wrap n = n % 18446744073709551616 := fun n => by simp [IntKind.wrap, IntKind.bits, IntKind.signed]
  rw [e, e, e]
  omega

set_option maxHeartbeats 1000000 in
theorem has_any (x n p : Int) (w : World) (hx : -9223372036854775808 ≤ x) (_ : x ≤ 9223372036854775807) (_ : -9223372036854775808 ≤ p) (hp' : p ≤ 9223372036854775807) (hn : 1 ≤ n) (hn' : n ≤ 9223372036854775807) :
    Calls Try.prog 81 #[.int .i64 x, .int .i64 n, .int .i64 p] w fun e w' => e = .returned (.bool (decide (x ≤ p) && decide (p < x + n))) ∧ w = w' := by
  by_cases h : x ≤ p
  · have q := Lib.hid (u64_sub h hx hp')
    go_enter Try.func81, Try.ntmps81
    go_wp2
    go_ret
    refine ⟨ret_bool ?_, rfl⟩
    show decide (IntKind.u64.wrap (IntKind.u64.wrap p - IntKind.u64.wrap x) < n) = _
    rw [q.out, Bool.eq_iff_iff]
    simp; omega
  · go_enter Try.func81, Try.ntmps81
    go_wp2
    go_ret
    refine ⟨ret_bool ?_, rfl⟩
    have h' : ¬ x ≤ p := by omega
    simp [h']

theorem bcell {W w1 : World} (hb : Below W.heap.size W w1) : (∀ b o, b < W.heap.size → w1.cell? ⟨b, o, none⟩ = W.cell? ⟨b, o, none⟩) ∧ (∀ b o, b < W.heap.size → w1.frozen? ⟨b, o, none⟩ = W.frozen? ⟨b, o, none⟩) :=
  ⟨fun b o h => hb.cell (p := ⟨b, o, none⟩) h, fun b o h => hb.frozen (p := ⟨b, o, none⟩) h⟩

set_option maxHeartbeats 2000000 in
theorem Has_any (x y a b p q : Int) (w : World) (hr : I64 ⟨x, y, a, b⟩) (hp : -9223372036854775808 ≤ p ∧ p ≤ 9223372036854775807) (hq : -9223372036854775808 ≤ q ∧ q ≤ 9223372036854775807) :
    Calls Try.prog 55 #[.agg #[.int .i64 x, .int .i64 y, .int .i64 a, .int .i64 b], .int .i64 p, .int .i64 q] w fun e w' => e = .returned (.bool (rHas ⟨x, y, a, b⟩ p q)) ∧ Below w.heap.size w w' := by
  obtain ⟨⟨x0, x1⟩, ⟨y0, y1⟩, ⟨a0, a1⟩, b0, b1⟩ := hr
  obtain ⟨p0, p1⟩ := hp
  obtain ⟨q0, q1⟩ := hq
  simp only at x0 x1 y0 y1 a0 a1 b0 b1
  by_cases he : emp ⟨x, y, a, b⟩ = true
  · have hf : rHas ⟨x, y, a, b⟩ p q = false := by
      have := inR_emp (p := p) (q := q) he
      simp [rHas, this]
    have HF := Lib.hid hf
    clear hf
    go_enter Try.func55, Try.ntmps55
    go_wp2_with fail
    refine (Empty_any _ _ _ _ _).mono ?_
    rintro e w1 ⟨rfl, hb1⟩
    go_wp2_with fail
    go_ret
    refine ⟨ret_bool HF.out.symm, ?_⟩
    repeat (first | exact Below.refl _ _ | apply bl_alloc | apply bl_drew | apply bl_drewN | (refine bl_step ?_ (by assumption)))
  · have he : emp ⟨x, y, a, b⟩ = false := by simpa using he
    obtain ⟨ha, hb⟩ := emp_f.1 he
    simp only at ha hb
    go_enter Try.func55, Try.ntmps55
    go_wp2_with fail
    refine (Empty_any _ _ _ _ _).mono ?_
    rintro e w1 ⟨rfl, hb1⟩
    obtain ⟨hc1, -⟩ := bcell hb1
    go_wp2_with fail
    refine (has_any _ _ _ _ (by omega) (by omega) (by omega) (by omega) (by omega) (by omega)).mono ?_
    rintro e w2 ⟨rfl, rfl⟩
    by_cases h1 : (decide (x ≤ p) && decide (p < x + a)) = true
    · go_wp2_with fail
      refine (has_any _ _ _ _ (by omega) (by omega) (by omega) (by omega) (by omega) (by omega)).mono ?_
      rintro e w2 ⟨rfl, rfl⟩
      go_wp2_with fail
      go_ret
      refine ⟨ret_bool ?_, ?_⟩
      · show (decide (y ≤ q) && decide (q < y + b)) = _
        rw [Bool.eq_iff_iff, has_iff]
        simp at h1
        simp [inR]; omega
      repeat (first | exact Below.refl _ _ | apply bl_alloc | apply bl_drew | apply bl_drewN | refine bl_set ?_ (by simp) _ | (refine bl_step ?_ (by assumption)))
    · have h1 : (decide (x ≤ p) && decide (p < x + a)) = false := by simpa using h1
      go_wp2_with fail
      go_ret
      refine ⟨ret_bool ?_, ?_⟩
      · symm
        rw [Bool.eq_false_iff, Ne, has_iff]
        simp at h1
        simp only [inR]; omega
      repeat (first | exact Below.refl _ _ | apply bl_alloc | apply bl_drew | apply bl_drewN | refine bl_set ?_ (by simp) _ | (refine bl_step ?_ (by assumption)))

end Go.Proofs.Ytogcokfildbodaa.Rect
