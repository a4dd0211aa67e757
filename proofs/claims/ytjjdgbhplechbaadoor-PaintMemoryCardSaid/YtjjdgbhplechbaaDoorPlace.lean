/- Place: any number as one from 0 to n - 1. -/
import Derived.Test.YtjjdgbhplechbaaDoorRows
import Derived.Test.YtjjdgbhplechbaaDoorKit
set_option linter.unusedVariables false
set_option linter.unusedSimpArgs false
namespace Go.Proofs.YtjjdgbhplechbaaDoor.Kit
open Go.RowKit

theorem tmod_lo (v n : Int) (hn : 0 < n) : -n < Int.tmod v n := by
  have h1 := Int.tmod_lt_of_pos (-v) hn
  rw [Int.neg_tmod] at h1
  omega
theorem tmod_neg {v n : Int} (hn : 0 < n) (h : Int.tmod v n < 0) : Int.tmod v n + n = v % n := by
  have h1 := Int.tmod_add_mul_tdiv v n
  have h2 := Int.emod_add_mul_ediv v n
  have h3 := Int.emod_nonneg v (show n ≠ 0 by omega)
  have h4 := Int.emod_lt_of_pos v hn
  have h5 := tmod_lo v n hn
  have h6 : n * (Int.tdiv v n - v / n - 1) = v % n - (Int.tmod v n + n) := by
    rw [Int.mul_sub, Int.mul_sub]; omega
  have h7 : Int.tdiv v n - v / n - 1 = 0 := by
    rcases Int.lt_trichotomy (Int.tdiv v n - v / n - 1) 0 with h | h | h
    · have : n * (Int.tdiv v n - v / n - 1) ≤ n * (-1) := Int.mul_le_mul_of_nonneg_left (by omega) (by omega)
      omega
    · exact h
    · have : n * 1 ≤ n * (Int.tdiv v n - v / n - 1) := Int.mul_le_mul_of_nonneg_left (by omega) (by omega)
      omega
  rw [h7] at h6
  omega
theorem tmod_pos {v n : Int} (hn : 0 < n) (h : ¬ Int.tmod v n < 0) : Int.tmod v n = v % n := by
  have h1 := Int.tmod_add_mul_tdiv v n
  have h2 := Int.emod_add_mul_ediv v n
  have h3 := Int.emod_nonneg v (show n ≠ 0 by omega)
  have h4 := Int.emod_lt_of_pos v hn
  have h5 := Int.tmod_lt_of_pos v hn
  have h6 : n * (Int.tdiv v n - v / n) = v % n - Int.tmod v n := by
    rw [Int.mul_sub]; omega
  have h7 : Int.tdiv v n - v / n = 0 := by
    rcases Int.lt_trichotomy (Int.tdiv v n - v / n) 0 with h | h | h
    · have : n * (Int.tdiv v n - v / n) ≤ n * (-1) := Int.mul_le_mul_of_nonneg_left (by omega) (by omega)
      omega
    · exact h
    · have : n * 1 ≤ n * (Int.tdiv v n - v / n) := Int.mul_le_mul_of_nonneg_left (by omega) (by omega)
      omega
  rw [h7] at h6
  omega

set_option maxHeartbeats 1000000 in
theorem place_any (v n : Int) (w : World) (h0 : 0 < n) (h1 : n ≤ 4611686018427387904) :
    Calls Tryd.prog 14 #[.int .i64 v, .int .i64 n] w fun e w' => e = .returned (.int .i64 (v % n)) ∧ w = w' := by
  have hne : (n == 0) = false := by rw [beq_eq_false_iff_ne]; omega
  have hd := tmod_lo v n h0
  have hd' := Int.tmod_lt_of_pos v h0
  by_cases h : Int.tmod v n < 0
  · have e := Lib.hid (tmod_neg h0 h)
    go_enter Tryd.func14, Tryd.ntmps14
    go_wp2
    go_ret
    exact ⟨ret_int e.out, rfl⟩
  · have e := Lib.hid (tmod_pos h0 h)
    go_enter Tryd.func14, Tryd.ntmps14
    go_wp2
    go_ret
    exact ⟨ret_int e.out, rfl⟩
end Go.Proofs.YtjjdgbhplechbaaDoor.Kit
