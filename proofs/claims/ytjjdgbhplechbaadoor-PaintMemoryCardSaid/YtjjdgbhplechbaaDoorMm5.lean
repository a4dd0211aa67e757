/- pool.Room of a place that is there. -/
import Derived.Test.YtjjdgbhplechbaaDoorMm4
set_option linter.unusedVariables false
set_option linter.unusedSimpArgs false
namespace Go.Proofs.YtjjdgbhplechbaaDoor.Mm
open Go.RowKit Go.Proofs.YtjjdgbhplechbaaDoor.Kit Go.Proofs.YtjjdgbhplechbaaDoor.Cv Go.Proofs.YtjjdgbhplechbaaDoor.Pix
set_option maxHeartbeats 8000000 in
theorem room_any (off wd hd sd : Nat) (w : World) (h1 : 1 ≤ wd) (h2 : 1 ≤ hd) (h3 : 4 * wd ≤ sd) (h4 : off ≤ 65536) (h5 : hd * sd ≤ 65536 - off) (h6 : sd ≤ 65536) :
    Calls Tryd.prog 63 #[.int .i64 65536, .int .i64 (off : Int), .int .i64 (wd : Int), .int .i64 (hd : Int), .int .i64 (sd : Int), .int .i64 1] w fun e w' => e = .returned .nilIface ∧ Below w.heap.size w w' := by
  have hd' : hd ≤ (65536 - off) / sd := (Nat.le_div_iff_mul_le (by omega)).2 h5
  obtain ⟨q, hq⟩ : ∃ q, sd / 4 = q := ⟨_, rfl⟩
  obtain ⟨r, hr⟩ : ∃ r, (65536 - off) / sd = r := ⟨_, rfl⟩
  rw [hr] at hd'
  have t1 : Int.tdiv (sd : Int) 4 = (q : Int) := by rw [← hq]; exact Int.tdiv_eq_ediv_of_nonneg (by omega) |>.trans (by simp)
  have e1 : IntKind.i64.wrap ((65536 : Int) - (off : Int)) = ((65536 - off : Nat) : Int) := by rw [i64_in (by omega) (by omega)]; omega
  have t2 : Int.tdiv ((65536 - off : Nat) : Int) (sd : Int) = (r : Int) := by rw [← hr]; exact Int.tdiv_eq_ediv_of_nonneg (by omega) |>.trans (by simp)
  have hr5 : r ≤ 65536 := by rw [← hr]; exact Nat.le_trans (Nat.div_le_self _ _) (by omega)
  have d1 : decide ((wd : Int) < 1) = false := by simp; omega
  have d2 : decide ((hd : Int) < 1) = false := by simp; omega
  have d3 : decide ((off : Int) < 0) = false := by simp
  have d4 : decide ((sd : Int) < 1) = false := by simp; omega
  have d5 : decide ((q : Int) < (wd : Int)) = false := by simp; omega
  have d6 : decide ((65536 : Int) < (off : Int)) = false := by simp; omega
  have d7 : decide ((r : Int) < (hd : Int)) = false := by simp; omega
  have d8 : ¬ ((sd : Int) = 0) := by omega
  have d9 : decide ((sd : Int) = 0) = false := by simp; omega
  have d10 : ((sd : Int) == 0) = false := by simp; omega
  have d11 : decide (q < wd) = false := by simp; omega
  have d12 : decide (r < hd) = false := by simp; omega
  have s1 : IntKind.i64.wrap (q : Int) = (q : Int) := i64_in (by omega) (by omega)
  have s2 : IntKind.i64.wrap (r : Int) = (r : Int) := i64_in (by omega) (by omega)
  go_enter Tryd.func63, Tryd.ntmps63
  go_wp2_with fail
  go_ret
  exact ⟨rfl, Below.refl _ _⟩
end Go.Proofs.YtjjdgbhplechbaaDoor.Mm
