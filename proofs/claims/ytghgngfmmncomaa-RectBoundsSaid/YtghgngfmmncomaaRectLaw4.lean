/- The walk of the law RectBounds. -/
import Derived.Test.YtghgngfmmncomaaRectLaw
namespace Go.Proofs.Ytghgngfmmncomaa.Rect
open Go.RowKit Go.Proofs.Ytghgngfmmncomaa.Kit
attribute [local go_sem high] bmax2 bmin2 bmax_2 bmin_2 bmax_3 bmin_3 bmax_4 bmin_4 rEq

theorem bounds_1 {o y k : Int} (o0 : 0 ≤ o) (ok : o ≤ k) (k1 : 1 ≤ k) (kb : k ≤ 1000) (y0 : 0 ≤ y) (y1 : y < 1000) :
    rBound ⟨16777216 - o, y, k, 5⟩ = if o = 0 then zR else ⟨16777216 - o, y, o, 5⟩ := by
  unfold rBound
  have e : emp ⟨16777216 - o, y, k, 5⟩ = false := by rw [emp_f]; simp only; omega
  rw [if_neg (by simp [e])]
  split
  · exact rOf_z (by simp only; omega)
  · rw [rOf_mk (by simp only; omega)]
    exact R.ext' (by simp only; omega) (by simp only; omega) (by simp only; omega) (by simp only; omega)
theorem bounds_2 {o y k : Int} (o0 : 0 ≤ o) (ok : o ≤ k) (k1 : 1 ≤ k) (kb : k ≤ 1000) (y0 : 0 ≤ y) (y1 : y < 1000) :
    rBound ⟨-16777216 - k + o, y, k, 5⟩ = if o = 0 then zR else ⟨-16777216, y, o, 5⟩ := by
  unfold rBound
  have e : emp ⟨-16777216 - k + o, y, k, 5⟩ = false := by rw [emp_f]; simp only; omega
  rw [if_neg (by simp [e])]
  split
  · exact rOf_z (by simp only; omega)
  · rw [rOf_mk (by simp only; omega)]
    exact R.ext' (by simp only; omega) (by simp only; omega) (by simp only; omega) (by simp only; omega)
theorem bounds_3 : rBound ⟨-9223372036854775808, -9223372036854775808, 9223372036854775807, 9223372036854775807⟩ = ⟨-16777216, -16777216, 16777215, 16777215⟩ := by
  rw [← eqR_iff]; decide

set_option maxHeartbeats 16000000 in
theorem RectBounds_walk (x : Int) (wx : (Lit.int .i64 x).wf = true) (n : Int) (wn : (Lit.int .i64 n).wf = true) (v : Int) (wv : (Lit.int .i64 v).wf = true) (w : World) :
    Calls Try.prog 9 #[.int .i64 x, .int .i64 n, .int .i64 v] w fun e w' => e = .returned (.bool true) ∧ Below w.heap.size w w' := by
  clear wx wn wv
  have hk : 0 ≤ n % 1000 ∧ n % 1000 < 1000 := by omega
  have hy : 0 ≤ x % 1000 ∧ x % 1000 < 1000 := by omega
  have qk := fun w => place_any n 1000 w (by omega) (by omega)
  have qy := fun w => place_any x 1000 w (by omega) (by omega)
  generalize n % 1000 = k at *
  generalize x % 1000 = y at *
  obtain ⟨k0, k1⟩ := hk
  obtain ⟨y0, y1⟩ := hy
  have ho : 0 ≤ v % (1 + k + 1) ∧ v % (1 + k + 1) < 1 + k + 1 := ⟨Int.emod_nonneg _ (by omega), Int.emod_lt_of_pos _ (by omega)⟩
  have qo := fun w => place_any v (1 + k + 1) w (by omega) (by omega)
  generalize v % (1 + k + 1) = o at *
  obtain ⟨o0, o1⟩ := ho
  have Qk := Lib.hid qk
  have Qy := Lib.hid qy
  have Qo := Lib.hid qo
  clear qk qy qo
  by_cases hz : o = 0
  · skip
    have E1 : Hid (rBound ⟨16777216 - o, y, 1 + k, 5⟩ = zR) := Lib.hid (by rw [bounds_1 o0 (by omega) (by omega) (by omega) y0 y1]; rw [if_pos hz])
    have E2 : Hid (rBound ⟨-16777216 - (1 + k) + o, y, 1 + k, 5⟩ = zR) := Lib.hid (by rw [bounds_2 o0 (by omega) (by omega) (by omega) y0 y1]; rw [if_pos hz])
    have E3 := Lib.hid bounds_3
    have hd : (o == 0) = true := by rw [beq_iff_eq]; omega
    have qr := eqR_refl
    have qz : eqR ⟨zR.x, zR.y, zR.w, zR.h⟩ ⟨0, 0, 0, 0⟩ = true := by decide
    have HZ := Lib.hid hz
    clear hz
    go_enter Try.func9, Try.ntmps9
    go_wp2_with fail
    refine (Qk.out _).mono ?_
    rintro e wx ⟨rfl, rfl⟩
    go_wp2_with fail
    refine (Qo.out _).mono ?_
    rintro e wx ⟨rfl, rfl⟩
    go_wp2_with fail
    refine (Qy.out _).mono ?_
    rintro e wx ⟨rfl, rfl⟩
    go_wp2_with fail
    refine (Bound_any _ _ _ _ _ (by unfold I64; simp only; omega)).mono ?_
    rintro e w1 ⟨rfl, hbw1⟩
    rw [E1.out]
    go_wp2_with fail
    refine (Bound_any _ _ _ _ _ (by unfold I64; simp only; omega)).mono ?_
    rintro e w2 ⟨rfl, hbw2⟩
    rw [E2.out]
    have B1 := Bk.be (Bk.new _ _ _) hbw2
    obtain ⟨b10, b11, b12, b13⟩ := B1.c4
    have l1 := B1.lt
    go_wp2_with fail
    refine (awake07 _).mono ?_
    rintro e w4 ⟨rfl, hbw4⟩
    go_wp2_with fail
    go_ret
    refine ⟨rfl, ?_⟩
    repeat (first | (with_reducible exact Below.refl _ _) | (with_reducible apply bl_alloc) | (with_reducible apply bl_drew) | (with_reducible apply bl_drewN) | ((with_reducible refine bl_set ?_ ?hs _); case hs => (simp; try omega)) | (with_reducible refine bl_step ?_ (by assumption)))
  · skip
    have E1 : Hid (rBound ⟨16777216 - o, y, 1 + k, 5⟩ = ⟨16777216 - o, y, o, 5⟩) := Lib.hid (by rw [bounds_1 o0 (by omega) (by omega) (by omega) y0 y1]; rw [if_neg hz])
    have E2 : Hid (rBound ⟨-16777216 - (1 + k) + o, y, 1 + k, 5⟩ = ⟨-16777216, y, o, 5⟩) := Lib.hid (by rw [bounds_2 o0 (by omega) (by omega) (by omega) y0 y1]; rw [if_neg hz])
    have E3 := Lib.hid bounds_3
    have hd : (o == 0) = false := by rw [beq_eq_false_iff_ne]; omega
    have qr := eqR_refl
    go_enter Try.func9, Try.ntmps9
    go_wp2_with fail
    refine (Qk.out _).mono ?_
    rintro e wx ⟨rfl, rfl⟩
    go_wp2_with fail
    refine (Qo.out _).mono ?_
    rintro e wx ⟨rfl, rfl⟩
    go_wp2_with fail
    refine (Qy.out _).mono ?_
    rintro e wx ⟨rfl, rfl⟩
    go_wp2_with fail
    refine (Bound_any _ _ _ _ _ (by unfold I64; simp only; omega)).mono ?_
    rintro e w1 ⟨rfl, hbw1⟩
    rw [E1.out]
    go_wp2_with fail
    refine (Bound_any _ _ _ _ _ (by unfold I64; simp only; omega)).mono ?_
    rintro e w2 ⟨rfl, hbw2⟩
    rw [E2.out]
    have B1 := Bk.be (Bk.new _ _ _) hbw2
    obtain ⟨b10, b11, b12, b13⟩ := B1.c4
    have l1 := B1.lt
    go_wp2_with fail
    refine (Bound_any _ _ _ _ _ (by unfold I64; simp only; omega)).mono ?_
    rintro e w3 ⟨rfl, hbw3⟩
    rw [E3.out]
    go_wp2_with fail
    refine (awake07 _).mono ?_
    rintro e w4 ⟨rfl, hbw4⟩
    go_wp2_with fail
    go_ret
    refine ⟨rfl, ?_⟩
    repeat (first | (with_reducible exact Below.refl _ _) | (with_reducible apply bl_alloc) | (with_reducible apply bl_drew) | (with_reducible apply bl_drewN) | ((with_reducible refine bl_set ?_ ?hs _); case hs => (simp; try omega)) | (with_reducible refine bl_step ?_ (by assumption)))

end Go.Proofs.Ytghgngfmmncomaa.Rect
