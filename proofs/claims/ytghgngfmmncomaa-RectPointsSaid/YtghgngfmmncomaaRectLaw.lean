/- The walks of the laws on rectangles. -/
import Derived.Test.YtghgngfmmncomaaRectWalk4
import Derived.Test.YtghgngfmmncomaaPlace
import Derived.OpenShut
namespace Go.Proofs.Ytghgngfmmncomaa.Rect
open Go.RowKit Go.Proofs.Ytghgngfmmncomaa.Kit
attribute [local go_sem high] bmax2 bmin2 bmax_2 bmin_2 bmax_3 bmin_3 bmax_4 bmin_4 rEq

theorem has_yes {x y a b p q : Int} (h : 1 ≤ a ∧ 1 ≤ b ∧ x ≤ p ∧ p < x + a ∧ y ≤ q ∧ q < y + b) : rHas ⟨x, y, a, b⟩ p q = true := has_iff.2 h
theorem has_not {x y a b p q : Int} (h : ¬ (1 ≤ a ∧ 1 ≤ b ∧ x ≤ p ∧ p < x + a ∧ y ≤ q ∧ q < y + b)) : rHas ⟨x, y, a, b⟩ p q = false := by
  rw [Bool.eq_false_iff, Ne, has_iff]; exact h

set_option maxHeartbeats 8000000 in
theorem RectCorners_walk (ax : Int) (wax : (Lit.int .i64 ax).wf = true) (ay : Int) (way : (Lit.int .i64 ay).wf = true) (aw : Int) (waw : (Lit.int .i64 aw).wf = true) (ah : Int) (wah : (Lit.int .i64 ah).wf = true) (w : World) :
    Calls Try.prog 3 #[.agg #[.int .i64 ax, .int .i64 ay, .int .i64 aw, .int .i64 ah]] w fun e w' => e = .returned (.bool true) ∧ Below w.heap.size w w' := by
  obtain ⟨ax0, ax1⟩ := bounds_i64 wax
  obtain ⟨ay0, ay1⟩ := bounds_i64 way
  obtain ⟨aw0, aw1⟩ := bounds_i64 waw
  obtain ⟨ah0, ah1⟩ := bounds_i64 wah
  clear wax way waw wah
  have hr : I64 ⟨ax, ay, aw, ah⟩ := ⟨⟨ax0, ax1⟩, ⟨ay0, ay1⟩, ⟨aw0, aw1⟩, ah0, ah1⟩
  by_cases hc : rChk ⟨ax, ay, aw, ah⟩ = true
  · have hk := chk_iff.1 hc
    simp only [chkR] at hk
    obtain ⟨k1, k2, k3, k4, k5, k6⟩ := hk
    have F0 : Hid (rHas ⟨ax, ay, aw, ah⟩ (ax) (ay) = true) := Lib.hid (has_yes (by omega))
    have F1 : Hid (rHas ⟨ax, ay, aw, ah⟩ (ax + aw - 1) (ay + ah - 1) = true) := Lib.hid (has_yes (by omega))
    have F2 : Hid (rHas ⟨ax, ay, aw, ah⟩ (ax - 1) (ay) = false) := Lib.hid (has_not (by omega))
    have F3 : Hid (rHas ⟨ax, ay, aw, ah⟩ (ax + aw) (ay + ah - 1) = false) := Lib.hid (has_not (by omega))
    have F4 : Hid (rHas ⟨ax, ay, aw, ah⟩ (ax + aw - 1) (ay + ah) = false) := Lib.hid (has_not (by omega))
    have F5 : Hid (rHas ⟨ax, ay, aw, ah⟩ (ax) (ay - 1) = false) := Lib.hid (has_not (by omega))
    go_enter Try.func3, Try.ntmps3
    go_wp2_with fail
    refine (Check_any _ _ _ _ _ hr).mono ?_
    rintro e wa ⟨rfl, hbwa⟩
    have Bawa : Bk wa (w.heap.size) 23 #[.int .i64 ax, .int .i64 ay, .int .i64 aw, .int .i64 ah] := (Bk.new' _ _ _ (by simp)).be hbwa
    obtain ⟨awa0, awa1, awa2, awa3⟩ := Bawa.c4
    have awaf := Bawa.fz
    go_wp2_with fail
    go_quiet (fail)
    go_wp2_with fail
    refine (Has_any _ _ _ _ _ _ _ hr (by omega) (by omega)).mono ?_
    rintro e x0 ⟨rfl, hbx0⟩
    rw [F0.out]
    have Ba : Bk x0 (w.heap.size) 23 #[.int .i64 ax, .int .i64 ay, .int .i64 aw, .int .i64 ah] := (Bk.be (Bawa.drN _) hbx0)
    obtain ⟨c00, c01, c02, c03⟩ := Ba.c4
    go_wp2_with fail
    refine (Has_any _ _ _ _ _ _ _ hr (by omega) (by omega)).mono ?_
    rintro e x1 ⟨rfl, hbx1⟩
    rw [F1.out]
    replace Ba : Bk x1 (w.heap.size) 23 #[.int .i64 ax, .int .i64 ay, .int .i64 aw, .int .i64 ah] := Bk.be Ba hbx1
    obtain ⟨c10, c11, c12, c13⟩ := Ba.c4
    go_wp2_with fail
    refine (Has_any _ _ _ _ _ _ _ hr (by omega) (by omega)).mono ?_
    rintro e x2 ⟨rfl, hbx2⟩
    rw [F2.out]
    replace Ba : Bk x2 (w.heap.size) 23 #[.int .i64 ax, .int .i64 ay, .int .i64 aw, .int .i64 ah] := Bk.be Ba hbx2
    obtain ⟨c20, c21, c22, c23⟩ := Ba.c4
    go_wp2_with fail
    refine (Has_any _ _ _ _ _ _ _ hr (by omega) (by omega)).mono ?_
    rintro e x3 ⟨rfl, hbx3⟩
    rw [F3.out]
    replace Ba : Bk x3 (w.heap.size) 23 #[.int .i64 ax, .int .i64 ay, .int .i64 aw, .int .i64 ah] := Bk.be Ba hbx3
    obtain ⟨c30, c31, c32, c33⟩ := Ba.c4
    go_wp2_with fail
    refine (Has_any _ _ _ _ _ _ _ hr (by omega) (by omega)).mono ?_
    rintro e x4 ⟨rfl, hbx4⟩
    rw [F4.out]
    replace Ba : Bk x4 (w.heap.size) 23 #[.int .i64 ax, .int .i64 ay, .int .i64 aw, .int .i64 ah] := Bk.be Ba hbx4
    obtain ⟨c40, c41, c42, c43⟩ := Ba.c4
    go_wp2_with fail
    refine (Has_any _ _ _ _ _ _ _ hr (by omega) (by omega)).mono ?_
    rintro e x5 ⟨rfl, hbx5⟩
    rw [F5.out]
    go_wp2_with fail
    refine (awake07 _).mono ?_
    rintro e wz ⟨rfl, hbwz⟩
    go_wp2_with fail
    go_ret
    refine ⟨rfl, ?_⟩
    repeat (first | (with_reducible exact Below.refl _ _) | (with_reducible apply bl_alloc) | (with_reducible apply bl_drew) | (with_reducible apply bl_drewN) | ((with_reducible refine bl_set ?_ ?hs _); case hs => (simp; try omega)) | (with_reducible refine bl_step ?_ (by assumption)))
  · have hc : rChk ⟨ax, ay, aw, ah⟩ = false := by simpa using hc
    go_enter Try.func3, Try.ntmps3
    go_wp2_with fail
    refine (Check_any _ _ _ _ _ hr).mono ?_
    rintro e wa ⟨rfl, hbwa⟩
    have Bawa : Bk wa (w.heap.size) 23 #[.int .i64 ax, .int .i64 ay, .int .i64 aw, .int .i64 ah] := (Bk.new' _ _ _ (by simp)).be hbwa
    obtain ⟨awa0, awa1, awa2, awa3⟩ := Bawa.c4
    have awaf := Bawa.fz
    go_wp2_with fail
    refine (rCheck_any _ _ _ _ _ hr).mono ?_
    rintro e wb ⟨rfl, hbwb⟩
    go_wp2_with fail
    refine (awake07 _).mono ?_
    rintro e wz ⟨rfl, hbwz⟩
    go_wp2_with fail
    go_ret
    refine ⟨rfl, ?_⟩
    repeat (first | (with_reducible exact Below.refl _ _) | (with_reducible apply bl_alloc) | (with_reducible apply bl_drew) | (with_reducible apply bl_drewN) | ((with_reducible refine bl_set ?_ ?hs _); case hs => (simp; try omega)) | (with_reducible refine bl_step ?_ (by assumption)))

theorem refl2 (a : R) : eqR a a = true := eqR_refl a
set_option maxHeartbeats 16000000 in
theorem RectAll_walk (ax : Int) (wax : (Lit.int .i64 ax).wf = true) (ay : Int) (way : (Lit.int .i64 ay).wf = true) (aw : Int) (waw : (Lit.int .i64 aw).wf = true) (ah : Int) (wah : (Lit.int .i64 ah).wf = true) (bx : Int) (wbx : (Lit.int .i64 bx).wf = true) (bY : Int) (wbY : (Lit.int .i64 bY).wf = true) (bw : Int) (wbw : (Lit.int .i64 bw).wf = true) (bh : Int) (wbh : (Lit.int .i64 bh).wf = true) (x : Int) (wx : (Lit.int .i64 x).wf = true) (y : Int) (wy : (Lit.int .i64 y).wf = true) (w : World) :
    Calls Try.prog 14 #[.agg #[.int .i64 ax, .int .i64 ay, .int .i64 aw, .int .i64 ah], .agg #[.int .i64 bx, .int .i64 bY, .int .i64 bw, .int .i64 bh], .int .i64 x, .int .i64 y] w fun e w' => e = .returned (.bool true) ∧ Below w.heap.size w w' := by
  obtain ⟨ax0, ax1⟩ := bounds_i64 wax
  obtain ⟨ay0, ay1⟩ := bounds_i64 way
  obtain ⟨aw0, aw1⟩ := bounds_i64 waw
  obtain ⟨ah0, ah1⟩ := bounds_i64 wah
  clear wax way waw wah
  obtain ⟨bx0, bx1⟩ := bounds_i64 wbx
  obtain ⟨bY0, bY1⟩ := bounds_i64 wbY
  obtain ⟨bw0, bw1⟩ := bounds_i64 wbw
  obtain ⟨bh0, bh1⟩ := bounds_i64 wbh
  clear wbx wbY wbw wbh
  obtain ⟨x0, x1⟩ := bounds_i64 wx
  obtain ⟨y0, y1⟩ := bounds_i64 wy
  clear wx wy
  have hr : I64 ⟨ax, ay, aw, ah⟩ := ⟨⟨ax0, ax1⟩, ⟨ay0, ay1⟩, ⟨aw0, aw1⟩, ah0, ah1⟩
  have hs : I64 ⟨bx, bY, bw, bh⟩ := ⟨⟨bx0, bx1⟩, ⟨bY0, bY1⟩, ⟨bw0, bw1⟩, bh0, bh1⟩
  have hX : -9223372036854775808 ≤ x ∧ x ≤ 9223372036854775807 := ⟨x0, x1⟩
  have hY : -9223372036854775808 ≤ y ∧ y ≤ 9223372036854775807 := ⟨y0, y1⟩
  have qr := eqR_refl
  go_enter Try.func14, Try.ntmps14
  go_wp2_with fail
  generalize hwv : ((w.alloc (.cells #[.int .i64 ax, .int .i64 ay, .int .i64 aw, .int .i64 ah] 23)).alloc (.cells #[.int .i64 bx, .int .i64 bY, .int .i64 bw, .int .i64 bh] 23)) = wv
  have Ba : Bk wv (w.heap.size) 23 #[.int .i64 ax, .int .i64 ay, .int .i64 aw, .int .i64 ah] := by rw [← hwv]; exact (Bk.al (Bk.new' _ _ _ (by simp)) _)
  obtain ⟨a0, a1, a2, a3⟩ := Ba.c4
  have Bb : Bk wv (w.heap.size + 1) 23 #[.int .i64 bx, .int .i64 bY, .int .i64 bw, .int .i64 bh] := by rw [← hwv]; exact (Bk.new' _ _ _ (by simp))
  obtain ⟨b0, b1, b2, b3⟩ := Bb.c4
  have hbv : Below w.heap.size w wv := by
    rw [← hwv]
    repeat (first | (with_reducible exact Below.refl _ _) | (with_reducible apply bl_alloc) | (with_reducible apply bl_drew) | (with_reducible apply bl_drewN) | ((with_reducible refine bl_set ?_ ?hs _); case hs => (simp; try omega)) | (with_reducible refine bl_step ?_ (by assumption)))
  clear hwv
  go_region_held3 (fun w' => w'.cell? ⟨w.heap.size, 0, none⟩ = some (.int .i64 ax) ∧ w'.cell? ⟨w.heap.size, 1, none⟩ = some (.int .i64 ay) ∧ w'.cell? ⟨w.heap.size, 2, none⟩ = some (.int .i64 aw) ∧ w'.cell? ⟨w.heap.size, 3, none⟩ = some (.int .i64 ah) ∧ w'.cell? ⟨w.heap.size + 1, 0, none⟩ = some (.int .i64 bx) ∧ w'.cell? ⟨w.heap.size + 1, 1, none⟩ = some (.int .i64 bY) ∧ w'.cell? ⟨w.heap.size + 1, 2, none⟩ = some (.int .i64 bw) ∧ w'.cell? ⟨w.heap.size + 1, 3, none⟩ = some (.int .i64 bh))
    (first | (with_reducible exact ⟨a0, a1, a2, a3, b0, b1, b2, b3⟩) | go_keep)
    (first | (go_at_call 15; refine (Check_any _ _ _ _ _ hr).mono ?_; rintro e wn ⟨rfl, hbwn⟩; (first | replace Ba := Bk.be Ba hbwn | replace Ba := Bk.be Ba.dr hbwn | replace Ba := Bk.be (Ba.drN _) hbwn); clear a0 a1 a2 a3; obtain ⟨a0, a1, a2, a3⟩ := Ba.c4; (first | replace Bb := Bk.be Bb hbwn | replace Bb := Bk.be Bb.dr hbwn | replace Bb := Bk.be (Bb.drN _) hbwn); clear b0 b1 b2 b3; obtain ⟨b0, b1, b2, b3⟩ := Bb.c4; (first | replace hbv := bl_step hbv hbwn | replace hbv := bl_step (bl_drew hbv) hbwn | replace hbv := bl_step (bl_drewN hbv _) hbwn); clear hbwn; skip) | (go_at_call 16; refine (rCheck_any _ _ _ _ _ hr).mono ?_; rintro e wn ⟨rfl, hbwn⟩; (first | replace Ba := Bk.be Ba hbwn | replace Ba := Bk.be Ba.dr hbwn | replace Ba := Bk.be (Ba.drN _) hbwn); clear a0 a1 a2 a3; obtain ⟨a0, a1, a2, a3⟩ := Ba.c4; (first | replace Bb := Bk.be Bb hbwn | replace Bb := Bk.be Bb.dr hbwn | replace Bb := Bk.be (Bb.drN _) hbwn); clear b0 b1 b2 b3; obtain ⟨b0, b1, b2, b3⟩ := Bb.c4; (first | replace hbv := bl_step hbv hbwn | replace hbv := bl_step (bl_drew hbv) hbwn | replace hbv := bl_step (bl_drewN hbv _) hbwn); clear hbwn; skip) | (go_at_call 35; refine (Empty_any _ _ _ _ _).mono ?_; rintro e wn ⟨rfl, hbwn⟩; (first | replace Ba := Bk.be Ba hbwn | replace Ba := Bk.be Ba.dr hbwn | replace Ba := Bk.be (Ba.drN _) hbwn); clear a0 a1 a2 a3; obtain ⟨a0, a1, a2, a3⟩ := Ba.c4; (first | replace Bb := Bk.be Bb hbwn | replace Bb := Bk.be Bb.dr hbwn | replace Bb := Bk.be (Bb.drN _) hbwn); clear b0 b1 b2 b3; obtain ⟨b0, b1, b2, b3⟩ := Bb.c4; (first | replace hbv := bl_step hbv hbwn | replace hbv := bl_step (bl_drew hbv) hbwn | replace hbv := bl_step (bl_drewN hbv _) hbwn); clear hbwn; skip) | (go_at_call 37; refine (rEmpty_any _ _ _ _ _).mono ?_; rintro e wn ⟨rfl, hbwn⟩; (first | replace Ba := Bk.be Ba hbwn | replace Ba := Bk.be Ba.dr hbwn | replace Ba := Bk.be (Ba.drN _) hbwn); clear a0 a1 a2 a3; obtain ⟨a0, a1, a2, a3⟩ := Ba.c4; (first | replace Bb := Bk.be Bb hbwn | replace Bb := Bk.be Bb.dr hbwn | replace Bb := Bk.be (Bb.drN _) hbwn); clear b0 b1 b2 b3; obtain ⟨b0, b1, b2, b3⟩ := Bb.c4; (first | replace hbv := bl_step hbv hbwn | replace hbv := bl_step (bl_drew hbv) hbwn | replace hbv := bl_step (bl_drewN hbv _) hbwn); clear hbwn; skip) | (go_at_call 18; refine (Has_any _ _ _ _ _ _ _ hr hX hY).mono ?_; rintro e wn ⟨rfl, hbwn⟩; (first | replace Ba := Bk.be Ba hbwn | replace Ba := Bk.be Ba.dr hbwn | replace Ba := Bk.be (Ba.drN _) hbwn); clear a0 a1 a2 a3; obtain ⟨a0, a1, a2, a3⟩ := Ba.c4; (first | replace Bb := Bk.be Bb hbwn | replace Bb := Bk.be Bb.dr hbwn | replace Bb := Bk.be (Bb.drN _) hbwn); clear b0 b1 b2 b3; obtain ⟨b0, b1, b2, b3⟩ := Bb.c4; (first | replace hbv := bl_step hbv hbwn | replace hbv := bl_step (bl_drew hbv) hbwn | replace hbv := bl_step (bl_drewN hbv _) hbwn); clear hbwn; skip) | (go_at_call 38; refine (rHas_any _ _ _ _ _ _ _ hr hX hY).mono ?_; rintro e wn ⟨rfl, hbwn⟩; (first | replace Ba := Bk.be Ba hbwn | replace Ba := Bk.be Ba.dr hbwn | replace Ba := Bk.be (Ba.drN _) hbwn); clear a0 a1 a2 a3; obtain ⟨a0, a1, a2, a3⟩ := Ba.c4; (first | replace Bb := Bk.be Bb hbwn | replace Bb := Bk.be Bb.dr hbwn | replace Bb := Bk.be (Bb.drN _) hbwn); clear b0 b1 b2 b3; obtain ⟨b0, b1, b2, b3⟩ := Bb.c4; (first | replace hbv := bl_step hbv hbwn | replace hbv := bl_step (bl_drew hbv) hbwn | replace hbv := bl_step (bl_drewN hbv _) hbwn); clear hbwn; skip) | (go_at_call 28; refine (Bound_any _ _ _ _ _ hr).mono ?_; rintro e wn ⟨rfl, hbwn⟩; (first | replace Ba := Bk.be Ba hbwn | replace Ba := Bk.be Ba.dr hbwn | replace Ba := Bk.be (Ba.drN _) hbwn); clear a0 a1 a2 a3; obtain ⟨a0, a1, a2, a3⟩ := Ba.c4; (first | replace Bb := Bk.be Bb hbwn | replace Bb := Bk.be Bb.dr hbwn | replace Bb := Bk.be (Bb.drN _) hbwn); clear b0 b1 b2 b3; obtain ⟨b0, b1, b2, b3⟩ := Bb.c4; (first | replace hbv := bl_step hbv hbwn | replace hbv := bl_step (bl_drew hbv) hbwn | replace hbv := bl_step (bl_drewN hbv _) hbwn); clear hbwn; skip) | (go_at_call 39; refine (rBound_any _ _ _ _ _ hr).mono ?_; rintro e wn ⟨rfl, hbwn⟩; (first | replace Ba := Bk.be Ba hbwn | replace Ba := Bk.be Ba.dr hbwn | replace Ba := Bk.be (Ba.drN _) hbwn); clear a0 a1 a2 a3; obtain ⟨a0, a1, a2, a3⟩ := Ba.c4; (first | replace Bb := Bk.be Bb hbwn | replace Bb := Bk.be Bb.dr hbwn | replace Bb := Bk.be (Bb.drN _) hbwn); clear b0 b1 b2 b3; obtain ⟨b0, b1, b2, b3⟩ := Bb.c4; (first | replace hbv := bl_step hbv hbwn | replace hbv := bl_step (bl_drew hbv) hbwn | replace hbv := bl_step (bl_drewN hbv _) hbwn); clear hbwn; skip))
  by_cases ma : mayR ⟨ax, ay, aw, ah⟩ = true
  · by_cases mb : mayR ⟨bx, bY, bw, bh⟩ = true
    · have ma' := may_sm ma
      have mb' := may_sm mb
      go_wp2_with fail
      refine (may_any _ _ _ _ _ hr).mono ?_
      rintro e wn ⟨rfl, hbwn⟩
      (first | replace Ba := Bk.be Ba hbwn | replace Ba := Bk.be Ba.dr hbwn | replace Ba := Bk.be (Ba.drN _) hbwn)
      clear a0 a1 a2 a3
      obtain ⟨a0, a1, a2, a3⟩ := Ba.c4
      (first | replace Bb := Bk.be Bb hbwn | replace Bb := Bk.be Bb.dr hbwn | replace Bb := Bk.be (Bb.drN _) hbwn)
      clear b0 b1 b2 b3
      obtain ⟨b0, b1, b2, b3⟩ := Bb.c4
      (first | replace hbv := bl_step hbv hbwn | replace hbv := bl_step (bl_drew hbv) hbwn | replace hbv := bl_step (bl_drewN hbv _) hbwn)
      clear hbwn
      go_wp2_with fail
      refine (may_any _ _ _ _ _ hs).mono ?_
      rintro e wn ⟨rfl, hbwn⟩
      (first | replace Ba := Bk.be Ba hbwn | replace Ba := Bk.be Ba.dr hbwn | replace Ba := Bk.be (Ba.drN _) hbwn)
      clear a0 a1 a2 a3
      obtain ⟨a0, a1, a2, a3⟩ := Ba.c4
      (first | replace Bb := Bk.be Bb hbwn | replace Bb := Bk.be Bb.dr hbwn | replace Bb := Bk.be (Bb.drN _) hbwn)
      clear b0 b1 b2 b3
      obtain ⟨b0, b1, b2, b3⟩ := Bb.c4
      (first | replace hbv := bl_step hbv hbwn | replace hbv := bl_step (bl_drew hbv) hbwn | replace hbv := bl_step (bl_drewN hbv _) hbwn)
      clear hbwn
      go_wp2_with fail
      refine (place_any _ _ _ (by omega) (by omega)).mono ?_
      rintro e wx ⟨rfl, rfl⟩
      go_wp2_with fail
      refine (place_any _ _ _ (by omega) (by omega)).mono ?_
      rintro e wx ⟨rfl, rfl⟩
      have hx : 0 ≤ x % 16777216 ∧ x % 16777216 < 16777216 := by omega
      have hy : 0 ≤ y % 16777216 ∧ y % 16777216 < 16777216 := by omega
      generalize x % 16777216 = m at *
      generalize y % 16777216 = n at *
      obtain ⟨m0, m1⟩ := hx
      obtain ⟨n0, n1⟩ := hy
      have qn : IntKind.i64.wrap (-n) = -n := i64_in (by omega) (by omega)
      go_wp2_with fail
      go_region_held3 (fun w' => w'.cell? ⟨w.heap.size, 0, none⟩ = some (.int .i64 ax) ∧ w'.cell? ⟨w.heap.size, 1, none⟩ = some (.int .i64 ay) ∧ w'.cell? ⟨w.heap.size, 2, none⟩ = some (.int .i64 aw) ∧ w'.cell? ⟨w.heap.size, 3, none⟩ = some (.int .i64 ah) ∧ w'.cell? ⟨w.heap.size + 1, 0, none⟩ = some (.int .i64 bx) ∧ w'.cell? ⟨w.heap.size + 1, 1, none⟩ = some (.int .i64 bY) ∧ w'.cell? ⟨w.heap.size + 1, 2, none⟩ = some (.int .i64 bw) ∧ w'.cell? ⟨w.heap.size + 1, 3, none⟩ = some (.int .i64 bh))
        (first | (with_reducible exact ⟨a0, a1, a2, a3, b0, b1, b2, b3⟩) | go_keep)
        (first | (go_at_call 34; refine (Cut_any _ _ _ _ _ _ _ _ _ ma' mb').mono ?_; rintro e wn ⟨rfl, hbwn⟩; (first | replace Ba := Bk.be Ba hbwn | replace Ba := Bk.be Ba.dr hbwn | replace Ba := Bk.be (Ba.drN _) hbwn); clear a0 a1 a2 a3; obtain ⟨a0, a1, a2, a3⟩ := Ba.c4; (first | replace Bb := Bk.be Bb hbwn | replace Bb := Bk.be Bb.dr hbwn | replace Bb := Bk.be (Bb.drN _) hbwn); clear b0 b1 b2 b3; obtain ⟨b0, b1, b2, b3⟩ := Bb.c4; (first | replace hbv := bl_step hbv hbwn | replace hbv := bl_step (bl_drew hbv) hbwn | replace hbv := bl_step (bl_drewN hbv _) hbwn); clear hbwn; skip) | (go_at_call 40; refine (rCut_any _ _ _ _ _ _ _ _ _ ma' mb').mono ?_; rintro e wn ⟨rfl, hbwn⟩; (first | replace Ba := Bk.be Ba hbwn | replace Ba := Bk.be Ba.dr hbwn | replace Ba := Bk.be (Ba.drN _) hbwn); clear a0 a1 a2 a3; obtain ⟨a0, a1, a2, a3⟩ := Ba.c4; (first | replace Bb := Bk.be Bb hbwn | replace Bb := Bk.be Bb.dr hbwn | replace Bb := Bk.be (Bb.drN _) hbwn); clear b0 b1 b2 b3; obtain ⟨b0, b1, b2, b3⟩ := Bb.c4; (first | replace hbv := bl_step hbv hbwn | replace hbv := bl_step (bl_drew hbv) hbwn | replace hbv := bl_step (bl_drewN hbv _) hbwn); clear hbwn; skip) | (go_at_call 26; refine (Cover_any _ _ _ _ _ _ _ _ _ ma' mb').mono ?_; rintro e wn ⟨rfl, hbwn⟩; (first | replace Ba := Bk.be Ba hbwn | replace Ba := Bk.be Ba.dr hbwn | replace Ba := Bk.be (Ba.drN _) hbwn); clear a0 a1 a2 a3; obtain ⟨a0, a1, a2, a3⟩ := Ba.c4; (first | replace Bb := Bk.be Bb hbwn | replace Bb := Bk.be Bb.dr hbwn | replace Bb := Bk.be (Bb.drN _) hbwn); clear b0 b1 b2 b3; obtain ⟨b0, b1, b2, b3⟩ := Bb.c4; (first | replace hbv := bl_step hbv hbwn | replace hbv := bl_step (bl_drew hbv) hbwn | replace hbv := bl_step (bl_drewN hbv _) hbwn); clear hbwn; skip) | (go_at_call 41; refine (rCover_any _ _ _ _ _ _ _ _ _ ma' mb').mono ?_; rintro e wn ⟨rfl, hbwn⟩; (first | replace Ba := Bk.be Ba hbwn | replace Ba := Bk.be Ba.dr hbwn | replace Ba := Bk.be (Ba.drN _) hbwn); clear a0 a1 a2 a3; obtain ⟨a0, a1, a2, a3⟩ := Ba.c4; (first | replace Bb := Bk.be Bb hbwn | replace Bb := Bk.be Bb.dr hbwn | replace Bb := Bk.be (Bb.drN _) hbwn); clear b0 b1 b2 b3; obtain ⟨b0, b1, b2, b3⟩ := Bb.c4; (first | replace hbv := bl_step hbv hbwn | replace hbv := bl_step (bl_drew hbv) hbwn | replace hbv := bl_step (bl_drewN hbv _) hbwn); clear hbwn; skip) | (go_at_call 36; refine (Shift_any _ _ _ _ _ _ _ ma' (fun _ => by omega) (fun _ => by omega)).mono ?_; rintro e wn ⟨rfl, hbwn⟩; (first | replace Ba := Bk.be Ba hbwn | replace Ba := Bk.be Ba.dr hbwn | replace Ba := Bk.be (Ba.drN _) hbwn); clear a0 a1 a2 a3; obtain ⟨a0, a1, a2, a3⟩ := Ba.c4; (first | replace Bb := Bk.be Bb hbwn | replace Bb := Bk.be Bb.dr hbwn | replace Bb := Bk.be (Bb.drN _) hbwn); clear b0 b1 b2 b3; obtain ⟨b0, b1, b2, b3⟩ := Bb.c4; (first | replace hbv := bl_step hbv hbwn | replace hbv := bl_step (bl_drew hbv) hbwn | replace hbv := bl_step (bl_drewN hbv _) hbwn); clear hbwn; skip) | (go_at_call 42; refine (rShift_any _ _ _ _ _ _ _ ma' (fun _ => by omega) (fun _ => by omega)).mono ?_; rintro e wn ⟨rfl, hbwn⟩; (first | replace Ba := Bk.be Ba hbwn | replace Ba := Bk.be Ba.dr hbwn | replace Ba := Bk.be (Ba.drN _) hbwn); clear a0 a1 a2 a3; obtain ⟨a0, a1, a2, a3⟩ := Ba.c4; (first | replace Bb := Bk.be Bb hbwn | replace Bb := Bk.be Bb.dr hbwn | replace Bb := Bk.be (Bb.drN _) hbwn); clear b0 b1 b2 b3; obtain ⟨b0, b1, b2, b3⟩ := Bb.c4; (first | replace hbv := bl_step hbv hbwn | replace hbv := bl_step (bl_drew hbv) hbwn | replace hbv := bl_step (bl_drewN hbv _) hbwn); clear hbwn; skip) | (go_at_call 17; refine (awake07 _).mono ?_; rintro e wn ⟨rfl, hbwn⟩; (first | replace Ba := Bk.be Ba hbwn | replace Ba := Bk.be Ba.dr hbwn | replace Ba := Bk.be (Ba.drN _) hbwn); clear a0 a1 a2 a3; obtain ⟨a0, a1, a2, a3⟩ := Ba.c4; (first | replace Bb := Bk.be Bb hbwn | replace Bb := Bk.be Bb.dr hbwn | replace Bb := Bk.be (Bb.drN _) hbwn); clear b0 b1 b2 b3; obtain ⟨b0, b1, b2, b3⟩ := Bb.c4; (first | replace hbv := bl_step hbv hbwn | replace hbv := bl_step (bl_drew hbv) hbwn | replace hbv := bl_step (bl_drewN hbv _) hbwn); clear hbwn; skip))
      go_wp2_with fail
      go_ret
      refine ⟨rfl, ?_⟩
      repeat (first | (with_reducible exact Below.refl _ _) | (with_reducible apply bl_alloc) | (with_reducible apply bl_drew) | (with_reducible apply bl_drewN) | ((with_reducible refine bl_set ?_ ?hs _); case hs => (simp; try omega)) | (with_reducible refine bl_step ?_ (by assumption)))
    · have mb : mayR ⟨bx, bY, bw, bh⟩ = false := by simpa using mb
      go_wp2_with fail
      refine (may_any _ _ _ _ _ hr).mono ?_
      rintro e wn ⟨rfl, hbwn⟩
      (first | replace Ba := Bk.be Ba hbwn | replace Ba := Bk.be Ba.dr hbwn | replace Ba := Bk.be (Ba.drN _) hbwn)
      clear a0 a1 a2 a3
      obtain ⟨a0, a1, a2, a3⟩ := Ba.c4
      (first | replace Bb := Bk.be Bb hbwn | replace Bb := Bk.be Bb.dr hbwn | replace Bb := Bk.be (Bb.drN _) hbwn)
      clear b0 b1 b2 b3
      obtain ⟨b0, b1, b2, b3⟩ := Bb.c4
      (first | replace hbv := bl_step hbv hbwn | replace hbv := bl_step (bl_drew hbv) hbwn | replace hbv := bl_step (bl_drewN hbv _) hbwn)
      clear hbwn
      go_wp2_with fail
      refine (may_any _ _ _ _ _ hs).mono ?_
      rintro e wn ⟨rfl, hbwn⟩
      (first | replace Ba := Bk.be Ba hbwn | replace Ba := Bk.be Ba.dr hbwn | replace Ba := Bk.be (Ba.drN _) hbwn)
      clear a0 a1 a2 a3
      obtain ⟨a0, a1, a2, a3⟩ := Ba.c4
      (first | replace Bb := Bk.be Bb hbwn | replace Bb := Bk.be Bb.dr hbwn | replace Bb := Bk.be (Bb.drN _) hbwn)
      clear b0 b1 b2 b3
      obtain ⟨b0, b1, b2, b3⟩ := Bb.c4
      (first | replace hbv := bl_step hbv hbwn | replace hbv := bl_step (bl_drew hbv) hbwn | replace hbv := bl_step (bl_drewN hbv _) hbwn)
      clear hbwn
      go_wp2_with fail
      refine (awake07 _).mono ?_
      rintro e wn ⟨rfl, hbwn⟩
      (first | replace hbv := bl_step hbv hbwn | replace hbv := bl_step (bl_drew hbv) hbwn | replace hbv := bl_step (bl_drewN hbv _) hbwn)
      clear hbwn
      go_wp2_with fail
      go_ret
      refine ⟨rfl, ?_⟩
      repeat (first | (with_reducible exact Below.refl _ _) | (with_reducible apply bl_alloc) | (with_reducible apply bl_drew) | (with_reducible apply bl_drewN) | ((with_reducible refine bl_set ?_ ?hs _); case hs => (simp; try omega)) | (with_reducible refine bl_step ?_ (by assumption)))
  · have ma : mayR ⟨ax, ay, aw, ah⟩ = false := by simpa using ma
    go_wp2_with fail
    refine (may_any _ _ _ _ _ hr).mono ?_
    rintro e wn ⟨rfl, hbwn⟩
    (first | replace Ba := Bk.be Ba hbwn | replace Ba := Bk.be Ba.dr hbwn | replace Ba := Bk.be (Ba.drN _) hbwn)
    clear a0 a1 a2 a3
    obtain ⟨a0, a1, a2, a3⟩ := Ba.c4
    (first | replace Bb := Bk.be Bb hbwn | replace Bb := Bk.be Bb.dr hbwn | replace Bb := Bk.be (Bb.drN _) hbwn)
    clear b0 b1 b2 b3
    obtain ⟨b0, b1, b2, b3⟩ := Bb.c4
    (first | replace hbv := bl_step hbv hbwn | replace hbv := bl_step (bl_drew hbv) hbwn | replace hbv := bl_step (bl_drewN hbv _) hbwn)
    clear hbwn
    go_wp2_with fail
    refine (awake07 _).mono ?_
    rintro e wn ⟨rfl, hbwn⟩
    (first | replace hbv := bl_step hbv hbwn | replace hbv := bl_step (bl_drew hbv) hbwn | replace hbv := bl_step (bl_drewN hbv _) hbwn)
    clear hbwn
    go_wp2_with fail
    go_ret
    refine ⟨rfl, ?_⟩
    repeat (first | (with_reducible exact Below.refl _ _) | (with_reducible apply bl_alloc) | (with_reducible apply bl_drew) | (with_reducible apply bl_drewN) | ((with_reducible refine bl_set ?_ ?hs _); case hs => (simp; try omega)) | (with_reducible refine bl_step ?_ (by assumption)))

end Go.Proofs.Ytghgngfmmncomaa.Rect
