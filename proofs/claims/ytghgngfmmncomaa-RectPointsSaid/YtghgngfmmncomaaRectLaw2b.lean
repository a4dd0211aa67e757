/- The walk of the law RectPoints. -/
import Derived.Test.YtghgngfmmncomaaRectLaw
namespace Go.Proofs.Ytghgngfmmncomaa.Rect
open Go.RowKit Go.Proofs.Ytghgngfmmncomaa.Kit
attribute [local go_sem high] bmax2 bmin2 bmax_2 bmin_2 bmax_3 bmin_3 bmax_4 bmin_4 rEq

set_option maxHeartbeats 16000000 in
theorem Points_tf (ax : Int) (wax : (Lit.int .i64 ax).wf = true) (ay : Int) (way : (Lit.int .i64 ay).wf = true) (aw : Int) (waw : (Lit.int .i64 aw).wf = true) (ah : Int) (wah : (Lit.int .i64 ah).wf = true) (bx : Int) (wbx : (Lit.int .i64 bx).wf = true) (bY : Int) (wbY : (Lit.int .i64 bY).wf = true) (bw : Int) (wbw : (Lit.int .i64 bw).wf = true) (bh : Int) (wbh : (Lit.int .i64 bh).wf = true) (x : Int) (wx : (Lit.int .i64 x).wf = true) (y : Int) (wy : (Lit.int .i64 y).wf = true) (m : Int) (wm : (Lit.int .i64 m).wf = true) (n : Int) (wn : (Lit.int .i64 n).wf = true) (w : World) (ma : mayR ⟨ax, ay, aw, ah⟩ = true) (mb : mayR ⟨bx, bY, bw, bh⟩ = true) (hin : rHas ⟨ax, ay, aw, ah⟩ (x % 67108864 - 33554432) (y % 67108864 - 33554432) = true) (hon : rHas ⟨bx, bY, bw, bh⟩ (x % 67108864 - 33554432) (y % 67108864 - 33554432) = false) :
    Calls Try.prog 13 #[.agg #[.int .i64 ax, .int .i64 ay, .int .i64 aw, .int .i64 ah], .agg #[.int .i64 bx, .int .i64 bY, .int .i64 bw, .int .i64 bh], .int .i64 x, .int .i64 y, .int .i64 m, .int .i64 n] w fun e w' => e = .returned (.bool true) ∧ Below w.heap.size w w' := by
  obtain ⟨ax0, ax1⟩ := bounds_i64 wax
  obtain ⟨ay0, ay1⟩ := bounds_i64 way
  obtain ⟨aw0, aw1⟩ := bounds_i64 waw
  obtain ⟨ah0, ah1⟩ := bounds_i64 wah
  clear wax way waw wah
  obtain ⟨bx0, bx1⟩ := bounds_i64 wbx
  obtain ⟨bY0, bY1⟩ := bounds_i64 wbY
  obtain ⟨bw0, bw1⟩ := bounds_i64 wbw
  obtain ⟨bh0, bh1⟩ := bounds_i64 wbh
  clear wbx wbY wbw wbh
  obtain ⟨x0, x1⟩ := bounds_i64 wx
  obtain ⟨y0, y1⟩ := bounds_i64 wy
  obtain ⟨m0, m1⟩ := bounds_i64 wm
  obtain ⟨n0, n1⟩ := bounds_i64 wn
  clear wx wy wm wn
  have hr : I64 ⟨ax, ay, aw, ah⟩ := ⟨⟨ax0, ax1⟩, ⟨ay0, ay1⟩, ⟨aw0, aw1⟩, ah0, ah1⟩
  have hs : I64 ⟨bx, bY, bw, bh⟩ := ⟨⟨bx0, bx1⟩, ⟨bY0, bY1⟩, ⟨bw0, bw1⟩, bh0, bh1⟩
  have ma' := may_sm ma
  have mb' := may_sm mb
  have hp : 0 ≤ x % 67108864 ∧ x % 67108864 < 67108864 := by omega
  have hq : 0 ≤ y % 67108864 ∧ y % 67108864 < 67108864 := by omega
  have hu : 0 ≤ m % 16777216 ∧ m % 16777216 < 16777216 := by omega
  have hv : 0 ≤ n % 16777216 ∧ n % 16777216 < 16777216 := by omega
  have qp := fun w => place_any x 67108864 w (by omega) (by omega)
  have qq := fun w => place_any y 67108864 w (by omega) (by omega)
  have qu := fun w => place_any m 16777216 w (by omega) (by omega)
  have qv := fun w => place_any n 16777216 w (by omega) (by omega)
  generalize x % 67108864 = p at *
  generalize y % 67108864 = q at *
  generalize m % 16777216 = u at *
  generalize n % 16777216 = v at *
  have Qp := Lib.hid qp
  have Qq := Lib.hid qq
  have Qu := Lib.hid qu
  have Qv := Lib.hid qv
  clear qp qq qu qv
  obtain ⟨p0, p1⟩ := hp
  obtain ⟨q0, q1⟩ := hq
  obtain ⟨u0, u1⟩ := hu
  obtain ⟨v0, v1⟩ := hv
  obtain ⟨P, eP⟩ : ∃ P, P = p - 33554432 := ⟨_, rfl⟩
  have hP : -9223372036854775808 ≤ p - 33554432 ∧ p - 33554432 ≤ 9223372036854775807 := by omega
  have hQ : -9223372036854775808 ≤ q - 33554432 ∧ q - 33554432 ≤ 9223372036854775807 := by omega
  clear eP P
  go_enter Try.func13, Try.ntmps13
  go_wp2_with fail
  generalize hwv : ((w.alloc (.cells #[.int .i64 ax, .int .i64 ay, .int .i64 aw, .int .i64 ah] 23)).alloc (.cells #[.int .i64 bx, .int .i64 bY, .int .i64 bw, .int .i64 bh] 23)) = wv
  have Ba : Bk wv (w.heap.size) 23 #[.int .i64 ax, .int .i64 ay, .int .i64 aw, .int .i64 ah] := by rw [← hwv]; exact (Bk.al (Bk.new' _ _ _ (by simp)) _)
  obtain ⟨a0, a1, a2, a3⟩ := Ba.c4
  have Bb : Bk wv (w.heap.size + 1) 23 #[.int .i64 bx, .int .i64 bY, .int .i64 bw, .int .i64 bh] := by rw [← hwv]; exact (Bk.new' _ _ _ (by simp))
  obtain ⟨b0, b1, b2, b3⟩ := Bb.c4
  have hbv : Below w.heap.size w wv := by
    rw [← hwv]
    repeat (first | (with_reducible exact Below.refl _ _) | (with_reducible apply bl_alloc) | (with_reducible apply bl_drew) | (with_reducible apply bl_drewN) | ((with_reducible refine bl_set ?_ ?hs _); case hs => (simp; try omega)) | (with_reducible refine bl_step ?_ (by assumption)))
  clear hwv
  go_wp2_with fail
  refine (may_any _ _ _ _ _ hr).mono ?_
  rintro e wn ⟨rfl, hbwn⟩
  (first | replace Ba := Bk.be Ba hbwn | replace Ba := Bk.be Ba.dr hbwn | replace Ba := Bk.be (Ba.drN _) hbwn)
  clear a0 a1 a2 a3
  obtain ⟨a0, a1, a2, a3⟩ := Ba.c4
  (first | replace Bb := Bk.be Bb hbwn | replace Bb := Bk.be Bb.dr hbwn | replace Bb := Bk.be (Bb.drN _) hbwn)
  clear b0 b1 b2 b3
  obtain ⟨b0, b1, b2, b3⟩ := Bb.c4
  (first | replace hbv := bl_step hbv hbwn | replace hbv := bl_step (bl_drew hbv) hbwn | replace hbv := bl_step (bl_drewN hbv _) hbwn)
  clear hbwn
  go_wp2_with fail
  refine (may_any _ _ _ _ _ hs).mono ?_
  rintro e wn ⟨rfl, hbwn⟩
  (first | replace Ba := Bk.be Ba hbwn | replace Ba := Bk.be Ba.dr hbwn | replace Ba := Bk.be (Ba.drN _) hbwn)
  clear a0 a1 a2 a3
  obtain ⟨a0, a1, a2, a3⟩ := Ba.c4
  (first | replace Bb := Bk.be Bb hbwn | replace Bb := Bk.be Bb.dr hbwn | replace Bb := Bk.be (Bb.drN _) hbwn)
  clear b0 b1 b2 b3
  obtain ⟨b0, b1, b2, b3⟩ := Bb.c4
  (first | replace hbv := bl_step hbv hbwn | replace hbv := bl_step (bl_drew hbv) hbwn | replace hbv := bl_step (bl_drewN hbv _) hbwn)
  clear hbwn
  go_wp2_with fail
  refine (Qp.out _).mono ?_
  rintro e wx ⟨rfl, rfl⟩
  go_wp2_with fail
  refine (Qq.out _).mono ?_
  rintro e wx ⟨rfl, rfl⟩
  go_wp2_with fail
  refine (Qu.out _).mono ?_
  rintro e wx ⟨rfl, rfl⟩
  go_wp2_with fail
  refine (Qv.out _).mono ?_
  rintro e wx ⟨rfl, rfl⟩
  by_cases x4 : p - 33554432 < -16777216
  · skip
    have Hin : Hid (rHas ⟨ax, ay, aw, ah⟩ (p - 33554432) (q - 33554432) = true) := Lib.hid hin
    have Hon : Hid (rHas ⟨bx, bY, bw, bh⟩ (p - 33554432) (q - 33554432) = false) := Lib.hid hon
    have F1 : Hid (rHas ⟨(rCut ⟨ax, ay, aw, ah⟩ ⟨bx, bY, bw, bh⟩).x, (rCut ⟨ax, ay, aw, ah⟩ ⟨bx, bY, bw, bh⟩).y, (rCut ⟨ax, ay, aw, ah⟩ ⟨bx, bY, bw, bh⟩).w, (rCut ⟨ax, ay, aw, ah⟩ ⟨bx, bY, bw, bh⟩).h⟩ (p - 33554432) (q - 33554432) = false) := Lib.hid (by show rHas (rCut ⟨ax, ay, aw, ah⟩ ⟨bx, bY, bw, bh⟩) _ _ = _; rw [has_cut, hin, hon]; rfl)
    have F2 : Hid (rHas ⟨(rCover ⟨ax, ay, aw, ah⟩ ⟨bx, bY, bw, bh⟩).x, (rCover ⟨ax, ay, aw, ah⟩ ⟨bx, bY, bw, bh⟩).y, (rCover ⟨ax, ay, aw, ah⟩ ⟨bx, bY, bw, bh⟩).w, (rCover ⟨ax, ay, aw, ah⟩ ⟨bx, bY, bw, bh⟩).h⟩ (p - 33554432) (q - 33554432) = true) := Lib.hid (by show rHas (rCover ⟨ax, ay, aw, ah⟩ ⟨bx, bY, bw, bh⟩) _ _ = _; exact has_cover (.inl hin))
    have F3 : Hid (rHas ⟨(rShift ⟨ax, ay, aw, ah⟩ u v).x, (rShift ⟨ax, ay, aw, ah⟩ u v).y, (rShift ⟨ax, ay, aw, ah⟩ u v).w, (rShift ⟨ax, ay, aw, ah⟩ u v).h⟩ ((p - 33554432) + u) ((q - 33554432) + v) = true) := Lib.hid (by show rHas (rShift ⟨ax, ay, aw, ah⟩ u v) _ _ = _; rw [has_shift, hin])
    have F4 : Hid (rHas ⟨(rBound ⟨ax, ay, aw, ah⟩).x, (rBound ⟨ax, ay, aw, ah⟩).y, (rBound ⟨ax, ay, aw, ah⟩).w, (rBound ⟨ax, ay, aw, ah⟩).h⟩ (p - 33554432) (q - 33554432) = false) := Lib.hid (by show rHas (rBound ⟨ax, ay, aw, ah⟩) _ _ = _; rw [has_bound, hin]; simp; try omega)
    clear hin hon
    go_wp2_with fail
    go_region_held3 (fun w' => w'.cell? ⟨w.heap.size, 0, none⟩ = some (.int .i64 ax) ∧ w'.cell? ⟨w.heap.size, 1, none⟩ = some (.int .i64 ay) ∧ w'.cell? ⟨w.heap.size, 2, none⟩ = some (.int .i64 aw) ∧ w'.cell? ⟨w.heap.size, 3, none⟩ = some (.int .i64 ah) ∧ w'.cell? ⟨w.heap.size + 1, 0, none⟩ = some (.int .i64 bx) ∧ w'.cell? ⟨w.heap.size + 1, 1, none⟩ = some (.int .i64 bY) ∧ w'.cell? ⟨w.heap.size + 1, 2, none⟩ = some (.int .i64 bw) ∧ w'.cell? ⟨w.heap.size + 1, 3, none⟩ = some (.int .i64 bh))
      (first | (with_reducible exact ⟨a0, a1, a2, a3, b0, b1, b2, b3⟩) | go_keep)
      (first | (go_at_call_of 18 (Value.agg #[.int .i64 ax, .int .i64 ay, .int .i64 aw, .int .i64 ah]); refine (Has_any _ _ _ _ _ _ _ hr hP hQ).mono ?_; rintro e wn ⟨rfl, hbwn⟩; (first | replace Ba := Bk.be Ba hbwn | replace Ba := Bk.be Ba.dr hbwn | replace Ba := Bk.be (Ba.drN _) hbwn); clear a0 a1 a2 a3; obtain ⟨a0, a1, a2, a3⟩ := Ba.c4; (first | replace Bb := Bk.be Bb hbwn | replace Bb := Bk.be Bb.dr hbwn | replace Bb := Bk.be (Bb.drN _) hbwn); clear b0 b1 b2 b3; obtain ⟨b0, b1, b2, b3⟩ := Bb.c4; (first | replace hbv := bl_step hbv hbwn | replace hbv := bl_step (bl_drew hbv) hbwn | replace hbv := bl_step (bl_drewN hbv _) hbwn); clear hbwn; rw [Hin.out]) | (go_at_call 18; refine (Has_any _ _ _ _ _ _ _ hs hP hQ).mono ?_; rintro e wn ⟨rfl, hbwn⟩; (first | replace Ba := Bk.be Ba hbwn | replace Ba := Bk.be Ba.dr hbwn | replace Ba := Bk.be (Ba.drN _) hbwn); clear a0 a1 a2 a3; obtain ⟨a0, a1, a2, a3⟩ := Ba.c4; (first | replace Bb := Bk.be Bb hbwn | replace Bb := Bk.be Bb.dr hbwn | replace Bb := Bk.be (Bb.drN _) hbwn); clear b0 b1 b2 b3; obtain ⟨b0, b1, b2, b3⟩ := Bb.c4; (first | replace hbv := bl_step hbv hbwn | replace hbv := bl_step (bl_drew hbv) hbwn | replace hbv := bl_step (bl_drewN hbv _) hbwn); clear hbwn; rw [Hon.out]))
    go_wp2_with fail
    refine (Cover_any _ _ _ _ _ _ _ _ _ ma' mb').mono ?_
    rintro e wn ⟨rfl, hbwn⟩
    (first | replace Ba := Bk.be Ba hbwn | replace Ba := Bk.be Ba.dr hbwn | replace Ba := Bk.be (Ba.drN _) hbwn)
    clear a0 a1 a2 a3
    obtain ⟨a0, a1, a2, a3⟩ := Ba.c4
    (first | replace Bb := Bk.be Bb hbwn | replace Bb := Bk.be Bb.dr hbwn | replace Bb := Bk.be (Bb.drN _) hbwn)
    clear b0 b1 b2 b3
    obtain ⟨b0, b1, b2, b3⟩ := Bb.c4
    (first | replace hbv := bl_step hbv hbwn | replace hbv := bl_step (bl_drew hbv) hbwn | replace hbv := bl_step (bl_drewN hbv _) hbwn)
    clear hbwn
    have za := Ba.lt
    have zb := Bb.lt
    go_wp2_with fail
    refine (Cut_any _ _ _ _ _ _ _ _ _ ma' mb').mono ?_
    rintro e wn ⟨rfl, hbwn⟩
    have Bc : Bk wn _ 23 #[.int .i64 (rCover ⟨ax, ay, aw, ah⟩ ⟨bx, bY, bw, bh⟩).x, .int .i64 (rCover ⟨ax, ay, aw, ah⟩ ⟨bx, bY, bw, bh⟩).y, .int .i64 (rCover ⟨ax, ay, aw, ah⟩ ⟨bx, bY, bw, bh⟩).w, .int .i64 (rCover ⟨ax, ay, aw, ah⟩ ⟨bx, bY, bw, bh⟩).h] := Bk.be (Bk.new _ _ _) hbwn
    obtain ⟨c0, c1, c2, c3⟩ := Bc.c4
    replace Ba := Bk.be (Ba.al _) hbwn
    replace Bb := Bk.be (Bb.al _) hbwn
    replace hbv := bl_step (bl_alloc hbv _) hbwn
    clear hbwn za zb a0 a1 a2 a3 b0 b1 b2 b3
    obtain ⟨a0, a1, a2, a3⟩ := Ba.c4
    obtain ⟨b0, b1, b2, b3⟩ := Bb.c4
    go_wp2_with fail
    refine (Has_any (rCut ⟨ax, ay, aw, ah⟩ ⟨bx, bY, bw, bh⟩).x (rCut ⟨ax, ay, aw, ah⟩ ⟨bx, bY, bw, bh⟩).y (rCut ⟨ax, ay, aw, ah⟩ ⟨bx, bY, bw, bh⟩).w (rCut ⟨ax, ay, aw, ah⟩ ⟨bx, bY, bw, bh⟩).h _ _ _ (i64_cut ma' mb') hP hQ).mono ?_
    rintro e wn ⟨rfl, hbwn⟩
    rw [F1.out]
    (first | replace Ba := Bk.be Ba hbwn | replace Ba := Bk.be Ba.dr hbwn | replace Ba := Bk.be (Ba.drN _) hbwn)
    clear a0 a1 a2 a3
    obtain ⟨a0, a1, a2, a3⟩ := Ba.c4
    (first | replace Bb := Bk.be Bb hbwn | replace Bb := Bk.be Bb.dr hbwn | replace Bb := Bk.be (Bb.drN _) hbwn)
    clear b0 b1 b2 b3
    obtain ⟨b0, b1, b2, b3⟩ := Bb.c4
    (first | replace Bc := Bk.be Bc hbwn | replace Bc := Bk.be Bc.dr hbwn | replace Bc := Bk.be (Bc.drN _) hbwn)
    clear c0 c1 c2 c3
    obtain ⟨c0, c1, c2, c3⟩ := Bc.c4
    (first | replace hbv := bl_step hbv hbwn | replace hbv := bl_step (bl_drew hbv) hbwn | replace hbv := bl_step (bl_drewN hbv _) hbwn)
    clear hbwn
    go_wp2_with fail
    refine (Has_any (rCover ⟨ax, ay, aw, ah⟩ ⟨bx, bY, bw, bh⟩).x (rCover ⟨ax, ay, aw, ah⟩ ⟨bx, bY, bw, bh⟩).y (rCover ⟨ax, ay, aw, ah⟩ ⟨bx, bY, bw, bh⟩).w (rCover ⟨ax, ay, aw, ah⟩ ⟨bx, bY, bw, bh⟩).h _ _ _ (i64_cover ma' mb') hP hQ).mono ?_
    rintro e wn ⟨rfl, hbwn⟩
    rw [F2.out]
    (first | replace Ba := Bk.be Ba hbwn | replace Ba := Bk.be Ba.dr hbwn | replace Ba := Bk.be (Ba.drN _) hbwn)
    clear a0 a1 a2 a3
    obtain ⟨a0, a1, a2, a3⟩ := Ba.c4
    (first | replace Bb := Bk.be Bb hbwn | replace Bb := Bk.be Bb.dr hbwn | replace Bb := Bk.be (Bb.drN _) hbwn)
    clear b0 b1 b2 b3
    obtain ⟨b0, b1, b2, b3⟩ := Bb.c4
    (first | replace Bc := Bk.be Bc hbwn | replace Bc := Bk.be Bc.dr hbwn | replace Bc := Bk.be (Bc.drN _) hbwn)
    clear c0 c1 c2 c3
    obtain ⟨c0, c1, c2, c3⟩ := Bc.c4
    (first | replace hbv := bl_step hbv hbwn | replace hbv := bl_step (bl_drew hbv) hbwn | replace hbv := bl_step (bl_drewN hbv _) hbwn)
    clear hbwn
    go_wp2_with fail
    refine (Shift_any _ _ _ _ _ _ _ ma' (fun _ => by omega) (fun _ => by omega)).mono ?_
    rintro e wn ⟨rfl, hbwn⟩
    (first | replace Ba := Bk.be Ba hbwn | replace Ba := Bk.be Ba.dr hbwn | replace Ba := Bk.be (Ba.drN _) hbwn)
    clear a0 a1 a2 a3
    obtain ⟨a0, a1, a2, a3⟩ := Ba.c4
    (first | replace Bb := Bk.be Bb hbwn | replace Bb := Bk.be Bb.dr hbwn | replace Bb := Bk.be (Bb.drN _) hbwn)
    clear b0 b1 b2 b3
    obtain ⟨b0, b1, b2, b3⟩ := Bb.c4
    (first | replace Bc := Bk.be Bc hbwn | replace Bc := Bk.be Bc.dr hbwn | replace Bc := Bk.be (Bc.drN _) hbwn)
    clear c0 c1 c2 c3
    obtain ⟨c0, c1, c2, c3⟩ := Bc.c4
    (first | replace hbv := bl_step hbv hbwn | replace hbv := bl_step (bl_drew hbv) hbwn | replace hbv := bl_step (bl_drewN hbv _) hbwn)
    clear hbwn
    go_wp2_with fail
    refine (Has_any (rShift ⟨ax, ay, aw, ah⟩ u v).x (rShift ⟨ax, ay, aw, ah⟩ u v).y (rShift ⟨ax, ay, aw, ah⟩ u v).w (rShift ⟨ax, ay, aw, ah⟩ u v).h _ _ _ (i64_shift ma' (by omega) (by omega)) (by omega) (by omega)).mono ?_
    rintro e wn ⟨rfl, hbwn⟩
    rw [F3.out]
    (first | replace Ba := Bk.be Ba hbwn | replace Ba := Bk.be Ba.dr hbwn | replace Ba := Bk.be (Ba.drN _) hbwn)
    clear a0 a1 a2 a3
    obtain ⟨a0, a1, a2, a3⟩ := Ba.c4
    (first | replace Bb := Bk.be Bb hbwn | replace Bb := Bk.be Bb.dr hbwn | replace Bb := Bk.be (Bb.drN _) hbwn)
    clear b0 b1 b2 b3
    obtain ⟨b0, b1, b2, b3⟩ := Bb.c4
    (first | replace Bc := Bk.be Bc hbwn | replace Bc := Bk.be Bc.dr hbwn | replace Bc := Bk.be (Bc.drN _) hbwn)
    clear c0 c1 c2 c3
    obtain ⟨c0, c1, c2, c3⟩ := Bc.c4
    (first | replace hbv := bl_step hbv hbwn | replace hbv := bl_step (bl_drew hbv) hbwn | replace hbv := bl_step (bl_drewN hbv _) hbwn)
    clear hbwn
    go_wp2_with fail
    refine (Bound_any _ _ _ _ _ hr).mono ?_
    rintro e wn ⟨rfl, hbwn⟩
    (first | replace Ba := Bk.be Ba hbwn | replace Ba := Bk.be Ba.dr hbwn | replace Ba := Bk.be (Ba.drN _) hbwn)
    clear a0 a1 a2 a3
    obtain ⟨a0, a1, a2, a3⟩ := Ba.c4
    (first | replace Bb := Bk.be Bb hbwn | replace Bb := Bk.be Bb.dr hbwn | replace Bb := Bk.be (Bb.drN _) hbwn)
    clear b0 b1 b2 b3
    obtain ⟨b0, b1, b2, b3⟩ := Bb.c4
    (first | replace Bc := Bk.be Bc hbwn | replace Bc := Bk.be Bc.dr hbwn | replace Bc := Bk.be (Bc.drN _) hbwn)
    clear c0 c1 c2 c3
    obtain ⟨c0, c1, c2, c3⟩ := Bc.c4
    (first | replace hbv := bl_step hbv hbwn | replace hbv := bl_step (bl_drew hbv) hbwn | replace hbv := bl_step (bl_drewN hbv _) hbwn)
    clear hbwn
    go_wp2_with fail
    refine (Has_any (rBound ⟨ax, ay, aw, ah⟩).x (rBound ⟨ax, ay, aw, ah⟩).y (rBound ⟨ax, ay, aw, ah⟩).w (rBound ⟨ax, ay, aw, ah⟩).h _ _ _ (i64_bound _) hP hQ).mono ?_
    rintro e wn ⟨rfl, hbwn⟩
    rw [F4.out]
    (first | replace Ba := Bk.be Ba hbwn | replace Ba := Bk.be Ba.dr hbwn | replace Ba := Bk.be (Ba.drN _) hbwn)
    clear a0 a1 a2 a3
    obtain ⟨a0, a1, a2, a3⟩ := Ba.c4
    (first | replace Bb := Bk.be Bb hbwn | replace Bb := Bk.be Bb.dr hbwn | replace Bb := Bk.be (Bb.drN _) hbwn)
    clear b0 b1 b2 b3
    obtain ⟨b0, b1, b2, b3⟩ := Bb.c4
    (first | replace Bc := Bk.be Bc hbwn | replace Bc := Bk.be Bc.dr hbwn | replace Bc := Bk.be (Bc.drN _) hbwn)
    clear c0 c1 c2 c3
    obtain ⟨c0, c1, c2, c3⟩ := Bc.c4
    (first | replace hbv := bl_step hbv hbwn | replace hbv := bl_step (bl_drew hbv) hbwn | replace hbv := bl_step (bl_drewN hbv _) hbwn)
    clear hbwn
    go_wp2_with fail
    refine (awake07 _).mono ?_
    rintro e wn ⟨rfl, hbwn⟩
    (first | replace hbv := bl_step hbv hbwn | replace hbv := bl_step (bl_drew hbv) hbwn | replace hbv := bl_step (bl_drewN hbv _) hbwn)
    clear hbwn
    go_wp2_with fail
    go_ret
    refine ⟨rfl, ?_⟩
    repeat (first | (with_reducible exact Below.refl _ _) | (with_reducible apply bl_alloc) | (with_reducible apply bl_drew) | (with_reducible apply bl_drewN) | ((with_reducible refine bl_set ?_ ?hs _); case hs => (simp; try omega)) | (with_reducible refine bl_step ?_ (by assumption)))
  by_cases x3 : 16777216 ≤ p - 33554432
  · skip
    have Hin : Hid (rHas ⟨ax, ay, aw, ah⟩ (p - 33554432) (q - 33554432) = true) := Lib.hid hin
    have Hon : Hid (rHas ⟨bx, bY, bw, bh⟩ (p - 33554432) (q - 33554432) = false) := Lib.hid hon
    have F1 : Hid (rHas ⟨(rCut ⟨ax, ay, aw, ah⟩ ⟨bx, bY, bw, bh⟩).x, (rCut ⟨ax, ay, aw, ah⟩ ⟨bx, bY, bw, bh⟩).y, (rCut ⟨ax, ay, aw, ah⟩ ⟨bx, bY, bw, bh⟩).w, (rCut ⟨ax, ay, aw, ah⟩ ⟨bx, bY, bw, bh⟩).h⟩ (p - 33554432) (q - 33554432) = false) := Lib.hid (by show rHas (rCut ⟨ax, ay, aw, ah⟩ ⟨bx, bY, bw, bh⟩) _ _ = _; rw [has_cut, hin, hon]; rfl)
    have F2 : Hid (rHas ⟨(rCover ⟨ax, ay, aw, ah⟩ ⟨bx, bY, bw, bh⟩).x, (rCover ⟨ax, ay, aw, ah⟩ ⟨bx, bY, bw, bh⟩).y, (rCover ⟨ax, ay, aw, ah⟩ ⟨bx, bY, bw, bh⟩).w, (rCover ⟨ax, ay, aw, ah⟩ ⟨bx, bY, bw, bh⟩).h⟩ (p - 33554432) (q - 33554432) = true) := Lib.hid (by show rHas (rCover ⟨ax, ay, aw, ah⟩ ⟨bx, bY, bw, bh⟩) _ _ = _; exact has_cover (.inl hin))
    have F3 : Hid (rHas ⟨(rShift ⟨ax, ay, aw, ah⟩ u v).x, (rShift ⟨ax, ay, aw, ah⟩ u v).y, (rShift ⟨ax, ay, aw, ah⟩ u v).w, (rShift ⟨ax, ay, aw, ah⟩ u v).h⟩ ((p - 33554432) + u) ((q - 33554432) + v) = true) := Lib.hid (by show rHas (rShift ⟨ax, ay, aw, ah⟩ u v) _ _ = _; rw [has_shift, hin])
    have F4 : Hid (rHas ⟨(rBound ⟨ax, ay, aw, ah⟩).x, (rBound ⟨ax, ay, aw, ah⟩).y, (rBound ⟨ax, ay, aw, ah⟩).w, (rBound ⟨ax, ay, aw, ah⟩).h⟩ (p - 33554432) (q - 33554432) = false) := Lib.hid (by show rHas (rBound ⟨ax, ay, aw, ah⟩) _ _ = _; rw [has_bound, hin]; simp; try omega)
    clear hin hon
    go_wp2_with fail
    go_region_held3 (fun w' => w'.cell? ⟨w.heap.size, 0, none⟩ = some (.int .i64 ax) ∧ w'.cell? ⟨w.heap.size, 1, none⟩ = some (.int .i64 ay) ∧ w'.cell? ⟨w.heap.size, 2, none⟩ = some (.int .i64 aw) ∧ w'.cell? ⟨w.heap.size, 3, none⟩ = some (.int .i64 ah) ∧ w'.cell? ⟨w.heap.size + 1, 0, none⟩ = some (.int .i64 bx) ∧ w'.cell? ⟨w.heap.size + 1, 1, none⟩ = some (.int .i64 bY) ∧ w'.cell? ⟨w.heap.size + 1, 2, none⟩ = some (.int .i64 bw) ∧ w'.cell? ⟨w.heap.size + 1, 3, none⟩ = some (.int .i64 bh))
      (first | (with_reducible exact ⟨a0, a1, a2, a3, b0, b1, b2, b3⟩) | go_keep)
      (first | (go_at_call_of 18 (Value.agg #[.int .i64 ax, .int .i64 ay, .int .i64 aw, .int .i64 ah]); refine (Has_any _ _ _ _ _ _ _ hr hP hQ).mono ?_; rintro e wn ⟨rfl, hbwn⟩; (first | replace Ba := Bk.be Ba hbwn | replace Ba := Bk.be Ba.dr hbwn | replace Ba := Bk.be (Ba.drN _) hbwn); clear a0 a1 a2 a3; obtain ⟨a0, a1, a2, a3⟩ := Ba.c4; (first | replace Bb := Bk.be Bb hbwn | replace Bb := Bk.be Bb.dr hbwn | replace Bb := Bk.be (Bb.drN _) hbwn); clear b0 b1 b2 b3; obtain ⟨b0, b1, b2, b3⟩ := Bb.c4; (first | replace hbv := bl_step hbv hbwn | replace hbv := bl_step (bl_drew hbv) hbwn | replace hbv := bl_step (bl_drewN hbv _) hbwn); clear hbwn; rw [Hin.out]) | (go_at_call 18; refine (Has_any _ _ _ _ _ _ _ hs hP hQ).mono ?_; rintro e wn ⟨rfl, hbwn⟩; (first | replace Ba := Bk.be Ba hbwn | replace Ba := Bk.be Ba.dr hbwn | replace Ba := Bk.be (Ba.drN _) hbwn); clear a0 a1 a2 a3; obtain ⟨a0, a1, a2, a3⟩ := Ba.c4; (first | replace Bb := Bk.be Bb hbwn | replace Bb := Bk.be Bb.dr hbwn | replace Bb := Bk.be (Bb.drN _) hbwn); clear b0 b1 b2 b3; obtain ⟨b0, b1, b2, b3⟩ := Bb.c4; (first | replace hbv := bl_step hbv hbwn | replace hbv := bl_step (bl_drew hbv) hbwn | replace hbv := bl_step (bl_drewN hbv _) hbwn); clear hbwn; rw [Hon.out]))
    go_wp2_with fail
    refine (Cover_any _ _ _ _ _ _ _ _ _ ma' mb').mono ?_
    rintro e wn ⟨rfl, hbwn⟩
    (first | replace Ba := Bk.be Ba hbwn | replace Ba := Bk.be Ba.dr hbwn | replace Ba := Bk.be (Ba.drN _) hbwn)
    clear a0 a1 a2 a3
    obtain ⟨a0, a1, a2, a3⟩ := Ba.c4
    (first | replace Bb := Bk.be Bb hbwn | replace Bb := Bk.be Bb.dr hbwn | replace Bb := Bk.be (Bb.drN _) hbwn)
    clear b0 b1 b2 b3
    obtain ⟨b0, b1, b2, b3⟩ := Bb.c4
    (first | replace hbv := bl_step hbv hbwn | replace hbv := bl_step (bl_drew hbv) hbwn | replace hbv := bl_step (bl_drewN hbv _) hbwn)
    clear hbwn
    have za := Ba.lt
    have zb := Bb.lt
    go_wp2_with fail
    refine (Cut_any _ _ _ _ _ _ _ _ _ ma' mb').mono ?_
    rintro e wn ⟨rfl, hbwn⟩
    have Bc : Bk wn _ 23 #[.int .i64 (rCover ⟨ax, ay, aw, ah⟩ ⟨bx, bY, bw, bh⟩).x, .int .i64 (rCover ⟨ax, ay, aw, ah⟩ ⟨bx, bY, bw, bh⟩).y, .int .i64 (rCover ⟨ax, ay, aw, ah⟩ ⟨bx, bY, bw, bh⟩).w, .int .i64 (rCover ⟨ax, ay, aw, ah⟩ ⟨bx, bY, bw, bh⟩).h] := Bk.be (Bk.new _ _ _) hbwn
    obtain ⟨c0, c1, c2, c3⟩ := Bc.c4
    replace Ba := Bk.be (Ba.al _) hbwn
    replace Bb := Bk.be (Bb.al _) hbwn
    replace hbv := bl_step (bl_alloc hbv _) hbwn
    clear hbwn za zb a0 a1 a2 a3 b0 b1 b2 b3
    obtain ⟨a0, a1, a2, a3⟩ := Ba.c4
    obtain ⟨b0, b1, b2, b3⟩ := Bb.c4
    go_wp2_with fail
    refine (Has_any (rCut ⟨ax, ay, aw, ah⟩ ⟨bx, bY, bw, bh⟩).x (rCut ⟨ax, ay, aw, ah⟩ ⟨bx, bY, bw, bh⟩).y (rCut ⟨ax, ay, aw, ah⟩ ⟨bx, bY, bw, bh⟩).w (rCut ⟨ax, ay, aw, ah⟩ ⟨bx, bY, bw, bh⟩).h _ _ _ (i64_cut ma' mb') hP hQ).mono ?_
    rintro e wn ⟨rfl, hbwn⟩
    rw [F1.out]
    (first | replace Ba := Bk.be Ba hbwn | replace Ba := Bk.be Ba.dr hbwn | replace Ba := Bk.be (Ba.drN _) hbwn)
    clear a0 a1 a2 a3
    obtain ⟨a0, a1, a2, a3⟩ := Ba.c4
    (first | replace Bb := Bk.be Bb hbwn | replace Bb := Bk.be Bb.dr hbwn | replace Bb := Bk.be (Bb.drN _) hbwn)
    clear b0 b1 b2 b3
    obtain ⟨b0, b1, b2, b3⟩ := Bb.c4
    (first | replace Bc := Bk.be Bc hbwn | replace Bc := Bk.be Bc.dr hbwn | replace Bc := Bk.be (Bc.drN _) hbwn)
    clear c0 c1 c2 c3
    obtain ⟨c0, c1, c2, c3⟩ := Bc.c4
    (first | replace hbv := bl_step hbv hbwn | replace hbv := bl_step (bl_drew hbv) hbwn | replace hbv := bl_step (bl_drewN hbv _) hbwn)
    clear hbwn
    go_wp2_with fail
    refine (Has_any (rCover ⟨ax, ay, aw, ah⟩ ⟨bx, bY, bw, bh⟩).x (rCover ⟨ax, ay, aw, ah⟩ ⟨bx, bY, bw, bh⟩).y (rCover ⟨ax, ay, aw, ah⟩ ⟨bx, bY, bw, bh⟩).w (rCover ⟨ax, ay, aw, ah⟩ ⟨bx, bY, bw, bh⟩).h _ _ _ (i64_cover ma' mb') hP hQ).mono ?_
    rintro e wn ⟨rfl, hbwn⟩
    rw [F2.out]
    (first | replace Ba := Bk.be Ba hbwn | replace Ba := Bk.be Ba.dr hbwn | replace Ba := Bk.be (Ba.drN _) hbwn)
    clear a0 a1 a2 a3
    obtain ⟨a0, a1, a2, a3⟩ := Ba.c4
    (first | replace Bb := Bk.be Bb hbwn | replace Bb := Bk.be Bb.dr hbwn | replace Bb := Bk.be (Bb.drN _) hbwn)
    clear b0 b1 b2 b3
    obtain ⟨b0, b1, b2, b3⟩ := Bb.c4
    (first | replace Bc := Bk.be Bc hbwn | replace Bc := Bk.be Bc.dr hbwn | replace Bc := Bk.be (Bc.drN _) hbwn)
    clear c0 c1 c2 c3
    obtain ⟨c0, c1, c2, c3⟩ := Bc.c4
    (first | replace hbv := bl_step hbv hbwn | replace hbv := bl_step (bl_drew hbv) hbwn | replace hbv := bl_step (bl_drewN hbv _) hbwn)
    clear hbwn
    go_wp2_with fail
    refine (Shift_any _ _ _ _ _ _ _ ma' (fun _ => by omega) (fun _ => by omega)).mono ?_
    rintro e wn ⟨rfl, hbwn⟩
    (first | replace Ba := Bk.be Ba hbwn | replace Ba := Bk.be Ba.dr hbwn | replace Ba := Bk.be (Ba.drN _) hbwn)
    clear a0 a1 a2 a3
    obtain ⟨a0, a1, a2, a3⟩ := Ba.c4
    (first | replace Bb := Bk.be Bb hbwn | replace Bb := Bk.be Bb.dr hbwn | replace Bb := Bk.be (Bb.drN _) hbwn)
    clear b0 b1 b2 b3
    obtain ⟨b0, b1, b2, b3⟩ := Bb.c4
    (first | replace Bc := Bk.be Bc hbwn | replace Bc := Bk.be Bc.dr hbwn | replace Bc := Bk.be (Bc.drN _) hbwn)
    clear c0 c1 c2 c3
    obtain ⟨c0, c1, c2, c3⟩ := Bc.c4
    (first | replace hbv := bl_step hbv hbwn | replace hbv := bl_step (bl_drew hbv) hbwn | replace hbv := bl_step (bl_drewN hbv _) hbwn)
    clear hbwn
    go_wp2_with fail
    refine (Has_any (rShift ⟨ax, ay, aw, ah⟩ u v).x (rShift ⟨ax, ay, aw, ah⟩ u v).y (rShift ⟨ax, ay, aw, ah⟩ u v).w (rShift ⟨ax, ay, aw, ah⟩ u v).h _ _ _ (i64_shift ma' (by omega) (by omega)) (by omega) (by omega)).mono ?_
    rintro e wn ⟨rfl, hbwn⟩
    rw [F3.out]
    (first | replace Ba := Bk.be Ba hbwn | replace Ba := Bk.be Ba.dr hbwn | replace Ba := Bk.be (Ba.drN _) hbwn)
    clear a0 a1 a2 a3
    obtain ⟨a0, a1, a2, a3⟩ := Ba.c4
    (first | replace Bb := Bk.be Bb hbwn | replace Bb := Bk.be Bb.dr hbwn | replace Bb := Bk.be (Bb.drN _) hbwn)
    clear b0 b1 b2 b3
    obtain ⟨b0, b1, b2, b3⟩ := Bb.c4
    (first | replace Bc := Bk.be Bc hbwn | replace Bc := Bk.be Bc.dr hbwn | replace Bc := Bk.be (Bc.drN _) hbwn)
    clear c0 c1 c2 c3
    obtain ⟨c0, c1, c2, c3⟩ := Bc.c4
    (first | replace hbv := bl_step hbv hbwn | replace hbv := bl_step (bl_drew hbv) hbwn | replace hbv := bl_step (bl_drewN hbv _) hbwn)
    clear hbwn
    go_wp2_with fail
    refine (Bound_any _ _ _ _ _ hr).mono ?_
    rintro e wn ⟨rfl, hbwn⟩
    (first | replace Ba := Bk.be Ba hbwn | replace Ba := Bk.be Ba.dr hbwn | replace Ba := Bk.be (Ba.drN _) hbwn)
    clear a0 a1 a2 a3
    obtain ⟨a0, a1, a2, a3⟩ := Ba.c4
    (first | replace Bb := Bk.be Bb hbwn | replace Bb := Bk.be Bb.dr hbwn | replace Bb := Bk.be (Bb.drN _) hbwn)
    clear b0 b1 b2 b3
    obtain ⟨b0, b1, b2, b3⟩ := Bb.c4
    (first | replace Bc := Bk.be Bc hbwn | replace Bc := Bk.be Bc.dr hbwn | replace Bc := Bk.be (Bc.drN _) hbwn)
    clear c0 c1 c2 c3
    obtain ⟨c0, c1, c2, c3⟩ := Bc.c4
    (first | replace hbv := bl_step hbv hbwn | replace hbv := bl_step (bl_drew hbv) hbwn | replace hbv := bl_step (bl_drewN hbv _) hbwn)
    clear hbwn
    go_wp2_with fail
    refine (Has_any (rBound ⟨ax, ay, aw, ah⟩).x (rBound ⟨ax, ay, aw, ah⟩).y (rBound ⟨ax, ay, aw, ah⟩).w (rBound ⟨ax, ay, aw, ah⟩).h _ _ _ (i64_bound _) hP hQ).mono ?_
    rintro e wn ⟨rfl, hbwn⟩
    rw [F4.out]
    (first | replace Ba := Bk.be Ba hbwn | replace Ba := Bk.be Ba.dr hbwn | replace Ba := Bk.be (Ba.drN _) hbwn)
    clear a0 a1 a2 a3
    obtain ⟨a0, a1, a2, a3⟩ := Ba.c4
    (first | replace Bb := Bk.be Bb hbwn | replace Bb := Bk.be Bb.dr hbwn | replace Bb := Bk.be (Bb.drN _) hbwn)
    clear b0 b1 b2 b3
    obtain ⟨b0, b1, b2, b3⟩ := Bb.c4
    (first | replace Bc := Bk.be Bc hbwn | replace Bc := Bk.be Bc.dr hbwn | replace Bc := Bk.be (Bc.drN _) hbwn)
    clear c0 c1 c2 c3
    obtain ⟨c0, c1, c2, c3⟩ := Bc.c4
    (first | replace hbv := bl_step hbv hbwn | replace hbv := bl_step (bl_drew hbv) hbwn | replace hbv := bl_step (bl_drewN hbv _) hbwn)
    clear hbwn
    go_wp2_with fail
    refine (awake07 _).mono ?_
    rintro e wn ⟨rfl, hbwn⟩
    (first | replace hbv := bl_step hbv hbwn | replace hbv := bl_step (bl_drew hbv) hbwn | replace hbv := bl_step (bl_drewN hbv _) hbwn)
    clear hbwn
    go_wp2_with fail
    go_ret
    refine ⟨rfl, ?_⟩
    repeat (first | (with_reducible exact Below.refl _ _) | (with_reducible apply bl_alloc) | (with_reducible apply bl_drew) | (with_reducible apply bl_drewN) | ((with_reducible refine bl_set ?_ ?hs _); case hs => (simp; try omega)) | (with_reducible refine bl_step ?_ (by assumption)))
  by_cases x2 : q - 33554432 < -16777216
  · skip
    have Hin : Hid (rHas ⟨ax, ay, aw, ah⟩ (p - 33554432) (q - 33554432) = true) := Lib.hid hin
    have Hon : Hid (rHas ⟨bx, bY, bw, bh⟩ (p - 33554432) (q - 33554432) = false) := Lib.hid hon
    have F1 : Hid (rHas ⟨(rCut ⟨ax, ay, aw, ah⟩ ⟨bx, bY, bw, bh⟩).x, (rCut ⟨ax, ay, aw, ah⟩ ⟨bx, bY, bw, bh⟩).y, (rCut ⟨ax, ay, aw, ah⟩ ⟨bx, bY, bw, bh⟩).w, (rCut ⟨ax, ay, aw, ah⟩ ⟨bx, bY, bw, bh⟩).h⟩ (p - 33554432) (q - 33554432) = false) := Lib.hid (by show rHas (rCut ⟨ax, ay, aw, ah⟩ ⟨bx, bY, bw, bh⟩) _ _ = _; rw [has_cut, hin, hon]; rfl)
    have F2 : Hid (rHas ⟨(rCover ⟨ax, ay, aw, ah⟩ ⟨bx, bY, bw, bh⟩).x, (rCover ⟨ax, ay, aw, ah⟩ ⟨bx, bY, bw, bh⟩).y, (rCover ⟨ax, ay, aw, ah⟩ ⟨bx, bY, bw, bh⟩).w, (rCover ⟨ax, ay, aw, ah⟩ ⟨bx, bY, bw, bh⟩).h⟩ (p - 33554432) (q - 33554432) = true) := Lib.hid (by show rHas (rCover ⟨ax, ay, aw, ah⟩ ⟨bx, bY, bw, bh⟩) _ _ = _; exact has_cover (.inl hin))
    have F3 : Hid (rHas ⟨(rShift ⟨ax, ay, aw, ah⟩ u v).x, (rShift ⟨ax, ay, aw, ah⟩ u v).y, (rShift ⟨ax, ay, aw, ah⟩ u v).w, (rShift ⟨ax, ay, aw, ah⟩ u v).h⟩ ((p - 33554432) + u) ((q - 33554432) + v) = true) := Lib.hid (by show rHas (rShift ⟨ax, ay, aw, ah⟩ u v) _ _ = _; rw [has_shift, hin])
    have F4 : Hid (rHas ⟨(rBound ⟨ax, ay, aw, ah⟩).x, (rBound ⟨ax, ay, aw, ah⟩).y, (rBound ⟨ax, ay, aw, ah⟩).w, (rBound ⟨ax, ay, aw, ah⟩).h⟩ (p - 33554432) (q - 33554432) = false) := Lib.hid (by show rHas (rBound ⟨ax, ay, aw, ah⟩) _ _ = _; rw [has_bound, hin]; simp; try omega)
    clear hin hon
    go_wp2_with fail
    go_region_held3 (fun w' => w'.cell? ⟨w.heap.size, 0, none⟩ = some (.int .i64 ax) ∧ w'.cell? ⟨w.heap.size, 1, none⟩ = some (.int .i64 ay) ∧ w'.cell? ⟨w.heap.size, 2, none⟩ = some (.int .i64 aw) ∧ w'.cell? ⟨w.heap.size, 3, none⟩ = some (.int .i64 ah) ∧ w'.cell? ⟨w.heap.size + 1, 0, none⟩ = some (.int .i64 bx) ∧ w'.cell? ⟨w.heap.size + 1, 1, none⟩ = some (.int .i64 bY) ∧ w'.cell? ⟨w.heap.size + 1, 2, none⟩ = some (.int .i64 bw) ∧ w'.cell? ⟨w.heap.size + 1, 3, none⟩ = some (.int .i64 bh))
      (first | (with_reducible exact ⟨a0, a1, a2, a3, b0, b1, b2, b3⟩) | go_keep)
      (first | (go_at_call_of 18 (Value.agg #[.int .i64 ax, .int .i64 ay, .int .i64 aw, .int .i64 ah]); refine (Has_any _ _ _ _ _ _ _ hr hP hQ).mono ?_; rintro e wn ⟨rfl, hbwn⟩; (first | replace Ba := Bk.be Ba hbwn | replace Ba := Bk.be Ba.dr hbwn | replace Ba := Bk.be (Ba.drN _) hbwn); clear a0 a1 a2 a3; obtain ⟨a0, a1, a2, a3⟩ := Ba.c4; (first | replace Bb := Bk.be Bb hbwn | replace Bb := Bk.be Bb.dr hbwn | replace Bb := Bk.be (Bb.drN _) hbwn); clear b0 b1 b2 b3; obtain ⟨b0, b1, b2, b3⟩ := Bb.c4; (first | replace hbv := bl_step hbv hbwn | replace hbv := bl_step (bl_drew hbv) hbwn | replace hbv := bl_step (bl_drewN hbv _) hbwn); clear hbwn; rw [Hin.out]) | (go_at_call 18; refine (Has_any _ _ _ _ _ _ _ hs hP hQ).mono ?_; rintro e wn ⟨rfl, hbwn⟩; (first | replace Ba := Bk.be Ba hbwn | replace Ba := Bk.be Ba.dr hbwn | replace Ba := Bk.be (Ba.drN _) hbwn); clear a0 a1 a2 a3; obtain ⟨a0, a1, a2, a3⟩ := Ba.c4; (first | replace Bb := Bk.be Bb hbwn | replace Bb := Bk.be Bb.dr hbwn | replace Bb := Bk.be (Bb.drN _) hbwn); clear b0 b1 b2 b3; obtain ⟨b0, b1, b2, b3⟩ := Bb.c4; (first | replace hbv := bl_step hbv hbwn | replace hbv := bl_step (bl_drew hbv) hbwn | replace hbv := bl_step (bl_drewN hbv _) hbwn); clear hbwn; rw [Hon.out]))
    go_wp2_with fail
    refine (Cover_any _ _ _ _ _ _ _ _ _ ma' mb').mono ?_
    rintro e wn ⟨rfl, hbwn⟩
    (first | replace Ba := Bk.be Ba hbwn | replace Ba := Bk.be Ba.dr hbwn | replace Ba := Bk.be (Ba.drN _) hbwn)
    clear a0 a1 a2 a3
    obtain ⟨a0, a1, a2, a3⟩ := Ba.c4
    (first | replace Bb := Bk.be Bb hbwn | replace Bb := Bk.be Bb.dr hbwn | replace Bb := Bk.be (Bb.drN _) hbwn)
    clear b0 b1 b2 b3
    obtain ⟨b0, b1, b2, b3⟩ := Bb.c4
    (first | replace hbv := bl_step hbv hbwn | replace hbv := bl_step (bl_drew hbv) hbwn | replace hbv := bl_step (bl_drewN hbv _) hbwn)
    clear hbwn
    have za := Ba.lt
    have zb := Bb.lt
    go_wp2_with fail
    refine (Cut_any _ _ _ _ _ _ _ _ _ ma' mb').mono ?_
    rintro e wn ⟨rfl, hbwn⟩
    have Bc : Bk wn _ 23 #[.int .i64 (rCover ⟨ax, ay, aw, ah⟩ ⟨bx, bY, bw, bh⟩).x, .int .i64 (rCover ⟨ax, ay, aw, ah⟩ ⟨bx, bY, bw, bh⟩).y, .int .i64 (rCover ⟨ax, ay, aw, ah⟩ ⟨bx, bY, bw, bh⟩).w, .int .i64 (rCover ⟨ax, ay, aw, ah⟩ ⟨bx, bY, bw, bh⟩).h] := Bk.be (Bk.new _ _ _) hbwn
    obtain ⟨c0, c1, c2, c3⟩ := Bc.c4
    replace Ba := Bk.be (Ba.al _) hbwn
    replace Bb := Bk.be (Bb.al _) hbwn
    replace hbv := bl_step (bl_alloc hbv _) hbwn
    clear hbwn za zb a0 a1 a2 a3 b0 b1 b2 b3
    obtain ⟨a0, a1, a2, a3⟩ := Ba.c4
    obtain ⟨b0, b1, b2, b3⟩ := Bb.c4
    go_wp2_with fail
    refine (Has_any (rCut ⟨ax, ay, aw, ah⟩ ⟨bx, bY, bw, bh⟩).x (rCut ⟨ax, ay, aw, ah⟩ ⟨bx, bY, bw, bh⟩).y (rCut ⟨ax, ay, aw, ah⟩ ⟨bx, bY, bw, bh⟩).w (rCut ⟨ax, ay, aw, ah⟩ ⟨bx, bY, bw, bh⟩).h _ _ _ (i64_cut ma' mb') hP hQ).mono ?_
    rintro e wn ⟨rfl, hbwn⟩
    rw [F1.out]
    (first | replace Ba := Bk.be Ba hbwn | replace Ba := Bk.be Ba.dr hbwn | replace Ba := Bk.be (Ba.drN _) hbwn)
    clear a0 a1 a2 a3
    obtain ⟨a0, a1, a2, a3⟩ := Ba.c4
    (first | replace Bb := Bk.be Bb hbwn | replace Bb := Bk.be Bb.dr hbwn | replace Bb := Bk.be (Bb.drN _) hbwn)
    clear b0 b1 b2 b3
    obtain ⟨b0, b1, b2, b3⟩ := Bb.c4
    (first | replace Bc := Bk.be Bc hbwn | replace Bc := Bk.be Bc.dr hbwn | replace Bc := Bk.be (Bc.drN _) hbwn)
    clear c0 c1 c2 c3
    obtain ⟨c0, c1, c2, c3⟩ := Bc.c4
    (first | replace hbv := bl_step hbv hbwn | replace hbv := bl_step (bl_drew hbv) hbwn | replace hbv := bl_step (bl_drewN hbv _) hbwn)
    clear hbwn
    go_wp2_with fail
    refine (Has_any (rCover ⟨ax, ay, aw, ah⟩ ⟨bx, bY, bw, bh⟩).x (rCover ⟨ax, ay, aw, ah⟩ ⟨bx, bY, bw, bh⟩).y (rCover ⟨ax, ay, aw, ah⟩ ⟨bx, bY, bw, bh⟩).w (rCover ⟨ax, ay, aw, ah⟩ ⟨bx, bY, bw, bh⟩).h _ _ _ (i64_cover ma' mb') hP hQ).mono ?_
    rintro e wn ⟨rfl, hbwn⟩
    rw [F2.out]
    (first | replace Ba := Bk.be Ba hbwn | replace Ba := Bk.be Ba.dr hbwn | replace Ba := Bk.be (Ba.drN _) hbwn)
    clear a0 a1 a2 a3
    obtain ⟨a0, a1, a2, a3⟩ := Ba.c4
    (first | replace Bb := Bk.be Bb hbwn | replace Bb := Bk.be Bb.dr hbwn | replace Bb := Bk.be (Bb.drN _) hbwn)
    clear b0 b1 b2 b3
    obtain ⟨b0, b1, b2, b3⟩ := Bb.c4
    (first | replace Bc := Bk.be Bc hbwn | replace Bc := Bk.be Bc.dr hbwn | replace Bc := Bk.be (Bc.drN _) hbwn)
    clear c0 c1 c2 c3
    obtain ⟨c0, c1, c2, c3⟩ := Bc.c4
    (first | replace hbv := bl_step hbv hbwn | replace hbv := bl_step (bl_drew hbv) hbwn | replace hbv := bl_step (bl_drewN hbv _) hbwn)
    clear hbwn
    go_wp2_with fail
    refine (Shift_any _ _ _ _ _ _ _ ma' (fun _ => by omega) (fun _ => by omega)).mono ?_
    rintro e wn ⟨rfl, hbwn⟩
    (first | replace Ba := Bk.be Ba hbwn | replace Ba := Bk.be Ba.dr hbwn | replace Ba := Bk.be (Ba.drN _) hbwn)
    clear a0 a1 a2 a3
    obtain ⟨a0, a1, a2, a3⟩ := Ba.c4
    (first | replace Bb := Bk.be Bb hbwn | replace Bb := Bk.be Bb.dr hbwn | replace Bb := Bk.be (Bb.drN _) hbwn)
    clear b0 b1 b2 b3
    obtain ⟨b0, b1, b2, b3⟩ := Bb.c4
    (first | replace Bc := Bk.be Bc hbwn | replace Bc := Bk.be Bc.dr hbwn | replace Bc := Bk.be (Bc.drN _) hbwn)
    clear c0 c1 c2 c3
    obtain ⟨c0, c1, c2, c3⟩ := Bc.c4
    (first | replace hbv := bl_step hbv hbwn | replace hbv := bl_step (bl_drew hbv) hbwn | replace hbv := bl_step (bl_drewN hbv _) hbwn)
    clear hbwn
    go_wp2_with fail
    refine (Has_any (rShift ⟨ax, ay, aw, ah⟩ u v).x (rShift ⟨ax, ay, aw, ah⟩ u v).y (rShift ⟨ax, ay, aw, ah⟩ u v).w (rShift ⟨ax, ay, aw, ah⟩ u v).h _ _ _ (i64_shift ma' (by omega) (by omega)) (by omega) (by omega)).mono ?_
    rintro e wn ⟨rfl, hbwn⟩
    rw [F3.out]
    (first | replace Ba := Bk.be Ba hbwn | replace Ba := Bk.be Ba.dr hbwn | replace Ba := Bk.be (Ba.drN _) hbwn)
    clear a0 a1 a2 a3
    obtain ⟨a0, a1, a2, a3⟩ := Ba.c4
    (first | replace Bb := Bk.be Bb hbwn | replace Bb := Bk.be Bb.dr hbwn | replace Bb := Bk.be (Bb.drN _) hbwn)
    clear b0 b1 b2 b3
    obtain ⟨b0, b1, b2, b3⟩ := Bb.c4
    (first | replace Bc := Bk.be Bc hbwn | replace Bc := Bk.be Bc.dr hbwn | replace Bc := Bk.be (Bc.drN _) hbwn)
    clear c0 c1 c2 c3
    obtain ⟨c0, c1, c2, c3⟩ := Bc.c4
    (first | replace hbv := bl_step hbv hbwn | replace hbv := bl_step (bl_drew hbv) hbwn | replace hbv := bl_step (bl_drewN hbv _) hbwn)
    clear hbwn
    go_wp2_with fail
    refine (Bound_any _ _ _ _ _ hr).mono ?_
    rintro e wn ⟨rfl, hbwn⟩
    (first | replace Ba := Bk.be Ba hbwn | replace Ba := Bk.be Ba.dr hbwn | replace Ba := Bk.be (Ba.drN _) hbwn)
    clear a0 a1 a2 a3
    obtain ⟨a0, a1, a2, a3⟩ := Ba.c4
    (first | replace Bb := Bk.be Bb hbwn | replace Bb := Bk.be Bb.dr hbwn | replace Bb := Bk.be (Bb.drN _) hbwn)
    clear b0 b1 b2 b3
    obtain ⟨b0, b1, b2, b3⟩ := Bb.c4
    (first | replace Bc := Bk.be Bc hbwn | replace Bc := Bk.be Bc.dr hbwn | replace Bc := Bk.be (Bc.drN _) hbwn)
    clear c0 c1 c2 c3
    obtain ⟨c0, c1, c2, c3⟩ := Bc.c4
    (first | replace hbv := bl_step hbv hbwn | replace hbv := bl_step (bl_drew hbv) hbwn | replace hbv := bl_step (bl_drewN hbv _) hbwn)
    clear hbwn
    go_wp2_with fail
    refine (Has_any (rBound ⟨ax, ay, aw, ah⟩).x (rBound ⟨ax, ay, aw, ah⟩).y (rBound ⟨ax, ay, aw, ah⟩).w (rBound ⟨ax, ay, aw, ah⟩).h _ _ _ (i64_bound _) hP hQ).mono ?_
    rintro e wn ⟨rfl, hbwn⟩
    rw [F4.out]
    (first | replace Ba := Bk.be Ba hbwn | replace Ba := Bk.be Ba.dr hbwn | replace Ba := Bk.be (Ba.drN _) hbwn)
    clear a0 a1 a2 a3
    obtain ⟨a0, a1, a2, a3⟩ := Ba.c4
    (first | replace Bb := Bk.be Bb hbwn | replace Bb := Bk.be Bb.dr hbwn | replace Bb := Bk.be (Bb.drN _) hbwn)
    clear b0 b1 b2 b3
    obtain ⟨b0, b1, b2, b3⟩ := Bb.c4
    (first | replace Bc := Bk.be Bc hbwn | replace Bc := Bk.be Bc.dr hbwn | replace Bc := Bk.be (Bc.drN _) hbwn)
    clear c0 c1 c2 c3
    obtain ⟨c0, c1, c2, c3⟩ := Bc.c4
    (first | replace hbv := bl_step hbv hbwn | replace hbv := bl_step (bl_drew hbv) hbwn | replace hbv := bl_step (bl_drewN hbv _) hbwn)
    clear hbwn
    go_wp2_with fail
    refine (awake07 _).mono ?_
    rintro e wn ⟨rfl, hbwn⟩
    (first | replace hbv := bl_step hbv hbwn | replace hbv := bl_step (bl_drew hbv) hbwn | replace hbv := bl_step (bl_drewN hbv _) hbwn)
    clear hbwn
    go_wp2_with fail
    go_ret
    refine ⟨rfl, ?_⟩
    repeat (first | (with_reducible exact Below.refl _ _) | (with_reducible apply bl_alloc) | (with_reducible apply bl_drew) | (with_reducible apply bl_drewN) | ((with_reducible refine bl_set ?_ ?hs _); case hs => (simp; try omega)) | (with_reducible refine bl_step ?_ (by assumption)))
  by_cases x1 : 16777216 ≤ q - 33554432
  · skip
    have y1 : decide (q - 33554432 < 16777216) = false := by simp; omega
    have Hin : Hid (rHas ⟨ax, ay, aw, ah⟩ (p - 33554432) (q - 33554432) = true) := Lib.hid hin
    have Hon : Hid (rHas ⟨bx, bY, bw, bh⟩ (p - 33554432) (q - 33554432) = false) := Lib.hid hon
    have F1 : Hid (rHas ⟨(rCut ⟨ax, ay, aw, ah⟩ ⟨bx, bY, bw, bh⟩).x, (rCut ⟨ax, ay, aw, ah⟩ ⟨bx, bY, bw, bh⟩).y, (rCut ⟨ax, ay, aw, ah⟩ ⟨bx, bY, bw, bh⟩).w, (rCut ⟨ax, ay, aw, ah⟩ ⟨bx, bY, bw, bh⟩).h⟩ (p - 33554432) (q - 33554432) = false) := Lib.hid (by show rHas (rCut ⟨ax, ay, aw, ah⟩ ⟨bx, bY, bw, bh⟩) _ _ = _; rw [has_cut, hin, hon]; rfl)
    have F2 : Hid (rHas ⟨(rCover ⟨ax, ay, aw, ah⟩ ⟨bx, bY, bw, bh⟩).x, (rCover ⟨ax, ay, aw, ah⟩ ⟨bx, bY, bw, bh⟩).y, (rCover ⟨ax, ay, aw, ah⟩ ⟨bx, bY, bw, bh⟩).w, (rCover ⟨ax, ay, aw, ah⟩ ⟨bx, bY, bw, bh⟩).h⟩ (p - 33554432) (q - 33554432) = true) := Lib.hid (by show rHas (rCover ⟨ax, ay, aw, ah⟩ ⟨bx, bY, bw, bh⟩) _ _ = _; exact has_cover (.inl hin))
    have F3 : Hid (rHas ⟨(rShift ⟨ax, ay, aw, ah⟩ u v).x, (rShift ⟨ax, ay, aw, ah⟩ u v).y, (rShift ⟨ax, ay, aw, ah⟩ u v).w, (rShift ⟨ax, ay, aw, ah⟩ u v).h⟩ ((p - 33554432) + u) ((q - 33554432) + v) = true) := Lib.hid (by show rHas (rShift ⟨ax, ay, aw, ah⟩ u v) _ _ = _; rw [has_shift, hin])
    have F4 : Hid (rHas ⟨(rBound ⟨ax, ay, aw, ah⟩).x, (rBound ⟨ax, ay, aw, ah⟩).y, (rBound ⟨ax, ay, aw, ah⟩).w, (rBound ⟨ax, ay, aw, ah⟩).h⟩ (p - 33554432) (q - 33554432) = false) := Lib.hid (by show rHas (rBound ⟨ax, ay, aw, ah⟩) _ _ = _; rw [has_bound, hin]; simp; try omega)
    clear hin hon
    go_wp2_with fail
    go_region_held3 (fun w' => w'.cell? ⟨w.heap.size, 0, none⟩ = some (.int .i64 ax) ∧ w'.cell? ⟨w.heap.size, 1, none⟩ = some (.int .i64 ay) ∧ w'.cell? ⟨w.heap.size, 2, none⟩ = some (.int .i64 aw) ∧ w'.cell? ⟨w.heap.size, 3, none⟩ = some (.int .i64 ah) ∧ w'.cell? ⟨w.heap.size + 1, 0, none⟩ = some (.int .i64 bx) ∧ w'.cell? ⟨w.heap.size + 1, 1, none⟩ = some (.int .i64 bY) ∧ w'.cell? ⟨w.heap.size + 1, 2, none⟩ = some (.int .i64 bw) ∧ w'.cell? ⟨w.heap.size + 1, 3, none⟩ = some (.int .i64 bh))
      (first | (with_reducible exact ⟨a0, a1, a2, a3, b0, b1, b2, b3⟩) | go_keep)
      (first | (go_at_call_of 18 (Value.agg #[.int .i64 ax, .int .i64 ay, .int .i64 aw, .int .i64 ah]); refine (Has_any _ _ _ _ _ _ _ hr hP hQ).mono ?_; rintro e wn ⟨rfl, hbwn⟩; (first | replace Ba := Bk.be Ba hbwn | replace Ba := Bk.be Ba.dr hbwn | replace Ba := Bk.be (Ba.drN _) hbwn); clear a0 a1 a2 a3; obtain ⟨a0, a1, a2, a3⟩ := Ba.c4; (first | replace Bb := Bk.be Bb hbwn | replace Bb := Bk.be Bb.dr hbwn | replace Bb := Bk.be (Bb.drN _) hbwn); clear b0 b1 b2 b3; obtain ⟨b0, b1, b2, b3⟩ := Bb.c4; (first | replace hbv := bl_step hbv hbwn | replace hbv := bl_step (bl_drew hbv) hbwn | replace hbv := bl_step (bl_drewN hbv _) hbwn); clear hbwn; rw [Hin.out]) | (go_at_call 18; refine (Has_any _ _ _ _ _ _ _ hs hP hQ).mono ?_; rintro e wn ⟨rfl, hbwn⟩; (first | replace Ba := Bk.be Ba hbwn | replace Ba := Bk.be Ba.dr hbwn | replace Ba := Bk.be (Ba.drN _) hbwn); clear a0 a1 a2 a3; obtain ⟨a0, a1, a2, a3⟩ := Ba.c4; (first | replace Bb := Bk.be Bb hbwn | replace Bb := Bk.be Bb.dr hbwn | replace Bb := Bk.be (Bb.drN _) hbwn); clear b0 b1 b2 b3; obtain ⟨b0, b1, b2, b3⟩ := Bb.c4; (first | replace hbv := bl_step hbv hbwn | replace hbv := bl_step (bl_drew hbv) hbwn | replace hbv := bl_step (bl_drewN hbv _) hbwn); clear hbwn; rw [Hon.out]))
    go_wp2_with fail
    refine (Cover_any _ _ _ _ _ _ _ _ _ ma' mb').mono ?_
    rintro e wn ⟨rfl, hbwn⟩
    (first | replace Ba := Bk.be Ba hbwn | replace Ba := Bk.be Ba.dr hbwn | replace Ba := Bk.be (Ba.drN _) hbwn)
    clear a0 a1 a2 a3
    obtain ⟨a0, a1, a2, a3⟩ := Ba.c4
    (first | replace Bb := Bk.be Bb hbwn | replace Bb := Bk.be Bb.dr hbwn | replace Bb := Bk.be (Bb.drN _) hbwn)
    clear b0 b1 b2 b3
    obtain ⟨b0, b1, b2, b3⟩ := Bb.c4
    (first | replace hbv := bl_step hbv hbwn | replace hbv := bl_step (bl_drew hbv) hbwn | replace hbv := bl_step (bl_drewN hbv _) hbwn)
    clear hbwn
    have za := Ba.lt
    have zb := Bb.lt
    go_wp2_with fail
    refine (Cut_any _ _ _ _ _ _ _ _ _ ma' mb').mono ?_
    rintro e wn ⟨rfl, hbwn⟩
    have Bc : Bk wn _ 23 #[.int .i64 (rCover ⟨ax, ay, aw, ah⟩ ⟨bx, bY, bw, bh⟩).x, .int .i64 (rCover ⟨ax, ay, aw, ah⟩ ⟨bx, bY, bw, bh⟩).y, .int .i64 (rCover ⟨ax, ay, aw, ah⟩ ⟨bx, bY, bw, bh⟩).w, .int .i64 (rCover ⟨ax, ay, aw, ah⟩ ⟨bx, bY, bw, bh⟩).h] := Bk.be (Bk.new _ _ _) hbwn
    obtain ⟨c0, c1, c2, c3⟩ := Bc.c4
    replace Ba := Bk.be (Ba.al _) hbwn
    replace Bb := Bk.be (Bb.al _) hbwn
    replace hbv := bl_step (bl_alloc hbv _) hbwn
    clear hbwn za zb a0 a1 a2 a3 b0 b1 b2 b3
    obtain ⟨a0, a1, a2, a3⟩ := Ba.c4
    obtain ⟨b0, b1, b2, b3⟩ := Bb.c4
    go_wp2_with fail
    refine (Has_any (rCut ⟨ax, ay, aw, ah⟩ ⟨bx, bY, bw, bh⟩).x (rCut ⟨ax, ay, aw, ah⟩ ⟨bx, bY, bw, bh⟩).y (rCut ⟨ax, ay, aw, ah⟩ ⟨bx, bY, bw, bh⟩).w (rCut ⟨ax, ay, aw, ah⟩ ⟨bx, bY, bw, bh⟩).h _ _ _ (i64_cut ma' mb') hP hQ).mono ?_
    rintro e wn ⟨rfl, hbwn⟩
    rw [F1.out]
    (first | replace Ba := Bk.be Ba hbwn | replace Ba := Bk.be Ba.dr hbwn | replace Ba := Bk.be (Ba.drN _) hbwn)
    clear a0 a1 a2 a3
    obtain ⟨a0, a1, a2, a3⟩ := Ba.c4
    (first | replace Bb := Bk.be Bb hbwn | replace Bb := Bk.be Bb.dr hbwn | replace Bb := Bk.be (Bb.drN _) hbwn)
    clear b0 b1 b2 b3
    obtain ⟨b0, b1, b2, b3⟩ := Bb.c4
    (first | replace Bc := Bk.be Bc hbwn | replace Bc := Bk.be Bc.dr hbwn | replace Bc := Bk.be (Bc.drN _) hbwn)
    clear c0 c1 c2 c3
    obtain ⟨c0, c1, c2, c3⟩ := Bc.c4
    (first | replace hbv := bl_step hbv hbwn | replace hbv := bl_step (bl_drew hbv) hbwn | replace hbv := bl_step (bl_drewN hbv _) hbwn)
    clear hbwn
    go_wp2_with fail
    refine (Has_any (rCover ⟨ax, ay, aw, ah⟩ ⟨bx, bY, bw, bh⟩).x (rCover ⟨ax, ay, aw, ah⟩ ⟨bx, bY, bw, bh⟩).y (rCover ⟨ax, ay, aw, ah⟩ ⟨bx, bY, bw, bh⟩).w (rCover ⟨ax, ay, aw, ah⟩ ⟨bx, bY, bw, bh⟩).h _ _ _ (i64_cover ma' mb') hP hQ).mono ?_
    rintro e wn ⟨rfl, hbwn⟩
    rw [F2.out]
    (first | replace Ba := Bk.be Ba hbwn | replace Ba := Bk.be Ba.dr hbwn | replace Ba := Bk.be (Ba.drN _) hbwn)
    clear a0 a1 a2 a3
    obtain ⟨a0, a1, a2, a3⟩ := Ba.c4
    (first | replace Bb := Bk.be Bb hbwn | replace Bb := Bk.be Bb.dr hbwn | replace Bb := Bk.be (Bb.drN _) hbwn)
    clear b0 b1 b2 b3
    obtain ⟨b0, b1, b2, b3⟩ := Bb.c4
    (first | replace Bc := Bk.be Bc hbwn | replace Bc := Bk.be Bc.dr hbwn | replace Bc := Bk.be (Bc.drN _) hbwn)
    clear c0 c1 c2 c3
    obtain ⟨c0, c1, c2, c3⟩ := Bc.c4
    (first | replace hbv := bl_step hbv hbwn | replace hbv := bl_step (bl_drew hbv) hbwn | replace hbv := bl_step (bl_drewN hbv _) hbwn)
    clear hbwn
    go_wp2_with fail
    refine (Shift_any _ _ _ _ _ _ _ ma' (fun _ => by omega) (fun _ => by omega)).mono ?_
    rintro e wn ⟨rfl, hbwn⟩
    (first | replace Ba := Bk.be Ba hbwn | replace Ba := Bk.be Ba.dr hbwn | replace Ba := Bk.be (Ba.drN _) hbwn)
    clear a0 a1 a2 a3
    obtain ⟨a0, a1, a2, a3⟩ := Ba.c4
    (first | replace Bb := Bk.be Bb hbwn | replace Bb := Bk.be Bb.dr hbwn | replace Bb := Bk.be (Bb.drN _) hbwn)
    clear b0 b1 b2 b3
    obtain ⟨b0, b1, b2, b3⟩ := Bb.c4
    (first | replace Bc := Bk.be Bc hbwn | replace Bc := Bk.be Bc.dr hbwn | replace Bc := Bk.be (Bc.drN _) hbwn)
    clear c0 c1 c2 c3
    obtain ⟨c0, c1, c2, c3⟩ := Bc.c4
    (first | replace hbv := bl_step hbv hbwn | replace hbv := bl_step (bl_drew hbv) hbwn | replace hbv := bl_step (bl_drewN hbv _) hbwn)
    clear hbwn
    go_wp2_with fail
    refine (Has_any (rShift ⟨ax, ay, aw, ah⟩ u v).x (rShift ⟨ax, ay, aw, ah⟩ u v).y (rShift ⟨ax, ay, aw, ah⟩ u v).w (rShift ⟨ax, ay, aw, ah⟩ u v).h _ _ _ (i64_shift ma' (by omega) (by omega)) (by omega) (by omega)).mono ?_
    rintro e wn ⟨rfl, hbwn⟩
    rw [F3.out]
    (first | replace Ba := Bk.be Ba hbwn | replace Ba := Bk.be Ba.dr hbwn | replace Ba := Bk.be (Ba.drN _) hbwn)
    clear a0 a1 a2 a3
    obtain ⟨a0, a1, a2, a3⟩ := Ba.c4
    (first | replace Bb := Bk.be Bb hbwn | replace Bb := Bk.be Bb.dr hbwn | replace Bb := Bk.be (Bb.drN _) hbwn)
    clear b0 b1 b2 b3
    obtain ⟨b0, b1, b2, b3⟩ := Bb.c4
    (first | replace Bc := Bk.be Bc hbwn | replace Bc := Bk.be Bc.dr hbwn | replace Bc := Bk.be (Bc.drN _) hbwn)
    clear c0 c1 c2 c3
    obtain ⟨c0, c1, c2, c3⟩ := Bc.c4
    (first | replace hbv := bl_step hbv hbwn | replace hbv := bl_step (bl_drew hbv) hbwn | replace hbv := bl_step (bl_drewN hbv _) hbwn)
    clear hbwn
    go_wp2_with fail
    refine (Bound_any _ _ _ _ _ hr).mono ?_
    rintro e wn ⟨rfl, hbwn⟩
    (first | replace Ba := Bk.be Ba hbwn | replace Ba := Bk.be Ba.dr hbwn | replace Ba := Bk.be (Ba.drN _) hbwn)
    clear a0 a1 a2 a3
    obtain ⟨a0, a1, a2, a3⟩ := Ba.c4
    (first | replace Bb := Bk.be Bb hbwn | replace Bb := Bk.be Bb.dr hbwn | replace Bb := Bk.be (Bb.drN _) hbwn)
    clear b0 b1 b2 b3
    obtain ⟨b0, b1, b2, b3⟩ := Bb.c4
    (first | replace Bc := Bk.be Bc hbwn | replace Bc := Bk.be Bc.dr hbwn | replace Bc := Bk.be (Bc.drN _) hbwn)
    clear c0 c1 c2 c3
    obtain ⟨c0, c1, c2, c3⟩ := Bc.c4
    (first | replace hbv := bl_step hbv hbwn | replace hbv := bl_step (bl_drew hbv) hbwn | replace hbv := bl_step (bl_drewN hbv _) hbwn)
    clear hbwn
    go_wp2_with fail
    refine (Has_any (rBound ⟨ax, ay, aw, ah⟩).x (rBound ⟨ax, ay, aw, ah⟩).y (rBound ⟨ax, ay, aw, ah⟩).w (rBound ⟨ax, ay, aw, ah⟩).h _ _ _ (i64_bound _) hP hQ).mono ?_
    rintro e wn ⟨rfl, hbwn⟩
    rw [F4.out]
    (first | replace Ba := Bk.be Ba hbwn | replace Ba := Bk.be Ba.dr hbwn | replace Ba := Bk.be (Ba.drN _) hbwn)
    clear a0 a1 a2 a3
    obtain ⟨a0, a1, a2, a3⟩ := Ba.c4
    (first | replace Bb := Bk.be Bb hbwn | replace Bb := Bk.be Bb.dr hbwn | replace Bb := Bk.be (Bb.drN _) hbwn)
    clear b0 b1 b2 b3
    obtain ⟨b0, b1, b2, b3⟩ := Bb.c4
    (first | replace Bc := Bk.be Bc hbwn | replace Bc := Bk.be Bc.dr hbwn | replace Bc := Bk.be (Bc.drN _) hbwn)
    clear c0 c1 c2 c3
    obtain ⟨c0, c1, c2, c3⟩ := Bc.c4
    (first | replace hbv := bl_step hbv hbwn | replace hbv := bl_step (bl_drew hbv) hbwn | replace hbv := bl_step (bl_drewN hbv _) hbwn)
    clear hbwn
    go_wp2_with fail
    refine (awake07 _).mono ?_
    rintro e wn ⟨rfl, hbwn⟩
    (first | replace hbv := bl_step hbv hbwn | replace hbv := bl_step (bl_drew hbv) hbwn | replace hbv := bl_step (bl_drewN hbv _) hbwn)
    clear hbwn
    go_wp2_with fail
    go_ret
    refine ⟨rfl, ?_⟩
    repeat (first | (with_reducible exact Below.refl _ _) | (with_reducible apply bl_alloc) | (with_reducible apply bl_drew) | (with_reducible apply bl_drewN) | ((with_reducible refine bl_set ?_ ?hs _); case hs => (simp; try omega)) | (with_reducible refine bl_step ?_ (by assumption)))
  have Hin : Hid (rHas ⟨ax, ay, aw, ah⟩ (p - 33554432) (q - 33554432) = true) := Lib.hid hin
  have Hon : Hid (rHas ⟨bx, bY, bw, bh⟩ (p - 33554432) (q - 33554432) = false) := Lib.hid hon
  have F1 : Hid (rHas ⟨(rCut ⟨ax, ay, aw, ah⟩ ⟨bx, bY, bw, bh⟩).x, (rCut ⟨ax, ay, aw, ah⟩ ⟨bx, bY, bw, bh⟩).y, (rCut ⟨ax, ay, aw, ah⟩ ⟨bx, bY, bw, bh⟩).w, (rCut ⟨ax, ay, aw, ah⟩ ⟨bx, bY, bw, bh⟩).h⟩ (p - 33554432) (q - 33554432) = false) := Lib.hid (by show rHas (rCut ⟨ax, ay, aw, ah⟩ ⟨bx, bY, bw, bh⟩) _ _ = _; rw [has_cut, hin, hon]; rfl)
  have F2 : Hid (rHas ⟨(rCover ⟨ax, ay, aw, ah⟩ ⟨bx, bY, bw, bh⟩).x, (rCover ⟨ax, ay, aw, ah⟩ ⟨bx, bY, bw, bh⟩).y, (rCover ⟨ax, ay, aw, ah⟩ ⟨bx, bY, bw, bh⟩).w, (rCover ⟨ax, ay, aw, ah⟩ ⟨bx, bY, bw, bh⟩).h⟩ (p - 33554432) (q - 33554432) = true) := Lib.hid (by show rHas (rCover ⟨ax, ay, aw, ah⟩ ⟨bx, bY, bw, bh⟩) _ _ = _; exact has_cover (.inl hin))
  have F3 : Hid (rHas ⟨(rShift ⟨ax, ay, aw, ah⟩ u v).x, (rShift ⟨ax, ay, aw, ah⟩ u v).y, (rShift ⟨ax, ay, aw, ah⟩ u v).w, (rShift ⟨ax, ay, aw, ah⟩ u v).h⟩ ((p - 33554432) + u) ((q - 33554432) + v) = true) := Lib.hid (by show rHas (rShift ⟨ax, ay, aw, ah⟩ u v) _ _ = _; rw [has_shift, hin])
  have F4 : Hid (rHas ⟨(rBound ⟨ax, ay, aw, ah⟩).x, (rBound ⟨ax, ay, aw, ah⟩).y, (rBound ⟨ax, ay, aw, ah⟩).w, (rBound ⟨ax, ay, aw, ah⟩).h⟩ (p - 33554432) (q - 33554432) = true) := Lib.hid (by show rHas (rBound ⟨ax, ay, aw, ah⟩) _ _ = _; rw [has_bound, hin]; simp; try omega)
  have y4 : -16777216 ≤ p - 33554432 := by omega
  have y3 : p - 33554432 < 16777216 := by omega
  have y2 : -16777216 ≤ q - 33554432 := by omega
  have y1 : q - 33554432 < 16777216 := by omega
  clear x1 x2 x3 x4
  clear hin hon
  go_wp2_with fail
  go_region_held3 (fun w' => w'.cell? ⟨w.heap.size, 0, none⟩ = some (.int .i64 ax) ∧ w'.cell? ⟨w.heap.size, 1, none⟩ = some (.int .i64 ay) ∧ w'.cell? ⟨w.heap.size, 2, none⟩ = some (.int .i64 aw) ∧ w'.cell? ⟨w.heap.size, 3, none⟩ = some (.int .i64 ah) ∧ w'.cell? ⟨w.heap.size + 1, 0, none⟩ = some (.int .i64 bx) ∧ w'.cell? ⟨w.heap.size + 1, 1, none⟩ = some (.int .i64 bY) ∧ w'.cell? ⟨w.heap.size + 1, 2, none⟩ = some (.int .i64 bw) ∧ w'.cell? ⟨w.heap.size + 1, 3, none⟩ = some (.int .i64 bh))
    (first | (with_reducible exact ⟨a0, a1, a2, a3, b0, b1, b2, b3⟩) | go_keep)
    (first | (go_at_call_of 18 (Value.agg #[.int .i64 ax, .int .i64 ay, .int .i64 aw, .int .i64 ah]); refine (Has_any _ _ _ _ _ _ _ hr hP hQ).mono ?_; rintro e wn ⟨rfl, hbwn⟩; (first | replace Ba := Bk.be Ba hbwn | replace Ba := Bk.be Ba.dr hbwn | replace Ba := Bk.be (Ba.drN _) hbwn); clear a0 a1 a2 a3; obtain ⟨a0, a1, a2, a3⟩ := Ba.c4; (first | replace Bb := Bk.be Bb hbwn | replace Bb := Bk.be Bb.dr hbwn | replace Bb := Bk.be (Bb.drN _) hbwn); clear b0 b1 b2 b3; obtain ⟨b0, b1, b2, b3⟩ := Bb.c4; (first | replace hbv := bl_step hbv hbwn | replace hbv := bl_step (bl_drew hbv) hbwn | replace hbv := bl_step (bl_drewN hbv _) hbwn); clear hbwn; rw [Hin.out]) | (go_at_call 18; refine (Has_any _ _ _ _ _ _ _ hs hP hQ).mono ?_; rintro e wn ⟨rfl, hbwn⟩; (first | replace Ba := Bk.be Ba hbwn | replace Ba := Bk.be Ba.dr hbwn | replace Ba := Bk.be (Ba.drN _) hbwn); clear a0 a1 a2 a3; obtain ⟨a0, a1, a2, a3⟩ := Ba.c4; (first | replace Bb := Bk.be Bb hbwn | replace Bb := Bk.be Bb.dr hbwn | replace Bb := Bk.be (Bb.drN _) hbwn); clear b0 b1 b2 b3; obtain ⟨b0, b1, b2, b3⟩ := Bb.c4; (first | replace hbv := bl_step hbv hbwn | replace hbv := bl_step (bl_drew hbv) hbwn | replace hbv := bl_step (bl_drewN hbv _) hbwn); clear hbwn; rw [Hon.out]))
  go_wp2_with fail
  refine (Cover_any _ _ _ _ _ _ _ _ _ ma' mb').mono ?_
  rintro e wn ⟨rfl, hbwn⟩
  (first | replace Ba := Bk.be Ba hbwn | replace Ba := Bk.be Ba.dr hbwn | replace Ba := Bk.be (Ba.drN _) hbwn)
  clear a0 a1 a2 a3
  obtain ⟨a0, a1, a2, a3⟩ := Ba.c4
  (first | replace Bb := Bk.be Bb hbwn | replace Bb := Bk.be Bb.dr hbwn | replace Bb := Bk.be (Bb.drN _) hbwn)
  clear b0 b1 b2 b3
  obtain ⟨b0, b1, b2, b3⟩ := Bb.c4
  (first | replace hbv := bl_step hbv hbwn | replace hbv := bl_step (bl_drew hbv) hbwn | replace hbv := bl_step (bl_drewN hbv _) hbwn)
  clear hbwn
  have za := Ba.lt
  have zb := Bb.lt
  go_wp2_with fail
  refine (Cut_any _ _ _ _ _ _ _ _ _ ma' mb').mono ?_
  rintro e wn ⟨rfl, hbwn⟩
  have Bc : Bk wn _ 23 #[.int .i64 (rCover ⟨ax, ay, aw, ah⟩ ⟨bx, bY, bw, bh⟩).x, .int .i64 (rCover ⟨ax, ay, aw, ah⟩ ⟨bx, bY, bw, bh⟩).y, .int .i64 (rCover ⟨ax, ay, aw, ah⟩ ⟨bx, bY, bw, bh⟩).w, .int .i64 (rCover ⟨ax, ay, aw, ah⟩ ⟨bx, bY, bw, bh⟩).h] := Bk.be (Bk.new _ _ _) hbwn
  obtain ⟨c0, c1, c2, c3⟩ := Bc.c4
  replace Ba := Bk.be (Ba.al _) hbwn
  replace Bb := Bk.be (Bb.al _) hbwn
  replace hbv := bl_step (bl_alloc hbv _) hbwn
  clear hbwn za zb a0 a1 a2 a3 b0 b1 b2 b3
  obtain ⟨a0, a1, a2, a3⟩ := Ba.c4
  obtain ⟨b0, b1, b2, b3⟩ := Bb.c4
  go_wp2_with fail
  refine (Has_any (rCut ⟨ax, ay, aw, ah⟩ ⟨bx, bY, bw, bh⟩).x (rCut ⟨ax, ay, aw, ah⟩ ⟨bx, bY, bw, bh⟩).y (rCut ⟨ax, ay, aw, ah⟩ ⟨bx, bY, bw, bh⟩).w (rCut ⟨ax, ay, aw, ah⟩ ⟨bx, bY, bw, bh⟩).h _ _ _ (i64_cut ma' mb') hP hQ).mono ?_
  rintro e wn ⟨rfl, hbwn⟩
  rw [F1.out]
  (first | replace Ba := Bk.be Ba hbwn | replace Ba := Bk.be Ba.dr hbwn | replace Ba := Bk.be (Ba.drN _) hbwn)
  clear a0 a1 a2 a3
  obtain ⟨a0, a1, a2, a3⟩ := Ba.c4
  (first | replace Bb := Bk.be Bb hbwn | replace Bb := Bk.be Bb.dr hbwn | replace Bb := Bk.be (Bb.drN _) hbwn)
  clear b0 b1 b2 b3
  obtain ⟨b0, b1, b2, b3⟩ := Bb.c4
  (first | replace Bc := Bk.be Bc hbwn | replace Bc := Bk.be Bc.dr hbwn | replace Bc := Bk.be (Bc.drN _) hbwn)
  clear c0 c1 c2 c3
  obtain ⟨c0, c1, c2, c3⟩ := Bc.c4
  (first | replace hbv := bl_step hbv hbwn | replace hbv := bl_step (bl_drew hbv) hbwn | replace hbv := bl_step (bl_drewN hbv _) hbwn)
  clear hbwn
  go_wp2_with fail
  refine (Has_any (rCover ⟨ax, ay, aw, ah⟩ ⟨bx, bY, bw, bh⟩).x (rCover ⟨ax, ay, aw, ah⟩ ⟨bx, bY, bw, bh⟩).y (rCover ⟨ax, ay, aw, ah⟩ ⟨bx, bY, bw, bh⟩).w (rCover ⟨ax, ay, aw, ah⟩ ⟨bx, bY, bw, bh⟩).h _ _ _ (i64_cover ma' mb') hP hQ).mono ?_
  rintro e wn ⟨rfl, hbwn⟩
  rw [F2.out]
  (first | replace Ba := Bk.be Ba hbwn | replace Ba := Bk.be Ba.dr hbwn | replace Ba := Bk.be (Ba.drN _) hbwn)
  clear a0 a1 a2 a3
  obtain ⟨a0, a1, a2, a3⟩ := Ba.c4
  (first | replace Bb := Bk.be Bb hbwn | replace Bb := Bk.be Bb.dr hbwn | replace Bb := Bk.be (Bb.drN _) hbwn)
  clear b0 b1 b2 b3
  obtain ⟨b0, b1, b2, b3⟩ := Bb.c4
  (first | replace Bc := Bk.be Bc hbwn | replace Bc := Bk.be Bc.dr hbwn | replace Bc := Bk.be (Bc.drN _) hbwn)
  clear c0 c1 c2 c3
  obtain ⟨c0, c1, c2, c3⟩ := Bc.c4
  (first | replace hbv := bl_step hbv hbwn | replace hbv := bl_step (bl_drew hbv) hbwn | replace hbv := bl_step (bl_drewN hbv _) hbwn)
  clear hbwn
  go_wp2_with fail
  refine (Shift_any _ _ _ _ _ _ _ ma' (fun _ => by omega) (fun _ => by omega)).mono ?_
  rintro e wn ⟨rfl, hbwn⟩
  (first | replace Ba := Bk.be Ba hbwn | replace Ba := Bk.be Ba.dr hbwn | replace Ba := Bk.be (Ba.drN _) hbwn)
  clear a0 a1 a2 a3
  obtain ⟨a0, a1, a2, a3⟩ := Ba.c4
  (first | replace Bb := Bk.be Bb hbwn | replace Bb := Bk.be Bb.dr hbwn | replace Bb := Bk.be (Bb.drN _) hbwn)
  clear b0 b1 b2 b3
  obtain ⟨b0, b1, b2, b3⟩ := Bb.c4
  (first | replace Bc := Bk.be Bc hbwn | replace Bc := Bk.be Bc.dr hbwn | replace Bc := Bk.be (Bc.drN _) hbwn)
  clear c0 c1 c2 c3
  obtain ⟨c0, c1, c2, c3⟩ := Bc.c4
  (first | replace hbv := bl_step hbv hbwn | replace hbv := bl_step (bl_drew hbv) hbwn | replace hbv := bl_step (bl_drewN hbv _) hbwn)
  clear hbwn
  go_wp2_with fail
  refine (Has_any (rShift ⟨ax, ay, aw, ah⟩ u v).x (rShift ⟨ax, ay, aw, ah⟩ u v).y (rShift ⟨ax, ay, aw, ah⟩ u v).w (rShift ⟨ax, ay, aw, ah⟩ u v).h _ _ _ (i64_shift ma' (by omega) (by omega)) (by omega) (by omega)).mono ?_
  rintro e wn ⟨rfl, hbwn⟩
  rw [F3.out]
  (first | replace Ba := Bk.be Ba hbwn | replace Ba := Bk.be Ba.dr hbwn | replace Ba := Bk.be (Ba.drN _) hbwn)
  clear a0 a1 a2 a3
  obtain ⟨a0, a1, a2, a3⟩ := Ba.c4
  (first | replace Bb := Bk.be Bb hbwn | replace Bb := Bk.be Bb.dr hbwn | replace Bb := Bk.be (Bb.drN _) hbwn)
  clear b0 b1 b2 b3
  obtain ⟨b0, b1, b2, b3⟩ := Bb.c4
  (first | replace Bc := Bk.be Bc hbwn | replace Bc := Bk.be Bc.dr hbwn | replace Bc := Bk.be (Bc.drN _) hbwn)
  clear c0 c1 c2 c3
  obtain ⟨c0, c1, c2, c3⟩ := Bc.c4
  (first | replace hbv := bl_step hbv hbwn | replace hbv := bl_step (bl_drew hbv) hbwn | replace hbv := bl_step (bl_drewN hbv _) hbwn)
  clear hbwn
  go_wp2_with fail
  refine (Bound_any _ _ _ _ _ hr).mono ?_
  rintro e wn ⟨rfl, hbwn⟩
  (first | replace Ba := Bk.be Ba hbwn | replace Ba := Bk.be Ba.dr hbwn | replace Ba := Bk.be (Ba.drN _) hbwn)
  clear a0 a1 a2 a3
  obtain ⟨a0, a1, a2, a3⟩ := Ba.c4
  (first | replace Bb := Bk.be Bb hbwn | replace Bb := Bk.be Bb.dr hbwn | replace Bb := Bk.be (Bb.drN _) hbwn)
  clear b0 b1 b2 b3
  obtain ⟨b0, b1, b2, b3⟩ := Bb.c4
  (first | replace Bc := Bk.be Bc hbwn | replace Bc := Bk.be Bc.dr hbwn | replace Bc := Bk.be (Bc.drN _) hbwn)
  clear c0 c1 c2 c3
  obtain ⟨c0, c1, c2, c3⟩ := Bc.c4
  (first | replace hbv := bl_step hbv hbwn | replace hbv := bl_step (bl_drew hbv) hbwn | replace hbv := bl_step (bl_drewN hbv _) hbwn)
  clear hbwn
  go_wp2_with fail
  refine (Has_any (rBound ⟨ax, ay, aw, ah⟩).x (rBound ⟨ax, ay, aw, ah⟩).y (rBound ⟨ax, ay, aw, ah⟩).w (rBound ⟨ax, ay, aw, ah⟩).h _ _ _ (i64_bound _) hP hQ).mono ?_
  rintro e wn ⟨rfl, hbwn⟩
  rw [F4.out]
  (first | replace Ba := Bk.be Ba hbwn | replace Ba := Bk.be Ba.dr hbwn | replace Ba := Bk.be (Ba.drN _) hbwn)
  clear a0 a1 a2 a3
  obtain ⟨a0, a1, a2, a3⟩ := Ba.c4
  (first | replace Bb := Bk.be Bb hbwn | replace Bb := Bk.be Bb.dr hbwn | replace Bb := Bk.be (Bb.drN _) hbwn)
  clear b0 b1 b2 b3
  obtain ⟨b0, b1, b2, b3⟩ := Bb.c4
  (first | replace Bc := Bk.be Bc hbwn | replace Bc := Bk.be Bc.dr hbwn | replace Bc := Bk.be (Bc.drN _) hbwn)
  clear c0 c1 c2 c3
  obtain ⟨c0, c1, c2, c3⟩ := Bc.c4
  (first | replace hbv := bl_step hbv hbwn | replace hbv := bl_step (bl_drew hbv) hbwn | replace hbv := bl_step (bl_drewN hbv _) hbwn)
  clear hbwn
  go_wp2_with fail
  refine (awake07 _).mono ?_
  rintro e wn ⟨rfl, hbwn⟩
  (first | replace hbv := bl_step hbv hbwn | replace hbv := bl_step (bl_drew hbv) hbwn | replace hbv := bl_step (bl_drewN hbv _) hbwn)
  clear hbwn
  go_wp2_with fail
  go_ret
  refine ⟨rfl, ?_⟩
  repeat (first | (with_reducible exact Below.refl _ _) | (with_reducible apply bl_alloc) | (with_reducible apply bl_drew) | (with_reducible apply bl_drewN) | ((with_reducible refine bl_set ?_ ?hs _); case hs => (simp; try omega)) | (with_reducible refine bl_step ?_ (by assumption)))
end Go.Proofs.Ytghgngfmmncomaa.Rect
