/- The walk of the law RectPoints. -/
import Derived.Test.YtghgngfmmncomaaRectLaw2a
import Derived.Test.YtghgngfmmncomaaRectLaw2b
import Derived.Test.YtghgngfmmncomaaRectLaw2c
namespace Go.Proofs.Ytghgngfmmncomaa.Rect
open Go.RowKit Go.Proofs.Ytghgngfmmncomaa.Kit
attribute [local go_sem high] bmax2 bmin2 bmax_2 bmin_2 bmax_3 bmin_3 bmax_4 bmin_4 rEq

set_option maxHeartbeats 16000000 in
theorem RectPoints_walk (ax : Int) (wax : (Lit.int .i64 ax).wf = true) (ay : Int) (way : (Lit.int .i64 ay).wf = true) (aw : Int) (waw : (Lit.int .i64 aw).wf = true) (ah : Int) (wah : (Lit.int .i64 ah).wf = true) (bx : Int) (wbx : (Lit.int .i64 bx).wf = true) (bY : Int) (wbY : (Lit.int .i64 bY).wf = true) (bw : Int) (wbw : (Lit.int .i64 bw).wf = true) (bh : Int) (wbh : (Lit.int .i64 bh).wf = true) (x : Int) (wx : (Lit.int .i64 x).wf = true) (y : Int) (wy : (Lit.int .i64 y).wf = true) (m : Int) (wm : (Lit.int .i64 m).wf = true) (n : Int) (wn : (Lit.int .i64 n).wf = true) (w : World) :
    Calls Try.prog 13 #[.agg #[.int .i64 ax, .int .i64 ay, .int .i64 aw, .int .i64 ah], .agg #[.int .i64 bx, .int .i64 bY, .int .i64 bw, .int .i64 bh], .int .i64 x, .int .i64 y, .int .i64 m, .int .i64 n] w fun e w' => e = .returned (.bool true) ∧ Below w.heap.size w w' := by
  by_cases ma : mayR ⟨ax, ay, aw, ah⟩ = true
  · by_cases mb : mayR ⟨bx, bY, bw, bh⟩ = true
    · cases hin : rHas ⟨ax, ay, aw, ah⟩ (x % 67108864 - 33554432) (y % 67108864 - 33554432) <;> cases hon : rHas ⟨bx, bY, bw, bh⟩ (x % 67108864 - 33554432) (y % 67108864 - 33554432)
      · exact Points_ff ax wax ay way aw waw ah wah bx wbx bY wbY bw wbw bh wbh x wx y wy m wm n wn w ma mb hin hon
      · exact Points_ft ax wax ay way aw waw ah wah bx wbx bY wbY bw wbw bh wbh x wx y wy m wm n wn w ma mb hin hon
      · exact Points_tf ax wax ay way aw waw ah wah bx wbx bY wbY bw wbw bh wbh x wx y wy m wm n wn w ma mb hin hon
      · exact Points_tt ax wax ay way aw waw ah wah bx wbx bY wbY bw wbw bh wbh x wx y wy m wm n wn w ma mb hin hon
    · have mb : mayR ⟨bx, bY, bw, bh⟩ = false := by simpa using mb
      obtain ⟨ax0, ax1⟩ := bounds_i64 wax
      obtain ⟨ay0, ay1⟩ := bounds_i64 way
      obtain ⟨aw0, aw1⟩ := bounds_i64 waw
      obtain ⟨ah0, ah1⟩ := bounds_i64 wah
      clear wax way waw wah
      obtain ⟨bx0, bx1⟩ := bounds_i64 wbx
      obtain ⟨bY0, bY1⟩ := bounds_i64 wbY
      obtain ⟨bw0, bw1⟩ := bounds_i64 wbw
      obtain ⟨bh0, bh1⟩ := bounds_i64 wbh
      clear wbx wbY wbw wbh
      obtain ⟨x0, x1⟩ := bounds_i64 wx
      obtain ⟨y0, y1⟩ := bounds_i64 wy
      obtain ⟨m0, m1⟩ := bounds_i64 wm
      obtain ⟨n0, n1⟩ := bounds_i64 wn
      clear wx wy wm wn
      have hr : I64 ⟨ax, ay, aw, ah⟩ := ⟨⟨ax0, ax1⟩, ⟨ay0, ay1⟩, ⟨aw0, aw1⟩, ah0, ah1⟩
      have hs : I64 ⟨bx, bY, bw, bh⟩ := ⟨⟨bx0, bx1⟩, ⟨bY0, bY1⟩, ⟨bw0, bw1⟩, bh0, bh1⟩
      go_enter Try.func13, Try.ntmps13
      go_wp2_with fail
      generalize hwv : ((w.alloc (.cells #[.int .i64 ax, .int .i64 ay, .int .i64 aw, .int .i64 ah] 23)).alloc (.cells #[.int .i64 bx, .int .i64 bY, .int .i64 bw, .int .i64 bh] 23)) = wv
      have Ba : Bk wv (w.heap.size) 23 #[.int .i64 ax, .int .i64 ay, .int .i64 aw, .int .i64 ah] := by rw [← hwv]; exact (Bk.al (Bk.new' _ _ _ (by simp)) _)
      obtain ⟨a0, a1, a2, a3⟩ := Ba.c4
      have Bb : Bk wv (w.heap.size + 1) 23 #[.int .i64 bx, .int .i64 bY, .int .i64 bw, .int .i64 bh] := by rw [← hwv]; exact (Bk.new' _ _ _ (by simp))
      obtain ⟨b0, b1, b2, b3⟩ := Bb.c4
      have hbv : Below w.heap.size w wv := by
        rw [← hwv]
        repeat (first | (with_reducible exact Below.refl _ _) | (with_reducible apply bl_alloc) | (with_reducible apply bl_drew) | (with_reducible apply bl_drewN) | ((with_reducible refine bl_set ?_ ?hs _); case hs => (simp; try omega)) | (with_reducible refine bl_step ?_ (by assumption)))
      clear hwv
      go_wp2_with fail
      refine (may_any _ _ _ _ _ hr).mono ?_
      rintro e wn ⟨rfl, hbwn⟩
      (first | replace Ba := Bk.be Ba hbwn | replace Ba := Bk.be Ba.dr hbwn | replace Ba := Bk.be (Ba.drN _) hbwn)
      clear a0 a1 a2 a3
      obtain ⟨a0, a1, a2, a3⟩ := Ba.c4
      (first | replace Bb := Bk.be Bb hbwn | replace Bb := Bk.be Bb.dr hbwn | replace Bb := Bk.be (Bb.drN _) hbwn)
      clear b0 b1 b2 b3
      obtain ⟨b0, b1, b2, b3⟩ := Bb.c4
      (first | replace hbv := bl_step hbv hbwn | replace hbv := bl_step (bl_drew hbv) hbwn | replace hbv := bl_step (bl_drewN hbv _) hbwn)
      clear hbwn
      go_wp2_with fail
      refine (may_any _ _ _ _ _ hs).mono ?_
      rintro e wn ⟨rfl, hbwn⟩
      (first | replace Ba := Bk.be Ba hbwn | replace Ba := Bk.be Ba.dr hbwn | replace Ba := Bk.be (Ba.drN _) hbwn)
      clear a0 a1 a2 a3
      obtain ⟨a0, a1, a2, a3⟩ := Ba.c4
      (first | replace Bb := Bk.be Bb hbwn | replace Bb := Bk.be Bb.dr hbwn | replace Bb := Bk.be (Bb.drN _) hbwn)
      clear b0 b1 b2 b3
      obtain ⟨b0, b1, b2, b3⟩ := Bb.c4
      (first | replace hbv := bl_step hbv hbwn | replace hbv := bl_step (bl_drew hbv) hbwn | replace hbv := bl_step (bl_drewN hbv _) hbwn)
      clear hbwn
      go_wp2_with fail
      refine (awake07 _).mono ?_
      rintro e wn ⟨rfl, hbwn⟩
      (first | replace hbv := bl_step hbv hbwn | replace hbv := bl_step (bl_drew hbv) hbwn | replace hbv := bl_step (bl_drewN hbv _) hbwn)
      clear hbwn
      go_wp2_with fail
      go_ret
      refine ⟨rfl, ?_⟩
      repeat (first | (with_reducible exact Below.refl _ _) | (with_reducible apply bl_alloc) | (with_reducible apply bl_drew) | (with_reducible apply bl_drewN) | ((with_reducible refine bl_set ?_ ?hs _); case hs => (simp; try omega)) | (with_reducible refine bl_step ?_ (by assumption)))
  · have ma : mayR ⟨ax, ay, aw, ah⟩ = false := by simpa using ma
    obtain ⟨ax0, ax1⟩ := bounds_i64 wax
    obtain ⟨ay0, ay1⟩ := bounds_i64 way
    obtain ⟨aw0, aw1⟩ := bounds_i64 waw
    obtain ⟨ah0, ah1⟩ := bounds_i64 wah
    clear wax way waw wah
    obtain ⟨bx0, bx1⟩ := bounds_i64 wbx
    obtain ⟨bY0, bY1⟩ := bounds_i64 wbY
    obtain ⟨bw0, bw1⟩ := bounds_i64 wbw
    obtain ⟨bh0, bh1⟩ := bounds_i64 wbh
    clear wbx wbY wbw wbh
    obtain ⟨x0, x1⟩ := bounds_i64 wx
    obtain ⟨y0, y1⟩ := bounds_i64 wy
    obtain ⟨m0, m1⟩ := bounds_i64 wm
    obtain ⟨n0, n1⟩ := bounds_i64 wn
    clear wx wy wm wn
    have hr : I64 ⟨ax, ay, aw, ah⟩ := ⟨⟨ax0, ax1⟩, ⟨ay0, ay1⟩, ⟨aw0, aw1⟩, ah0, ah1⟩
    have hs : I64 ⟨bx, bY, bw, bh⟩ := ⟨⟨bx0, bx1⟩, ⟨bY0, bY1⟩, ⟨bw0, bw1⟩, bh0, bh1⟩
    go_enter Try.func13, Try.ntmps13
    go_wp2_with fail
    generalize hwv : ((w.alloc (.cells #[.int .i64 ax, .int .i64 ay, .int .i64 aw, .int .i64 ah] 23)).alloc (.cells #[.int .i64 bx, .int .i64 bY, .int .i64 bw, .int .i64 bh] 23)) = wv
    have Ba : Bk wv (w.heap.size) 23 #[.int .i64 ax, .int .i64 ay, .int .i64 aw, .int .i64 ah] := by rw [← hwv]; exact (Bk.al (Bk.new' _ _ _ (by simp)) _)
    obtain ⟨a0, a1, a2, a3⟩ := Ba.c4
    have Bb : Bk wv (w.heap.size + 1) 23 #[.int .i64 bx, .int .i64 bY, .int .i64 bw, .int .i64 bh] := by rw [← hwv]; exact (Bk.new' _ _ _ (by simp))
    obtain ⟨b0, b1, b2, b3⟩ := Bb.c4
    have hbv : Below w.heap.size w wv := by
      rw [← hwv]
      repeat (first | (with_reducible exact Below.refl _ _) | (with_reducible apply bl_alloc) | (with_reducible apply bl_drew) | (with_reducible apply bl_drewN) | ((with_reducible refine bl_set ?_ ?hs _); case hs => (simp; try omega)) | (with_reducible refine bl_step ?_ (by assumption)))
    clear hwv
    go_wp2_with fail
    refine (may_any _ _ _ _ _ hr).mono ?_
    rintro e wn ⟨rfl, hbwn⟩
    (first | replace Ba := Bk.be Ba hbwn | replace Ba := Bk.be Ba.dr hbwn | replace Ba := Bk.be (Ba.drN _) hbwn)
    clear a0 a1 a2 a3
    obtain ⟨a0, a1, a2, a3⟩ := Ba.c4
    (first | replace Bb := Bk.be Bb hbwn | replace Bb := Bk.be Bb.dr hbwn | replace Bb := Bk.be (Bb.drN _) hbwn)
    clear b0 b1 b2 b3
    obtain ⟨b0, b1, b2, b3⟩ := Bb.c4
    (first | replace hbv := bl_step hbv hbwn | replace hbv := bl_step (bl_drew hbv) hbwn | replace hbv := bl_step (bl_drewN hbv _) hbwn)
    clear hbwn
    go_wp2_with fail
    refine (awake07 _).mono ?_
    rintro e wn ⟨rfl, hbwn⟩
    (first | replace hbv := bl_step hbv hbwn | replace hbv := bl_step (bl_drew hbv) hbwn | replace hbv := bl_step (bl_drewN hbv _) hbwn)
    clear hbwn
    go_wp2_with fail
    go_ret
    refine ⟨rfl, ?_⟩
    repeat (first | (with_reducible exact Below.refl _ _) | (with_reducible apply bl_alloc) | (with_reducible apply bl_drew) | (with_reducible apply bl_drewN) | ((with_reducible refine bl_set ?_ ?hs _); case hs => (simp; try omega)) | (with_reducible refine bl_step ?_ (by assumption)))

end Go.Proofs.Ytghgngfmmncomaa.Rect
