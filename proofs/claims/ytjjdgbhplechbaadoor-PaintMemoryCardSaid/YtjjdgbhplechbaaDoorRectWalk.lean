/- The walks through the package rect: what each call answers. -/
import Derived.Test.YtjjdgbhplechbaaDoorRows
import Derived.Test.YtjjdgbhplechbaaDoorKit
import Derived.Test.YtjjdgbhplechbaaDoorRectMath
import Derived.Deep.RegionHeld3
import Derived.Deep.AppendLies
import Derived.Deep.QuietTactic
import Derived.BigQuiet
set_option linter.unusedVariables false
set_option linter.unusedSimpArgs false
namespace Go.Proofs.YtjjdgbhplechbaaDoor.Rect
open Go.RowKit Go.Proofs.YtjjdgbhplechbaaDoor.Kit
attribute [local go_sem high] bmax2 bmin2 bmax_2 bmin_2 bmax_3 bmin_3 bmax_4 bmin_4

set_option maxHeartbeats 1000000 in
theorem Empty_any (x y a b : Int) (w : World) : Calls Tryd.prog 74 #[.agg #[.int .i64 x, .int .i64 y, .int .i64 a, .int .i64 b]] w fun e w' => e = .returned (.bool (emp ⟨x, y, a, b⟩)) ∧ Below w.heap.size w w' := by
  go_enter Tryd.func74, Tryd.ntmps74
  go_wp2
  all_goals
    go_ret
    refine ⟨ret_bool ?_, (Below.refl _ _).alloc (Nat.le_refl _) _⟩
    rw [Bool.eq_iff_iff]; simp only [emp_t]; simp; try omega

theorem u64_sub {x p : Int} (h0 : x ≤ p) (hx : -9223372036854775808 ≤ x) (hp' : p ≤ 9223372036854775807) :
    IntKind.u64.wrap (IntKind.u64.wrap p - IntKind.u64.wrap x) = p - x := by
  have e : ∀ n : Int, IntKind.u64.wrap n = n % 18446744073709551616 := fun n => by simp [IntKind.wrap, IntKind.bits, IntKind.signed]
  rw [e, e, e]
  omega

set_option maxHeartbeats 1000000 in
theorem has_any (x n p : Int) (w : World) (hx : -9223372036854775808 ≤ x) (_ : x ≤ 9223372036854775807) (_ : -9223372036854775808 ≤ p) (hp' : p ≤ 9223372036854775807) (hn : 1 ≤ n) (hn' : n ≤ 9223372036854775807) :
    Calls Tryd.prog 78 #[.int .i64 x, .int .i64 n, .int .i64 p] w fun e w' => e = .returned (.bool (decide (x ≤ p) && decide (p < x + n))) ∧ w = w' := by
  by_cases h : x ≤ p
  · have q := Lib.hid (u64_sub h hx hp')
    go_enter Tryd.func78, Tryd.ntmps78
    go_wp2
    go_ret
    refine ⟨ret_bool ?_, rfl⟩
    show decide (IntKind.u64.wrap (IntKind.u64.wrap p - IntKind.u64.wrap x) < n) = _
    rw [q.out, Bool.eq_iff_iff]
    simp; omega
  · go_enter Tryd.func78, Tryd.ntmps78
    go_wp2
    go_ret
    refine ⟨ret_bool ?_, rfl⟩
    have h' : ¬ x ≤ p := by omega
    simp [h']

theorem bcell {W w1 : World} (hb : Below W.heap.size W w1) : (∀ b o, b < W.heap.size → w1.cell? ⟨b, o, none⟩ = W.cell? ⟨b, o, none⟩) ∧ (∀ b o, b < W.heap.size → w1.frozen? ⟨b, o, none⟩ = W.frozen? ⟨b, o, none⟩) :=
  ⟨fun b o h => hb.cell (p := ⟨b, o, none⟩) h, fun b o h => hb.frozen (p := ⟨b, o, none⟩) h⟩

set_option maxHeartbeats 2000000 in
theorem Has_any (x y a b p q : Int) (w : World) (hr : I64 ⟨x, y, a, b⟩) (hp : -9223372036854775808 ≤ p ∧ p ≤ 9223372036854775807) (hq : -9223372036854775808 ≤ q ∧ q ≤ 9223372036854775807) :
    Calls Tryd.prog 52 #[.agg #[.int .i64 x, .int .i64 y, .int .i64 a, .int .i64 b], .int .i64 p, .int .i64 q] w fun e w' => e = .returned (.bool (rHas ⟨x, y, a, b⟩ p q)) ∧ Below w.heap.size w w' := by
  obtain ⟨⟨x0, x1⟩, ⟨y0, y1⟩, ⟨a0, a1⟩, b0, b1⟩ := hr
  obtain ⟨p0, p1⟩ := hp
  obtain ⟨q0, q1⟩ := hq
  simp only at x0 x1 y0 y1 a0 a1 b0 b1
  by_cases he : emp ⟨x, y, a, b⟩ = true
  · have hf : rHas ⟨x, y, a, b⟩ p q = false := by
      have := inR_emp (p := p) (q := q) he
      simp [rHas, this]
    have HF := Lib.hid hf
    clear hf
    go_enter Tryd.func52, Tryd.ntmps52
    go_wp2_with fail
    refine (Empty_any _ _ _ _ _).mono ?_
    rintro e w1 ⟨rfl, hb1⟩
    go_wp2_with fail
    go_ret
    refine ⟨ret_bool HF.out.symm, ?_⟩
    repeat (first | exact Below.refl _ _ | apply bl_alloc | apply bl_drew | apply bl_drewN | (refine bl_step ?_ (by assumption)))
  · have he : emp ⟨x, y, a, b⟩ = false := by simpa using he
    obtain ⟨ha, hb⟩ := emp_f.1 he
    simp only at ha hb
    go_enter Tryd.func52, Tryd.ntmps52
    go_wp2_with fail
    refine (Empty_any _ _ _ _ _).mono ?_
    rintro e w1 ⟨rfl, hb1⟩
    obtain ⟨hc1, -⟩ := bcell hb1
    go_wp2_with fail
    refine (has_any _ _ _ _ (by omega) (by omega) (by omega) (by omega) (by omega) (by omega)).mono ?_
    rintro e w2 ⟨rfl, rfl⟩
    by_cases h1 : (decide (x ≤ p) && decide (p < x + a)) = true
    · go_wp2_with fail
      refine (has_any _ _ _ _ (by omega) (by omega) (by omega) (by omega) (by omega) (by omega)).mono ?_
      rintro e w2 ⟨rfl, rfl⟩
      go_wp2_with fail
      go_ret
      refine ⟨ret_bool ?_, ?_⟩
      · show (decide (y ≤ q) && decide (q < y + b)) = _
        rw [Bool.eq_iff_iff, has_iff]
        simp at h1
        simp [inR]; omega
      repeat (first | exact Below.refl _ _ | apply bl_alloc | apply bl_drew | apply bl_drewN | refine bl_set ?_ (by simp) _ | (refine bl_step ?_ (by assumption)))
    · have h1 : (decide (x ≤ p) && decide (p < x + a)) = false := by simpa using h1
      go_wp2_with fail
      go_ret
      refine ⟨ret_bool ?_, ?_⟩
      · symm
        rw [Bool.eq_false_iff, Ne, has_iff]
        simp at h1
        simp only [inR]; omega
      repeat (first | exact Below.refl _ _ | apply bl_alloc | apply bl_drew | apply bl_drewN | refine bl_set ?_ (by simp) _ | (refine bl_step ?_ (by assumption)))

theorem rOf_vals {x0 y0 x1 y1 : Int} (h : emp ⟨x0, y0, x1 - x0, y1 - y0⟩ = false) : rOf x0 y0 x1 y1 = ⟨x0, y0, x1 - x0, y1 - y0⟩ := by
  have := emp_f.1 h
  simp only at this
  exact rOf_mk (by omega)
theorem rOf_vals0 {x0 y0 x1 y1 : Int} (h : emp ⟨x0, y0, x1 - x0, y1 - y0⟩ = true) : rOf x0 y0 x1 y1 = zR := by
  have := emp_t.1 h
  simp only at this
  exact rOf_z (by omega)
theorem emp_r (r : R) : emp ⟨r.x, r.y, r.w, r.h⟩ = emp r := rfl

set_option maxHeartbeats 2000000 in
theorem of_any (a b c d : Int) (w : World) (_ : -17179869184 ≤ a) (_ : a ≤ 17179869184) (_ : -17179869184 ≤ b) (_ : b ≤ 17179869184) (_ : -17179869184 ≤ c) (_ : c ≤ 17179869184) (_ : -17179869184 ≤ d) (_ : d ≤ 17179869184) :
    Calls Tryd.prog 91 #[.int .i64 a, .int .i64 b, .int .i64 c, .int .i64 d] w fun e w' => e = .returned (.agg #[.int .i64 (rOf a b c d).x, .int .i64 (rOf a b c d).y, .int .i64 (rOf a b c d).w, .int .i64 (rOf a b c d).h]) ∧ Below w.heap.size w w' := by
  by_cases he : emp ⟨a, b, c - a, d - b⟩ = true
  · rw [rOf_vals0 he]
    go_enter Tryd.func91, Tryd.ntmps91
    go_wp2_with fail
    refine (Empty_any _ _ _ _ _).mono ?_
    rintro e w1 ⟨rfl, hb1⟩
    obtain ⟨hc1, hf1⟩ := bcell hb1
    go_wp2_with fail
    refine post_cell w.heap.size 32 #[.int .i64 0, .int .i64 0, .int .i64 0, .int .i64 0] Tryd.results91 Tryd.underlying32 rfl (by kernel_rfl) rfl (((((((Bk.new w _ _).al _).be hb1).st 0 _).st 1 _).st 2 _).st 3 _) rfl ⟨rfl, ?_⟩
    repeat (first | exact Below.refl _ _ | apply bl_alloc | apply bl_drew | apply bl_drewN | refine bl_set ?_ (by simp) _ | (refine bl_step ?_ (by assumption)))
  · have he : emp ⟨a, b, c - a, d - b⟩ = false := by simpa using he
    rw [rOf_vals he]
    go_enter Tryd.func91, Tryd.ntmps91
    go_wp2_with fail
    refine (Empty_any _ _ _ _ _).mono ?_
    rintro e w1 ⟨rfl, hb1⟩
    obtain ⟨hc1, hf1⟩ := bcell hb1
    go_wp2_with fail
    refine post_cell w.heap.size 32 #[.int .i64 a, .int .i64 b, .int .i64 (c - a), .int .i64 (d - b)] Tryd.results91 Tryd.underlying32 rfl (by kernel_rfl) rfl (((((((Bk.new w _ _).al _).be hb1).st 0 _).st 1 _).st 2 _).st 3 _) rfl ⟨rfl, ?_⟩
    repeat (first | exact Below.refl _ _ | apply bl_alloc | apply bl_drew | apply bl_drewN | refine bl_set ?_ (by simp) _ | (refine bl_step ?_ (by assumption)))


set_option maxHeartbeats 4000000 in
theorem Cut_any (ax ay aw ah bx bY bw bh : Int) (w : World) (ha : emp ⟨ax, ay, aw, ah⟩ = false → Sm ⟨ax, ay, aw, ah⟩) (hb : emp ⟨bx, bY, bw, bh⟩ = false → Sm ⟨bx, bY, bw, bh⟩) :
    Calls Tryd.prog 72 #[.agg #[.int .i64 ax, .int .i64 ay, .int .i64 aw, .int .i64 ah], .agg #[.int .i64 bx, .int .i64 bY, .int .i64 bw, .int .i64 bh]] w fun e w' => e = .returned (.agg #[.int .i64 (rCut ⟨ax, ay, aw, ah⟩ ⟨bx, bY, bw, bh⟩).x, .int .i64 (rCut ⟨ax, ay, aw, ah⟩ ⟨bx, bY, bw, bh⟩).y, .int .i64 (rCut ⟨ax, ay, aw, ah⟩ ⟨bx, bY, bw, bh⟩).w, .int .i64 (rCut ⟨ax, ay, aw, ah⟩ ⟨bx, bY, bw, bh⟩).h]) ∧ Below w.heap.size w w' := by
  by_cases ea : emp ⟨ax, ay, aw, ah⟩ = true
  · rw [show rCut ⟨ax, ay, aw, ah⟩ ⟨bx, bY, bw, bh⟩ = zR by unfold rCut; rw [if_pos (by simp [ea])]]
    clear ha hb
    go_enter Tryd.func72, Tryd.ntmps72
    go_wp2_with fail
    refine (Empty_any _ _ _ _ _).mono ?_
    rintro e w1 ⟨rfl, hbw1⟩
    have Bzw1 : Bk w1 (w.heap.size + 1 + 1) 32 #[.int .i64 0, .int .i64 0, .int .i64 0, .int .i64 0] := (Bk.new' _ _ _ (by simp)).be hbw1
    obtain ⟨zw10, zw11, zw12, zw13⟩ := Bzw1.c4
    have zw1f := Bzw1.fz
    go_wp2_with fail
    refine post_cell (w.heap.size + 1 + 1) 32 #[.int .i64 0, .int .i64 0, .int .i64 0, .int .i64 0] Tryd.results72 Tryd.underlying32 rfl (by kernel_rfl) rfl ((((Bzw1.st 0 _).st 1 _).st 2 _).st 3 _) rfl ⟨rfl, ?_⟩
    repeat (first | exact Below.refl _ _ | apply bl_alloc | apply bl_drew | apply bl_drewN | refine bl_set ?_ (by simp; try omega) _ | (refine bl_step ?_ (by assumption)))
  have ea : emp ⟨ax, ay, aw, ah⟩ = false := by simpa using ea
  by_cases eb : emp ⟨bx, bY, bw, bh⟩ = true
  · rw [show rCut ⟨ax, ay, aw, ah⟩ ⟨bx, bY, bw, bh⟩ = zR by unfold rCut; rw [if_pos (by simp [eb])]]
    clear ha hb
    go_enter Tryd.func72, Tryd.ntmps72
    go_wp2_with fail
    refine (Empty_any _ _ _ _ _).mono ?_
    rintro e w1 ⟨rfl, hbw1⟩
    have Bbw1 : Bk w1 (w.heap.size + 1) 32 #[.int .i64 bx, .int .i64 bY, .int .i64 bw, .int .i64 bh] := ((Bk.new' _ _ _ (by simp)).al _).be hbw1
    obtain ⟨bw10, bw11, bw12, bw13⟩ := Bbw1.c4
    have bw1f := Bbw1.fz
    have Bzw1 : Bk w1 (w.heap.size + 1 + 1) 32 #[.int .i64 0, .int .i64 0, .int .i64 0, .int .i64 0] := (Bk.new' _ _ _ (by simp)).be hbw1
    obtain ⟨zw10, zw11, zw12, zw13⟩ := Bzw1.c4
    have zw1f := Bzw1.fz
    go_wp2_with fail
    refine (Empty_any _ _ _ _ _).mono ?_
    rintro e w2 ⟨rfl, hbw2⟩
    have Bzw2 : Bk w2 (w.heap.size + 1 + 1) 32 #[.int .i64 0, .int .i64 0, .int .i64 0, .int .i64 0] := Bzw1.be hbw2
    obtain ⟨zw20, zw21, zw22, zw23⟩ := Bzw2.c4
    have zw2f := Bzw2.fz
    go_wp2_with fail
    refine post_cell (w.heap.size + 1 + 1) 32 #[.int .i64 0, .int .i64 0, .int .i64 0, .int .i64 0] Tryd.results72 Tryd.underlying32 rfl (by kernel_rfl) rfl ((((Bzw2.st 0 _).st 1 _).st 2 _).st 3 _) rfl ⟨rfl, ?_⟩
    repeat (first | exact Below.refl _ _ | apply bl_alloc | apply bl_drew | apply bl_drewN | refine bl_set ?_ (by simp; try omega) _ | (refine bl_step ?_ (by assumption)))
  · have eb : emp ⟨bx, bY, bw, bh⟩ = false := by simpa using eb
    rw [show rCut ⟨ax, ay, aw, ah⟩ ⟨bx, bY, bw, bh⟩ = rOf (mxI ax bx) (mxI ay bY) (mnI (ax + aw) (bx + bw)) (mnI (ay + ah) (bY + bh)) by unfold rCut; rw [if_neg (by simp [ea, eb])]; simp only [mxI_max, mnI_min]]
    have ha := ha ea
    have hb := hb eb
    obtain ⟨ka, ka'⟩ := emp_f.1 ea
    obtain ⟨kb, kb'⟩ := emp_f.1 eb
    simp only [Sm] at ha hb ka ka' kb kb'
    obtain ⟨a1, a2, a3, a4, a5, a6⟩ := ha
    obtain ⟨b1, b2, b3, b4, b5, b6⟩ := hb
    go_enter Tryd.func72, Tryd.ntmps72
    go_wp2_with fail
    refine (Empty_any _ _ _ _ _).mono ?_
    rintro e w1 ⟨rfl, hbw1⟩
    have Baw1 : Bk w1 (w.heap.size) 32 #[.int .i64 ax, .int .i64 ay, .int .i64 aw, .int .i64 ah] := (((Bk.new' _ _ _ (by simp)).al _).al _).be hbw1
    obtain ⟨aw10, aw11, aw12, aw13⟩ := Baw1.c4
    have aw1f := Baw1.fz
    have Bbw1 : Bk w1 (w.heap.size + 1) 32 #[.int .i64 bx, .int .i64 bY, .int .i64 bw, .int .i64 bh] := ((Bk.new' _ _ _ (by simp)).al _).be hbw1
    obtain ⟨bw10, bw11, bw12, bw13⟩ := Bbw1.c4
    have bw1f := Bbw1.fz
    have Bzw1 : Bk w1 (w.heap.size + 1 + 1) 32 #[.int .i64 0, .int .i64 0, .int .i64 0, .int .i64 0] := (Bk.new' _ _ _ (by simp)).be hbw1
    obtain ⟨zw10, zw11, zw12, zw13⟩ := Bzw1.c4
    have zw1f := Bzw1.fz
    go_wp2_with fail
    refine (Empty_any _ _ _ _ _).mono ?_
    rintro e w2 ⟨rfl, hbw2⟩
    have Baw2 : Bk w2 (w.heap.size) 32 #[.int .i64 ax, .int .i64 ay, .int .i64 aw, .int .i64 ah] := Baw1.be hbw2
    obtain ⟨aw20, aw21, aw22, aw23⟩ := Baw2.c4
    have aw2f := Baw2.fz
    have Bbw2 : Bk w2 (w.heap.size + 1) 32 #[.int .i64 bx, .int .i64 bY, .int .i64 bw, .int .i64 bh] := Bbw1.be hbw2
    obtain ⟨bw20, bw21, bw22, bw23⟩ := Bbw2.c4
    have bw2f := Bbw2.fz
    have Bzw2 : Bk w2 (w.heap.size + 1 + 1) 32 #[.int .i64 0, .int .i64 0, .int .i64 0, .int .i64 0] := Bzw1.be hbw2
    obtain ⟨zw20, zw21, zw22, zw23⟩ := Bzw2.c4
    have zw2f := Bzw2.fz
    go_wp2_with fail
    refine (of_any _ _ _ _ _ (by first | omega | (simp only [mxI_max, mnI_min]; omega)) (by first | omega | (simp only [mxI_max, mnI_min]; omega)) (by first | omega | (simp only [mxI_max, mnI_min]; omega)) (by first | omega | (simp only [mxI_max, mnI_min]; omega)) (by first | omega | (simp only [mxI_max, mnI_min]; omega)) (by first | omega | (simp only [mxI_max, mnI_min]; omega)) (by first | omega | (simp only [mxI_max, mnI_min]; omega)) (by first | omega | (simp only [mxI_max, mnI_min]; omega))).mono ?_
    rintro e w3 ⟨rfl, hbw3⟩
    have Bzw3 : Bk w3 (w.heap.size + 1 + 1) 32 #[.int .i64 0, .int .i64 0, .int .i64 0, .int .i64 0] := Bzw2.be hbw3
    obtain ⟨zw30, zw31, zw32, zw33⟩ := Bzw3.c4
    have zw3f := Bzw3.fz
    go_wp2_with fail
    generalize rOf (mxI ax bx) (mxI ay bY) (mnI (ax + aw) (bx + bw)) (mnI (ay + ah) (bY + bh)) = r at *
    refine post_cell (w.heap.size + 1 + 1) 32 #[.int .i64 r.x, .int .i64 r.y, .int .i64 r.w, .int .i64 r.h] Tryd.results72 Tryd.underlying32 rfl (by kernel_rfl) rfl ((((Bzw3.st 0 _).st 1 _).st 2 _).st 3 _) rfl ⟨rfl, ?_⟩
    repeat (first | exact Below.refl _ _ | apply bl_alloc | apply bl_drew | apply bl_drewN | refine bl_set ?_ (by simp; try omega) _ | (refine bl_step ?_ (by assumption)))
end Go.Proofs.YtjjdgbhplechbaaDoor.Rect
