/- The walks through the package rect, second part. -/
import Derived.Test.YtjjdgbhplechbaaDoorRectWalk
import Derived.Laws.StructEq
set_option linter.unusedVariables false
set_option linter.unusedSimpArgs false
namespace Go.Proofs.YtjjdgbhplechbaaDoor.Rect
open Go.RowKit Go.Proofs.YtjjdgbhplechbaaDoor.Kit
attribute [local go_sem high] bmax2 bmin2 bmax_2 bmin_2 bmax_3 bmin_3 bmax_4 bmin_4

def eqR (a b : R) : Bool := a.x == b.x && (a.y == b.y && (a.w == b.w && a.h == b.h))
theorem eqR_iff {a b : R} : eqR a b = true ↔ a = b := by
  cases a; cases b; simp [eqR]
theorem eqR_refl (a : R) : eqR a a = true := eqR_iff.2 rfl
theorem eqR_z {x y a b : Int} (h : emp ⟨x, y, a, b⟩ = false) : eqR ⟨x, y, a, b⟩ ⟨0, 0, 0, 0⟩ = false := by
  rw [Bool.eq_false_iff, Ne, eqR_iff]
  intro e
  rw [e] at h
  exact absurd h (by decide)
set_option maxHeartbeats 1000000 in
theorem rEq (d : Nat) (w : World) (x0 x1 x2 x3 y0 y1 y2 y3 : Int) :
    (Op.equalIn (d + 2) 32 (.agg #[.int .i64 x0, .int .i64 x1, .int .i64 x2, .int .i64 x3]) (.agg #[.int .i64 y0, .int .i64 y1, .int .i64 y2, .int .i64 y3])).run Tryd.prog w = .ok (eqR ⟨x0, x1, x2, x3⟩ ⟨y0, y1, y2, y3⟩) w := by
  have hu := Tryd.underlying32
  have h3 := Tryd.underlying3
  have hp : Tryd.prog.stoodInHeld 32 = false := by kernel_rfl
  rw [run_equalIn_struct w (d + 1) 32 _ _ (by simp only [Program.fieldsOf, hu]) hp]
  unfold eqR
  by_cases c0 : x0 = y0 <;> by_cases c1 : x1 = y1 <;> by_cases c2 : x2 = y2 <;> by_cases c3 : x3 = y3
  all_goals (go_simp; try simp [c0, c1, c2, c3])
attribute [local go_sem high] rEq

set_option maxHeartbeats 8000000 in
theorem Cover_any (ax ay aw ah bx bY bw bh : Int) (w : World) (ha : emp ⟨ax, ay, aw, ah⟩ = false → Sm ⟨ax, ay, aw, ah⟩) (hb : emp ⟨bx, bY, bw, bh⟩ = false → Sm ⟨bx, bY, bw, bh⟩) :
    Calls Tryd.prog 103 #[.agg #[.int .i64 ax, .int .i64 ay, .int .i64 aw, .int .i64 ah], .agg #[.int .i64 bx, .int .i64 bY, .int .i64 bw, .int .i64 bh]] w fun e w' => e = .returned (.agg #[.int .i64 (rCover ⟨ax, ay, aw, ah⟩ ⟨bx, bY, bw, bh⟩).x, .int .i64 (rCover ⟨ax, ay, aw, ah⟩ ⟨bx, bY, bw, bh⟩).y, .int .i64 (rCover ⟨ax, ay, aw, ah⟩ ⟨bx, bY, bw, bh⟩).w, .int .i64 (rCover ⟨ax, ay, aw, ah⟩ ⟨bx, bY, bw, bh⟩).h]) ∧ Below w.heap.size w w' := by
  have z0 : eqR ⟨0, 0, 0, 0⟩ ⟨0, 0, 0, 0⟩ = true := by decide
  by_cases ea : emp ⟨ax, ay, aw, ah⟩ = true
  · clear ha
    by_cases eb : emp ⟨bx, bY, bw, bh⟩ = true
    · rw [show rCover ⟨ax, ay, aw, ah⟩ ⟨bx, bY, bw, bh⟩ = zR by unfold rCover; rw [if_pos ea, if_pos eb]]
      clear hb
      go_enter Tryd.func103, Tryd.ntmps103
      go_wp2_with fail
      refine (Empty_any _ _ _ _ _).mono ?_
      rintro e w1 ⟨rfl, hbw1⟩
      have Baw1 : Bk w1 (w.heap.size) 32 #[.int .i64 ax, .int .i64 ay, .int .i64 aw, .int .i64 ah] := (((Bk.new' _ _ _ (by simp)).al _).al _).be hbw1
      obtain ⟨aw10, aw11, aw12, aw13⟩ := Baw1.c4
      have aw1f := Baw1.fz
      have Bbw1 : Bk w1 (w.heap.size + 1) 32 #[.int .i64 bx, .int .i64 bY, .int .i64 bw, .int .i64 bh] := ((Bk.new' _ _ _ (by simp)).al _).be hbw1
      obtain ⟨bw10, bw11, bw12, bw13⟩ := Bbw1.c4
      have bw1f := Bbw1.fz
      have Bzw1 : Bk w1 (w.heap.size + 1 + 1) 32 #[.int .i64 0, .int .i64 0, .int .i64 0, .int .i64 0] := (Bk.new' _ _ _ (by simp)).be hbw1
      obtain ⟨zw10, zw11, zw12, zw13⟩ := Bzw1.c4
      have zw1f := Bzw1.fz
      go_wp2_with fail
      refine (Empty_any _ _ _ _ _).mono ?_
      rintro e w2 ⟨rfl, hbw2⟩
      have Baw2 : Bk w2 (w.heap.size) 32 #[.int .i64 0, .int .i64 0, .int .i64 0, .int .i64 0] := ((((Baw1.st 0 _).st 1 _).st 2 _).st 3 _).be hbw2
      obtain ⟨aw20, aw21, aw22, aw23⟩ := Baw2.c4
      have aw2f := Baw2.fz
      have Bbw2 : Bk w2 (w.heap.size + 1) 32 #[.int .i64 bx, .int .i64 bY, .int .i64 bw, .int .i64 bh] := (Bbw1.ot4 (b := w.heap.size) (by omega) (.int .i64 0) (.int .i64 0) (.int .i64 0) (.int .i64 0)).be hbw2
      obtain ⟨bw20, bw21, bw22, bw23⟩ := Bbw2.c4
      have bw2f := Bbw2.fz
      have Bzw2 : Bk w2 (w.heap.size + 1 + 1) 32 #[.int .i64 0, .int .i64 0, .int .i64 0, .int .i64 0] := (Bzw1.ot4 (b := w.heap.size) (by omega) (.int .i64 0) (.int .i64 0) (.int .i64 0) (.int .i64 0)).be hbw2
      obtain ⟨zw20, zw21, zw22, zw23⟩ := Bzw2.c4
      have zw2f := Bzw2.fz
      go_wp2_with fail
      have hI : (Tryd.prog.info? 32).map (·.size) = some (#[.int .i64 0, .int .i64 0, .int .i64 0, .int .i64 0] : Array Value).size := by kernel_rfl
      refine post_cell (w.heap.size + 1 + 1) 32 #[.int .i64 0, .int .i64 0, .int .i64 0, .int .i64 0] Tryd.results103 Tryd.underlying32 rfl hI rfl ?bk rfl ⟨rfl, ?_⟩
      case bk => exact (((((Bzw2.ot4 (b := w.heap.size + 1) (by omega) (.int .i64 0) (.int .i64 0) (.int .i64 0) (.int .i64 0)).st 0 _).st 1 _).st 2 _).st 3 _)
      repeat (first | (with_reducible exact Below.refl _ _) | (with_reducible apply bl_alloc) | (with_reducible apply bl_drew) | (with_reducible apply bl_drewN) | ((with_reducible refine bl_set ?_ ?hs _); case hs => (simp; try omega)) | (with_reducible refine bl_step ?_ (by assumption)))

    · have eb : emp ⟨bx, bY, bw, bh⟩ = false := by simpa using eb
      rw [show rCover ⟨ax, ay, aw, ah⟩ ⟨bx, bY, bw, bh⟩ = ⟨bx, bY, bw, bh⟩ by unfold rCover; rw [if_pos ea, if_neg (by simp [eb])]]
      go_enter Tryd.func103, Tryd.ntmps103
      go_wp2_with fail
      refine (Empty_any _ _ _ _ _).mono ?_
      rintro e w1 ⟨rfl, hbw1⟩
      have Baw1 : Bk w1 (w.heap.size) 32 #[.int .i64 ax, .int .i64 ay, .int .i64 aw, .int .i64 ah] := (((Bk.new' _ _ _ (by simp)).al _).al _).be hbw1
      obtain ⟨aw10, aw11, aw12, aw13⟩ := Baw1.c4
      have aw1f := Baw1.fz
      have Bbw1 : Bk w1 (w.heap.size + 1) 32 #[.int .i64 bx, .int .i64 bY, .int .i64 bw, .int .i64 bh] := ((Bk.new' _ _ _ (by simp)).al _).be hbw1
      obtain ⟨bw10, bw11, bw12, bw13⟩ := Bbw1.c4
      have bw1f := Bbw1.fz
      have Bzw1 : Bk w1 (w.heap.size + 1 + 1) 32 #[.int .i64 0, .int .i64 0, .int .i64 0, .int .i64 0] := (Bk.new' _ _ _ (by simp)).be hbw1
      obtain ⟨zw10, zw11, zw12, zw13⟩ := Bzw1.c4
      have zw1f := Bzw1.fz
      go_wp2_with fail
      refine (Empty_any _ _ _ _ _).mono ?_
      rintro e w2 ⟨rfl, hbw2⟩
      have Baw2 : Bk w2 (w.heap.size) 32 #[.int .i64 0, .int .i64 0, .int .i64 0, .int .i64 0] := ((((Baw1.st 0 _).st 1 _).st 2 _).st 3 _).be hbw2
      obtain ⟨aw20, aw21, aw22, aw23⟩ := Baw2.c4
      have aw2f := Baw2.fz
      have Bbw2 : Bk w2 (w.heap.size + 1) 32 #[.int .i64 bx, .int .i64 bY, .int .i64 bw, .int .i64 bh] := (Bbw1.ot4 (b := w.heap.size) (by omega) (.int .i64 0) (.int .i64 0) (.int .i64 0) (.int .i64 0)).be hbw2
      obtain ⟨bw20, bw21, bw22, bw23⟩ := Bbw2.c4
      have bw2f := Bbw2.fz
      have Bzw2 : Bk w2 (w.heap.size + 1 + 1) 32 #[.int .i64 0, .int .i64 0, .int .i64 0, .int .i64 0] := (Bzw1.ot4 (b := w.heap.size) (by omega) (.int .i64 0) (.int .i64 0) (.int .i64 0) (.int .i64 0)).be hbw2
      obtain ⟨zw20, zw21, zw22, zw23⟩ := Bzw2.c4
      have zw2f := Bzw2.fz
      go_wp2_with fail
      have hI : (Tryd.prog.info? 32).map (·.size) = some (#[.int .i64 bx, .int .i64 bY, .int .i64 bw, .int .i64 bh] : Array Value).size := by kernel_rfl
      refine post_cell (w.heap.size + 1 + 1) 32 #[.int .i64 bx, .int .i64 bY, .int .i64 bw, .int .i64 bh] Tryd.results103 Tryd.underlying32 rfl hI rfl ?bk rfl ⟨rfl, ?_⟩
      case bk => exact ((((Bzw2.st 0 _).st 1 _).st 2 _).st 3 _)
      repeat (first | (with_reducible exact Below.refl _ _) | (with_reducible apply bl_alloc) | (with_reducible apply bl_drew) | (with_reducible apply bl_drewN) | ((with_reducible refine bl_set ?_ ?hs _); case hs => (simp; try omega)) | (with_reducible refine bl_step ?_ (by assumption)))

  have ea : emp ⟨ax, ay, aw, ah⟩ = false := by simpa using ea
  have za := eqR_z ea
  by_cases eb : emp ⟨bx, bY, bw, bh⟩ = true
  · rw [show rCover ⟨ax, ay, aw, ah⟩ ⟨bx, bY, bw, bh⟩ = ⟨ax, ay, aw, ah⟩ by unfold rCover; rw [if_neg (by simp [ea]), if_pos eb]]
    clear ha hb
    go_enter Tryd.func103, Tryd.ntmps103
    go_wp2_with fail
    refine (Empty_any _ _ _ _ _).mono ?_
    rintro e w1 ⟨rfl, hbw1⟩
    have Baw1 : Bk w1 (w.heap.size) 32 #[.int .i64 ax, .int .i64 ay, .int .i64 aw, .int .i64 ah] := (((Bk.new' _ _ _ (by simp)).al _).al _).be hbw1
    obtain ⟨aw10, aw11, aw12, aw13⟩ := Baw1.c4
    have aw1f := Baw1.fz
    have Bbw1 : Bk w1 (w.heap.size + 1) 32 #[.int .i64 bx, .int .i64 bY, .int .i64 bw, .int .i64 bh] := ((Bk.new' _ _ _ (by simp)).al _).be hbw1
    obtain ⟨bw10, bw11, bw12, bw13⟩ := Bbw1.c4
    have bw1f := Bbw1.fz
    have Bzw1 : Bk w1 (w.heap.size + 1 + 1) 32 #[.int .i64 0, .int .i64 0, .int .i64 0, .int .i64 0] := (Bk.new' _ _ _ (by simp)).be hbw1
    obtain ⟨zw10, zw11, zw12, zw13⟩ := Bzw1.c4
    have zw1f := Bzw1.fz
    go_wp2_with fail
    refine (Empty_any _ _ _ _ _).mono ?_
    rintro e w2 ⟨rfl, hbw2⟩
    have Baw2 : Bk w2 (w.heap.size) 32 #[.int .i64 ax, .int .i64 ay, .int .i64 aw, .int .i64 ah] := Baw1.be hbw2
    obtain ⟨aw20, aw21, aw22, aw23⟩ := Baw2.c4
    have aw2f := Baw2.fz
    have Bbw2 : Bk w2 (w.heap.size + 1) 32 #[.int .i64 bx, .int .i64 bY, .int .i64 bw, .int .i64 bh] := Bbw1.be hbw2
    obtain ⟨bw20, bw21, bw22, bw23⟩ := Bbw2.c4
    have bw2f := Bbw2.fz
    have Bzw2 : Bk w2 (w.heap.size + 1 + 1) 32 #[.int .i64 0, .int .i64 0, .int .i64 0, .int .i64 0] := Bzw1.be hbw2
    obtain ⟨zw20, zw21, zw22, zw23⟩ := Bzw2.c4
    have zw2f := Bzw2.fz
    go_wp2_with fail
    have hI : (Tryd.prog.info? 32).map (·.size) = some (#[.int .i64 ax, .int .i64 ay, .int .i64 aw, .int .i64 ah] : Array Value).size := by kernel_rfl
    refine post_cell (w.heap.size + 1 + 1) 32 #[.int .i64 ax, .int .i64 ay, .int .i64 aw, .int .i64 ah] Tryd.results103 Tryd.underlying32 rfl hI rfl ?bk rfl ⟨rfl, ?_⟩
    case bk => exact (((((Bzw2.ot4 (b := w.heap.size + 1) (by omega) (.int .i64 0) (.int .i64 0) (.int .i64 0) (.int .i64 0)).st 0 _).st 1 _).st 2 _).st 3 _)
    repeat (first | (with_reducible exact Below.refl _ _) | (with_reducible apply bl_alloc) | (with_reducible apply bl_drew) | (with_reducible apply bl_drewN) | ((with_reducible refine bl_set ?_ ?hs _); case hs => (simp; try omega)) | (with_reducible refine bl_step ?_ (by assumption)))

  · have eb : emp ⟨bx, bY, bw, bh⟩ = false := by simpa using eb
    have zb := eqR_z eb
    rw [show rCover ⟨ax, ay, aw, ah⟩ ⟨bx, bY, bw, bh⟩ = rOf (mnI ax bx) (mnI ay bY) (mxI (ax + aw) (bx + bw)) (mxI (ay + ah) (bY + bh)) by unfold rCover; rw [if_neg (by simp [ea]), if_neg (by simp [eb])]; simp only [mxI_max, mnI_min]]
    have ha := ha ea
    obtain ⟨ka, ka'⟩ := emp_f.1 ea
    simp only [Sm] at ha ka ka'
    obtain ⟨a1, a2, a3, a4, a5, a6⟩ := ha
    have hb := hb eb
    obtain ⟨kb, kb'⟩ := emp_f.1 eb
    simp only [Sm] at hb kb kb'
    obtain ⟨b1, b2, b3, b4, b5, b6⟩ := hb
    go_enter Tryd.func103, Tryd.ntmps103
    go_wp2_with fail
    refine (Empty_any _ _ _ _ _).mono ?_
    rintro e w1 ⟨rfl, hbw1⟩
    have Baw1 : Bk w1 (w.heap.size) 32 #[.int .i64 ax, .int .i64 ay, .int .i64 aw, .int .i64 ah] := (((Bk.new' _ _ _ (by simp)).al _).al _).be hbw1
    obtain ⟨aw10, aw11, aw12, aw13⟩ := Baw1.c4
    have aw1f := Baw1.fz
    have Bbw1 : Bk w1 (w.heap.size + 1) 32 #[.int .i64 bx, .int .i64 bY, .int .i64 bw, .int .i64 bh] := ((Bk.new' _ _ _ (by simp)).al _).be hbw1
    obtain ⟨bw10, bw11, bw12, bw13⟩ := Bbw1.c4
    have bw1f := Bbw1.fz
    have Bzw1 : Bk w1 (w.heap.size + 1 + 1) 32 #[.int .i64 0, .int .i64 0, .int .i64 0, .int .i64 0] := (Bk.new' _ _ _ (by simp)).be hbw1
    obtain ⟨zw10, zw11, zw12, zw13⟩ := Bzw1.c4
    have zw1f := Bzw1.fz
    go_wp2_with fail
    refine (Empty_any _ _ _ _ _).mono ?_
    rintro e w2 ⟨rfl, hbw2⟩
    have Baw2 : Bk w2 (w.heap.size) 32 #[.int .i64 ax, .int .i64 ay, .int .i64 aw, .int .i64 ah] := Baw1.be hbw2
    obtain ⟨aw20, aw21, aw22, aw23⟩ := Baw2.c4
    have aw2f := Baw2.fz
    have Bbw2 : Bk w2 (w.heap.size + 1) 32 #[.int .i64 bx, .int .i64 bY, .int .i64 bw, .int .i64 bh] := Bbw1.be hbw2
    obtain ⟨bw20, bw21, bw22, bw23⟩ := Bbw2.c4
    have bw2f := Bbw2.fz
    have Bzw2 : Bk w2 (w.heap.size + 1 + 1) 32 #[.int .i64 0, .int .i64 0, .int .i64 0, .int .i64 0] := Bzw1.be hbw2
    obtain ⟨zw20, zw21, zw22, zw23⟩ := Bzw2.c4
    have zw2f := Bzw2.fz
    go_wp2_with fail
    refine (of_any _ _ _ _ _ (by first | omega | (simp only [mxI_max, mnI_min]; omega)) (by first | omega | (simp only [mxI_max, mnI_min]; omega)) (by first | omega | (simp only [mxI_max, mnI_min]; omega)) (by first | omega | (simp only [mxI_max, mnI_min]; omega)) (by first | omega | (simp only [mxI_max, mnI_min]; omega)) (by first | omega | (simp only [mxI_max, mnI_min]; omega)) (by first | omega | (simp only [mxI_max, mnI_min]; omega)) (by first | omega | (simp only [mxI_max, mnI_min]; omega))).mono ?_
    rintro e w3 ⟨rfl, hbw3⟩
    have Bzw3 : Bk w3 (w.heap.size + 1 + 1) 32 #[.int .i64 0, .int .i64 0, .int .i64 0, .int .i64 0] := Bzw2.be hbw3
    obtain ⟨zw30, zw31, zw32, zw33⟩ := Bzw3.c4
    have zw3f := Bzw3.fz
    go_wp2_with fail
    generalize rOf (mnI ax bx) (mnI ay bY) (mxI (ax + aw) (bx + bw)) (mxI (ay + ah) (bY + bh)) = r at *
    have hI : (Tryd.prog.info? 32).map (·.size) = some (#[.int .i64 r.x, .int .i64 r.y, .int .i64 r.w, .int .i64 r.h] : Array Value).size := by kernel_rfl
    refine post_cell (w.heap.size + 1 + 1) 32 #[.int .i64 r.x, .int .i64 r.y, .int .i64 r.w, .int .i64 r.h] Tryd.results103 Tryd.underlying32 rfl hI rfl ?bk rfl ⟨rfl, ?_⟩
    case bk => exact ((((Bzw3.st 0 _).st 1 _).st 2 _).st 3 _)
    repeat (first | (with_reducible exact Below.refl _ _) | (with_reducible apply bl_alloc) | (with_reducible apply bl_drew) | (with_reducible apply bl_drewN) | ((with_reducible refine bl_set ?_ ?hs _); case hs => (simp; try omega)) | (with_reducible refine bl_step ?_ (by assumption)))


set_option maxHeartbeats 4000000 in
theorem Shift_any (ax ay aw ah x y : Int) (w : World) (ha : emp ⟨ax, ay, aw, ah⟩ = false → Sm ⟨ax, ay, aw, ah⟩) (hx : emp ⟨ax, ay, aw, ah⟩ = false → -4294967296 ≤ x ∧ x ≤ 4294967296) (hy : emp ⟨ax, ay, aw, ah⟩ = false → -4294967296 ≤ y ∧ y ≤ 4294967296) :
    Calls Tryd.prog 88 #[.agg #[.int .i64 ax, .int .i64 ay, .int .i64 aw, .int .i64 ah], .int .i64 x, .int .i64 y] w fun e w' => e = .returned (.agg #[.int .i64 (rShift ⟨ax, ay, aw, ah⟩ x y).x, .int .i64 (rShift ⟨ax, ay, aw, ah⟩ x y).y, .int .i64 (rShift ⟨ax, ay, aw, ah⟩ x y).w, .int .i64 (rShift ⟨ax, ay, aw, ah⟩ x y).h]) ∧ Below w.heap.size w w' := by
  by_cases ea : emp ⟨ax, ay, aw, ah⟩ = true
  · rw [show rShift ⟨ax, ay, aw, ah⟩ x y = zR by unfold rShift; rw [if_pos ea]]
    clear ha hx hy
    go_enter Tryd.func88, Tryd.ntmps88
    go_wp2_with fail
    refine (Empty_any _ _ _ _ _).mono ?_
    rintro e w1 ⟨rfl, hbw1⟩
    have Baw1 : Bk w1 (w.heap.size) 32 #[.int .i64 ax, .int .i64 ay, .int .i64 aw, .int .i64 ah] := ((Bk.new' _ _ _ (by simp)).al _).be hbw1
    obtain ⟨aw10, aw11, aw12, aw13⟩ := Baw1.c4
    have aw1f := Baw1.fz
    have Bzw1 : Bk w1 (w.heap.size + 1) 32 #[.int .i64 0, .int .i64 0, .int .i64 0, .int .i64 0] := (Bk.new' _ _ _ (by simp)).be hbw1
    obtain ⟨zw10, zw11, zw12, zw13⟩ := Bzw1.c4
    have zw1f := Bzw1.fz
    go_wp2_with fail
    have hI : (Tryd.prog.info? 32).map (·.size) = some (#[.int .i64 0, .int .i64 0, .int .i64 0, .int .i64 0] : Array Value).size := by kernel_rfl
    refine post_cell (w.heap.size + 1) 32 #[.int .i64 0, .int .i64 0, .int .i64 0, .int .i64 0] Tryd.results88 Tryd.underlying32 rfl hI rfl ?bk rfl ⟨rfl, ?_⟩
    case bk => exact ((((Bzw1.st 0 _).st 1 _).st 2 _).st 3 _)
    repeat (first | (with_reducible exact Below.refl _ _) | (with_reducible apply bl_alloc) | (with_reducible apply bl_drew) | (with_reducible apply bl_drewN) | ((with_reducible refine bl_set ?_ ?hs _); case hs => (simp; try omega)) | (with_reducible refine bl_step ?_ (by assumption)))

  · have ea : emp ⟨ax, ay, aw, ah⟩ = false := by simpa using ea
    rw [show rShift ⟨ax, ay, aw, ah⟩ x y = ⟨ax + x, ay + y, aw, ah⟩ by unfold rShift; rw [if_neg (by simp [ea])]]
    obtain ⟨x0, x1⟩ := hx ea
    obtain ⟨y0, y1⟩ := hy ea
    have ha := ha ea
    obtain ⟨ka, ka'⟩ := emp_f.1 ea
    simp only [Sm] at ha ka ka'
    obtain ⟨a1, a2, a3, a4, a5, a6⟩ := ha
    clear hx hy
    go_enter Tryd.func88, Tryd.ntmps88
    go_wp2_with fail
    refine (Empty_any _ _ _ _ _).mono ?_
    rintro e w1 ⟨rfl, hbw1⟩
    have Baw1 : Bk w1 (w.heap.size) 32 #[.int .i64 ax, .int .i64 ay, .int .i64 aw, .int .i64 ah] := ((Bk.new' _ _ _ (by simp)).al _).be hbw1
    obtain ⟨aw10, aw11, aw12, aw13⟩ := Baw1.c4
    have aw1f := Baw1.fz
    have Bzw1 : Bk w1 (w.heap.size + 1) 32 #[.int .i64 0, .int .i64 0, .int .i64 0, .int .i64 0] := (Bk.new' _ _ _ (by simp)).be hbw1
    obtain ⟨zw10, zw11, zw12, zw13⟩ := Bzw1.c4
    have zw1f := Bzw1.fz
    go_wp2_with fail
    have hI : (Tryd.prog.info? 32).map (·.size) = some (#[.int .i64 (ax + x), .int .i64 (ay + y), .int .i64 aw, .int .i64 ah] : Array Value).size := by kernel_rfl
    refine post_cell (w.heap.size + 1) 32 #[.int .i64 (ax + x), .int .i64 (ay + y), .int .i64 aw, .int .i64 ah] Tryd.results88 Tryd.underlying32 rfl hI rfl ?bk rfl ⟨rfl, ?_⟩
    case bk => exact ((((Bzw1.st 0 _).st 1 _).st 2 _).st 3 _)
    repeat (first | (with_reducible exact Below.refl _ _) | (with_reducible apply bl_alloc) | (with_reducible apply bl_drew) | (with_reducible apply bl_drewN) | ((with_reducible refine bl_set ?_ ?hs _); case hs => (simp; try omega)) | (with_reducible refine bl_step ?_ (by assumption)))

/-- A side within the edges. -/
def bnd (at_ size : Int) : Int × Int :=
  if 16777216 ≤ at_ ∨ size < 1 then (0, 0) else (max at_ (-16777216), min (at_ + size) 16777216 - max at_ (-16777216))
set_option maxHeartbeats 4000000 in
theorem bound_any (x n : Int) (w : World) (hx : -9223372036854775808 ≤ x) (hx' : x ≤ 9223372036854775807) (hn : -9223372036854775808 ≤ n) (hn' : n ≤ 9223372036854775807) :
    Calls Tryd.prog 92 #[.int .i64 x, .int .i64 n] w fun e w' => e = .returned (.tuple #[.int .i64 (bnd x n).1, .int .i64 (bnd x n).2]) ∧ w = w' := by
  by_cases h1 : 16777216 ≤ x
  · rw [show bnd x n = (0, 0) from if_pos (.inl h1)]
    go_enter Tryd.func92, Tryd.ntmps92
    go_wp2_with fail
    go_ret2
    exact ⟨rfl, rfl⟩
  by_cases h2 : n < 1
  · rw [show bnd x n = (0, 0) from if_pos (.inr h2)]
    go_enter Tryd.func92, Tryd.ntmps92
    go_wp2_with fail
    go_ret2
    exact ⟨rfl, rfl⟩
  by_cases h3 : x < -16777216
  · rw [show bnd x n = (-16777216, mnI (n - (-16777216 - x)) (16777216 - -16777216)) by
      unfold bnd; rw [if_neg (by omega), mnI_min, show max x (-16777216) = -16777216 by omega, show min (x + n) 16777216 - -16777216 = min (n - (-16777216 - x)) (16777216 - -16777216) by omega]]
    go_enter Tryd.func92, Tryd.ntmps92
    go_wp2_with fail
    go_ret2
    exact ⟨rfl, rfl⟩
  · rw [show bnd x n = (x, mnI n (16777216 - x)) by
      unfold bnd; rw [if_neg (by omega), mnI_min, show max x (-16777216) = x by omega, show min (x + n) 16777216 - x = min n (16777216 - x) by omega]]
    go_enter Tryd.func92, Tryd.ntmps92
    go_wp2_with fail
    go_ret2
    exact ⟨rfl, rfl⟩

theorem bnd_e (a b c d : Int) : emp ⟨(bnd a c).1, (bnd b d).1, (bnd a c).2, (bnd b d).2⟩ = emp (rBound ⟨a, b, c, d⟩) := by
  rw [Bool.eq_iff_iff]
  unfold bnd rBound
  by_cases h : emp ⟨a, b, c, d⟩ = true
  · rw [if_pos h]
    have h := emp_t.1 h
    simp only [emp_t] at h ⊢
    simp only [zR]
    split <;> split <;> simp only <;> omega
  · rw [if_neg h, rOf_emp]
    have h := emp_f.1 (by simpa using h)
    simp only [emp_t] at h ⊢
    split <;> split <;> simp only <;> omega
theorem bnd_v (a b c d : Int) (h : emp (rBound ⟨a, b, c, d⟩) = false) : rBound ⟨a, b, c, d⟩ = ⟨(bnd a c).1, (bnd b d).1, (bnd a c).2, (bnd b d).2⟩ := by
  unfold rBound at h ⊢
  by_cases he : emp ⟨a, b, c, d⟩ = true
  · rw [if_pos he] at h; exact absurd h (by simp [emp_z])
  · rw [if_neg he] at h ⊢
    have h' := mt rOf_emp.2 (by rw [h]; simp)
    rw [rOf_mk h']
    have he := emp_f.1 (by simpa using he)
    simp only at he h' ⊢
    unfold bnd
    rw [if_neg (by omega), if_neg (by omega)]
theorem bnd_z (a b c d : Int) (h : emp (rBound ⟨a, b, c, d⟩) = true) : rBound ⟨a, b, c, d⟩ = zR := by
  unfold rBound at h ⊢
  by_cases he : emp ⟨a, b, c, d⟩ = true
  · rw [if_pos he]
  · rw [if_neg he] at h ⊢
    exact rOf_z (rOf_emp.1 h)
set_option maxHeartbeats 8000000 in
theorem Bound_any (ax ay aw ah : Int) (w : World) (hr : I64 ⟨ax, ay, aw, ah⟩) :
    Calls Tryd.prog 73 #[.agg #[.int .i64 ax, .int .i64 ay, .int .i64 aw, .int .i64 ah]] w fun e w' => e = .returned (.agg #[.int .i64 (rBound ⟨ax, ay, aw, ah⟩).x, .int .i64 (rBound ⟨ax, ay, aw, ah⟩).y, .int .i64 (rBound ⟨ax, ay, aw, ah⟩).w, .int .i64 (rBound ⟨ax, ay, aw, ah⟩).h]) ∧ Below w.heap.size w w' := by
  obtain ⟨⟨x0, x1⟩, ⟨y0, y1⟩, ⟨w0, w1⟩, h0, h1⟩ := hr
  simp only at x0 x1 y0 y1 w0 w1 h0 h1
  have he := bnd_e ax ay aw ah
  by_cases ea : emp (rBound ⟨ax, ay, aw, ah⟩) = true
  · rw [bnd_z _ _ _ _ ea]
    rw [ea] at he
    have HE := Lib.hid he
    clear he ea
    go_enter Tryd.func73, Tryd.ntmps73
    go_wp2_with fail
    refine (bound_any _ _ _ x0 x1 w0 w1).mono ?_
    rintro e wx ⟨rfl, rfl⟩
    go_wp2_with fail
    refine (bound_any _ _ _ y0 y1 h0 h1).mono ?_
    rintro e wx ⟨rfl, rfl⟩
    go_wp2_with fail
    refine (Empty_any _ _ _ _ _).mono ?_
    rintro e w1 ⟨rfl, hbw1⟩
    have Baw1 : Bk w1 (w.heap.size) 32 #[.int .i64 ax, .int .i64 ay, .int .i64 aw, .int .i64 ah] := (((Bk.new' _ _ _ (by simp)).al _).al _).be hbw1
    obtain ⟨aw10, aw11, aw12, aw13⟩ := Baw1.c4
    have aw1f := Baw1.fz
    have Bzw1 : Bk w1 (w.heap.size + 1) 32 #[.int .i64 0, .int .i64 0, .int .i64 0, .int .i64 0] := ((Bk.new' _ _ _ (by simp)).al _).be hbw1
    obtain ⟨zw10, zw11, zw12, zw13⟩ := Bzw1.c4
    have zw1f := Bzw1.fz
    have Bcw1 : Bk w1 (w.heap.size + 1 + 1) 32 #[.int .i64 (bnd ax aw).1, .int .i64 (bnd ay ah).1, .int .i64 (bnd ax aw).2, .int .i64 (bnd ay ah).2] := (Bk.new' _ _ _ (by simp)).be hbw1
    obtain ⟨cw10, cw11, cw12, cw13⟩ := Bcw1.c4
    have cw1f := Bcw1.fz
    rw [HE.out]
    go_wp2_with fail
    have hI : (Tryd.prog.info? 32).map (·.size) = some (#[.int .i64 0, .int .i64 0, .int .i64 0, .int .i64 0] : Array Value).size := by kernel_rfl
    refine post_cell (w.heap.size + 1) 32 #[.int .i64 0, .int .i64 0, .int .i64 0, .int .i64 0] Tryd.results73 Tryd.underlying32 rfl hI rfl ?bk rfl ⟨rfl, ?_⟩
    case bk => exact ((((Bzw1.st 0 _).st 1 _).st 2 _).st 3 _)
    repeat (first | (with_reducible exact Below.refl _ _) | (with_reducible apply bl_alloc) | (with_reducible apply bl_drew) | (with_reducible apply bl_drewN) | ((with_reducible refine bl_set ?_ ?hs _); case hs => (simp; try omega)) | (with_reducible refine bl_step ?_ (by assumption)))

  · have ea : emp (rBound ⟨ax, ay, aw, ah⟩) = false := by simpa using ea
    rw [bnd_v _ _ _ _ ea]
    rw [ea] at he
    have HE := Lib.hid he
    clear he ea
    go_enter Tryd.func73, Tryd.ntmps73
    go_wp2_with fail
    refine (bound_any _ _ _ x0 x1 w0 w1).mono ?_
    rintro e wx ⟨rfl, rfl⟩
    go_wp2_with fail
    refine (bound_any _ _ _ y0 y1 h0 h1).mono ?_
    rintro e wx ⟨rfl, rfl⟩
    go_wp2_with fail
    refine (Empty_any _ _ _ _ _).mono ?_
    rintro e w1 ⟨rfl, hbw1⟩
    have Baw1 : Bk w1 (w.heap.size) 32 #[.int .i64 ax, .int .i64 ay, .int .i64 aw, .int .i64 ah] := (((Bk.new' _ _ _ (by simp)).al _).al _).be hbw1
    obtain ⟨aw10, aw11, aw12, aw13⟩ := Baw1.c4
    have aw1f := Baw1.fz
    have Bzw1 : Bk w1 (w.heap.size + 1) 32 #[.int .i64 0, .int .i64 0, .int .i64 0, .int .i64 0] := ((Bk.new' _ _ _ (by simp)).al _).be hbw1
    obtain ⟨zw10, zw11, zw12, zw13⟩ := Bzw1.c4
    have zw1f := Bzw1.fz
    have Bcw1 : Bk w1 (w.heap.size + 1 + 1) 32 #[.int .i64 (bnd ax aw).1, .int .i64 (bnd ay ah).1, .int .i64 (bnd ax aw).2, .int .i64 (bnd ay ah).2] := (Bk.new' _ _ _ (by simp)).be hbw1
    obtain ⟨cw10, cw11, cw12, cw13⟩ := Bcw1.c4
    have cw1f := Bcw1.fz
    rw [HE.out]
    go_wp2_with fail
    have hI : (Tryd.prog.info? 32).map (·.size) = some (#[.int .i64 (bnd ax aw).1, .int .i64 (bnd ay ah).1, .int .i64 (bnd ax aw).2, .int .i64 (bnd ay ah).2] : Array Value).size := by kernel_rfl
    refine post_cell (w.heap.size + 1) 32 #[.int .i64 (bnd ax aw).1, .int .i64 (bnd ay ah).1, .int .i64 (bnd ax aw).2, .int .i64 (bnd ay ah).2] Tryd.results73 Tryd.underlying32 rfl hI rfl ?bk rfl ⟨rfl, ?_⟩
    case bk => exact ((((Bzw1.st 0 _).st 1 _).st 2 _).st 3 _)
    repeat (first | (with_reducible exact Below.refl _ _) | (with_reducible apply bl_alloc) | (with_reducible apply bl_drew) | (with_reducible apply bl_drewN) | ((with_reducible refine bl_set ?_ ?hs _); case hs => (simp; try omega)) | (with_reducible refine bl_step ?_ (by assumption)))


end Go.Proofs.YtjjdgbhplechbaaDoor.Rect
