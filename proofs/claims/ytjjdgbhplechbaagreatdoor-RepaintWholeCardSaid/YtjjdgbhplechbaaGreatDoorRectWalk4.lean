/- The walks through rect, fourth part: Bound of the reference. -/
import Derived.Test.YtjjdgbhplechbaaGreatDoorRectWalk3
set_option linter.unusedVariables false
set_option linter.unusedSimpArgs false
namespace Go.Proofs.YtjjdgbhplechbaaGreatDoor.Rect
open Go.RowKit Go.Proofs.YtjjdgbhplechbaaGreatDoor.Kit
attribute [local go_sem high] bmax2 bmin2 bmax_2 bmin_2 bmax_3 bmin_3 bmax_4 bmin_4 rEq

theorem i64_pair {a b : Int} (h : -9223372036854775808 ≤ a ∧ a ≤ 9223372036854775807) (hb : b = a) : -9223372036854775808 ≤ b ∧ b ≤ 9223372036854775807 := by omega
set_option maxHeartbeats 8000000 in
theorem rBound_any (ax ay aw ah : Int) (w : World) (hr : I64 ⟨ax, ay, aw, ah⟩) :
    Calls Tryz.prog 66 #[.agg #[.int .i64 ax, .int .i64 ay, .int .i64 aw, .int .i64 ah]] w fun e w' => e = .returned (.agg #[.int .i64 (rBound ⟨ax, ay, aw, ah⟩).x, .int .i64 (rBound ⟨ax, ay, aw, ah⟩).y, .int .i64 (rBound ⟨ax, ay, aw, ah⟩).w, .int .i64 (rBound ⟨ax, ay, aw, ah⟩).h]) ∧ Below w.heap.size w w' := by
  obtain ⟨⟨x0, x1⟩, ⟨y0, y1⟩, ⟨w0, w1⟩, h0, h1⟩ := hr
  simp only at x0 x1 y0 y1 w0 w1 h0 h1
  by_cases ea : emp ⟨ax, ay, aw, ah⟩ = true
  · rw [show rBound ⟨ax, ay, aw, ah⟩ = zR by unfold rBound; rw [if_pos ea]]
    go_enter Tryz.func66, Tryz.ntmps66
    go_wp2_with fail
    refine (rEmpty_any _ _ _ _ _).mono ?_
    rintro e wa ⟨rfl, hbwa⟩
    have Bawa : Bk wa (w.heap.size) 64 #[.int .i64 ax, .int .i64 ay, .int .i64 aw, .int .i64 ah] := ((Bk.new' _ _ _ (by simp)).al _).be hbwa
    obtain ⟨awa0, awa1, awa2, awa3⟩ := Bawa.c4
    have awaf := Bawa.fz
    have Bzwa : Bk wa (w.heap.size + 1) 64 #[.int .i64 0, .int .i64 0, .int .i64 0, .int .i64 0] := (Bk.new' _ _ _ (by simp)).be hbwa
    obtain ⟨zwa0, zwa1, zwa2, zwa3⟩ := Bzwa.c4
    have zwaf := Bzwa.fz
    go_wp2_with fail
    have hI : (Tryz.prog.info? 64).map (·.size) = some (#[.int .i64 0, .int .i64 0, .int .i64 0, .int .i64 0] : Array Value).size := by kernel_rfl
    refine post_cell (w.heap.size + 1) 64 #[.int .i64 0, .int .i64 0, .int .i64 0, .int .i64 0] Tryz.results66 Tryz.underlying64 rfl hI rfl ?bk rfl ⟨rfl, ?_⟩
    case bk => exact ((((Bzwa.st 0 _).st 1 _).st 2 _).st 3 _)
    repeat (first | (with_reducible exact Below.refl _ _) | (with_reducible apply bl_alloc) | (with_reducible apply bl_drew) | (with_reducible apply bl_drewN) | ((with_reducible refine bl_set ?_ ?hs _); case hs => (simp; try omega)) | (with_reducible refine bl_step ?_ (by assumption)))

  · have ea : emp ⟨ax, ay, aw, ah⟩ = false := by simpa using ea
    obtain ⟨ka, ka'⟩ := emp_f.1 ea
    simp only at ka ka'
    rw [show rBound ⟨ax, ay, aw, ah⟩ = rOf (max ax (-16777216)) (max ay (-16777216)) (min (ax + aw) 16777216) (min (ay + ah) 16777216) by unfold rBound; rw [if_neg (by simp [ea])]]
    rw [← mxI_max, ← mxI_max]
    have bx : (-17179869184 ≤ mxI ax (-16777216)) := by rw [mxI_max]; omega
    have hbd : mxI ax (-16777216) < min (ax + aw) 16777216 → mxI ay (-16777216) < min (ay + ah) 16777216 → (-17179869184 ≤ mxI ax (-16777216) ∧ mxI ax (-16777216) ≤ 17179869184) ∧ (-17179869184 ≤ mxI ay (-16777216) ∧ mxI ay (-16777216) ≤ 17179869184) ∧ (-17179869184 ≤ min (ax + aw) 16777216 ∧ min (ax + aw) 16777216 ≤ 17179869184) ∧ -17179869184 ≤ min (ay + ah) 16777216 ∧ min (ay + ah) 16777216 ≤ 17179869184 := by
      intro _ _; simp only [mxI_max] at *; omega
    have HB := Lib.hid hbd
    clear hbd bx
    go_enter Tryz.func66, Tryz.ntmps66
    go_wp2_with fail
    refine (rEmpty_any _ _ _ _ _).mono ?_
    rintro e wa ⟨rfl, hbwa⟩
    have Bawa : Bk wa (w.heap.size) 64 #[.int .i64 ax, .int .i64 ay, .int .i64 aw, .int .i64 ah] := ((Bk.new' _ _ _ (by simp)).al _).be hbwa
    obtain ⟨awa0, awa1, awa2, awa3⟩ := Bawa.c4
    have awaf := Bawa.fz
    have Bzwa : Bk wa (w.heap.size + 1) 64 #[.int .i64 0, .int .i64 0, .int .i64 0, .int .i64 0] := (Bk.new' _ _ _ (by simp)).be hbwa
    obtain ⟨zwa0, zwa1, zwa2, zwa3⟩ := Bzwa.c4
    have zwaf := Bzwa.fz
    go_wp2_with fail
    go_region_held3 (fun w' => w'.cell? ⟨w.heap.size, 0, none⟩ = some (.int .i64 ax) ∧ w'.cell? ⟨w.heap.size, 1, none⟩ = some (.int .i64 ay) ∧ w'.cell? ⟨w.heap.size, 2, none⟩ = some (.int .i64 aw) ∧ w'.cell? ⟨w.heap.size, 3, none⟩ = some (.int .i64 ah))
        (first | (with_reducible exact ⟨ab0, ab1, ab2, ab3⟩) | go_keep)
        (first | (go_at_call 82; refine (redge_any _ _ _ (by omega) (by omega) (by omega) (by omega)).mono ?_; rintro e wx ⟨rfl, rfl⟩) | (go_at_call 81; refine (rof_any _ _ _ _ _ HB.out).mono ?_; rintro e wb ⟨rfl, hbwb⟩; have Bzwb := Bk.be Bzwa.dr hbwb; have Bawb := Bk.be Bawa.dr hbwb; obtain ⟨zb0, zb1, zb2, zb3⟩ := Bzwb.c4; have zbf := Bzwb.fz; obtain ⟨ab0, ab1, ab2, ab3⟩ := Bawb.c4))
    all_goals
      go_wp2_with fail
      generalize rOf (mxI ax (-16777216)) (mxI ay (-16777216)) (min (ax + aw) 16777216) (min (ay + ah) 16777216) = r at *
      have hI : (Tryz.prog.info? 64).map (·.size) = some (#[.int .i64 r.x, .int .i64 r.y, .int .i64 r.w, .int .i64 r.h] : Array Value).size := by kernel_rfl
      refine post_cell (w.heap.size + 1) 64 #[.int .i64 r.x, .int .i64 r.y, .int .i64 r.w, .int .i64 r.h] Tryz.results66 Tryz.underlying64 rfl hI rfl ?bk rfl ⟨rfl, ?_⟩
      case bk => exact ((((Bzwb.st 0 _).st 1 _).st 2 _).st 3 _)
      repeat (first | (with_reducible exact Below.refl _ _) | (with_reducible apply bl_alloc) | (with_reducible apply bl_drew) | (with_reducible apply bl_drewN) | ((with_reducible refine bl_set ?_ ?hs _); case hs => (simp; try omega)) | (with_reducible refine bl_step ?_ (by assumption)))

/-- What the laws ask of: such as Check says yes to, or empty ones. -/
def mayR (r : R) : Bool := rChk r || emp r
theorem may_sm {r : R} (h : mayR r = true) : emp r = false → Sm r := by
  intro he
  unfold mayR at h
  rw [he, Bool.or_false] at h
  exact Sm.of_chk h
theorem e_cut : rCut ⟨0, 0, 4, 4⟩ ⟨2, 1, 9, 1⟩ = ⟨2, 1, 2, 1⟩ := by rw [← eqR_iff]; decide
theorem e_has : rHas ⟨0, 0, 1, 1⟩ 0 0 = true := by decide
end Go.Proofs.YtjjdgbhplechbaaGreatDoor.Rect
