/- The walks through rect, third part: Check; the reference's functions; may, awake. -/
import Derived.Test.YtclpppejabfbbaaRectT1
set_option linter.unusedVariables false
set_option linter.unusedSimpArgs false
namespace Go.Proofs.Ytclpppejabfbbaa.RectT
open Go.RowKit Go.Proofs.Ytclpppejabfbbaa.Kit Go.Proofs.Ytclpppejabfbbaa.Rect
attribute [local go_sem high] bmax2 bmin2 bmax_2 bmin_2 bmax_3 bmin_3 bmax_4 bmin_4 rEq

def edgeB (x n : Int) : Bool := decide (-16777216 ≤ x) && (decide (1 ≤ n) && decide (x + n ≤ 16777216))
set_option maxHeartbeats 2000000 in
theorem edge_any (x n : Int) (w : World) (_ : -9223372036854775808 ≤ x) (_ : x ≤ 9223372036854775807) (_ : n ≤ 9223372036854775807) :
    Calls Try.prog 95 #[.int .i64 x, .int .i64 n] w fun e w' => e = .returned (.bool (edgeB x n)) ∧ w = w' := by
  go_enter Try.func95, Try.ntmps95
  go_wp2
  all_goals
    go_ret
    refine ⟨ret_bool ?_, rfl⟩
    rw [Bool.eq_iff_iff]; simp [edgeB]; try omega
theorem edge_chk (x y a b : Int) : (edgeB x a && edgeB y b) = rChk ⟨x, y, a, b⟩ := by
  rw [Bool.eq_iff_iff, chk_iff]; simp [edgeB, chkR]; omega
set_option maxHeartbeats 4000000 in
theorem Check_any (ax ay aw ah : Int) (w : World) (hr : I64 ⟨ax, ay, aw, ah⟩) :
    Calls Try.prog 79 #[.agg #[.int .i64 ax, .int .i64 ay, .int .i64 aw, .int .i64 ah]] w fun e w' => e = .returned (.bool (rChk ⟨ax, ay, aw, ah⟩)) ∧ Below w.heap.size w w' := by
  obtain ⟨⟨x0, x1⟩, ⟨y0, y1⟩, ⟨w0, w1⟩, h0, h1⟩ := hr
  simp only at x0 x1 y0 y1 w0 w1 h0 h1
  rw [← edge_chk]
  by_cases he : edgeB ax aw = true
  · go_enter Try.func79, Try.ntmps79
    go_wp2_with fail
    refine (edge_any _ _ _ x0 x1 w1).mono ?_
    rintro e wx ⟨rfl, rfl⟩
    go_wp2_with fail
    refine (edge_any _ _ _ y0 y1 h1).mono ?_
    rintro e wx ⟨rfl, rfl⟩
    go_wp2_with fail
    go_ret
    refine ⟨ret_bool (by rw [he]; rfl), ?_⟩
    repeat (first | (with_reducible exact Below.refl _ _) | (with_reducible apply bl_alloc) | (with_reducible apply bl_drew) | (with_reducible apply bl_drewN) | ((with_reducible refine bl_set ?_ ?hs _); case hs => (simp; try omega)) | (with_reducible refine bl_step ?_ (by assumption)))
  · have he : edgeB ax aw = false := by simpa using he
    go_enter Try.func79, Try.ntmps79
    go_wp2_with fail
    refine (edge_any _ _ _ x0 x1 w1).mono ?_
    rintro e wx ⟨rfl, rfl⟩
    go_wp2_with fail
    go_ret
    refine ⟨ret_bool (by rw [he]; rfl), ?_⟩
    repeat (first | (with_reducible exact Below.refl _ _) | (with_reducible apply bl_alloc) | (with_reducible apply bl_drew) | (with_reducible apply bl_drewN) | ((with_reducible refine bl_set ?_ ?hs _); case hs => (simp; try omega)) | (with_reducible refine bl_step ?_ (by assumption)))

/-! the reference -/
set_option maxHeartbeats 1000000 in
theorem rEmpty_any (x y a b : Int) (w : World) : Calls Try.prog 62 #[.agg #[.int .i64 x, .int .i64 y, .int .i64 a, .int .i64 b]] w fun e w' => e = .returned (.bool (emp ⟨x, y, a, b⟩)) ∧ Below w.heap.size w w' := by
  go_enter Try.func62, Try.ntmps62
  go_wp2
  all_goals
    go_ret
    refine ⟨ret_bool ?_, (Below.refl _ _).alloc (Nat.le_refl _) _⟩
    rw [Bool.eq_iff_iff]; simp only [emp_t]; simp; try omega
set_option maxHeartbeats 1000000 in
theorem rin_any (v : Int) (w : World) : Calls Try.prog 82 #[.int .i64 v] w fun e w' => e = .returned (.bool (decide (-16777216 ≤ v) && decide (v ≤ 16777216))) ∧ w = w' := by
  go_enter Try.func82, Try.ntmps82
  go_wp2
  all_goals
    go_ret
    refine ⟨ret_bool ?_, rfl⟩
    rw [Bool.eq_iff_iff]; simp; try omega
set_option maxHeartbeats 4000000 in
theorem rCheck_any (ax ay aw ah : Int) (w : World) (hr : I64 ⟨ax, ay, aw, ah⟩) :
    Calls Try.prog 56 #[.agg #[.int .i64 ax, .int .i64 ay, .int .i64 aw, .int .i64 ah]] w fun e w' => e = .returned (.bool (rChk ⟨ax, ay, aw, ah⟩)) ∧ Below w.heap.size w w' := by
  obtain ⟨⟨x0, x1⟩, ⟨y0, y1⟩, ⟨w0, w1⟩, h0, h1⟩ := hr
  simp only at x0 x1 y0 y1 w0 w1 h0 h1
  by_cases ea : emp ⟨ax, ay, aw, ah⟩ = true
  · have hf : rChk ⟨ax, ay, aw, ah⟩ = false := by
      rw [Bool.eq_false_iff]; intro h; rw [chk_emp h] at ea; cases ea
    go_enter Try.func56, Try.ntmps56
    go_wp2_with fail
    refine (rEmpty_any _ _ _ _ _).mono ?_
    rintro e w1 ⟨rfl, hbw1⟩
    go_wp2_with fail
    go_ret
    refine ⟨ret_bool hf.symm, ?_⟩
    repeat (first | (with_reducible exact Below.refl _ _) | (with_reducible apply bl_alloc) | (with_reducible apply bl_drew) | (with_reducible apply bl_drewN) | ((with_reducible refine bl_set ?_ ?hs _); case hs => (simp; try omega)) | (with_reducible refine bl_step ?_ (by assumption)))
  have ea : emp ⟨ax, ay, aw, ah⟩ = false := by simpa using ea
  have ka := emp_f.1 ea
  simp only at ka
  obtain ⟨ka, ka'⟩ := ka
  by_cases ex : (decide (-16777216 ≤ ax) && decide (ax ≤ 16777216)) = true
  · by_cases ey : (decide (-16777216 ≤ ay) && decide (ay ≤ 16777216)) = true
    · have ex' := ex
      have ey' := ey
      simp at ex' ey'
      obtain ⟨ex0, ex1⟩ := ex'
      obtain ⟨ey0, ey1⟩ := ey'
      go_enter Try.func56, Try.ntmps56
      go_wp2_with fail
      refine (rEmpty_any _ _ _ _ _).mono ?_
      rintro e w1 ⟨rfl, hbw1⟩
      have Baw1 : Bk w1 (w.heap.size) 26 #[.int .i64 ax, .int .i64 ay, .int .i64 aw, .int .i64 ah] := (Bk.new' _ _ _ (by simp)).be hbw1
      obtain ⟨aw10, aw11, aw12, aw13⟩ := Baw1.c4
      have aw1f := Baw1.fz
      go_wp2_with fail
      refine (rin_any _ _).mono ?_
      rintro e wx ⟨rfl, rfl⟩
      go_wp2_with fail
      refine (rin_any _ _).mono ?_
      rintro e wx ⟨rfl, rfl⟩
      go_wp2_with fail
      all_goals
        go_ret
        refine ⟨ret_bool ?_, ?_⟩
        · rw [Bool.eq_iff_iff, chk_iff]; simp [chkR]; try omega
        repeat (first | (with_reducible exact Below.refl _ _) | (with_reducible apply bl_alloc) | (with_reducible apply bl_drew) | (with_reducible apply bl_drewN) | ((with_reducible refine bl_set ?_ ?hs _); case hs => (simp; try omega)) | (with_reducible refine bl_step ?_ (by assumption)))
    · have ey : (decide (-16777216 ≤ ay) && decide (ay ≤ 16777216)) = false := by simpa using ey
      have hf : rChk ⟨ax, ay, aw, ah⟩ = false := by
        rw [Bool.eq_false_iff, Ne, chk_iff]; simp at ey; simp only [chkR]; omega
      go_enter Try.func56, Try.ntmps56
      go_wp2_with fail
      refine (rEmpty_any _ _ _ _ _).mono ?_
      rintro e w1 ⟨rfl, hbw1⟩
      have Baw1 : Bk w1 (w.heap.size) 26 #[.int .i64 ax, .int .i64 ay, .int .i64 aw, .int .i64 ah] := (Bk.new' _ _ _ (by simp)).be hbw1
      obtain ⟨aw10, aw11, aw12, aw13⟩ := Baw1.c4
      have aw1f := Baw1.fz
      go_wp2_with fail
      refine (rin_any _ _).mono ?_
      rintro e wx ⟨rfl, rfl⟩
      go_wp2_with fail
      refine (rin_any _ _).mono ?_
      rintro e wx ⟨rfl, rfl⟩
      go_wp2_with fail
      go_ret
      refine ⟨ret_bool hf.symm, ?_⟩
      repeat (first | (with_reducible exact Below.refl _ _) | (with_reducible apply bl_alloc) | (with_reducible apply bl_drew) | (with_reducible apply bl_drewN) | ((with_reducible refine bl_set ?_ ?hs _); case hs => (simp; try omega)) | (with_reducible refine bl_step ?_ (by assumption)))
  · have ex : (decide (-16777216 ≤ ax) && decide (ax ≤ 16777216)) = false := by simpa using ex
    have hf : rChk ⟨ax, ay, aw, ah⟩ = false := by
      rw [Bool.eq_false_iff, Ne, chk_iff]; simp at ex; simp only [chkR]; omega
    go_enter Try.func56, Try.ntmps56
    go_wp2_with fail
    refine (rEmpty_any _ _ _ _ _).mono ?_
    rintro e w1 ⟨rfl, hbw1⟩
    have Baw1 : Bk w1 (w.heap.size) 26 #[.int .i64 ax, .int .i64 ay, .int .i64 aw, .int .i64 ah] := (Bk.new' _ _ _ (by simp)).be hbw1
    obtain ⟨aw10, aw11, aw12, aw13⟩ := Baw1.c4
    have aw1f := Baw1.fz
    go_wp2_with fail
    refine (rin_any _ _).mono ?_
    rintro e wx ⟨rfl, rfl⟩
    go_wp2_with fail
    go_ret
    refine ⟨ret_bool hf.symm, ?_⟩
    repeat (first | (with_reducible exact Below.refl _ _) | (with_reducible apply bl_alloc) | (with_reducible apply bl_drew) | (with_reducible apply bl_drewN) | ((with_reducible refine bl_set ?_ ?hs _); case hs => (simp; try omega)) | (with_reducible refine bl_step ?_ (by assumption)))
set_option maxHeartbeats 2000000 in
theorem rof_any (a b c d : Int) (w : World) (hbd : a < c → b < d → (-17179869184 ≤ a ∧ a ≤ 17179869184) ∧ (-17179869184 ≤ b ∧ b ≤ 17179869184) ∧ (-17179869184 ≤ c ∧ c ≤ 17179869184) ∧ -17179869184 ≤ d ∧ d ≤ 17179869184) :
    Calls Try.prog 87 #[.int .i64 a, .int .i64 b, .int .i64 c, .int .i64 d] w fun e w' => e = .returned (.agg #[.int .i64 (rOf a b c d).x, .int .i64 (rOf a b c d).y, .int .i64 (rOf a b c d).w, .int .i64 (rOf a b c d).h]) ∧ Below w.heap.size w w' := by
  by_cases he : c ≤ a
  · rw [rOf_z (.inl he)]
    clear hbd
    go_enter Try.func87, Try.ntmps87
    go_wp2_with fail
    have Bz : Bk (w.alloc (.cells #[.int .i64 0, .int .i64 0, .int .i64 0, .int .i64 0] 26)) w.heap.size 26 #[.int .i64 0, .int .i64 0, .int .i64 0, .int .i64 0] := Bk.new _ _ _
    have hI : (Try.prog.info? 26).map (·.size) = some (#[.int .i64 0, .int .i64 0, .int .i64 0, .int .i64 0] : Array Value).size := by kernel_rfl
    refine post_cell (w.heap.size) 26 #[.int .i64 0, .int .i64 0, .int .i64 0, .int .i64 0] Try.results87 Try.underlying26 rfl hI rfl ?bk rfl ⟨rfl, ?_⟩
    case bk => exact Bz
    repeat (first | (with_reducible exact Below.refl _ _) | (with_reducible apply bl_alloc) | (with_reducible apply bl_drew) | (with_reducible apply bl_drewN) | ((with_reducible refine bl_set ?_ ?hs _); case hs => (simp; try omega)) | (with_reducible refine bl_step ?_ (by assumption)))

  by_cases he' : d ≤ b
  · rw [rOf_z (.inr he')]
    clear hbd
    go_enter Try.func87, Try.ntmps87
    go_wp2_with fail
    have Bz : Bk (w.alloc (.cells #[.int .i64 0, .int .i64 0, .int .i64 0, .int .i64 0] 26)) w.heap.size 26 #[.int .i64 0, .int .i64 0, .int .i64 0, .int .i64 0] := Bk.new _ _ _
    have hI : (Try.prog.info? 26).map (·.size) = some (#[.int .i64 0, .int .i64 0, .int .i64 0, .int .i64 0] : Array Value).size := by kernel_rfl
    refine post_cell (w.heap.size) 26 #[.int .i64 0, .int .i64 0, .int .i64 0, .int .i64 0] Try.results87 Try.underlying26 rfl hI rfl ?bk rfl ⟨rfl, ?_⟩
    case bk => exact Bz
    repeat (first | (with_reducible exact Below.refl _ _) | (with_reducible apply bl_alloc) | (with_reducible apply bl_drew) | (with_reducible apply bl_drewN) | ((with_reducible refine bl_set ?_ ?hs _); case hs => (simp; try omega)) | (with_reducible refine bl_step ?_ (by assumption)))

  · rw [rOf_mk (by omega)]
    have g1 : a < c := by omega
    have g2 : b < d := by omega
    obtain ⟨⟨_, _⟩, ⟨_, _⟩, ⟨_, _⟩, _, _⟩ := hbd g1 g2
    clear he he' hbd
    go_enter Try.func87, Try.ntmps87
    go_wp2_with fail
    have Bz : Bk (w.alloc (.cells #[.int .i64 a, .int .i64 b, .int .i64 (c - a), .int .i64 (d - b)] 26)) w.heap.size 26 #[.int .i64 a, .int .i64 b, .int .i64 (c - a), .int .i64 (d - b)] := Bk.new _ _ _
    have hI : (Try.prog.info? 26).map (·.size) = some (#[.int .i64 a, .int .i64 b, .int .i64 (c - a), .int .i64 (d - b)] : Array Value).size := by kernel_rfl
    refine post_cell (w.heap.size) 26 #[.int .i64 a, .int .i64 b, .int .i64 (c - a), .int .i64 (d - b)] Try.results87 Try.underlying26 rfl hI rfl ?bk rfl ⟨rfl, ?_⟩
    case bk => exact Bz
    repeat (first | (with_reducible exact Below.refl _ _) | (with_reducible apply bl_alloc) | (with_reducible apply bl_drew) | (with_reducible apply bl_drewN) | ((with_reducible refine bl_set ?_ ?hs _); case hs => (simp; try omega)) | (with_reducible refine bl_step ?_ (by assumption)))


set_option maxHeartbeats 4000000 in
theorem rCut_any (ax ay aw ah bx bY bw bh : Int) (w : World) (ha : emp ⟨ax, ay, aw, ah⟩ = false → Sm ⟨ax, ay, aw, ah⟩) (hb : emp ⟨bx, bY, bw, bh⟩ = false → Sm ⟨bx, bY, bw, bh⟩) :
    Calls Try.prog 91 #[.agg #[.int .i64 ax, .int .i64 ay, .int .i64 aw, .int .i64 ah], .agg #[.int .i64 bx, .int .i64 bY, .int .i64 bw, .int .i64 bh]] w fun e w' => e = .returned (.agg #[.int .i64 (rCut ⟨ax, ay, aw, ah⟩ ⟨bx, bY, bw, bh⟩).x, .int .i64 (rCut ⟨ax, ay, aw, ah⟩ ⟨bx, bY, bw, bh⟩).y, .int .i64 (rCut ⟨ax, ay, aw, ah⟩ ⟨bx, bY, bw, bh⟩).w, .int .i64 (rCut ⟨ax, ay, aw, ah⟩ ⟨bx, bY, bw, bh⟩).h]) ∧ Below w.heap.size w w' := by
  by_cases ea : emp ⟨ax, ay, aw, ah⟩ = true
  · rw [show rCut ⟨ax, ay, aw, ah⟩ ⟨bx, bY, bw, bh⟩ = zR by unfold rCut; rw [if_pos (by simp [ea])]]
    clear ha hb
    go_enter Try.func91, Try.ntmps91
    go_wp2_with fail
    refine (rEmpty_any _ _ _ _ _).mono ?_
    rintro e w1 ⟨rfl, hbw1⟩
    have Bzw1 : Bk w1 (w.heap.size + 1 + 1) 26 #[.int .i64 0, .int .i64 0, .int .i64 0, .int .i64 0] := (Bk.new' _ _ _ (by simp)).be hbw1
    obtain ⟨zw10, zw11, zw12, zw13⟩ := Bzw1.c4
    have zw1f := Bzw1.fz
    go_wp2_with fail
    have hI : (Try.prog.info? 26).map (·.size) = some (#[.int .i64 0, .int .i64 0, .int .i64 0, .int .i64 0] : Array Value).size := by kernel_rfl
    refine post_cell (w.heap.size + 1 + 1) 26 #[.int .i64 0, .int .i64 0, .int .i64 0, .int .i64 0] Try.results91 Try.underlying26 rfl hI rfl ?bk rfl ⟨rfl, ?_⟩
    case bk => exact ((((Bzw1.st 0 _).st 1 _).st 2 _).st 3 _)
    repeat (first | (with_reducible exact Below.refl _ _) | (with_reducible apply bl_alloc) | (with_reducible apply bl_drew) | (with_reducible apply bl_drewN) | ((with_reducible refine bl_set ?_ ?hs _); case hs => (simp; try omega)) | (with_reducible refine bl_step ?_ (by assumption)))

  have ea : emp ⟨ax, ay, aw, ah⟩ = false := by simpa using ea
  by_cases eb : emp ⟨bx, bY, bw, bh⟩ = true
  · rw [show rCut ⟨ax, ay, aw, ah⟩ ⟨bx, bY, bw, bh⟩ = zR by unfold rCut; rw [if_pos (by simp [eb])]]
    clear ha hb
    go_enter Try.func91, Try.ntmps91
    go_wp2_with fail
    refine (rEmpty_any _ _ _ _ _).mono ?_
    rintro e w1 ⟨rfl, hbw1⟩
    have Bbw1 : Bk w1 (w.heap.size + 1) 26 #[.int .i64 bx, .int .i64 bY, .int .i64 bw, .int .i64 bh] := ((Bk.new' _ _ _ (by simp)).al _).be hbw1
    obtain ⟨bw10, bw11, bw12, bw13⟩ := Bbw1.c4
    have bw1f := Bbw1.fz
    have Bzw1 : Bk w1 (w.heap.size + 1 + 1) 26 #[.int .i64 0, .int .i64 0, .int .i64 0, .int .i64 0] := (Bk.new' _ _ _ (by simp)).be hbw1
    obtain ⟨zw10, zw11, zw12, zw13⟩ := Bzw1.c4
    have zw1f := Bzw1.fz
    go_wp2_with fail
    refine (rEmpty_any _ _ _ _ _).mono ?_
    rintro e w2 ⟨rfl, hbw2⟩
    have Bzw2 : Bk w2 (w.heap.size + 1 + 1) 26 #[.int .i64 0, .int .i64 0, .int .i64 0, .int .i64 0] := Bzw1.be hbw2
    obtain ⟨zw20, zw21, zw22, zw23⟩ := Bzw2.c4
    have zw2f := Bzw2.fz
    go_wp2_with fail
    have hI : (Try.prog.info? 26).map (·.size) = some (#[.int .i64 0, .int .i64 0, .int .i64 0, .int .i64 0] : Array Value).size := by kernel_rfl
    refine post_cell (w.heap.size + 1 + 1) 26 #[.int .i64 0, .int .i64 0, .int .i64 0, .int .i64 0] Try.results91 Try.underlying26 rfl hI rfl ?bk rfl ⟨rfl, ?_⟩
    case bk => exact ((((Bzw2.st 0 _).st 1 _).st 2 _).st 3 _)
    repeat (first | (with_reducible exact Below.refl _ _) | (with_reducible apply bl_alloc) | (with_reducible apply bl_drew) | (with_reducible apply bl_drewN) | ((with_reducible refine bl_set ?_ ?hs _); case hs => (simp; try omega)) | (with_reducible refine bl_step ?_ (by assumption)))

  · have eb : emp ⟨bx, bY, bw, bh⟩ = false := by simpa using eb
    rw [show rCut ⟨ax, ay, aw, ah⟩ ⟨bx, bY, bw, bh⟩ = rOf (mxI ax bx) (mxI ay bY) (mnI (ax + aw) (bx + bw)) (mnI (ay + ah) (bY + bh)) by unfold rCut; rw [if_neg (by simp [ea, eb])]; simp only [mxI_max, mnI_min]]
    have ha := ha ea
    obtain ⟨ka, ka'⟩ := emp_f.1 ea
    simp only [Sm] at ha ka ka'
    obtain ⟨a1, a2, a3, a4, a5, a6⟩ := ha
    have hb := hb eb
    obtain ⟨kb, kb'⟩ := emp_f.1 eb
    simp only [Sm] at hb kb kb'
    obtain ⟨b1, b2, b3, b4, b5, b6⟩ := hb
    go_enter Try.func91, Try.ntmps91
    go_wp2_with fail
    refine (rEmpty_any _ _ _ _ _).mono ?_
    rintro e w1 ⟨rfl, hbw1⟩
    have Baw1 : Bk w1 (w.heap.size) 26 #[.int .i64 ax, .int .i64 ay, .int .i64 aw, .int .i64 ah] := (((Bk.new' _ _ _ (by simp)).al _).al _).be hbw1
    obtain ⟨aw10, aw11, aw12, aw13⟩ := Baw1.c4
    have aw1f := Baw1.fz
    have Bbw1 : Bk w1 (w.heap.size + 1) 26 #[.int .i64 bx, .int .i64 bY, .int .i64 bw, .int .i64 bh] := ((Bk.new' _ _ _ (by simp)).al _).be hbw1
    obtain ⟨bw10, bw11, bw12, bw13⟩ := Bbw1.c4
    have bw1f := Bbw1.fz
    have Bzw1 : Bk w1 (w.heap.size + 1 + 1) 26 #[.int .i64 0, .int .i64 0, .int .i64 0, .int .i64 0] := (Bk.new' _ _ _ (by simp)).be hbw1
    obtain ⟨zw10, zw11, zw12, zw13⟩ := Bzw1.c4
    have zw1f := Bzw1.fz
    go_wp2_with fail
    refine (rEmpty_any _ _ _ _ _).mono ?_
    rintro e w2 ⟨rfl, hbw2⟩
    have Baw2 : Bk w2 (w.heap.size) 26 #[.int .i64 ax, .int .i64 ay, .int .i64 aw, .int .i64 ah] := Baw1.be hbw2
    obtain ⟨aw20, aw21, aw22, aw23⟩ := Baw2.c4
    have aw2f := Baw2.fz
    have Bbw2 : Bk w2 (w.heap.size + 1) 26 #[.int .i64 bx, .int .i64 bY, .int .i64 bw, .int .i64 bh] := Bbw1.be hbw2
    obtain ⟨bw20, bw21, bw22, bw23⟩ := Bbw2.c4
    have bw2f := Bbw2.fz
    have Bzw2 : Bk w2 (w.heap.size + 1 + 1) 26 #[.int .i64 0, .int .i64 0, .int .i64 0, .int .i64 0] := Bzw1.be hbw2
    obtain ⟨zw20, zw21, zw22, zw23⟩ := Bzw2.c4
    have zw2f := Bzw2.fz
    go_wp2_with fail
    refine (rof_any _ _ _ _ _ (by intro _ _; simp only [mxI_max, mnI_min] at *; omega)).mono ?_
    rintro e w3 ⟨rfl, hbw3⟩
    have Bzw3 : Bk w3 (w.heap.size + 1 + 1) 26 #[.int .i64 0, .int .i64 0, .int .i64 0, .int .i64 0] := Bzw2.be hbw3
    obtain ⟨zw30, zw31, zw32, zw33⟩ := Bzw3.c4
    have zw3f := Bzw3.fz
    go_wp2_with fail
    generalize rOf (mxI ax bx) (mxI ay bY) (mnI (ax + aw) (bx + bw)) (mnI (ay + ah) (bY + bh)) = r at *
    have hI : (Try.prog.info? 26).map (·.size) = some (#[.int .i64 r.x, .int .i64 r.y, .int .i64 r.w, .int .i64 r.h] : Array Value).size := by kernel_rfl
    refine post_cell (w.heap.size + 1 + 1) 26 #[.int .i64 r.x, .int .i64 r.y, .int .i64 r.w, .int .i64 r.h] Try.results91 Try.underlying26 rfl hI rfl ?bk rfl ⟨rfl, ?_⟩
    case bk => exact ((((Bzw3.st 0 _).st 1 _).st 2 _).st 3 _)
    repeat (first | (with_reducible exact Below.refl _ _) | (with_reducible apply bl_alloc) | (with_reducible apply bl_drew) | (with_reducible apply bl_drewN) | ((with_reducible refine bl_set ?_ ?hs _); case hs => (simp; try omega)) | (with_reducible refine bl_step ?_ (by assumption)))

set_option maxHeartbeats 8000000 in
theorem rCover_any (ax ay aw ah bx bY bw bh : Int) (w : World) (ha : emp ⟨ax, ay, aw, ah⟩ = false → Sm ⟨ax, ay, aw, ah⟩) (hb : emp ⟨bx, bY, bw, bh⟩ = false → Sm ⟨bx, bY, bw, bh⟩) :
    Calls Try.prog 68 #[.agg #[.int .i64 ax, .int .i64 ay, .int .i64 aw, .int .i64 ah], .agg #[.int .i64 bx, .int .i64 bY, .int .i64 bw, .int .i64 bh]] w fun e w' => e = .returned (.agg #[.int .i64 (rCover ⟨ax, ay, aw, ah⟩ ⟨bx, bY, bw, bh⟩).x, .int .i64 (rCover ⟨ax, ay, aw, ah⟩ ⟨bx, bY, bw, bh⟩).y, .int .i64 (rCover ⟨ax, ay, aw, ah⟩ ⟨bx, bY, bw, bh⟩).w, .int .i64 (rCover ⟨ax, ay, aw, ah⟩ ⟨bx, bY, bw, bh⟩).h]) ∧ Below w.heap.size w w' := by
  by_cases ea : emp ⟨ax, ay, aw, ah⟩ = true
  · clear ha
    by_cases eb : emp ⟨bx, bY, bw, bh⟩ = true
    · rw [show rCover ⟨ax, ay, aw, ah⟩ ⟨bx, bY, bw, bh⟩ = zR by unfold rCover; rw [if_pos ea, if_pos eb]]
      clear hb
      go_enter Try.func68, Try.ntmps68
      go_wp2_with fail
      refine (rEmpty_any _ _ _ _ _).mono ?_
      rintro e w1 ⟨rfl, hbw1⟩
      have Baw1 : Bk w1 (w.heap.size) 26 #[.int .i64 ax, .int .i64 ay, .int .i64 aw, .int .i64 ah] := (((Bk.new' _ _ _ (by simp)).al _).al _).be hbw1
      obtain ⟨aw10, aw11, aw12, aw13⟩ := Baw1.c4
      have aw1f := Baw1.fz
      have Bbw1 : Bk w1 (w.heap.size + 1) 26 #[.int .i64 bx, .int .i64 bY, .int .i64 bw, .int .i64 bh] := ((Bk.new' _ _ _ (by simp)).al _).be hbw1
      obtain ⟨bw10, bw11, bw12, bw13⟩ := Bbw1.c4
      have bw1f := Bbw1.fz
      have Bzw1 : Bk w1 (w.heap.size + 1 + 1) 26 #[.int .i64 0, .int .i64 0, .int .i64 0, .int .i64 0] := (Bk.new' _ _ _ (by simp)).be hbw1
      obtain ⟨zw10, zw11, zw12, zw13⟩ := Bzw1.c4
      have zw1f := Bzw1.fz
      go_wp2_with fail
      refine (rEmpty_any _ _ _ _ _).mono ?_
      rintro e w2 ⟨rfl, hbw2⟩
      have Baw2 : Bk w2 (w.heap.size) 26 #[.int .i64 ax, .int .i64 ay, .int .i64 aw, .int .i64 ah] := Baw1.be hbw2
      obtain ⟨aw20, aw21, aw22, aw23⟩ := Baw2.c4
      have aw2f := Baw2.fz
      have Bbw2 : Bk w2 (w.heap.size + 1) 26 #[.int .i64 bx, .int .i64 bY, .int .i64 bw, .int .i64 bh] := Bbw1.be hbw2
      obtain ⟨bw20, bw21, bw22, bw23⟩ := Bbw2.c4
      have bw2f := Bbw2.fz
      have Bzw2 : Bk w2 (w.heap.size + 1 + 1) 26 #[.int .i64 0, .int .i64 0, .int .i64 0, .int .i64 0] := Bzw1.be hbw2
      obtain ⟨zw20, zw21, zw22, zw23⟩ := Bzw2.c4
      have zw2f := Bzw2.fz
      go_wp2_with fail
      have hI : (Try.prog.info? 26).map (·.size) = some (#[.int .i64 0, .int .i64 0, .int .i64 0, .int .i64 0] : Array Value).size := by kernel_rfl
      refine post_cell (w.heap.size + 1 + 1) 26 #[.int .i64 0, .int .i64 0, .int .i64 0, .int .i64 0] Try.results68 Try.underlying26 rfl hI rfl ?bk rfl ⟨rfl, ?_⟩
      case bk => exact ((((Bzw2.st 0 _).st 1 _).st 2 _).st 3 _)
      repeat (first | (with_reducible exact Below.refl _ _) | (with_reducible apply bl_alloc) | (with_reducible apply bl_drew) | (with_reducible apply bl_drewN) | ((with_reducible refine bl_set ?_ ?hs _); case hs => (simp; try omega)) | (with_reducible refine bl_step ?_ (by assumption)))

    · have eb : emp ⟨bx, bY, bw, bh⟩ = false := by simpa using eb
      rw [show rCover ⟨ax, ay, aw, ah⟩ ⟨bx, bY, bw, bh⟩ = ⟨bx, bY, bw, bh⟩ by unfold rCover; rw [if_pos ea, if_neg (by simp [eb])]]
      clear hb
      go_enter Try.func68, Try.ntmps68
      go_wp2_with fail
      refine (rEmpty_any _ _ _ _ _).mono ?_
      rintro e w1 ⟨rfl, hbw1⟩
      have Baw1 : Bk w1 (w.heap.size) 26 #[.int .i64 ax, .int .i64 ay, .int .i64 aw, .int .i64 ah] := (((Bk.new' _ _ _ (by simp)).al _).al _).be hbw1
      obtain ⟨aw10, aw11, aw12, aw13⟩ := Baw1.c4
      have aw1f := Baw1.fz
      have Bbw1 : Bk w1 (w.heap.size + 1) 26 #[.int .i64 bx, .int .i64 bY, .int .i64 bw, .int .i64 bh] := ((Bk.new' _ _ _ (by simp)).al _).be hbw1
      obtain ⟨bw10, bw11, bw12, bw13⟩ := Bbw1.c4
      have bw1f := Bbw1.fz
      have Bzw1 : Bk w1 (w.heap.size + 1 + 1) 26 #[.int .i64 0, .int .i64 0, .int .i64 0, .int .i64 0] := (Bk.new' _ _ _ (by simp)).be hbw1
      obtain ⟨zw10, zw11, zw12, zw13⟩ := Bzw1.c4
      have zw1f := Bzw1.fz
      go_wp2_with fail
      refine (rEmpty_any _ _ _ _ _).mono ?_
      rintro e w2 ⟨rfl, hbw2⟩
      have Baw2 : Bk w2 (w.heap.size) 26 #[.int .i64 ax, .int .i64 ay, .int .i64 aw, .int .i64 ah] := Baw1.be hbw2
      obtain ⟨aw20, aw21, aw22, aw23⟩ := Baw2.c4
      have aw2f := Baw2.fz
      have Bbw2 : Bk w2 (w.heap.size + 1) 26 #[.int .i64 bx, .int .i64 bY, .int .i64 bw, .int .i64 bh] := Bbw1.be hbw2
      obtain ⟨bw20, bw21, bw22, bw23⟩ := Bbw2.c4
      have bw2f := Bbw2.fz
      have Bzw2 : Bk w2 (w.heap.size + 1 + 1) 26 #[.int .i64 0, .int .i64 0, .int .i64 0, .int .i64 0] := Bzw1.be hbw2
      obtain ⟨zw20, zw21, zw22, zw23⟩ := Bzw2.c4
      have zw2f := Bzw2.fz
      go_wp2_with fail
      refine (rEmpty_any _ _ _ _ _).mono ?_
      rintro e w3 ⟨rfl, hbw3⟩
      have Baw3 : Bk w3 (w.heap.size) 26 #[.int .i64 ax, .int .i64 ay, .int .i64 aw, .int .i64 ah] := Baw2.be hbw3
      obtain ⟨aw30, aw31, aw32, aw33⟩ := Baw3.c4
      have aw3f := Baw3.fz
      have Bbw3 : Bk w3 (w.heap.size + 1) 26 #[.int .i64 bx, .int .i64 bY, .int .i64 bw, .int .i64 bh] := Bbw2.be hbw3
      obtain ⟨bw30, bw31, bw32, bw33⟩ := Bbw3.c4
      have bw3f := Bbw3.fz
      have Bzw3 : Bk w3 (w.heap.size + 1 + 1) 26 #[.int .i64 0, .int .i64 0, .int .i64 0, .int .i64 0] := Bzw2.be hbw3
      obtain ⟨zw30, zw31, zw32, zw33⟩ := Bzw3.c4
      have zw3f := Bzw3.fz
      go_wp2_with fail
      have hI : (Try.prog.info? 26).map (·.size) = some (#[.int .i64 bx, .int .i64 bY, .int .i64 bw, .int .i64 bh] : Array Value).size := by kernel_rfl
      refine post_cell (w.heap.size + 1 + 1) 26 #[.int .i64 bx, .int .i64 bY, .int .i64 bw, .int .i64 bh] Try.results68 Try.underlying26 rfl hI rfl ?bk rfl ⟨rfl, ?_⟩
      case bk => exact ((((Bzw3.st 0 _).st 1 _).st 2 _).st 3 _)
      repeat (first | (with_reducible exact Below.refl _ _) | (with_reducible apply bl_alloc) | (with_reducible apply bl_drew) | (with_reducible apply bl_drewN) | ((with_reducible refine bl_set ?_ ?hs _); case hs => (simp; try omega)) | (with_reducible refine bl_step ?_ (by assumption)))

  have ea : emp ⟨ax, ay, aw, ah⟩ = false := by simpa using ea
  by_cases eb : emp ⟨bx, bY, bw, bh⟩ = true
  · rw [show rCover ⟨ax, ay, aw, ah⟩ ⟨bx, bY, bw, bh⟩ = ⟨ax, ay, aw, ah⟩ by unfold rCover; rw [if_neg (by simp [ea]), if_pos eb]]
    clear ha hb
    go_enter Try.func68, Try.ntmps68
    go_wp2_with fail
    refine (rEmpty_any _ _ _ _ _).mono ?_
    rintro e w1 ⟨rfl, hbw1⟩
    have Baw1 : Bk w1 (w.heap.size) 26 #[.int .i64 ax, .int .i64 ay, .int .i64 aw, .int .i64 ah] := (((Bk.new' _ _ _ (by simp)).al _).al _).be hbw1
    obtain ⟨aw10, aw11, aw12, aw13⟩ := Baw1.c4
    have aw1f := Baw1.fz
    have Bbw1 : Bk w1 (w.heap.size + 1) 26 #[.int .i64 bx, .int .i64 bY, .int .i64 bw, .int .i64 bh] := ((Bk.new' _ _ _ (by simp)).al _).be hbw1
    obtain ⟨bw10, bw11, bw12, bw13⟩ := Bbw1.c4
    have bw1f := Bbw1.fz
    have Bzw1 : Bk w1 (w.heap.size + 1 + 1) 26 #[.int .i64 0, .int .i64 0, .int .i64 0, .int .i64 0] := (Bk.new' _ _ _ (by simp)).be hbw1
    obtain ⟨zw10, zw11, zw12, zw13⟩ := Bzw1.c4
    have zw1f := Bzw1.fz
    go_wp2_with fail
    refine (rEmpty_any _ _ _ _ _).mono ?_
    rintro e w2 ⟨rfl, hbw2⟩
    have Baw2 : Bk w2 (w.heap.size) 26 #[.int .i64 ax, .int .i64 ay, .int .i64 aw, .int .i64 ah] := Baw1.be hbw2
    obtain ⟨aw20, aw21, aw22, aw23⟩ := Baw2.c4
    have aw2f := Baw2.fz
    have Bbw2 : Bk w2 (w.heap.size + 1) 26 #[.int .i64 bx, .int .i64 bY, .int .i64 bw, .int .i64 bh] := Bbw1.be hbw2
    obtain ⟨bw20, bw21, bw22, bw23⟩ := Bbw2.c4
    have bw2f := Bbw2.fz
    have Bzw2 : Bk w2 (w.heap.size + 1 + 1) 26 #[.int .i64 0, .int .i64 0, .int .i64 0, .int .i64 0] := Bzw1.be hbw2
    obtain ⟨zw20, zw21, zw22, zw23⟩ := Bzw2.c4
    have zw2f := Bzw2.fz
    go_wp2_with fail
    refine (rEmpty_any _ _ _ _ _).mono ?_
    rintro e w3 ⟨rfl, hbw3⟩
    have Baw3 : Bk w3 (w.heap.size) 26 #[.int .i64 ax, .int .i64 ay, .int .i64 aw, .int .i64 ah] := Baw2.be hbw3
    obtain ⟨aw30, aw31, aw32, aw33⟩ := Baw3.c4
    have aw3f := Baw3.fz
    have Bbw3 : Bk w3 (w.heap.size + 1) 26 #[.int .i64 bx, .int .i64 bY, .int .i64 bw, .int .i64 bh] := Bbw2.be hbw3
    obtain ⟨bw30, bw31, bw32, bw33⟩ := Bbw3.c4
    have bw3f := Bbw3.fz
    have Bzw3 : Bk w3 (w.heap.size + 1 + 1) 26 #[.int .i64 0, .int .i64 0, .int .i64 0, .int .i64 0] := Bzw2.be hbw3
    obtain ⟨zw30, zw31, zw32, zw33⟩ := Bzw3.c4
    have zw3f := Bzw3.fz
    go_wp2_with fail
    have hI : (Try.prog.info? 26).map (·.size) = some (#[.int .i64 ax, .int .i64 ay, .int .i64 aw, .int .i64 ah] : Array Value).size := by kernel_rfl
    refine post_cell (w.heap.size + 1 + 1) 26 #[.int .i64 ax, .int .i64 ay, .int .i64 aw, .int .i64 ah] Try.results68 Try.underlying26 rfl hI rfl ?bk rfl ⟨rfl, ?_⟩
    case bk => exact ((((Bzw3.st 0 _).st 1 _).st 2 _).st 3 _)
    repeat (first | (with_reducible exact Below.refl _ _) | (with_reducible apply bl_alloc) | (with_reducible apply bl_drew) | (with_reducible apply bl_drewN) | ((with_reducible refine bl_set ?_ ?hs _); case hs => (simp; try omega)) | (with_reducible refine bl_step ?_ (by assumption)))

  · have eb : emp ⟨bx, bY, bw, bh⟩ = false := by simpa using eb
    rw [show rCover ⟨ax, ay, aw, ah⟩ ⟨bx, bY, bw, bh⟩ = rOf (mnI ax bx) (mnI ay bY) (mxI (ax + aw) (bx + bw)) (mxI (ay + ah) (bY + bh)) by unfold rCover; rw [if_neg (by simp [ea]), if_neg (by simp [eb])]; simp only [mxI_max, mnI_min]]
    have ha := ha ea
    obtain ⟨ka, ka'⟩ := emp_f.1 ea
    simp only [Sm] at ha ka ka'
    obtain ⟨a1, a2, a3, a4, a5, a6⟩ := ha
    have hb := hb eb
    obtain ⟨kb, kb'⟩ := emp_f.1 eb
    simp only [Sm] at hb kb kb'
    obtain ⟨b1, b2, b3, b4, b5, b6⟩ := hb
    go_enter Try.func68, Try.ntmps68
    go_wp2_with fail
    refine (rEmpty_any _ _ _ _ _).mono ?_
    rintro e w1 ⟨rfl, hbw1⟩
    have Baw1 : Bk w1 (w.heap.size) 26 #[.int .i64 ax, .int .i64 ay, .int .i64 aw, .int .i64 ah] := (((Bk.new' _ _ _ (by simp)).al _).al _).be hbw1
    obtain ⟨aw10, aw11, aw12, aw13⟩ := Baw1.c4
    have aw1f := Baw1.fz
    have Bbw1 : Bk w1 (w.heap.size + 1) 26 #[.int .i64 bx, .int .i64 bY, .int .i64 bw, .int .i64 bh] := ((Bk.new' _ _ _ (by simp)).al _).be hbw1
    obtain ⟨bw10, bw11, bw12, bw13⟩ := Bbw1.c4
    have bw1f := Bbw1.fz
    have Bzw1 : Bk w1 (w.heap.size + 1 + 1) 26 #[.int .i64 0, .int .i64 0, .int .i64 0, .int .i64 0] := (Bk.new' _ _ _ (by simp)).be hbw1
    obtain ⟨zw10, zw11, zw12, zw13⟩ := Bzw1.c4
    have zw1f := Bzw1.fz
    go_wp2_with fail
    refine (rEmpty_any _ _ _ _ _).mono ?_
    rintro e w2 ⟨rfl, hbw2⟩
    have Baw2 : Bk w2 (w.heap.size) 26 #[.int .i64 ax, .int .i64 ay, .int .i64 aw, .int .i64 ah] := Baw1.be hbw2
    obtain ⟨aw20, aw21, aw22, aw23⟩ := Baw2.c4
    have aw2f := Baw2.fz
    have Bbw2 : Bk w2 (w.heap.size + 1) 26 #[.int .i64 bx, .int .i64 bY, .int .i64 bw, .int .i64 bh] := Bbw1.be hbw2
    obtain ⟨bw20, bw21, bw22, bw23⟩ := Bbw2.c4
    have bw2f := Bbw2.fz
    have Bzw2 : Bk w2 (w.heap.size + 1 + 1) 26 #[.int .i64 0, .int .i64 0, .int .i64 0, .int .i64 0] := Bzw1.be hbw2
    obtain ⟨zw20, zw21, zw22, zw23⟩ := Bzw2.c4
    have zw2f := Bzw2.fz
    go_wp2_with fail
    refine (rEmpty_any _ _ _ _ _).mono ?_
    rintro e w3 ⟨rfl, hbw3⟩
    have Baw3 : Bk w3 (w.heap.size) 26 #[.int .i64 ax, .int .i64 ay, .int .i64 aw, .int .i64 ah] := Baw2.be hbw3
    obtain ⟨aw30, aw31, aw32, aw33⟩ := Baw3.c4
    have aw3f := Baw3.fz
    have Bbw3 : Bk w3 (w.heap.size + 1) 26 #[.int .i64 bx, .int .i64 bY, .int .i64 bw, .int .i64 bh] := Bbw2.be hbw3
    obtain ⟨bw30, bw31, bw32, bw33⟩ := Bbw3.c4
    have bw3f := Bbw3.fz
    have Bzw3 : Bk w3 (w.heap.size + 1 + 1) 26 #[.int .i64 0, .int .i64 0, .int .i64 0, .int .i64 0] := Bzw2.be hbw3
    obtain ⟨zw30, zw31, zw32, zw33⟩ := Bzw3.c4
    have zw3f := Bzw3.fz
    go_wp2_with fail
    refine (rof_any _ _ _ _ _ (by intro _ _; simp only [mxI_max, mnI_min] at *; omega)).mono ?_
    rintro e w4 ⟨rfl, hbw4⟩
    have Bzw4 : Bk w4 (w.heap.size + 1 + 1) 26 #[.int .i64 0, .int .i64 0, .int .i64 0, .int .i64 0] := Bzw3.be hbw4
    obtain ⟨zw40, zw41, zw42, zw43⟩ := Bzw4.c4
    have zw4f := Bzw4.fz
    go_wp2_with fail
    generalize rOf (mnI ax bx) (mnI ay bY) (mxI (ax + aw) (bx + bw)) (mxI (ay + ah) (bY + bh)) = r at *
    have hI : (Try.prog.info? 26).map (·.size) = some (#[.int .i64 r.x, .int .i64 r.y, .int .i64 r.w, .int .i64 r.h] : Array Value).size := by kernel_rfl
    refine post_cell (w.heap.size + 1 + 1) 26 #[.int .i64 r.x, .int .i64 r.y, .int .i64 r.w, .int .i64 r.h] Try.results68 Try.underlying26 rfl hI rfl ?bk rfl ⟨rfl, ?_⟩
    case bk => exact ((((Bzw4.st 0 _).st 1 _).st 2 _).st 3 _)
    repeat (first | (with_reducible exact Below.refl _ _) | (with_reducible apply bl_alloc) | (with_reducible apply bl_drew) | (with_reducible apply bl_drewN) | ((with_reducible refine bl_set ?_ ?hs _); case hs => (simp; try omega)) | (with_reducible refine bl_step ?_ (by assumption)))

set_option maxHeartbeats 4000000 in
theorem rShift_any (ax ay aw ah x y : Int) (w : World) (ha : emp ⟨ax, ay, aw, ah⟩ = false → Sm ⟨ax, ay, aw, ah⟩) (hx : emp ⟨ax, ay, aw, ah⟩ = false → -4294967296 ≤ x ∧ x ≤ 4294967296) (hy : emp ⟨ax, ay, aw, ah⟩ = false → -4294967296 ≤ y ∧ y ≤ 4294967296) :
    Calls Try.prog 66 #[.agg #[.int .i64 ax, .int .i64 ay, .int .i64 aw, .int .i64 ah], .int .i64 x, .int .i64 y] w fun e w' => e = .returned (.agg #[.int .i64 (rShift ⟨ax, ay, aw, ah⟩ x y).x, .int .i64 (rShift ⟨ax, ay, aw, ah⟩ x y).y, .int .i64 (rShift ⟨ax, ay, aw, ah⟩ x y).w, .int .i64 (rShift ⟨ax, ay, aw, ah⟩ x y).h]) ∧ Below w.heap.size w w' := by
  by_cases ea : emp ⟨ax, ay, aw, ah⟩ = true
  · rw [show rShift ⟨ax, ay, aw, ah⟩ x y = zR by unfold rShift; rw [if_pos ea]]
    clear ha hx hy
    go_enter Try.func66, Try.ntmps66
    go_wp2_with fail
    refine (rEmpty_any _ _ _ _ _).mono ?_
    rintro e w1 ⟨rfl, hbw1⟩
    have Baw1 : Bk w1 (w.heap.size) 26 #[.int .i64 ax, .int .i64 ay, .int .i64 aw, .int .i64 ah] := ((Bk.new' _ _ _ (by simp)).al _).be hbw1
    obtain ⟨aw10, aw11, aw12, aw13⟩ := Baw1.c4
    have aw1f := Baw1.fz
    have Bzw1 : Bk w1 (w.heap.size + 1) 26 #[.int .i64 0, .int .i64 0, .int .i64 0, .int .i64 0] := (Bk.new' _ _ _ (by simp)).be hbw1
    obtain ⟨zw10, zw11, zw12, zw13⟩ := Bzw1.c4
    have zw1f := Bzw1.fz
    go_wp2_with fail
    have hI : (Try.prog.info? 26).map (·.size) = some (#[.int .i64 0, .int .i64 0, .int .i64 0, .int .i64 0] : Array Value).size := by kernel_rfl
    refine post_cell (w.heap.size + 1) 26 #[.int .i64 0, .int .i64 0, .int .i64 0, .int .i64 0] Try.results66 Try.underlying26 rfl hI rfl ?bk rfl ⟨rfl, ?_⟩
    case bk => exact ((((Bzw1.st 0 _).st 1 _).st 2 _).st 3 _)
    repeat (first | (with_reducible exact Below.refl _ _) | (with_reducible apply bl_alloc) | (with_reducible apply bl_drew) | (with_reducible apply bl_drewN) | ((with_reducible refine bl_set ?_ ?hs _); case hs => (simp; try omega)) | (with_reducible refine bl_step ?_ (by assumption)))

  · have ea : emp ⟨ax, ay, aw, ah⟩ = false := by simpa using ea
    rw [show rShift ⟨ax, ay, aw, ah⟩ x y = ⟨ax + x, ay + y, aw, ah⟩ by unfold rShift; rw [if_neg (by simp [ea])]]
    obtain ⟨x0, x1⟩ := hx ea
    obtain ⟨y0, y1⟩ := hy ea
    have ha := ha ea
    obtain ⟨ka, ka'⟩ := emp_f.1 ea
    simp only [Sm] at ha ka ka'
    obtain ⟨a1, a2, a3, a4, a5, a6⟩ := ha
    clear hx hy
    go_enter Try.func66, Try.ntmps66
    go_wp2_with fail
    refine (rEmpty_any _ _ _ _ _).mono ?_
    rintro e w1 ⟨rfl, hbw1⟩
    have Baw1 : Bk w1 (w.heap.size) 26 #[.int .i64 ax, .int .i64 ay, .int .i64 aw, .int .i64 ah] := ((Bk.new' _ _ _ (by simp)).al _).be hbw1
    obtain ⟨aw10, aw11, aw12, aw13⟩ := Baw1.c4
    have aw1f := Baw1.fz
    have Bzw1 : Bk w1 (w.heap.size + 1) 26 #[.int .i64 0, .int .i64 0, .int .i64 0, .int .i64 0] := (Bk.new' _ _ _ (by simp)).be hbw1
    obtain ⟨zw10, zw11, zw12, zw13⟩ := Bzw1.c4
    have zw1f := Bzw1.fz
    go_wp2_with fail
    have hI : (Try.prog.info? 26).map (·.size) = some (#[.int .i64 (ax + x), .int .i64 (ay + y), .int .i64 aw, .int .i64 ah] : Array Value).size := by kernel_rfl
    refine post_cell (w.heap.size + 1) 26 #[.int .i64 (ax + x), .int .i64 (ay + y), .int .i64 aw, .int .i64 ah] Try.results66 Try.underlying26 rfl hI rfl ?bk rfl ⟨rfl, ?_⟩
    case bk => exact ((((Bzw1.st 0 _).st 1 _).st 2 _).st 3 _)
    repeat (first | (with_reducible exact Below.refl _ _) | (with_reducible apply bl_alloc) | (with_reducible apply bl_drew) | (with_reducible apply bl_drewN) | ((with_reducible refine bl_set ?_ ?hs _); case hs => (simp; try omega)) | (with_reducible refine bl_step ?_ (by assumption)))

theorem u64_edge {x : Int} (h0 : x < -16777216) (hx : -9223372036854775808 ≤ x) : IntKind.u64.wrap (16777216 - IntKind.u64.wrap x) = 16777216 - x := by
  have e : ∀ n : Int, IntKind.u64.wrap n = n % 18446744073709551616 := fun n => by simp [IntKind.wrap, IntKind.bits, IntKind.signed]
  rw [e, e]
  omega
set_option maxHeartbeats 4000000 in
theorem redge_any (x n : Int) (w : World) (hx : -9223372036854775808 ≤ x) (hx' : x ≤ 9223372036854775807) (hn : 1 ≤ n) (hn' : n ≤ 9223372036854775807) :
    Calls Try.prog 88 #[.int .i64 x, .int .i64 n] w fun e w' => e = .returned (.int .i64 (min (x + n) 16777216)) ∧ w = w' := by
  by_cases h1 : 16777216 ≤ x
  · rw [show min (x + n) 16777216 = 16777216 by omega]
    go_enter Try.func88, Try.ntmps88
    go_wp2_with fail
    go_ret
    exact ⟨rfl, rfl⟩
  by_cases h2 : x < -16777216
  · have q := u64_edge h2 hx
    have hm : 16777216 - x ≤ 18446744073709551615 := by omega
    by_cases h3 : 16777216 - x < n
    · rw [show min (x + n) 16777216 = 16777216 by omega]
      have hn16 : 16777216 < n := by omega
      go_enter Try.func88, Try.ntmps88
      go_wp2_with fail
      go_ret
      exact ⟨rfl, rfl⟩
    · rw [show min (x + n) 16777216 = x + n by omega]
      by_cases h4 : 16777216 < n
      · go_enter Try.func88, Try.ntmps88
        go_wp2_with fail
        go_ret
        exact ⟨rfl, rfl⟩
      · go_enter Try.func88, Try.ntmps88
        go_wp2_with fail
        go_ret
        exact ⟨rfl, rfl⟩
  · by_cases h3 : 16777216 - x < n
    · rw [show min (x + n) 16777216 = 16777216 by omega]
      by_cases h4 : 16777216 < n <;> by_cases h5 : 0 ≤ x
      all_goals
        go_enter Try.func88, Try.ntmps88
        go_wp2_with fail
        all_goals
          go_ret
          exact ⟨rfl, rfl⟩
    · rw [show min (x + n) 16777216 = x + n by omega]
      by_cases h4 : 16777216 < n <;> by_cases h5 : 0 ≤ x
      · omega
      all_goals
        go_enter Try.func88, Try.ntmps88
        go_wp2_with fail
        all_goals
          go_ret
          exact ⟨rfl, rfl⟩

end Go.Proofs.Ytclpppejabfbbaa.RectT
