/- The walks through rect, third part: Check; the reference's functions; may, awake. -/
import Derived.Test.YtamgbnjdpmlfdaaRectWalk2
set_option linter.unusedVariables false
set_option linter.unusedSimpArgs false
namespace Go.Proofs.Ytamgbnjdpmlfdaa.Rect
open Go.RowKit Go.Proofs.Ytamgbnjdpmlfdaa.Kit
attribute [local go_sem high] bmax2 bmin2 bmax_2 bmin_2 bmax_3 bmin_3 bmax_4 bmin_4 rEq

def edgeB (x n : Int) : Bool := decide (-16777216 ≤ x) && (decide (1 ≤ n) && decide (x + n ≤ 16777216))
set_option maxHeartbeats 2000000 in
theorem edge_any (x n : Int) (w : World) (_ : -9223372036854775808 ≤ x) (_ : x ≤ 9223372036854775807) (_ : n ≤ 9223372036854775807) :
    Calls Try.prog 26 #[.int .i64 x, .int .i64 n] w fun e w' => e = .returned (.bool (edgeB x n)) ∧ w = w' := by
  go_enter Try.func26, Try.ntmps26
  go_wp2
  all_goals
    go_ret
    refine ⟨ret_bool ?_, rfl⟩
    rw [Bool.eq_iff_iff]; simp [edgeB]; try omega
theorem edge_chk (x y a b : Int) : (edgeB x a && edgeB y b) = rChk ⟨x, y, a, b⟩ := by
  rw [Bool.eq_iff_iff, chk_iff]; simp [edgeB, chkR]; omega
set_option maxHeartbeats 4000000 in
theorem Check_any (ax ay aw ah : Int) (w : World) (hr : I64 ⟨ax, ay, aw, ah⟩) :
    Calls Try.prog 9 #[.agg #[.int .i64 ax, .int .i64 ay, .int .i64 aw, .int .i64 ah]] w fun e w' => e = .returned (.bool (rChk ⟨ax, ay, aw, ah⟩)) ∧ Below w.heap.size w w' := by
  obtain ⟨⟨x0, x1⟩, ⟨y0, y1⟩, ⟨w0, w1⟩, h0, h1⟩ := hr
  simp only at x0 x1 y0 y1 w0 w1 h0 h1
  rw [← edge_chk]
  by_cases he : edgeB ax aw = true
  · go_enter Try.func9, Try.ntmps9
    go_wp2_with fail
    refine (edge_any _ _ _ x0 x1 w1).mono ?_
    rintro e wx ⟨rfl, rfl⟩
    go_wp2_with fail
    refine (edge_any _ _ _ y0 y1 h1).mono ?_
    rintro e wx ⟨rfl, rfl⟩
    go_wp2_with fail
    go_ret
    refine ⟨ret_bool (by rw [he]; rfl), ?_⟩
    repeat (first | (with_reducible exact Below.refl _ _) | (with_reducible apply bl_alloc) | (with_reducible apply bl_drew) | (with_reducible apply bl_drewN) | ((with_reducible refine bl_set ?_ ?hs _); case hs => (simp; try omega)) | (with_reducible refine bl_step ?_ (by assumption)))
  · have he : edgeB ax aw = false := by simpa using he
    go_enter Try.func9, Try.ntmps9
    go_wp2_with fail
    refine (edge_any _ _ _ x0 x1 w1).mono ?_
    rintro e wx ⟨rfl, rfl⟩
    go_wp2_with fail
    go_ret
    refine ⟨ret_bool (by rw [he]; rfl), ?_⟩
    repeat (first | (with_reducible exact Below.refl _ _) | (with_reducible apply bl_alloc) | (with_reducible apply bl_drew) | (with_reducible apply bl_drewN) | ((with_reducible refine bl_set ?_ ?hs _); case hs => (simp; try omega)) | (with_reducible refine bl_step ?_ (by assumption)))

/-! the reference -/
set_option maxHeartbeats 1000000 in
theorem rEmpty_any (x y a b : Int) (w : World) : Calls Try.prog 20 #[.agg #[.int .i64 x, .int .i64 y, .int .i64 a, .int .i64 b]] w fun e w' => e = .returned (.bool (emp ⟨x, y, a, b⟩)) ∧ Below w.heap.size w w' := by
  go_enter Try.func20, Try.ntmps20
  go_wp2
  all_goals
    go_ret
    refine ⟨ret_bool ?_, (Below.refl _ _).alloc (Nat.le_refl _) _⟩
    rw [Bool.eq_iff_iff]; simp only [emp_t]; simp; try omega
set_option maxHeartbeats 1000000 in
theorem rin_any (v : Int) (w : World) : Calls Try.prog 27 #[.int .i64 v] w fun e w' => e = .returned (.bool (decide (-16777216 ≤ v) && decide (v ≤ 16777216))) ∧ w = w' := by
  go_enter Try.func27, Try.ntmps27
  go_wp2
  all_goals
    go_ret
    refine ⟨ret_bool ?_, rfl⟩
    rw [Bool.eq_iff_iff]; simp; try omega
set_option maxHeartbeats 4000000 in
theorem rCheck_any (ax ay aw ah : Int) (w : World) (hr : I64 ⟨ax, ay, aw, ah⟩) :
    Calls Try.prog 10 #[.agg #[.int .i64 ax, .int .i64 ay, .int .i64 aw, .int .i64 ah]] w fun e w' => e = .returned (.bool (rChk ⟨ax, ay, aw, ah⟩)) ∧ Below w.heap.size w w' := by
  obtain ⟨⟨x0, x1⟩, ⟨y0, y1⟩, ⟨w0, w1⟩, h0, h1⟩ := hr
  simp only at x0 x1 y0 y1 w0 w1 h0 h1
  by_cases ea : emp ⟨ax, ay, aw, ah⟩ = true
  · have hf : rChk ⟨ax, ay, aw, ah⟩ = false := by
      rw [Bool.eq_false_iff]; intro h; rw [chk_emp h] at ea; cases ea
    go_enter Try.func10, Try.ntmps10
    go_wp2_with fail
    refine (rEmpty_any _ _ _ _ _).mono ?_
    rintro e w1 ⟨rfl, hbw1⟩
    go_wp2_with fail
    go_ret
    refine ⟨ret_bool hf.symm, ?_⟩
    repeat (first | (with_reducible exact Below.refl _ _) | (with_reducible apply bl_alloc) | (with_reducible apply bl_drew) | (with_reducible apply bl_drewN) | ((with_reducible refine bl_set ?_ ?hs _); case hs => (simp; try omega)) | (with_reducible refine bl_step ?_ (by assumption)))
  have ea : emp ⟨ax, ay, aw, ah⟩ = false := by simpa using ea
  have ka := emp_f.1 ea
  simp only at ka
  obtain ⟨ka, ka'⟩ := ka
  by_cases ex : (decide (-16777216 ≤ ax) && decide (ax ≤ 16777216)) = true
  · by_cases ey : (decide (-16777216 ≤ ay) && decide (ay ≤ 16777216)) = true
    · have ex' := ex
      have ey' := ey
      simp at ex' ey'
      obtain ⟨ex0, ex1⟩ := ex'
      obtain ⟨ey0, ey1⟩ := ey'
      go_enter Try.func10, Try.ntmps10
      go_wp2_with fail
      refine (rEmpty_any _ _ _ _ _).mono ?_
      rintro e w1 ⟨rfl, hbw1⟩
      have Baw1 : Bk w1 (w.heap.size) 23 #[.int .i64 ax, .int .i64 ay, .int .i64 aw, .int .i64 ah] := (Bk.new' _ _ _ (by simp)).be hbw1
      obtain ⟨aw10, aw11, aw12, aw13⟩ := Baw1.c4
      have aw1f := Baw1.fz
      go_wp2_with fail
      refine (rin_any _ _).mono ?_
      rintro e wx ⟨rfl, rfl⟩
      go_wp2_with fail
      refine (rin_any _ _).mono ?_
      rintro e wx ⟨rfl, rfl⟩
      go_wp2_with fail
      all_goals
        go_ret
        refine ⟨ret_bool ?_, ?_⟩
        · rw [Bool.eq_iff_iff, chk_iff]; simp [chkR]; try omega
        repeat (first | (with_reducible exact Below.refl _ _) | (with_reducible apply bl_alloc) | (with_reducible apply bl_drew) | (with_reducible apply bl_drewN) | ((with_reducible refine bl_set ?_ ?hs _); case hs => (simp; try omega)) | (with_reducible refine bl_step ?_ (by assumption)))
    · have ey : (decide (-16777216 ≤ ay) && decide (ay ≤ 16777216)) = false := by simpa using ey
      have hf : rChk ⟨ax, ay, aw, ah⟩ = false := by
        rw [Bool.eq_false_iff, Ne, chk_iff]; simp at ey; simp only [chkR]; omega
      go_enter Try.func10, Try.ntmps10
      go_wp2_with fail
      refine (rEmpty_any _ _ _ _ _).mono ?_
      rintro e w1 ⟨rfl, hbw1⟩
      have Baw1 : Bk w1 (w.heap.size) 23 #[.int .i64 ax, .int .i64 ay, .int .i64 aw, .int .i64 ah] := (Bk.new' _ _ _ (by simp)).be hbw1
      obtain ⟨aw10, aw11, aw12, aw13⟩ := Baw1.c4
      have aw1f := Baw1.fz
      go_wp2_with fail
      refine (rin_any _ _).mono ?_
      rintro e wx ⟨rfl, rfl⟩
      go_wp2_with fail
      refine (rin_any _ _).mono ?_
      rintro e wx ⟨rfl, rfl⟩
      go_wp2_with fail
      go_ret
      refine ⟨ret_bool hf.symm, ?_⟩
      repeat (first | (with_reducible exact Below.refl _ _) | (with_reducible apply bl_alloc) | (with_reducible apply bl_drew) | (with_reducible apply bl_drewN) | ((with_reducible refine bl_set ?_ ?hs _); case hs => (simp; try omega)) | (with_reducible refine bl_step ?_ (by assumption)))
  · have ex : (decide (-16777216 ≤ ax) && decide (ax ≤ 16777216)) = false := by simpa using ex
    have hf : rChk ⟨ax, ay, aw, ah⟩ = false := by
      rw [Bool.eq_false_iff, Ne, chk_iff]; simp at ex; simp only [chkR]; omega
    go_enter Try.func10, Try.ntmps10
    go_wp2_with fail
    refine (rEmpty_any _ _ _ _ _).mono ?_
    rintro e w1 ⟨rfl, hbw1⟩
    have Baw1 : Bk w1 (w.heap.size) 23 #[.int .i64 ax, .int .i64 ay, .int .i64 aw, .int .i64 ah] := (Bk.new' _ _ _ (by simp)).be hbw1
    obtain ⟨aw10, aw11, aw12, aw13⟩ := Baw1.c4
    have aw1f := Baw1.fz
    go_wp2_with fail
    refine (rin_any _ _).mono ?_
    rintro e wx ⟨rfl, rfl⟩
    go_wp2_with fail
    go_ret
    refine ⟨ret_bool hf.symm, ?_⟩
    repeat (first | (with_reducible exact Below.refl _ _) | (with_reducible apply bl_alloc) | (with_reducible apply bl_drew) | (with_reducible apply bl_drewN) | ((with_reducible refine bl_set ?_ ?hs _); case hs => (simp; try omega)) | (with_reducible refine bl_step ?_ (by assumption)))
set_option maxHeartbeats 1000000 in
theorem within_any (p x n : Int) (w : World) (hx : -9223372036854775808 ≤ x) (_ : x ≤ 9223372036854775807) (_ : -9223372036854775808 ≤ p) (hp' : p ≤ 9223372036854775807) (hn : 1 ≤ n) (hn' : n ≤ 9223372036854775807) :
    Calls Try.prog 31 #[.int .i64 p, .int .i64 x, .int .i64 n] w fun e w' => e = .returned (.bool (decide (x ≤ p) && decide (p < x + n))) ∧ w = w' := by
  by_cases h : x ≤ p
  · have q := Lib.hid (u64_sub h hx hp')
    go_enter Try.func31, Try.ntmps31
    go_wp2
    go_ret
    refine ⟨ret_bool ?_, rfl⟩
    show decide (IntKind.u64.wrap (IntKind.u64.wrap p - IntKind.u64.wrap x) < n) = _
    rw [q.out, Bool.eq_iff_iff]
    simp; omega
  · go_enter Try.func31, Try.ntmps31
    go_wp2
    go_ret
    refine ⟨ret_bool ?_, rfl⟩
    have h' : ¬ x ≤ p := by omega
    simp [h']

set_option maxHeartbeats 2000000 in
theorem rHas_any (x y a b p q : Int) (w : World) (hr : I64 ⟨x, y, a, b⟩) (hp : -9223372036854775808 ≤ p ∧ p ≤ 9223372036854775807) (hq : -9223372036854775808 ≤ q ∧ q ≤ 9223372036854775807) :
    Calls Try.prog 21 #[.agg #[.int .i64 x, .int .i64 y, .int .i64 a, .int .i64 b], .int .i64 p, .int .i64 q] w fun e w' => e = .returned (.bool (rHas ⟨x, y, a, b⟩ p q)) ∧ Below w.heap.size w w' := by
  obtain ⟨⟨x0, x1⟩, ⟨y0, y1⟩, ⟨a0, a1⟩, b0, b1⟩ := hr
  obtain ⟨p0, p1⟩ := hp
  obtain ⟨q0, q1⟩ := hq
  simp only at x0 x1 y0 y1 a0 a1 b0 b1
  by_cases he : emp ⟨x, y, a, b⟩ = true
  · have hf : rHas ⟨x, y, a, b⟩ p q = false := by
      have := inR_emp (p := p) (q := q) he
      simp [rHas, this]
    have HF := Lib.hid hf
    clear hf
    go_enter Try.func21, Try.ntmps21
    go_wp2_with fail
    refine (rEmpty_any _ _ _ _ _).mono ?_
    rintro e w1 ⟨rfl, hbw1⟩
    go_wp2_with fail
    go_ret
    refine ⟨ret_bool HF.out.symm, ?_⟩
    repeat (first | (with_reducible exact Below.refl _ _) | (with_reducible apply bl_alloc) | (with_reducible apply bl_drew) | (with_reducible apply bl_drewN) | ((with_reducible refine bl_set ?_ ?hs _); case hs => (simp; try omega)) | (with_reducible refine bl_step ?_ (by assumption)))
  · have he : emp ⟨x, y, a, b⟩ = false := by simpa using he
    obtain ⟨ha, hb⟩ := emp_f.1 he
    simp only at ha hb
    go_enter Try.func21, Try.ntmps21
    go_wp2_with fail
    refine (rEmpty_any _ _ _ _ _).mono ?_
    rintro e w1 ⟨rfl, hbw1⟩
    obtain ⟨hc1, -⟩ := bcell hbw1
    go_wp2_with fail
    refine (within_any _ _ _ _ (by omega) (by omega) (by omega) (by omega) (by omega) (by omega)).mono ?_
    rintro e wx ⟨rfl, rfl⟩
    by_cases h1 : (decide (x ≤ p) && decide (p < x + a)) = true
    · go_wp2_with fail
      refine (within_any _ _ _ _ (by omega) (by omega) (by omega) (by omega) (by omega) (by omega)).mono ?_
      rintro e w2 ⟨rfl, rfl⟩
      go_wp2_with fail
      go_ret
      refine ⟨ret_bool ?_, ?_⟩
      · show (decide (y ≤ q) && decide (q < y + b)) = _
        rw [Bool.eq_iff_iff, has_iff]
        simp at h1
        simp [inR]; omega
      repeat (first | (with_reducible exact Below.refl _ _) | (with_reducible apply bl_alloc) | (with_reducible apply bl_drew) | (with_reducible apply bl_drewN) | ((with_reducible refine bl_set ?_ ?hs _); case hs => (simp; try omega)) | (with_reducible refine bl_step ?_ (by assumption)))
    · have h1 : (decide (x ≤ p) && decide (p < x + a)) = false := by simpa using h1
      go_wp2_with fail
      go_ret
      refine ⟨ret_bool ?_, ?_⟩
      · symm
        rw [Bool.eq_false_iff, Ne, has_iff]
        simp at h1
        simp only [inR]; omega
      repeat (first | (with_reducible exact Below.refl _ _) | (with_reducible apply bl_alloc) | (with_reducible apply bl_drew) | (with_reducible apply bl_drewN) | ((with_reducible refine bl_set ?_ ?hs _); case hs => (simp; try omega)) | (with_reducible refine bl_step ?_ (by assumption)))

set_option maxHeartbeats 2000000 in
theorem rof_any (a b c d : Int) (w : World) (hbd : a < c → b < d → (-17179869184 ≤ a ∧ a ≤ 17179869184) ∧ (-17179869184 ≤ b ∧ b ≤ 17179869184) ∧ (-17179869184 ≤ c ∧ c ≤ 17179869184) ∧ -17179869184 ≤ d ∧ d ≤ 17179869184) :
    Calls Try.prog 32 #[.int .i64 a, .int .i64 b, .int .i64 c, .int .i64 d] w fun e w' => e = .returned (.agg #[.int .i64 (rOf a b c d).x, .int .i64 (rOf a b c d).y, .int .i64 (rOf a b c d).w, .int .i64 (rOf a b c d).h]) ∧ Below w.heap.size w w' := by
  by_cases he : c ≤ a
  · rw [rOf_z (.inl he)]
    clear hbd
    go_enter Try.func32, Try.ntmps32
    go_wp2_with fail
    have Bz : Bk (w.alloc (.cells #[.int .i64 0, .int .i64 0, .int .i64 0, .int .i64 0] 23)) w.heap.size 23 #[.int .i64 0, .int .i64 0, .int .i64 0, .int .i64 0] := Bk.new _ _ _
    have hI : (Try.prog.info? 23).map (·.size) = some (#[.int .i64 0, .int .i64 0, .int .i64 0, .int .i64 0] : Array Value).size := by kernel_rfl
    refine post_cell (w.heap.size) 23 #[.int .i64 0, .int .i64 0, .int .i64 0, .int .i64 0] Try.results32 Try.underlying23 rfl hI rfl ?bk rfl ⟨rfl, ?_⟩
    case bk => exact Bz
    repeat (first | (with_reducible exact Below.refl _ _) | (with_reducible apply bl_alloc) | (with_reducible apply bl_drew) | (with_reducible apply bl_drewN) | ((with_reducible refine bl_set ?_ ?hs _); case hs => (simp; try omega)) | (with_reducible refine bl_step ?_ (by assumption)))

  by_cases he' : d ≤ b
  · rw [rOf_z (.inr he')]
    clear hbd
    go_enter Try.func32, Try.ntmps32
    go_wp2_with fail
    have Bz : Bk (w.alloc (.cells #[.int .i64 0, .int .i64 0, .int .i64 0, .int .i64 0] 23)) w.heap.size 23 #[.int .i64 0, .int .i64 0, .int .i64 0, .int .i64 0] := Bk.new _ _ _
    have hI : (Try.prog.info? 23).map (·.size) = some (#[.int .i64 0, .int .i64 0, .int .i64 0, .int .i64 0] : Array Value).size := by kernel_rfl
    refine post_cell (w.heap.size) 23 #[.int .i64 0, .int .i64 0, .int .i64 0, .int .i64 0] Try.results32 Try.underlying23 rfl hI rfl ?bk rfl ⟨rfl, ?_⟩
    case bk => exact Bz
    repeat (first | (with_reducible exact Below.refl _ _) | (with_reducible apply bl_alloc) | (with_reducible apply bl_drew) | (with_reducible apply bl_drewN) | ((with_reducible refine bl_set ?_ ?hs _); case hs => (simp; try omega)) | (with_reducible refine bl_step ?_ (by assumption)))

  · rw [rOf_mk (by omega)]
    have g1 : a < c := by omega
    have g2 : b < d := by omega
    obtain ⟨⟨_, _⟩, ⟨_, _⟩, ⟨_, _⟩, _, _⟩ := hbd g1 g2
    clear he he' hbd
    go_enter Try.func32, Try.ntmps32
    go_wp2_with fail
    have Bz : Bk (w.alloc (.cells #[.int .i64 a, .int .i64 b, .int .i64 (c - a), .int .i64 (d - b)] 23)) w.heap.size 23 #[.int .i64 a, .int .i64 b, .int .i64 (c - a), .int .i64 (d - b)] := Bk.new _ _ _
    have hI : (Try.prog.info? 23).map (·.size) = some (#[.int .i64 a, .int .i64 b, .int .i64 (c - a), .int .i64 (d - b)] : Array Value).size := by kernel_rfl
    refine post_cell (w.heap.size) 23 #[.int .i64 a, .int .i64 b, .int .i64 (c - a), .int .i64 (d - b)] Try.results32 Try.underlying23 rfl hI rfl ?bk rfl ⟨rfl, ?_⟩
    case bk => exact Bz
    repeat (first | (with_reducible exact Below.refl _ _) | (with_reducible apply bl_alloc) | (with_reducible apply bl_drew) | (with_reducible apply bl_drewN) | ((with_reducible refine bl_set ?_ ?hs _); case hs => (simp; try omega)) | (with_reducible refine bl_step ?_ (by assumption)))


set_option maxHeartbeats 4000000 in
theorem rCut_any (ax ay aw ah bx bY bw bh : Int) (w : World) (ha : emp ⟨ax, ay, aw, ah⟩ = false → Sm ⟨ax, ay, aw, ah⟩) (hb : emp ⟨bx, bY, bw, bh⟩ = false → Sm ⟨bx, bY, bw, bh⟩) :
    Calls Try.prog 23 #[.agg #[.int .i64 ax, .int .i64 ay, .int .i64 aw, .int .i64 ah], .agg #[.int .i64 bx, .int .i64 bY, .int .i64 bw, .int .i64 bh]] w fun e w' => e = .returned (.agg #[.int .i64 (rCut ⟨ax, ay, aw, ah⟩ ⟨bx, bY, bw, bh⟩).x, .int .i64 (rCut ⟨ax, ay, aw, ah⟩ ⟨bx, bY, bw, bh⟩).y, .int .i64 (rCut ⟨ax, ay, aw, ah⟩ ⟨bx, bY, bw, bh⟩).w, .int .i64 (rCut ⟨ax, ay, aw, ah⟩ ⟨bx, bY, bw, bh⟩).h]) ∧ Below w.heap.size w w' := by
  by_cases ea : emp ⟨ax, ay, aw, ah⟩ = true
  · rw [show rCut ⟨ax, ay, aw, ah⟩ ⟨bx, bY, bw, bh⟩ = zR by unfold rCut; rw [if_pos (by simp [ea])]]
    clear ha hb
    go_enter Try.func23, Try.ntmps23
    go_wp2_with fail
    refine (rEmpty_any _ _ _ _ _).mono ?_
    rintro e w1 ⟨rfl, hbw1⟩
    have Bzw1 : Bk w1 (w.heap.size + 1 + 1) 23 #[.int .i64 0, .int .i64 0, .int .i64 0, .int .i64 0] := (Bk.new' _ _ _ (by simp)).be hbw1
    obtain ⟨zw10, zw11, zw12, zw13⟩ := Bzw1.c4
    have zw1f := Bzw1.fz
    go_wp2_with fail
    have hI : (Try.prog.info? 23).map (·.size) = some (#[.int .i64 0, .int .i64 0, .int .i64 0, .int .i64 0] : Array Value).size := by kernel_rfl
    refine post_cell (w.heap.size + 1 + 1) 23 #[.int .i64 0, .int .i64 0, .int .i64 0, .int .i64 0] Try.results23 Try.underlying23 rfl hI rfl ?bk rfl ⟨rfl, ?_⟩
    case bk => exact ((((Bzw1.st 0 _).st 1 _).st 2 _).st 3 _)
    repeat (first | (with_reducible exact Below.refl _ _) | (with_reducible apply bl_alloc) | (with_reducible apply bl_drew) | (with_reducible apply bl_drewN) | ((with_reducible refine bl_set ?_ ?hs _); case hs => (simp; try omega)) | (with_reducible refine bl_step ?_ (by assumption)))

  have ea : emp ⟨ax, ay, aw, ah⟩ = false := by simpa using ea
  by_cases eb : emp ⟨bx, bY, bw, bh⟩ = true
  · rw [show rCut ⟨ax, ay, aw, ah⟩ ⟨bx, bY, bw, bh⟩ = zR by unfold rCut; rw [if_pos (by simp [eb])]]
    clear ha hb
    go_enter Try.func23, Try.ntmps23
    go_wp2_with fail
    refine (rEmpty_any _ _ _ _ _).mono ?_
    rintro e w1 ⟨rfl, hbw1⟩
    have Bbw1 : Bk w1 (w.heap.size + 1) 23 #[.int .i64 bx, .int .i64 bY, .int .i64 bw, .int .i64 bh] := ((Bk.new' _ _ _ (by simp)).al _).be hbw1
    obtain ⟨bw10, bw11, bw12, bw13⟩ := Bbw1.c4
    have bw1f := Bbw1.fz
    have Bzw1 : Bk w1 (w.heap.size + 1 + 1) 23 #[.int .i64 0, .int .i64 0, .int .i64 0, .int .i64 0] := (Bk.new' _ _ _ (by simp)).be hbw1
    obtain ⟨zw10, zw11, zw12, zw13⟩ := Bzw1.c4
    have zw1f := Bzw1.fz
    go_wp2_with fail
    refine (rEmpty_any _ _ _ _ _).mono ?_
    rintro e w2 ⟨rfl, hbw2⟩
    have Bzw2 : Bk w2 (w.heap.size + 1 + 1) 23 #[.int .i64 0, .int .i64 0, .int .i64 0, .int .i64 0] := Bzw1.be hbw2
    obtain ⟨zw20, zw21, zw22, zw23⟩ := Bzw2.c4
    have zw2f := Bzw2.fz
    go_wp2_with fail
    have hI : (Try.prog.info? 23).map (·.size) = some (#[.int .i64 0, .int .i64 0, .int .i64 0, .int .i64 0] : Array Value).size := by kernel_rfl
    refine post_cell (w.heap.size + 1 + 1) 23 #[.int .i64 0, .int .i64 0, .int .i64 0, .int .i64 0] Try.results23 Try.underlying23 rfl hI rfl ?bk rfl ⟨rfl, ?_⟩
    case bk => exact ((((Bzw2.st 0 _).st 1 _).st 2 _).st 3 _)
    repeat (first | (with_reducible exact Below.refl _ _) | (with_reducible apply bl_alloc) | (with_reducible apply bl_drew) | (with_reducible apply bl_drewN) | ((with_reducible refine bl_set ?_ ?hs _); case hs => (simp; try omega)) | (with_reducible refine bl_step ?_ (by assumption)))

  · have eb : emp ⟨bx, bY, bw, bh⟩ = false := by simpa using eb
    rw [show rCut ⟨ax, ay, aw, ah⟩ ⟨bx, bY, bw, bh⟩ = rOf (mxI ax bx) (mxI ay bY) (mnI (ax + aw) (bx + bw)) (mnI (ay + ah) (bY + bh)) by unfold rCut; rw [if_neg (by simp [ea, eb])]; simp only [mxI_max, mnI_min]]
    have ha := ha ea
    obtain ⟨ka, ka'⟩ := emp_f.1 ea
    simp only [Sm] at ha ka ka'
    obtain ⟨a1, a2, a3, a4, a5, a6⟩ := ha
    have hb := hb eb
    obtain ⟨kb, kb'⟩ := emp_f.1 eb
    simp only [Sm] at hb kb kb'
    obtain ⟨b1, b2, b3, b4, b5, b6⟩ := hb
    go_enter Try.func23, Try.ntmps23
    go_wp2_with fail
    refine (rEmpty_any _ _ _ _ _).mono ?_
    rintro e w1 ⟨rfl, hbw1⟩
    have Baw1 : Bk w1 (w.heap.size) 23 #[.int .i64 ax, .int .i64 ay, .int .i64 aw, .int .i64 ah] := (((Bk.new' _ _ _ (by simp)).al _).al _).be hbw1
    obtain ⟨aw10, aw11, aw12, aw13⟩ := Baw1.c4
    have aw1f := Baw1.fz
    have Bbw1 : Bk w1 (w.heap.size + 1) 23 #[.int .i64 bx, .int .i64 bY, .int .i64 bw, .int .i64 bh] := ((Bk.new' _ _ _ (by simp)).al _).be hbw1
    obtain ⟨bw10, bw11, bw12, bw13⟩ := Bbw1.c4
    have bw1f := Bbw1.fz
    have Bzw1 : Bk w1 (w.heap.size + 1 + 1) 23 #[.int .i64 0, .int .i64 0, .int .i64 0, .int .i64 0] := (Bk.new' _ _ _ (by simp)).be hbw1
    obtain ⟨zw10, zw11, zw12, zw13⟩ := Bzw1.c4
    have zw1f := Bzw1.fz
    go_wp2_with fail
    refine (rEmpty_any _ _ _ _ _).mono ?_
    rintro e w2 ⟨rfl, hbw2⟩
    have Baw2 : Bk w2 (w.heap.size) 23 #[.int .i64 ax, .int .i64 ay, .int .i64 aw, .int .i64 ah] := Baw1.be hbw2
    obtain ⟨aw20, aw21, aw22, aw23⟩ := Baw2.c4
    have aw2f := Baw2.fz
    have Bbw2 : Bk w2 (w.heap.size + 1) 23 #[.int .i64 bx, .int .i64 bY, .int .i64 bw, .int .i64 bh] := Bbw1.be hbw2
    obtain ⟨bw20, bw21, bw22, bw23⟩ := Bbw2.c4
    have bw2f := Bbw2.fz
    have Bzw2 : Bk w2 (w.heap.size + 1 + 1) 23 #[.int .i64 0, .int .i64 0, .int .i64 0, .int .i64 0] := Bzw1.be hbw2
    obtain ⟨zw20, zw21, zw22, zw23⟩ := Bzw2.c4
    have zw2f := Bzw2.fz
    go_wp2_with fail
    refine (rof_any _ _ _ _ _ (by intro _ _; simp only [mxI_max, mnI_min] at *; omega)).mono ?_
    rintro e w3 ⟨rfl, hbw3⟩
    have Bzw3 : Bk w3 (w.heap.size + 1 + 1) 23 #[.int .i64 0, .int .i64 0, .int .i64 0, .int .i64 0] := Bzw2.be hbw3
    obtain ⟨zw30, zw31, zw32, zw33⟩ := Bzw3.c4
    have zw3f := Bzw3.fz
    go_wp2_with fail
    generalize rOf (mxI ax bx) (mxI ay bY) (mnI (ax + aw) (bx + bw)) (mnI (ay + ah) (bY + bh)) = r at *
    have hI : (Try.prog.info? 23).map (·.size) = some (#[.int .i64 r.x, .int .i64 r.y, .int .i64 r.w, .int .i64 r.h] : Array Value).size := by kernel_rfl
    refine post_cell (w.heap.size + 1 + 1) 23 #[.int .i64 r.x, .int .i64 r.y, .int .i64 r.w, .int .i64 r.h] Try.results23 Try.underlying23 rfl hI rfl ?bk rfl ⟨rfl, ?_⟩
    case bk => exact ((((Bzw3.st 0 _).st 1 _).st 2 _).st 3 _)
    repeat (first | (with_reducible exact Below.refl _ _) | (with_reducible apply bl_alloc) | (with_reducible apply bl_drew) | (with_reducible apply bl_drewN) | ((with_reducible refine bl_set ?_ ?hs _); case hs => (simp; try omega)) | (with_reducible refine bl_step ?_ (by assumption)))

set_option maxHeartbeats 8000000 in
theorem rCover_any (ax ay aw ah bx bY bw bh : Int) (w : World) (ha : emp ⟨ax, ay, aw, ah⟩ = false → Sm ⟨ax, ay, aw, ah⟩) (hb : emp ⟨bx, bY, bw, bh⟩ = false → Sm ⟨bx, bY, bw, bh⟩) :
    Calls Try.prog 24 #[.agg #[.int .i64 ax, .int .i64 ay, .int .i64 aw, .int .i64 ah], .agg #[.int .i64 bx, .int .i64 bY, .int .i64 bw, .int .i64 bh]] w fun e w' => e = .returned (.agg #[.int .i64 (rCover ⟨ax, ay, aw, ah⟩ ⟨bx, bY, bw, bh⟩).x, .int .i64 (rCover ⟨ax, ay, aw, ah⟩ ⟨bx, bY, bw, bh⟩).y, .int .i64 (rCover ⟨ax, ay, aw, ah⟩ ⟨bx, bY, bw, bh⟩).w, .int .i64 (rCover ⟨ax, ay, aw, ah⟩ ⟨bx, bY, bw, bh⟩).h]) ∧ Below w.heap.size w w' := by
  by_cases ea : emp ⟨ax, ay, aw, ah⟩ = true
  · clear ha
    by_cases eb : emp ⟨bx, bY, bw, bh⟩ = true
    · rw [show rCover ⟨ax, ay, aw, ah⟩ ⟨bx, bY, bw, bh⟩ = zR by unfold rCover; rw [if_pos ea, if_pos eb]]
      clear hb
      go_enter Try.func24, Try.ntmps24
      go_wp2_with fail
      refine (rEmpty_any _ _ _ _ _).mono ?_
      rintro e w1 ⟨rfl, hbw1⟩
      have Baw1 : Bk w1 (w.heap.size) 23 #[.int .i64 ax, .int .i64 ay, .int .i64 aw, .int .i64 ah] := (((Bk.new' _ _ _ (by simp)).al _).al _).be hbw1
      obtain ⟨aw10, aw11, aw12, aw13⟩ := Baw1.c4
      have aw1f := Baw1.fz
      have Bbw1 : Bk w1 (w.heap.size + 1) 23 #[.int .i64 bx, .int .i64 bY, .int .i64 bw, .int .i64 bh] := ((Bk.new' _ _ _ (by simp)).al _).be hbw1
      obtain ⟨bw10, bw11, bw12, bw13⟩ := Bbw1.c4
      have bw1f := Bbw1.fz
      have Bzw1 : Bk w1 (w.heap.size + 1 + 1) 23 #[.int .i64 0, .int .i64 0, .int .i64 0, .int .i64 0] := (Bk.new' _ _ _ (by simp)).be hbw1
      obtain ⟨zw10, zw11, zw12, zw13⟩ := Bzw1.c4
      have zw1f := Bzw1.fz
      go_wp2_with fail
      refine (rEmpty_any _ _ _ _ _).mono ?_
      rintro e w2 ⟨rfl, hbw2⟩
      have Baw2 : Bk w2 (w.heap.size) 23 #[.int .i64 ax, .int .i64 ay, .int .i64 aw, .int .i64 ah] := Baw1.be hbw2
      obtain ⟨aw20, aw21, aw22, aw23⟩ := Baw2.c4
      have aw2f := Baw2.fz
      have Bbw2 : Bk w2 (w.heap.size + 1) 23 #[.int .i64 bx, .int .i64 bY, .int .i64 bw, .int .i64 bh] := Bbw1.be hbw2
      obtain ⟨bw20, bw21, bw22, bw23⟩ := Bbw2.c4
      have bw2f := Bbw2.fz
      have Bzw2 : Bk w2 (w.heap.size + 1 + 1) 23 #[.int .i64 0, .int .i64 0, .int .i64 0, .int .i64 0] := Bzw1.be hbw2
      obtain ⟨zw20, zw21, zw22, zw23⟩ := Bzw2.c4
      have zw2f := Bzw2.fz
      go_wp2_with fail
      have hI : (Try.prog.info? 23).map (·.size) = some (#[.int .i64 0, .int .i64 0, .int .i64 0, .int .i64 0] : Array Value).size := by kernel_rfl
      refine post_cell (w.heap.size + 1 + 1) 23 #[.int .i64 0, .int .i64 0, .int .i64 0, .int .i64 0] Try.results24 Try.underlying23 rfl hI rfl ?bk rfl ⟨rfl, ?_⟩
      case bk => exact ((((Bzw2.st 0 _).st 1 _).st 2 _).st 3 _)
      repeat (first | (with_reducible exact Below.refl _ _) | (with_reducible apply bl_alloc) | (with_reducible apply bl_drew) | (with_reducible apply bl_drewN) | ((with_reducible refine bl_set ?_ ?hs _); case hs => (simp; try omega)) | (with_reducible refine bl_step ?_ (by assumption)))

    · have eb : emp ⟨bx, bY, bw, bh⟩ = false := by simpa using eb
      rw [show rCover ⟨ax, ay, aw, ah⟩ ⟨bx, bY, bw, bh⟩ = ⟨bx, bY, bw, bh⟩ by unfold rCover; rw [if_pos ea, if_neg (by simp [eb])]]
      clear hb
      go_enter Try.func24, Try.ntmps24
      go_wp2_with fail
      refine (rEmpty_any _ _ _ _ _).mono ?_
      rintro e w1 ⟨rfl, hbw1⟩
      have Baw1 : Bk w1 (w.heap.size) 23 #[.int .i64 ax, .int .i64 ay, .int .i64 aw, .int .i64 ah] := (((Bk.new' _ _ _ (by simp)).al _).al _).be hbw1
      obtain ⟨aw10, aw11, aw12, aw13⟩ := Baw1.c4
      have aw1f := Baw1.fz
      have Bbw1 : Bk w1 (w.heap.size + 1) 23 #[.int .i64 bx, .int .i64 bY, .int .i64 bw, .int .i64 bh] := ((Bk.new' _ _ _ (by simp)).al _).be hbw1
      obtain ⟨bw10, bw11, bw12, bw13⟩ := Bbw1.c4
      have bw1f := Bbw1.fz
      have Bzw1 : Bk w1 (w.heap.size + 1 + 1) 23 #[.int .i64 0, .int .i64 0, .int .i64 0, .int .i64 0] := (Bk.new' _ _ _ (by simp)).be hbw1
      obtain ⟨zw10, zw11, zw12, zw13⟩ := Bzw1.c4
      have zw1f := Bzw1.fz
      go_wp2_with fail
      refine (rEmpty_any _ _ _ _ _).mono ?_
      rintro e w2 ⟨rfl, hbw2⟩
      have Baw2 : Bk w2 (w.heap.size) 23 #[.int .i64 ax, .int .i64 ay, .int .i64 aw, .int .i64 ah] := Baw1.be hbw2
      obtain ⟨aw20, aw21, aw22, aw23⟩ := Baw2.c4
      have aw2f := Baw2.fz
      have Bbw2 : Bk w2 (w.heap.size + 1) 23 #[.int .i64 bx, .int .i64 bY, .int .i64 bw, .int .i64 bh] := Bbw1.be hbw2
      obtain ⟨bw20, bw21, bw22, bw23⟩ := Bbw2.c4
      have bw2f := Bbw2.fz
      have Bzw2 : Bk w2 (w.heap.size + 1 + 1) 23 #[.int .i64 0, .int .i64 0, .int .i64 0, .int .i64 0] := Bzw1.be hbw2
      obtain ⟨zw20, zw21, zw22, zw23⟩ := Bzw2.c4
      have zw2f := Bzw2.fz
      go_wp2_with fail
      refine (rEmpty_any _ _ _ _ _).mono ?_
      rintro e w3 ⟨rfl, hbw3⟩
      have Baw3 : Bk w3 (w.heap.size) 23 #[.int .i64 ax, .int .i64 ay, .int .i64 aw, .int .i64 ah] := Baw2.be hbw3
      obtain ⟨aw30, aw31, aw32, aw33⟩ := Baw3.c4
      have aw3f := Baw3.fz
      have Bbw3 : Bk w3 (w.heap.size + 1) 23 #[.int .i64 bx, .int .i64 bY, .int .i64 bw, .int .i64 bh] := Bbw2.be hbw3
      obtain ⟨bw30, bw31, bw32, bw33⟩ := Bbw3.c4
      have bw3f := Bbw3.fz
      have Bzw3 : Bk w3 (w.heap.size + 1 + 1) 23 #[.int .i64 0, .int .i64 0, .int .i64 0, .int .i64 0] := Bzw2.be hbw3
      obtain ⟨zw30, zw31, zw32, zw33⟩ := Bzw3.c4
      have zw3f := Bzw3.fz
      go_wp2_with fail
      have hI : (Try.prog.info? 23).map (·.size) = some (#[.int .i64 bx, .int .i64 bY, .int .i64 bw, .int .i64 bh] : Array Value).size := by kernel_rfl
      refine post_cell (w.heap.size + 1 + 1) 23 #[.int .i64 bx, .int .i64 bY, .int .i64 bw, .int .i64 bh] Try.results24 Try.underlying23 rfl hI rfl ?bk rfl ⟨rfl, ?_⟩
      case bk => exact ((((Bzw3.st 0 _).st 1 _).st 2 _).st 3 _)
      repeat (first | (with_reducible exact Below.refl _ _) | (with_reducible apply bl_alloc) | (with_reducible apply bl_drew) | (with_reducible apply bl_drewN) | ((with_reducible refine bl_set ?_ ?hs _); case hs => (simp; try omega)) | (with_reducible refine bl_step ?_ (by assumption)))

  have ea : emp ⟨ax, ay, aw, ah⟩ = false := by simpa using ea
  by_cases eb : emp ⟨bx, bY, bw, bh⟩ = true
  · rw [show rCover ⟨ax, ay, aw, ah⟩ ⟨bx, bY, bw, bh⟩ = ⟨ax, ay, aw, ah⟩ by unfold rCover; rw [if_neg (by simp [ea]), if_pos eb]]
    clear ha hb
    go_enter Try.func24, Try.ntmps24
    go_wp2_with fail
    refine (rEmpty_any _ _ _ _ _).mono ?_
    rintro e w1 ⟨rfl, hbw1⟩
    have Baw1 : Bk w1 (w.heap.size) 23 #[.int .i64 ax, .int .i64 ay, .int .i64 aw, .int .i64 ah] := (((Bk.new' _ _ _ (by simp)).al _).al _).be hbw1
    obtain ⟨aw10, aw11, aw12, aw13⟩ := Baw1.c4
    have aw1f := Baw1.fz
    have Bbw1 : Bk w1 (w.heap.size + 1) 23 #[.int .i64 bx, .int .i64 bY, .int .i64 bw, .int .i64 bh] := ((Bk.new' _ _ _ (by simp)).al _).be hbw1
    obtain ⟨bw10, bw11, bw12, bw13⟩ := Bbw1.c4
    have bw1f := Bbw1.fz
    have Bzw1 : Bk w1 (w.heap.size + 1 + 1) 23 #[.int .i64 0, .int .i64 0, .int .i64 0, .int .i64 0] := (Bk.new' _ _ _ (by simp)).be hbw1
    obtain ⟨zw10, zw11, zw12, zw13⟩ := Bzw1.c4
    have zw1f := Bzw1.fz
    go_wp2_with fail
    refine (rEmpty_any _ _ _ _ _).mono ?_
    rintro e w2 ⟨rfl, hbw2⟩
    have Baw2 : Bk w2 (w.heap.size) 23 #[.int .i64 ax, .int .i64 ay, .int .i64 aw, .int .i64 ah] := Baw1.be hbw2
    obtain ⟨aw20, aw21, aw22, aw23⟩ := Baw2.c4
    have aw2f := Baw2.fz
    have Bbw2 : Bk w2 (w.heap.size + 1) 23 #[.int .i64 bx, .int .i64 bY, .int .i64 bw, .int .i64 bh] := Bbw1.be hbw2
    obtain ⟨bw20, bw21, bw22, bw23⟩ := Bbw2.c4
    have bw2f := Bbw2.fz
    have Bzw2 : Bk w2 (w.heap.size + 1 + 1) 23 #[.int .i64 0, .int .i64 0, .int .i64 0, .int .i64 0] := Bzw1.be hbw2
    obtain ⟨zw20, zw21, zw22, zw23⟩ := Bzw2.c4
    have zw2f := Bzw2.fz
    go_wp2_with fail
    refine (rEmpty_any _ _ _ _ _).mono ?_
    rintro e w3 ⟨rfl, hbw3⟩
    have Baw3 : Bk w3 (w.heap.size) 23 #[.int .i64 ax, .int .i64 ay, .int .i64 aw, .int .i64 ah] := Baw2.be hbw3
    obtain ⟨aw30, aw31, aw32, aw33⟩ := Baw3.c4
    have aw3f := Baw3.fz
    have Bbw3 : Bk w3 (w.heap.size + 1) 23 #[.int .i64 bx, .int .i64 bY, .int .i64 bw, .int .i64 bh] := Bbw2.be hbw3
    obtain ⟨bw30, bw31, bw32, bw33⟩ := Bbw3.c4
    have bw3f := Bbw3.fz
    have Bzw3 : Bk w3 (w.heap.size + 1 + 1) 23 #[.int .i64 0, .int .i64 0, .int .i64 0, .int .i64 0] := Bzw2.be hbw3
    obtain ⟨zw30, zw31, zw32, zw33⟩ := Bzw3.c4
    have zw3f := Bzw3.fz
    go_wp2_with fail
    have hI : (Try.prog.info? 23).map (·.size) = some (#[.int .i64 ax, .int .i64 ay, .int .i64 aw, .int .i64 ah] : Array Value).size := by kernel_rfl
    refine post_cell (w.heap.size + 1 + 1) 23 #[.int .i64 ax, .int .i64 ay, .int .i64 aw, .int .i64 ah] Try.results24 Try.underlying23 rfl hI rfl ?bk rfl ⟨rfl, ?_⟩
    case bk => exact ((((Bzw3.st 0 _).st 1 _).st 2 _).st 3 _)
    repeat (first | (with_reducible exact Below.refl _ _) | (with_reducible apply bl_alloc) | (with_reducible apply bl_drew) | (with_reducible apply bl_drewN) | ((with_reducible refine bl_set ?_ ?hs _); case hs => (simp; try omega)) | (with_reducible refine bl_step ?_ (by assumption)))

  · have eb : emp ⟨bx, bY, bw, bh⟩ = false := by simpa using eb
    rw [show rCover ⟨ax, ay, aw, ah⟩ ⟨bx, bY, bw, bh⟩ = rOf (mnI ax bx) (mnI ay bY) (mxI (ax + aw) (bx + bw)) (mxI (ay + ah) (bY + bh)) by unfold rCover; rw [if_neg (by simp [ea]), if_neg (by simp [eb])]; simp only [mxI_max, mnI_min]]
    have ha := ha ea
    obtain ⟨ka, ka'⟩ := emp_f.1 ea
    simp only [Sm] at ha ka ka'
    obtain ⟨a1, a2, a3, a4, a5, a6⟩ := ha
    have hb := hb eb
    obtain ⟨kb, kb'⟩ := emp_f.1 eb
    simp only [Sm] at hb kb kb'
    obtain ⟨b1, b2, b3, b4, b5, b6⟩ := hb
    go_enter Try.func24, Try.ntmps24
    go_wp2_with fail
    refine (rEmpty_any _ _ _ _ _).mono ?_
    rintro e w1 ⟨rfl, hbw1⟩
    have Baw1 : Bk w1 (w.heap.size) 23 #[.int .i64 ax, .int .i64 ay, .int .i64 aw, .int .i64 ah] := (((Bk.new' _ _ _ (by simp)).al _).al _).be hbw1
    obtain ⟨aw10, aw11, aw12, aw13⟩ := Baw1.c4
    have aw1f := Baw1.fz
    have Bbw1 : Bk w1 (w.heap.size + 1) 23 #[.int .i64 bx, .int .i64 bY, .int .i64 bw, .int .i64 bh] := ((Bk.new' _ _ _ (by simp)).al _).be hbw1
    obtain ⟨bw10, bw11, bw12, bw13⟩ := Bbw1.c4
    have bw1f := Bbw1.fz
    have Bzw1 : Bk w1 (w.heap.size + 1 + 1) 23 #[.int .i64 0, .int .i64 0, .int .i64 0, .int .i64 0] := (Bk.new' _ _ _ (by simp)).be hbw1
    obtain ⟨zw10, zw11, zw12, zw13⟩ := Bzw1.c4
    have zw1f := Bzw1.fz
    go_wp2_with fail
    refine (rEmpty_any _ _ _ _ _).mono ?_
    rintro e w2 ⟨rfl, hbw2⟩
    have Baw2 : Bk w2 (w.heap.size) 23 #[.int .i64 ax, .int .i64 ay, .int .i64 aw, .int .i64 ah] := Baw1.be hbw2
    obtain ⟨aw20, aw21, aw22, aw23⟩ := Baw2.c4
    have aw2f := Baw2.fz
    have Bbw2 : Bk w2 (w.heap.size + 1) 23 #[.int .i64 bx, .int .i64 bY, .int .i64 bw, .int .i64 bh] := Bbw1.be hbw2
    obtain ⟨bw20, bw21, bw22, bw23⟩ := Bbw2.c4
    have bw2f := Bbw2.fz
    have Bzw2 : Bk w2 (w.heap.size + 1 + 1) 23 #[.int .i64 0, .int .i64 0, .int .i64 0, .int .i64 0] := Bzw1.be hbw2
    obtain ⟨zw20, zw21, zw22, zw23⟩ := Bzw2.c4
    have zw2f := Bzw2.fz
    go_wp2_with fail
    refine (rEmpty_any _ _ _ _ _).mono ?_
    rintro e w3 ⟨rfl, hbw3⟩
    have Baw3 : Bk w3 (w.heap.size) 23 #[.int .i64 ax, .int .i64 ay, .int .i64 aw, .int .i64 ah] := Baw2.be hbw3
    obtain ⟨aw30, aw31, aw32, aw33⟩ := Baw3.c4
    have aw3f := Baw3.fz
    have Bbw3 : Bk w3 (w.heap.size + 1) 23 #[.int .i64 bx, .int .i64 bY, .int .i64 bw, .int .i64 bh] := Bbw2.be hbw3
    obtain ⟨bw30, bw31, bw32, bw33⟩ := Bbw3.c4
    have bw3f := Bbw3.fz
    have Bzw3 : Bk w3 (w.heap.size + 1 + 1) 23 #[.int .i64 0, .int .i64 0, .int .i64 0, .int .i64 0] := Bzw2.be hbw3
    obtain ⟨zw30, zw31, zw32, zw33⟩ := Bzw3.c4
    have zw3f := Bzw3.fz
    go_wp2_with fail
    refine (rof_any _ _ _ _ _ (by intro _ _; simp only [mxI_max, mnI_min] at *; omega)).mono ?_
    rintro e w4 ⟨rfl, hbw4⟩
    have Bzw4 : Bk w4 (w.heap.size + 1 + 1) 23 #[.int .i64 0, .int .i64 0, .int .i64 0, .int .i64 0] := Bzw3.be hbw4
    obtain ⟨zw40, zw41, zw42, zw43⟩ := Bzw4.c4
    have zw4f := Bzw4.fz
    go_wp2_with fail
    generalize rOf (mnI ax bx) (mnI ay bY) (mxI (ax + aw) (bx + bw)) (mxI (ay + ah) (bY + bh)) = r at *
    have hI : (Try.prog.info? 23).map (·.size) = some (#[.int .i64 r.x, .int .i64 r.y, .int .i64 r.w, .int .i64 r.h] : Array Value).size := by kernel_rfl
    refine post_cell (w.heap.size + 1 + 1) 23 #[.int .i64 r.x, .int .i64 r.y, .int .i64 r.w, .int .i64 r.h] Try.results24 Try.underlying23 rfl hI rfl ?bk rfl ⟨rfl, ?_⟩
    case bk => exact ((((Bzw4.st 0 _).st 1 _).st 2 _).st 3 _)
    repeat (first | (with_reducible exact Below.refl _ _) | (with_reducible apply bl_alloc) | (with_reducible apply bl_drew) | (with_reducible apply bl_drewN) | ((with_reducible refine bl_set ?_ ?hs _); case hs => (simp; try omega)) | (with_reducible refine bl_step ?_ (by assumption)))

set_option maxHeartbeats 4000000 in
theorem rShift_any (ax ay aw ah x y : Int) (w : World) (ha : emp ⟨ax, ay, aw, ah⟩ = false → Sm ⟨ax, ay, aw, ah⟩) (hx : emp ⟨ax, ay, aw, ah⟩ = false → -4294967296 ≤ x ∧ x ≤ 4294967296) (hy : emp ⟨ax, ay, aw, ah⟩ = false → -4294967296 ≤ y ∧ y ≤ 4294967296) :
    Calls Try.prog 25 #[.agg #[.int .i64 ax, .int .i64 ay, .int .i64 aw, .int .i64 ah], .int .i64 x, .int .i64 y] w fun e w' => e = .returned (.agg #[.int .i64 (rShift ⟨ax, ay, aw, ah⟩ x y).x, .int .i64 (rShift ⟨ax, ay, aw, ah⟩ x y).y, .int .i64 (rShift ⟨ax, ay, aw, ah⟩ x y).w, .int .i64 (rShift ⟨ax, ay, aw, ah⟩ x y).h]) ∧ Below w.heap.size w w' := by
  by_cases ea : emp ⟨ax, ay, aw, ah⟩ = true
  · rw [show rShift ⟨ax, ay, aw, ah⟩ x y = zR by unfold rShift; rw [if_pos ea]]
    clear ha hx hy
    go_enter Try.func25, Try.ntmps25
    go_wp2_with fail
    refine (rEmpty_any _ _ _ _ _).mono ?_
    rintro e w1 ⟨rfl, hbw1⟩
    have Baw1 : Bk w1 (w.heap.size) 23 #[.int .i64 ax, .int .i64 ay, .int .i64 aw, .int .i64 ah] := ((Bk.new' _ _ _ (by simp)).al _).be hbw1
    obtain ⟨aw10, aw11, aw12, aw13⟩ := Baw1.c4
    have aw1f := Baw1.fz
    have Bzw1 : Bk w1 (w.heap.size + 1) 23 #[.int .i64 0, .int .i64 0, .int .i64 0, .int .i64 0] := (Bk.new' _ _ _ (by simp)).be hbw1
    obtain ⟨zw10, zw11, zw12, zw13⟩ := Bzw1.c4
    have zw1f := Bzw1.fz
    go_wp2_with fail
    have hI : (Try.prog.info? 23).map (·.size) = some (#[.int .i64 0, .int .i64 0, .int .i64 0, .int .i64 0] : Array Value).size := by kernel_rfl
    refine post_cell (w.heap.size + 1) 23 #[.int .i64 0, .int .i64 0, .int .i64 0, .int .i64 0] Try.results25 Try.underlying23 rfl hI rfl ?bk rfl ⟨rfl, ?_⟩
    case bk => exact ((((Bzw1.st 0 _).st 1 _).st 2 _).st 3 _)
    repeat (first | (with_reducible exact Below.refl _ _) | (with_reducible apply bl_alloc) | (with_reducible apply bl_drew) | (with_reducible apply bl_drewN) | ((with_reducible refine bl_set ?_ ?hs _); case hs => (simp; try omega)) | (with_reducible refine bl_step ?_ (by assumption)))

  · have ea : emp ⟨ax, ay, aw, ah⟩ = false := by simpa using ea
    rw [show rShift ⟨ax, ay, aw, ah⟩ x y = ⟨ax + x, ay + y, aw, ah⟩ by unfold rShift; rw [if_neg (by simp [ea])]]
    obtain ⟨x0, x1⟩ := hx ea
    obtain ⟨y0, y1⟩ := hy ea
    have ha := ha ea
    obtain ⟨ka, ka'⟩ := emp_f.1 ea
    simp only [Sm] at ha ka ka'
    obtain ⟨a1, a2, a3, a4, a5, a6⟩ := ha
    clear hx hy
    go_enter Try.func25, Try.ntmps25
    go_wp2_with fail
    refine (rEmpty_any _ _ _ _ _).mono ?_
    rintro e w1 ⟨rfl, hbw1⟩
    have Baw1 : Bk w1 (w.heap.size) 23 #[.int .i64 ax, .int .i64 ay, .int .i64 aw, .int .i64 ah] := ((Bk.new' _ _ _ (by simp)).al _).be hbw1
    obtain ⟨aw10, aw11, aw12, aw13⟩ := Baw1.c4
    have aw1f := Baw1.fz
    have Bzw1 : Bk w1 (w.heap.size + 1) 23 #[.int .i64 0, .int .i64 0, .int .i64 0, .int .i64 0] := (Bk.new' _ _ _ (by simp)).be hbw1
    obtain ⟨zw10, zw11, zw12, zw13⟩ := Bzw1.c4
    have zw1f := Bzw1.fz
    go_wp2_with fail
    have hI : (Try.prog.info? 23).map (·.size) = some (#[.int .i64 (ax + x), .int .i64 (ay + y), .int .i64 aw, .int .i64 ah] : Array Value).size := by kernel_rfl
    refine post_cell (w.heap.size + 1) 23 #[.int .i64 (ax + x), .int .i64 (ay + y), .int .i64 aw, .int .i64 ah] Try.results25 Try.underlying23 rfl hI rfl ?bk rfl ⟨rfl, ?_⟩
    case bk => exact ((((Bzw1.st 0 _).st 1 _).st 2 _).st 3 _)
    repeat (first | (with_reducible exact Below.refl _ _) | (with_reducible apply bl_alloc) | (with_reducible apply bl_drew) | (with_reducible apply bl_drewN) | ((with_reducible refine bl_set ?_ ?hs _); case hs => (simp; try omega)) | (with_reducible refine bl_step ?_ (by assumption)))

theorem u64_edge {x : Int} (h0 : x < -16777216) (hx : -9223372036854775808 ≤ x) : IntKind.u64.wrap (16777216 - IntKind.u64.wrap x) = 16777216 - x := by
  have e : ∀ n : Int, IntKind.u64.wrap n = n % 18446744073709551616 := fun n => by simp [IntKind.wrap, IntKind.bits, IntKind.signed]
  rw [e, e]
  omega
set_option maxHeartbeats 4000000 in
theorem redge_any (x n : Int) (w : World) (hx : -9223372036854775808 ≤ x) (hx' : x ≤ 9223372036854775807) (hn : 1 ≤ n) (hn' : n ≤ 9223372036854775807) :
    Calls Try.prog 33 #[.int .i64 x, .int .i64 n] w fun e w' => e = .returned (.int .i64 (min (x + n) 16777216)) ∧ w = w' := by
  by_cases h1 : 16777216 ≤ x
  · rw [show min (x + n) 16777216 = 16777216 by omega]
    go_enter Try.func33, Try.ntmps33
    go_wp2_with fail
    go_ret
    exact ⟨rfl, rfl⟩
  by_cases h2 : x < -16777216
  · have q := u64_edge h2 hx
    have hm : 16777216 - x ≤ 18446744073709551615 := by omega
    by_cases h3 : 16777216 - x < n
    · rw [show min (x + n) 16777216 = 16777216 by omega]
      have hn16 : 16777216 < n := by omega
      go_enter Try.func33, Try.ntmps33
      go_wp2_with fail
      go_ret
      exact ⟨rfl, rfl⟩
    · rw [show min (x + n) 16777216 = x + n by omega]
      by_cases h4 : 16777216 < n
      · go_enter Try.func33, Try.ntmps33
        go_wp2_with fail
        go_ret
        exact ⟨rfl, rfl⟩
      · go_enter Try.func33, Try.ntmps33
        go_wp2_with fail
        go_ret
        exact ⟨rfl, rfl⟩
  · by_cases h3 : 16777216 - x < n
    · rw [show min (x + n) 16777216 = 16777216 by omega]
      by_cases h4 : 16777216 < n <;> by_cases h5 : 0 ≤ x
      all_goals
        go_enter Try.func33, Try.ntmps33
        go_wp2_with fail
        all_goals
          go_ret
          exact ⟨rfl, rfl⟩
    · rw [show min (x + n) 16777216 = x + n by omega]
      by_cases h4 : 16777216 < n <;> by_cases h5 : 0 ≤ x
      · omega
      all_goals
        go_enter Try.func33, Try.ntmps33
        go_wp2_with fail
        all_goals
          go_ret
          exact ⟨rfl, rfl⟩

end Go.Proofs.Ytamgbnjdpmlfdaa.Rect
