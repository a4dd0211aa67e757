/- The walks through rect, third part: Check; the reference's functions; may, awake. -/
import Derived.Test.YtjjdgbhplechbaaDoorRectWalk2
set_option linter.unusedVariables false
set_option linter.unusedSimpArgs false
namespace Go.Proofs.YtjjdgbhplechbaaDoor.Rect
open Go.RowKit Go.Proofs.YtjjdgbhplechbaaDoor.Kit
attribute [local go_sem high] bmax2 bmin2 bmax_2 bmin_2 bmax_3 bmin_3 bmax_4 bmin_4 rEq

def edgeB (x n : Int) : Bool := decide (-16777216 ≤ x) && (decide (1 ≤ n) && decide (x + n ≤ 16777216))
set_option maxHeartbeats 2000000 in
theorem edge_any (x n : Int) (w : World) (_ : -9223372036854775808 ≤ x) (_ : x ≤ 9223372036854775807) (_ : n ≤ 9223372036854775807) :
    Calls Tryd.prog 96 #[.int .i64 x, .int .i64 n] w fun e w' => e = .returned (.bool (edgeB x n)) ∧ w = w' := by
  go_enter Tryd.func96, Tryd.ntmps96
  go_wp2
  all_goals
    go_ret
    refine ⟨ret_bool ?_, rfl⟩
    rw [Bool.eq_iff_iff]; simp [edgeB]; try omega
theorem edge_chk (x y a b : Int) : (edgeB x a && edgeB y b) = rChk ⟨x, y, a, b⟩ := by
  rw [Bool.eq_iff_iff, chk_iff]; simp [edgeB, chkR]; omega
set_option maxHeartbeats 4000000 in
theorem Check_any (ax ay aw ah : Int) (w : World) (hr : I64 ⟨ax, ay, aw, ah⟩) :
    Calls Tryd.prog 87 #[.agg #[.int .i64 ax, .int .i64 ay, .int .i64 aw, .int .i64 ah]] w fun e w' => e = .returned (.bool (rChk ⟨ax, ay, aw, ah⟩)) ∧ Below w.heap.size w w' := by
  obtain ⟨⟨x0, x1⟩, ⟨y0, y1⟩, ⟨w0, w1⟩, h0, h1⟩ := hr
  simp only at x0 x1 y0 y1 w0 w1 h0 h1
  rw [← edge_chk]
  by_cases he : edgeB ax aw = true
  · go_enter Tryd.func87, Tryd.ntmps87
    go_wp2_with fail
    refine (edge_any _ _ _ x0 x1 w1).mono ?_
    rintro e wx ⟨rfl, rfl⟩
    go_wp2_with fail
    refine (edge_any _ _ _ y0 y1 h1).mono ?_
    rintro e wx ⟨rfl, rfl⟩
    go_wp2_with fail
    go_ret
    refine ⟨ret_bool (by rw [he]; rfl), ?_⟩
    repeat (first | (with_reducible exact Below.refl _ _) | (with_reducible apply bl_alloc) | (with_reducible apply bl_drew) | (with_reducible apply bl_drewN) | ((with_reducible refine bl_set ?_ ?hs _); case hs => (simp; try omega)) | (with_reducible refine bl_step ?_ (by assumption)))
  · have he : edgeB ax aw = false := by simpa using he
    go_enter Tryd.func87, Tryd.ntmps87
    go_wp2_with fail
    refine (edge_any _ _ _ x0 x1 w1).mono ?_
    rintro e wx ⟨rfl, rfl⟩
    go_wp2_with fail
    go_ret
    refine ⟨ret_bool (by rw [he]; rfl), ?_⟩
    repeat (first | (with_reducible exact Below.refl _ _) | (with_reducible apply bl_alloc) | (with_reducible apply bl_drew) | (with_reducible apply bl_drewN) | ((with_reducible refine bl_set ?_ ?hs _); case hs => (simp; try omega)) | (with_reducible refine bl_step ?_ (by assumption)))

/-! the reference -/
set_option maxHeartbeats 1000000 in
theorem rEmpty_any (x y a b : Int) (w : World) : Calls Tryd.prog 83 #[.agg #[.int .i64 x, .int .i64 y, .int .i64 a, .int .i64 b]] w fun e w' => e = .returned (.bool (emp ⟨x, y, a, b⟩)) ∧ Below w.heap.size w w' := by
  go_enter Tryd.func83, Tryd.ntmps83
  go_wp2
  all_goals
    go_ret
    refine ⟨ret_bool ?_, (Below.refl _ _).alloc (Nat.le_refl _) _⟩
    rw [Bool.eq_iff_iff]; simp only [emp_t]; simp; try omega
set_option maxHeartbeats 1000000 in
theorem within_any (p x n : Int) (w : World) (hx : -9223372036854775808 ≤ x) (_ : x ≤ 9223372036854775807) (_ : -9223372036854775808 ≤ p) (hp' : p ≤ 9223372036854775807) (hn : 1 ≤ n) (hn' : n ≤ 9223372036854775807) :
    Calls Tryd.prog 84 #[.int .i64 p, .int .i64 x, .int .i64 n] w fun e w' => e = .returned (.bool (decide (x ≤ p) && decide (p < x + n))) ∧ w = w' := by
  by_cases h : x ≤ p
  · have q := Lib.hid (u64_sub h hx hp')
    go_enter Tryd.func84, Tryd.ntmps84
    go_wp2
    go_ret
    refine ⟨ret_bool ?_, rfl⟩
    show decide (IntKind.u64.wrap (IntKind.u64.wrap p - IntKind.u64.wrap x) < n) = _
    rw [q.out, Bool.eq_iff_iff]
    simp; omega
  · go_enter Tryd.func84, Tryd.ntmps84
    go_wp2
    go_ret
    refine ⟨ret_bool ?_, rfl⟩
    have h' : ¬ x ≤ p := by omega
    simp [h']

set_option maxHeartbeats 2000000 in
theorem rHas_any (x y a b p q : Int) (w : World) (hr : I64 ⟨x, y, a, b⟩) (hp : -9223372036854775808 ≤ p ∧ p ≤ 9223372036854775807) (hq : -9223372036854775808 ≤ q ∧ q ≤ 9223372036854775807) :
    Calls Tryd.prog 59 #[.agg #[.int .i64 x, .int .i64 y, .int .i64 a, .int .i64 b], .int .i64 p, .int .i64 q] w fun e w' => e = .returned (.bool (rHas ⟨x, y, a, b⟩ p q)) ∧ Below w.heap.size w w' := by
  obtain ⟨⟨x0, x1⟩, ⟨y0, y1⟩, ⟨a0, a1⟩, b0, b1⟩ := hr
  obtain ⟨p0, p1⟩ := hp
  obtain ⟨q0, q1⟩ := hq
  simp only at x0 x1 y0 y1 a0 a1 b0 b1
  by_cases he : emp ⟨x, y, a, b⟩ = true
  · have hf : rHas ⟨x, y, a, b⟩ p q = false := by
      have := inR_emp (p := p) (q := q) he
      simp [rHas, this]
    have HF := Lib.hid hf
    clear hf
    go_enter Tryd.func59, Tryd.ntmps59
    go_wp2_with fail
    refine (rEmpty_any _ _ _ _ _).mono ?_
    rintro e w1 ⟨rfl, hbw1⟩
    go_wp2_with fail
    go_ret
    refine ⟨ret_bool HF.out.symm, ?_⟩
    repeat (first | (with_reducible exact Below.refl _ _) | (with_reducible apply bl_alloc) | (with_reducible apply bl_drew) | (with_reducible apply bl_drewN) | ((with_reducible refine bl_set ?_ ?hs _); case hs => (simp; try omega)) | (with_reducible refine bl_step ?_ (by assumption)))
  · have he : emp ⟨x, y, a, b⟩ = false := by simpa using he
    obtain ⟨ha, hb⟩ := emp_f.1 he
    simp only at ha hb
    go_enter Tryd.func59, Tryd.ntmps59
    go_wp2_with fail
    refine (rEmpty_any _ _ _ _ _).mono ?_
    rintro e w1 ⟨rfl, hbw1⟩
    obtain ⟨hc1, -⟩ := bcell hbw1
    go_wp2_with fail
    refine (within_any _ _ _ _ (by omega) (by omega) (by omega) (by omega) (by omega) (by omega)).mono ?_
    rintro e wx ⟨rfl, rfl⟩
    by_cases h1 : (decide (x ≤ p) && decide (p < x + a)) = true
    · go_wp2_with fail
      refine (within_any _ _ _ _ (by omega) (by omega) (by omega) (by omega) (by omega) (by omega)).mono ?_
      rintro e w2 ⟨rfl, rfl⟩
      go_wp2_with fail
      go_ret
      refine ⟨ret_bool ?_, ?_⟩
      · show (decide (y ≤ q) && decide (q < y + b)) = _
        rw [Bool.eq_iff_iff, has_iff]
        simp at h1
        simp [inR]; omega
      repeat (first | (with_reducible exact Below.refl _ _) | (with_reducible apply bl_alloc) | (with_reducible apply bl_drew) | (with_reducible apply bl_drewN) | ((with_reducible refine bl_set ?_ ?hs _); case hs => (simp; try omega)) | (with_reducible refine bl_step ?_ (by assumption)))
    · have h1 : (decide (x ≤ p) && decide (p < x + a)) = false := by simpa using h1
      go_wp2_with fail
      go_ret
      refine ⟨ret_bool ?_, ?_⟩
      · symm
        rw [Bool.eq_false_iff, Ne, has_iff]
        simp at h1
        simp only [inR]; omega
      repeat (first | (with_reducible exact Below.refl _ _) | (with_reducible apply bl_alloc) | (with_reducible apply bl_drew) | (with_reducible apply bl_drewN) | ((with_reducible refine bl_set ?_ ?hs _); case hs => (simp; try omega)) | (with_reducible refine bl_step ?_ (by assumption)))

set_option maxHeartbeats 2000000 in
theorem rof_any (a b c d : Int) (w : World) (hbd : a < c → b < d → (-17179869184 ≤ a ∧ a ≤ 17179869184) ∧ (-17179869184 ≤ b ∧ b ≤ 17179869184) ∧ (-17179869184 ≤ c ∧ c ≤ 17179869184) ∧ -17179869184 ≤ d ∧ d ≤ 17179869184) :
    Calls Tryd.prog 85 #[.int .i64 a, .int .i64 b, .int .i64 c, .int .i64 d] w fun e w' => e = .returned (.agg #[.int .i64 (rOf a b c d).x, .int .i64 (rOf a b c d).y, .int .i64 (rOf a b c d).w, .int .i64 (rOf a b c d).h]) ∧ Below w.heap.size w w' := by
  by_cases he : c ≤ a
  · rw [rOf_z (.inl he)]
    clear hbd
    go_enter Tryd.func85, Tryd.ntmps85
    go_wp2_with fail
    have Bz : Bk (w.alloc (.cells #[.int .i64 0, .int .i64 0, .int .i64 0, .int .i64 0] 32)) w.heap.size 32 #[.int .i64 0, .int .i64 0, .int .i64 0, .int .i64 0] := Bk.new _ _ _
    have hI : (Tryd.prog.info? 32).map (·.size) = some (#[.int .i64 0, .int .i64 0, .int .i64 0, .int .i64 0] : Array Value).size := by kernel_rfl
    refine post_cell (w.heap.size) 32 #[.int .i64 0, .int .i64 0, .int .i64 0, .int .i64 0] Tryd.results85 Tryd.underlying32 rfl hI rfl ?bk rfl ⟨rfl, ?_⟩
    case bk => exact Bz
    repeat (first | (with_reducible exact Below.refl _ _) | (with_reducible apply bl_alloc) | (with_reducible apply bl_drew) | (with_reducible apply bl_drewN) | ((with_reducible refine bl_set ?_ ?hs _); case hs => (simp; try omega)) | (with_reducible refine bl_step ?_ (by assumption)))

  by_cases he' : d ≤ b
  · rw [rOf_z (.inr he')]
    clear hbd
    go_enter Tryd.func85, Tryd.ntmps85
    go_wp2_with fail
    have Bz : Bk (w.alloc (.cells #[.int .i64 0, .int .i64 0, .int .i64 0, .int .i64 0] 32)) w.heap.size 32 #[.int .i64 0, .int .i64 0, .int .i64 0, .int .i64 0] := Bk.new _ _ _
    have hI : (Tryd.prog.info? 32).map (·.size) = some (#[.int .i64 0, .int .i64 0, .int .i64 0, .int .i64 0] : Array Value).size := by kernel_rfl
    refine post_cell (w.heap.size) 32 #[.int .i64 0, .int .i64 0, .int .i64 0, .int .i64 0] Tryd.results85 Tryd.underlying32 rfl hI rfl ?bk rfl ⟨rfl, ?_⟩
    case bk => exact Bz
    repeat (first | (with_reducible exact Below.refl _ _) | (with_reducible apply bl_alloc) | (with_reducible apply bl_drew) | (with_reducible apply bl_drewN) | ((with_reducible refine bl_set ?_ ?hs _); case hs => (simp; try omega)) | (with_reducible refine bl_step ?_ (by assumption)))

  · rw [rOf_mk (by omega)]
    have g1 : a < c := by omega
    have g2 : b < d := by omega
    obtain ⟨⟨_, _⟩, ⟨_, _⟩, ⟨_, _⟩, _, _⟩ := hbd g1 g2
    clear he he' hbd
    go_enter Tryd.func85, Tryd.ntmps85
    go_wp2_with fail
    have Bz : Bk (w.alloc (.cells #[.int .i64 a, .int .i64 b, .int .i64 (c - a), .int .i64 (d - b)] 32)) w.heap.size 32 #[.int .i64 a, .int .i64 b, .int .i64 (c - a), .int .i64 (d - b)] := Bk.new _ _ _
    have hI : (Tryd.prog.info? 32).map (·.size) = some (#[.int .i64 a, .int .i64 b, .int .i64 (c - a), .int .i64 (d - b)] : Array Value).size := by kernel_rfl
    refine post_cell (w.heap.size) 32 #[.int .i64 a, .int .i64 b, .int .i64 (c - a), .int .i64 (d - b)] Tryd.results85 Tryd.underlying32 rfl hI rfl ?bk rfl ⟨rfl, ?_⟩
    case bk => exact Bz
    repeat (first | (with_reducible exact Below.refl _ _) | (with_reducible apply bl_alloc) | (with_reducible apply bl_drew) | (with_reducible apply bl_drewN) | ((with_reducible refine bl_set ?_ ?hs _); case hs => (simp; try omega)) | (with_reducible refine bl_step ?_ (by assumption)))


theorem u64_edge {x : Int} (h0 : x < -16777216) (hx : -9223372036854775808 ≤ x) : IntKind.u64.wrap (16777216 - IntKind.u64.wrap x) = 16777216 - x := by
  have e : ∀ n : Int, IntKind.u64.wrap n = n % 18446744073709551616 := fun n => by simp [IntKind.wrap, IntKind.bits, IntKind.signed]
  rw [e, e]
  omega
set_option maxHeartbeats 4000000 in
theorem redge_any (x n : Int) (w : World) (hx : -9223372036854775808 ≤ x) (hx' : x ≤ 9223372036854775807) (hn : 1 ≤ n) (hn' : n ≤ 9223372036854775807) :
    Calls Tryd.prog 86 #[.int .i64 x, .int .i64 n] w fun e w' => e = .returned (.int .i64 (min (x + n) 16777216)) ∧ w = w' := by
  by_cases h1 : 16777216 ≤ x
  · rw [show min (x + n) 16777216 = 16777216 by omega]
    go_enter Tryd.func86, Tryd.ntmps86
    go_wp2_with fail
    go_ret
    exact ⟨rfl, rfl⟩
  by_cases h2 : x < -16777216
  · have q := u64_edge h2 hx
    have hm : 16777216 - x ≤ 18446744073709551615 := by omega
    by_cases h3 : 16777216 - x < n
    · rw [show min (x + n) 16777216 = 16777216 by omega]
      have hn16 : 16777216 < n := by omega
      go_enter Tryd.func86, Tryd.ntmps86
      go_wp2_with fail
      go_ret
      exact ⟨rfl, rfl⟩
    · rw [show min (x + n) 16777216 = x + n by omega]
      by_cases h4 : 16777216 < n
      · go_enter Tryd.func86, Tryd.ntmps86
        go_wp2_with fail
        go_ret
        exact ⟨rfl, rfl⟩
      · go_enter Tryd.func86, Tryd.ntmps86
        go_wp2_with fail
        go_ret
        exact ⟨rfl, rfl⟩
  · by_cases h3 : 16777216 - x < n
    · rw [show min (x + n) 16777216 = 16777216 by omega]
      by_cases h4 : 16777216 < n <;> by_cases h5 : 0 ≤ x
      all_goals
        go_enter Tryd.func86, Tryd.ntmps86
        go_wp2_with fail
        all_goals
          go_ret
          exact ⟨rfl, rfl⟩
    · rw [show min (x + n) 16777216 = x + n by omega]
      by_cases h4 : 16777216 < n <;> by_cases h5 : 0 ≤ x
      · omega
      all_goals
        go_enter Tryd.func86, Tryd.ntmps86
        go_wp2_with fail
        all_goals
          go_ret
          exact ⟨rfl, rfl⟩

end Go.Proofs.YtjjdgbhplechbaaDoor.Rect
