/- A new canvas, its points, a copy. -/
import Derived.Test.YtjjdgbhplechbaaDoorCv1
import Derived.Test.YtjjdgbhplechbaaDoorCopyN
set_option linter.unusedVariables false
set_option linter.unusedSimpArgs false
namespace Go.Proofs.YtjjdgbhplechbaaDoor.Cv
open Go.RowKit Go.Proofs.YtjjdgbhplechbaaDoor.Kit

theorem infoU : (Tryd.prog.info? 22).map (fun i => (i.zero, i.size, i.bytes)) = some (some (.int .u32 0), 1, 4) := by kernel_rfl
theorem own_bk {w : World} {base g n : Nat} {e : TypeId} {xs : List Value} (h : w.ownsRow base e 1 (.slice (some ⟨g, 0, none⟩) n n) n xs) : Bk w g e xs.toArray := by
  obtain ⟨h1, h2⟩ := h
  rcases h2 with ⟨hv, _⟩ | ⟨g', cap, cur, hv, _, hb, _, _, hs, ht⟩
  · cases hv
  · injection hv with a b c
    injection a with a
    injection a with a
    subst a
    subst c
    have hc : cur.toList = xs := by
      rw [← ht, List.take_of_length_le (by simp; omega)]
    unfold Bk
    rw [hb, ← hc]
theorem made_px (n : Nat) : (madeCells (Value.int .u32 0).cells (n * 1)).toList = (List.replicate n (0 : Int)).map (Value.int .u32) := by
  show (madeCells #[Value.int .u32 0] (n * 1)).toList = _
  rw [toList_madeCells_one, Nat.mul_one, List.map_replicate]
set_option maxRecDepth 100000 in
set_option maxHeartbeats 8000000 in
theorem new_any (W H : Nat) (w : World) (h1 : 1 ≤ W) (h2 : W ≤ 48) (h3 : 1 ≤ H) (h4 : H ≤ 48) :
    Calls Tryd.prog 15 #[.int .i64 (W : Int), .int .i64 (H : Int)] w fun e w' =>
      ∃ c p, e = .returned (.tuple #[.pointer (some ⟨c, 0, none⟩), .nilIface]) ∧ Cv w' c p W H (List.replicate (W * H) 0) ∧ w.heap.size ≤ c ∧ w.heap.size ≤ p ∧ Below w.heap.size w w' := by
  obtain ⟨iU, hiU, zU0, zU1, zU2⟩ := info_parts infoU
  have m2 := wh_le h2 h4
  obtain ⟨n, hn⟩ : ∃ n, W * H = n := ⟨_, rfl⟩
  have e1 : (W : Int) * (H : Int) = (n : Int) := by rw [← hn]; simp
  rw [hn] at m2
  obtain ⟨v1, -, -, v4, -, -⟩ := row_w (y := 0) (k := n) (W := 0) (n := n) (by omega) m2 (by omega)
  have d1 : decide ((W : Int) < 1) = false := by simp; omega
  have d2 : decide ((48 : Int) < (W : Int)) = false := by simp; omega
  have d3 : decide ((H : Int) < 1) = false := by simp; omega
  have d4 : decide ((48 : Int) < (H : Int)) = false := by simp; omega
  have hn := Lib.hid hn
  have h1 := Lib.hid h1
  have h2 := Lib.hid h2
  have h3 := Lib.hid h3
  have h4 := Lib.hid h4
  go_enter Tryd.func15, Tryd.ntmps15
  go_wp2_with (at_make; go_must (refine wpList_make_full _ rfl (.tmp 25) (.tmp 25) 34 rfl w.heap.size 22 iU _ 1 Tryd.underlying34 hiU zU0 zU1 .i64 .i64 _ _ n rfl rfl rfl rfl (by rw [zU2]; omega) (by simp only [maxLen]; omega) (by omega) ?_); intro w4 hown4 hg4; have hb4 : Below w.heap.size w w4 := (Below.refl _ _).grown hg4 (Nat.le_refl _) (by intro g hg; simp at hg); have hbk := own_bk hown4)
  go_ret2
  obtain rfl := hn.out
  rw [made_px] at hbk
  refine ⟨_, _, rfl, ⟨Bk.new _ _ _, hbk.al _, by simp, fun v hv => by obtain rfl := (List.mem_replicate.1 hv).2; omega, h1.out, h2.out, h3.out, h4.out⟩, hb4.size, Nat.le_refl _, bl_alloc hb4 _⟩
/-- what At tells -/
def atP (W H : Nat) (L : List Int) (x y : Int) : Int := if 0 ≤ x ∧ x < W ∧ 0 ≤ y ∧ y < H then L.getD (y.toNat * W + x.toNat) 0 else 0
set_option maxRecDepth 100000 in
set_option maxHeartbeats 8000000 in
theorem at_any (c p W H : Nat) (L : List Int) (x y : Int) (w : World) (h : Cv w c p W H L) :
    Calls Tryd.prog 19 #[.pointer (some ⟨c, 0, none⟩), .int .i64 x, .int .i64 y] w fun e w' => e = .returned (.int .u32 (atP W H L x y)) ∧ Below w.heap.size w w' := by
  obtain ⟨k0, k1, k2⟩ := h.c3
  by_cases hx : x < 0
  · have e : atP W H L x y = 0 := by unfold atP; rw [if_neg (by omega)]
    rw [e]
    clear k2 h e
    go_enter Tryd.func19, Tryd.ntmps19
    go_wp2_with fail
    go_ret
    exact ⟨rfl, Below.refl _ _⟩
  by_cases hx' : x < (W : Int)
  case neg =>
    have e : atP W H L x y = 0 := by unfold atP; rw [if_neg (by omega)]
    have d0 : decide (x < 0) = false := by simp; omega
    have d1 : decide ((W : Int) ≤ x) = true := by simp; omega
    rw [e]
    clear k2 h e
    go_enter Tryd.func19, Tryd.ntmps19
    go_wp2_with fail
    go_ret
    exact ⟨rfl, Below.refl _ _⟩
  have d0 : decide (x < 0) = false := by simp; omega
  have d1 : decide ((W : Int) ≤ x) = false := by simp; omega
  by_cases hy : y < 0
  · have e : atP W H L x y = 0 := by unfold atP; rw [if_neg (by omega)]
    have d2 : decide (y < 0) = true := by simp; omega
    rw [e]
    clear k2 h e
    go_enter Tryd.func19, Tryd.ntmps19
    go_wp2_with fail
    go_ret
    exact ⟨rfl, Below.refl _ _⟩
  have d2 : decide (y < 0) = false := by simp; omega
  by_cases hy' : y < (H : Int)
  case neg =>
    have e : atP W H L x y = 0 := by unfold atP; rw [if_neg (by omega)]
    have d3 : decide ((H : Int) ≤ y) = true := by simp; omega
    rw [e]
    clear k2 h e
    go_enter Tryd.func19, Tryd.ntmps19
    go_wp2_with fail
    go_ret
    exact ⟨rfl, Below.refl _ _⟩
  have d3 : decide ((H : Int) ≤ y) = false := by simp; omega
  obtain ⟨a, rfl⟩ : ∃ a : Nat, x = (a : Int) := ⟨x.toNat, by omega⟩
  obtain ⟨b, rfl⟩ : ∃ b : Nat, y = (b : Int) := ⟨y.toNat, by omega⟩
  have ha : a < W := by omega
  have hb : b < H := by omega
  have hlt : b * W + a < L.length := by rw [h.len]; have := mul_le (W := W) hb; omega
  have e : atP W H L (a : Int) (b : Int) = L[b * W + a] := by
    unfold atP
    rw [if_pos (by omega)]
    simp [hlt]
  rw [e]
  have kp : w.cell? ⟨p, b * W + a, none⟩ = some (.int .u32 L[b * W + a]) := (h.px.cell _).trans (px_get hlt)
  have hpl := h.px.lt
  obtain ⟨v, hv⟩ : ∃ v, L[b * W + a] = v := ⟨_, rfl⟩
  rw [hv] at kp ⊢
  clear hv e hlt
  have H1 := Lib.hid h
  have Hb := Lib.hid hb
  clear h hb
  go_enter Tryd.func19, Tryd.ntmps19
  go_wp2_with fail
  refine (row_any c p W H b L _ H1.out Hb.out).mono ?_
  rintro e w1 ⟨rfl, hb1⟩
  have kq : w1.cell? ⟨p, b * W + a, none⟩ = some (.int .u32 v) := (hb1.cell hpl).trans kp
  go_wp2_with fail
  go_ret
  exact ⟨rfl, hb1⟩
theorem px_one (L : List Int) : ∀ u ∈ L.map (Value.int .u32), u.oneCell' = true := by
  intro u hu
  obtain ⟨v, _, rfl⟩ := List.mem_map.1 hu
  rfl
set_option maxRecDepth 100000 in
set_option maxHeartbeats 8000000 in
theorem pixels_any (c p W H : Nat) (L : List Int) (w : World) (h : Cv w c p W H L) :
    Calls Tryd.prog 18 #[.pointer (some ⟨c, 0, none⟩)] w fun e w' => ∃ q, e = .returned (.slice (some ⟨q, 0, none⟩) (W * H) (W * H)) ∧ Bk w' q 22 (pxV L) ∧ w.heap.size ≤ q ∧ Below w.heap.size w w' := by
  obtain ⟨iU, hiU, zU0, zU1, zU2⟩ := info_parts infoU
  have m2 := wh_le h.w2 h.h2
  obtain ⟨k0, k1, k2⟩ := h.c3
  have hcl := h.hd.lt
  have hR : Rds w w.heap.size 1 (some ⟨p, 0, none⟩) (W * H) (L.map (Value.int .u32)) := by
    have r := Rds.block (n := W * H) (sz := 1) h.px (by rw [px_size, h.len, Nat.mul_one]) h.px.lt
    simpa [pxV] using r
  obtain ⟨n, hn⟩ : ∃ n, W * H = n := ⟨_, rfl⟩
  rw [hn] at m2 k2 hR ⊢
  clear hn h k0 k1
  have hcl := Lib.hid hcl
  go_enter Tryd.func18, Tryd.ntmps18
  go_wp2_with (first
    | (at_make; go_must (refine wpList_make_full _ rfl (.tmp 8) (.tmp 8) 34 rfl w.heap.size 22 iU _ 1 Tryd.underlying34 hiU zU0 zU1 .i64 .i64 _ _ n rfl rfl rfl rfl (by rw [zU2]; omega) (by simp only [maxLen]; omega) (by omega) ?_); intro w4 hown4 hg4; have hb4 : Below w.heap.size w w4 := (Below.refl _ _).grown hg4 (Nat.le_refl _) (by intro g hg; simp at hg); have k3 := (hb4.cell (p := ⟨c, 2, none⟩) hcl.out).trans k2)
    | (refine wpList_copyN _ rfl (.tmp 10) (.tmp 14) 34 rfl w.heap.size 22 iU 1 Tryd.underlying34 hiU zU1 (.slice (some ⟨w.heap.size, 0, none⟩) n n) n _ rfl hown4 w.heap.size (some ⟨p, 0, none⟩) n (L.map (Value.int .u32)) rfl (hR.be hb4) (px_one L) ?_; intro w5 hown5 hg5))
  go_ret
  have hb5 : Below w.heap.size w w5 := hb4.grown hg5 hb4.size (fun g hg => (hown4.lt g hg).1)
  exact ⟨_, rfl, own_bk hown5, Nat.le_refl _, hb5⟩
set_option maxRecDepth 100000 in
set_option maxHeartbeats 8000000 in
theorem copy_any (c p W H : Nat) (L : List Int) (w : World) (h : Cv w c p W H L) :
    Calls Tryd.prog 16 #[.pointer (some ⟨c, 0, none⟩)] w fun e w' => ∃ d q, e = .returned (.pointer (some ⟨d, 0, none⟩)) ∧ Cv w' d q W H L ∧ w.heap.size ≤ d ∧ w.heap.size ≤ q ∧ Below w.heap.size w w' := by
  obtain ⟨k0, k1, k2⟩ := h.c3
  have hS : ∀ w' : World, Below w.heap.size w w' → (Below w.heap.size w w' ∧ w'.cell? ⟨c, 0, none⟩ = some (.int .i64 (W : Int)) ∧ w'.cell? ⟨c, 1, none⟩ = some (.int .i64 (H : Int))) := fun w' hq => ⟨hq, (hq.cell h.hd.lt).trans k0, (hq.cell h.hd.lt).trans k1⟩
  have H0 := Lib.hid h
  clear k2 h
  go_enter Tryd.func16, Tryd.ntmps16
  go_wp2_with fail
  go_region_held3 (fun w' : World => Below w.heap.size w w' ∧ w'.cell? ⟨c, 0, none⟩ = some (.int .i64 (W : Int)) ∧ w'.cell? ⟨c, 1, none⟩ = some (.int .i64 (H : Int))) (exact hS _ (by repeat (first | (with_reducible exact Below.refl _ _) | (with_reducible assumption) | (with_reducible apply bl_alloc) | (with_reducible apply bl_drew)))) (first | (go_at_call 18; refine (pixels_any c p W H L _ (H0.out.be (by first | exact Below.refl _ _ | exact bl_drew (Below.refl _ _)))).mono ?_; rintro e w1 ⟨q, rfl, hq, hl, hb⟩; have hb1 : Below w.heap.size w w1 := (by first | exact hb | exact bl_step (bl_drew (Below.refl _ _)) hb)))
  all_goals go_wp2_with fail
  all_goals go_ret
  all_goals exact ⟨_, _, rfl, ⟨Bk.new _ _ _, hq.al _, H0.out.len, H0.out.u32, H0.out.w1, H0.out.w2, H0.out.h1, H0.out.h2⟩, hb1.size, Nat.le_trans (by simp) hl, bl_alloc hb1 _⟩
end Go.Proofs.YtjjdgbhplechbaaDoor.Cv
