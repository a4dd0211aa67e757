/- CanvasCopies, walked. -/
import Derived.Test.YtjjdgbhplechbaaDoorCvF
import Derived.Test.YtjjdgbhplechbaaDoorPlace
set_option linter.unusedVariables false
set_option linter.unusedSimpArgs false
namespace Go.Proofs.YtjjdgbhplechbaaDoor.Cv
open Go.RowKit Go.Proofs.YtjjdgbhplechbaaDoor.Kit Go.Proofs.YtjjdgbhplechbaaDoor.Rect
theorem at_zero {W H : Nat} (x y : Int) : atP W H (List.replicate (W * H) 0) x y = 0 := by
  unfold atP
  split
  · by_cases h : y.toNat * W + x.toNat < W * H <;> simp [h]
  · rfl
theorem at_out {W H : Nat} {L : List Int} {x y : Int} (h : ¬ (0 ≤ x ∧ x < W ∧ 0 ≤ y ∧ y < H)) : atP W H L x y = 0 := by unfold atP; rw [if_neg h]
theorem at_nat {W H : Nat} {L : List Int} {x y : Nat} (hx : x < W) (hy : y < H) (hL : L.length = W * H) : L[y * W + x]? = some (atP W H L (x : Int) (y : Int)) := by
  have hlt : y * W + x < L.length := by rw [hL]; have := mul_le (W := W) hy; omega
  unfold atP
  rw [if_pos (by omega)]
  simp [hlt]
set_option maxRecDepth 100000 in
set_option maxHeartbeats 16000000 in
theorem copies_law (a b col x y : Int) (w : World) (hcol : 0 ≤ col ∧ col < 4294967296) :
    Calls Tryd.prog 3 #[.int .i64 a, .int .i64 b, .int .u32 col, .int .i64 x, .int .i64 y] w fun e w' => e = .returned (.bool true) ∧ Below w.heap.size w w' := by
  have hcol := Lib.hid hcol
  go_enter Tryd.func3, Tryd.ntmps3
  go_wp2_with fail
  refine (place_any a 48 w (by omega) (by omega)).mono ?_
  rintro e _ ⟨rfl, rfl⟩
  obtain ⟨P, hP⟩ : ∃ P, a % 48 = P := ⟨_, rfl⟩
  have P0 : 0 ≤ P := by rw [← hP]; exact Int.emod_nonneg _ (by omega)
  have P1 : P < 48 := by rw [← hP]; exact Int.emod_lt_of_pos _ (by omega)
  rw [hP]
  clear hP
  go_wp2_with fail
  refine (place_any b 48 w (by omega) (by omega)).mono ?_
  rintro e _ ⟨rfl, rfl⟩
  obtain ⟨Q, hQ⟩ : ∃ Q, b % 48 = Q := ⟨_, rfl⟩
  have Q0 : 0 ≤ Q := by rw [← hQ]; exact Int.emod_nonneg _ (by omega)
  have Q1 : Q < 48 := by rw [← hQ]; exact Int.emod_lt_of_pos _ (by omega)
  rw [hQ]
  clear hQ
  go_wp2_with fail
  refine (new_any' (1 + P) (1 + Q) w (by omega) (by omega) (by omega) (by omega)).mono ?_
  rintro e w1 ⟨c, p, W, H, hW, hH, rfl, hc, hc0, hp0, hb1⟩
  rw [hW, hH]
  clear hW hH P0 P1 Q0 Q1
  have W1 := hc.w1
  have W2 := hc.w2
  have H1 := hc.h1
  have H2 := hc.h2
  go_wp2_with fail
  refine (place_any x W w1 (by omega) (by omega)).mono ?_
  rintro e _ ⟨rfl, rfl⟩
  obtain ⟨i, hi⟩ : ∃ i : Nat, x % (W : Int) = (i : Int) := ⟨(x % (W : Int)).toNat, by have := Int.emod_nonneg x (b := (W : Int)) (by omega); omega⟩
  have hiW : i < W := by have := Int.emod_lt_of_pos x (b := (W : Int)) (by omega); omega
  rw [hi]
  clear hi
  go_wp2_with fail
  refine (place_any y H w1 (by omega) (by omega)).mono ?_
  rintro e _ ⟨rfl, rfl⟩
  obtain ⟨j, hj⟩ : ∃ j : Nat, y % (H : Int) = (j : Int) := ⟨(y % (H : Int)).toNat, by have := Int.emod_nonneg y (b := (H : Int)) (by omega); omega⟩
  have hjH : j < H := by have := Int.emod_lt_of_pos y (b := (H : Int)) (by omega); omega
  rw [hj]
  clear hj
  go_wp2_with fail
  refine (copy_any c p W H _ w1 hc).mono ?_
  rintro e w2 ⟨d, q, rfl, hd, hd0, hq0, hb2⟩
  have hc2 := hc.be hb2
  go_wp2_with fail
  generalize hwv : World.alloc _ _ = w3
  have hb3 : Below w2.heap.size w2 w3 := hwv ▸ bl_alloc (Below.refl _ _) _
  have B3 : Bk w3 w2.heap.size 32 (rV ⟨(i : Int), (j : Int), 1, 1⟩) := hwv ▸ Bk.new _ _ _
  clear hwv
  refine (fill_any d q W H _ col (some ⟨w2.heap.size, 0, none⟩) 1 [⟨(i : Int), (j : Int), 1, 1⟩] w3 (hd.be hb3) hcol.out (one_rds B3) (by intro ad e; injection e with e; subst e; have := hd.px.lt; simp only; omega) (by intro r hr; obtain rfl := List.mem_singleton.1 hr; unfold I64; simp only; omega) (by simp)).mono ?_
  rintro e w4 ⟨rfl, hs4, hd4⟩
  have hc4 : Cv w4 c p W H _ := (hc2.be hb3).sav hs4 (by have := hc.hd.lt; omega) (by have := hc.px.lt; omega)
  have hb4 : Below w.heap.size w w4 := hs4.below (bl_step (bl_step hb1 hb2) hb3) (by have := hb1.size; omega) (bl_step (bl_step hb1 hb2) hb3).size
  have hin : inn [⟨(i : Int), (j : Int), 1, 1⟩] (i : Int) (j : Int) = true := by
    simp only [inn, List.any_cons, List.any_nil, Bool.or_false]
    rw [has_iff, inR_bound]
    unfold inR
    simp only
    omega
  have A1 := drawn_at (l := [⟨(i : Int), (j : Int), 1, 1⟩]) (f := fun _ _ _ => col) hc.len hiW hjH
  rw [if_pos hin] at A1
  have A2 := at_zero (W := W) (H := H) (i : Int) (j : Int)
  obtain ⟨M, hM⟩ : ∃ M, drawn W H [⟨(i : Int), (j : Int), 1, 1⟩] (fun _ _ _ => col) (List.replicate (W * H) 0) = M := ⟨_, rfl⟩
  rw [hM] at hd4 A1
  have A3 : atP W H M (W : Int) 0 = 0 := at_out (by omega)
  have A4 : atP W H M (-1) 0 = 0 := at_out (by omega)
  have A5 := at_nat hiW hjH hd4.len
  rw [A1] at A5
  have hm1 := mul_le (W := W) hjH
  have hm2 := wh_le W2 H2
  have A1 := Lib.hid A1
  have A2 := Lib.hid A2
  have A3 := Lib.hid A3
  have A4 := Lib.hid A4
  have A5 := Lib.hid A5
  clear hM hin hs4 hb3 B3 hc2 hb2 hb1 hd
  go_wp2_with fail
  refine (pixels_any d q W H M w4 hd4).mono ?_
  rintro e w5 ⟨r, rfl, hr, hr0, hb5⟩
  have hlM := hd4.len
  obtain ⟨n, hn⟩ : ∃ n, W * H = n := ⟨_, rfl⟩
  have e1 : (W : Int) * (H : Int) = (n : Int) := by rw [← hn]; simp
  obtain ⟨m, hm⟩ : ∃ m, j * W = m := ⟨_, rfl⟩
  have e2 : (j : Int) * (W : Int) = (m : Int) := by rw [← hm]; simp
  rw [hn] at hm1 hm2 hlM ⊢
  rw [hm] at hm1
  have A6 := A5.out
  rw [hm] at A6
  have A6 := Lib.hid A6
  have hn := Lib.hid hn
  have hm := Lib.hid hm
  obtain ⟨v1, -, v3, v4, -, v6⟩ := row_w (y := 0) (k := n) (W := 0) (n := n) (by omega) hm2 (by omega)
  have hn0 : 0 < n := Nat.lt_of_lt_of_le W1 (Nat.le_trans (Nat.le_add_left W m) hm1)
  obtain ⟨z, hz⟩ : ∃ z, M[0]? = some z := ⟨M[0]'(by rw [hlM]; exact hn0), List.getElem?_eq_getElem _⟩
  have r1 : w5.cell? ⟨r, 0, none⟩ = some (.int .u32 z) := by rw [hr.cell]; simp [pxV, hz]
  have r2 := hr.fz
  have r3 := hr.lt
  have hd5 := hd4.be hb5
  have hc5 := hc4.be hb5
  have hs5 := bl_step hb4 hb5
  have hz := Lib.hid hz
  have hlM := Lib.hid hlM
  have n0 : (0 : Int) < (n : Int) := Int.natCast_pos.2 hn0
  have hdr : d ≠ r := Nat.ne_of_lt (Nat.lt_of_lt_of_le hd4.hd.lt hr0)
  have hqr : q ≠ r := Nat.ne_of_lt (Nat.lt_of_lt_of_le hd4.px.lt hr0)
  have hcr : c ≠ r := Nat.ne_of_lt (Nat.lt_of_lt_of_le hc4.hd.lt hr0)
  have hpr : p ≠ r := Nat.ne_of_lt (Nat.lt_of_lt_of_le hc4.px.lt hr0)
  have hwr : w.heap.size ≤ r := Nat.le_trans hb4.size hr0
  have hmi : m + i < n := Nat.lt_of_lt_of_le (Nat.add_lt_add_left hiW m) hm1
  obtain ⟨v7, -, v8, v9, -, v10⟩ := row_w (y := 0) (k := m) (W := i) (n := n) (Nat.le_of_lt hmi) hm2 (Nat.zero_le _)
  have hmi0 : (0 : Int) ≤ (m : Int) + (i : Int) := Int.add_nonneg (Int.natCast_nonneg _) (Int.natCast_nonneg _)
  have hmi1 : (m : Int) + (i : Int) < (n : Int) := by rw [← Int.natCast_add]; exact Int.ofNat_lt.2 hmi
  clear hd4 hc4 hr
  go_upto_region 12 with fail
  generalize hwv : World.setCell _ _ _ = w6
  have hs6 : Sav r w5 w6 := hwv ▸ (Sav.refl r w5).st 0 _
  clear hwv
  have hd6 := hd5.sav hs6 hdr hqr
  have hc6 := hc5.sav hs6 hcr hpr
  have hw6 : Below w.heap.size w w6 := hs6.below hs5 hwr hs5.size
  clear hd5 hc5 hs6 hs5 hdr hqr hcr hpr hwr r1 r2 r3
  go_wp2_with fail
  refine (at_any d q W H M (i : Int) (j : Int) w6 hd6).mono ?_
  rintro e w7 ⟨rfl, hb7⟩
  rw [A1.out]
  have hd7 := hd6.be hb7
  have hc7 := hc6.be hb7
  have hw7 := bl_step hw6 hb7
  clear hd6 hc6 hb7 hw6
  go_wp2_with fail
  refine (at_any c p W H _ (i : Int) (j : Int) w7 hc7).mono ?_
  rintro e w8 ⟨rfl, hb8⟩
  rw [A2.out]
  have hd8 := hd7.be hb8
  have hw8 := bl_step hw7 hb8
  clear hd7 hc7 hb8 hw7
  go_wp2_with fail
  refine (pixels_any d q W H M w8 hd8).mono ?_
  rintro e w9 ⟨r', rfl, hr', hr0', hb9⟩
  rw [hn.out]
  have s1 : w9.cell? ⟨r', m + i, none⟩ = some (.int .u32 col) := by rw [hr'.cell]; simp [pxV, A6.out]
  have hd9 := hd8.be hb9
  have hw9 := bl_step hw8 hb9
  have s3 := hr'.lt
  clear hd8 hb9 hw8 hr' hr0'
  go_wp2_with fail
  refine (at_any d q W H M (W : Int) 0 w9 hd9).mono ?_
  rintro e w10 ⟨rfl, hb10⟩
  rw [A3.out]
  have hd10 := hd9.be hb10
  have hw10 := bl_step hw9 hb10
  clear hd9 hb10 hw9 s1 s3
  go_wp2_with fail
  refine (at_any d q W H M (-1) 0 w10 hd10).mono ?_
  rintro e w11 ⟨rfl, hb11⟩
  rw [A4.out]
  have hw11 := bl_step hw10 hb11
  clear hd10 hb11 hw10
  go_wp2_with fail
  refine (awake_any w11).mono ?_
  rintro e w12 ⟨rfl, hb12⟩
  go_wp2_with fail
  go_ret
  exact ⟨rfl, bl_step hw11 hb12⟩
end Go.Proofs.YtjjdgbhplechbaaDoor.Cv
