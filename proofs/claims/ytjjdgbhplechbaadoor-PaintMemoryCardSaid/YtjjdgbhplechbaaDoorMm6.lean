/- paint.Load of a memory's bytes. Printed by gen_load.py. -/
import Derived.Test.YtjjdgbhplechbaaDoorMm5
import Derived.Test.YtjjdgbhplechbaaDoorCvIm
set_option linter.unusedVariables false
set_option linter.unusedSimpArgs false
namespace Go.Proofs.YtjjdgbhplechbaaDoor.Mm
open Go.RowKit Go.Proofs.YtjjdgbhplechbaaDoor.Kit Go.Proofs.YtjjdgbhplechbaaDoor.Cv Go.Proofs.YtjjdgbhplechbaaDoor.Pix
/-- the first n points that Load reads -/
def ldL (L : List Int) (off sd wd n : Nat) : List Int := (List.range n).map fun i => ld (wdk L (off + sd * (i / wd) + 4 * (i % wd)) 4) 1
theorem ldL_0 (L : List Int) (off sd wd : Nat) : ldL L off sd wd 0 = [] := rfl
theorem ldL_s (L : List Int) (off sd wd y x : Nat) (hx : x < wd) : ldL L off sd wd (y * wd + x + 1) = ldL L off sd wd (y * wd + x) ++ [ld (wdk L (off + sd * y + 4 * x) 4) 1] := by
  have e1 : (y * wd + x) / wd = y := by rw [Nat.mul_comm, Nat.mul_add_div (by omega), Nat.div_eq_of_lt hx]; omega
  have e2 : (y * wd + x) % wd = x := by rw [Nat.mul_comm, Nat.mul_add_mod, Nat.mod_eq_of_lt hx]
  unfold ldL
  rw [List.range_succ, List.map_append, List.map_cons, List.map_nil, e1, e2]
theorem ldL_len (L : List Int) (off sd wd n : Nat) : (ldL L off sd wd n).length = n := by simp [ldL]
theorem wdk_bd {L : List Int} (h : ∀ v ∈ L, 0 ≤ v ∧ v < 256) (i : Nat) : 0 ≤ wdk L i 4 ∧ wdk L i 4 < 4294967296 := by
  have b0 := bt_bd h i
  have b1 := bt_bd h (i + 1)
  have b2 := bt_bd h (i + 2)
  have b3 := bt_bd h (i + 3)
  show 0 ≤ bt L i + bt L (i + 1) * 256 + bt L (i + 2) * 65536 + bt L (i + 3) * 16777216 ∧ bt L i + bt L (i + 1) * 256 + bt L (i + 2) * 65536 + bt L (i + 3) * 16777216 < 4294967296
  omega
def px (L : List Int) : List Value := L.map (Value.int .u32)
theorem px_s (L : List Int) (v : Int) : px (L ++ [v]) = px L ++ [.int .u32 v] := by simp [px]
/-- how far Load is: n points -/
def LdR (w wr : World) (B0 g4 g6 g7 : Nat) (C4 : Array Value) (wd hd : Nat) (L : List Int) (off sd n : Nat) (A : Option Addr) (c : Nat) : Prop :=
  wr.ownsRow B0 22 1 (.slice A n c) n (px (ldL L off sd wd n)) ∧ Bk wr g4 92 C4 ∧ Bk wr g6 73 #[.int .i64 0, .int .i64 0, .int .i64 0, .slice none 0 0] ∧ Bk wr g7 73 #[.int .i64 3, .int .i64 (wd : Int), .int .i64 (hd : Int), .slice A n c] ∧ Below w.heap.size w wr ∧ B0 ≤ wr.heap.size
theorem c6 {w : World} {g : Nat} {t : TypeId} {a b c d e f : Value} (h : Bk w g t #[a, b, c, d, e, f]) :
    w.cell? ⟨g, 0, none⟩ = some a ∧ w.cell? ⟨g, 1, none⟩ = some b ∧ w.cell? ⟨g, 2, none⟩ = some c ∧ w.cell? ⟨g, 3, none⟩ = some d ∧ w.cell? ⟨g, 4, none⟩ = some e ∧ w.cell? ⟨g, 5, none⟩ = some f := ⟨h.cell 0, h.cell 1, h.cell 2, h.cell 3, h.cell 4, h.cell 5⟩
set_option maxRecDepth 100000 in
set_option maxHeartbeats 32000000 in
theorem load_any (m g b : Nat) (key : Int) (L : List Int) (off wd hd sd : Nat) (w : World) (h : Mb w m g b key L) (hL : L.length ≤ 65536) (hB : ∀ v ∈ L, 0 ≤ v ∧ v < 256) (h1 : 1 ≤ wd) (h2 : 1 ≤ hd) (h3 : 4 * wd ≤ sd) (h4 : off ≤ 100) (h5 : hd ≤ 6) (h6 : sd ≤ 100) (h7 : wd ≤ 6) :
    Calls Tryd.prog 41 #[.int .i64 3, .agg #[.int .i64 key, .int .i64 (off : Int), .int .i64 (wd : Int), .int .i64 (hd : Int), .int .i64 (sd : Int), .int .i64 1], .pointer (some ⟨m, 0, none⟩)] w fun e w' =>
      ∃ A c, e = .returned (.agg #[.int .i64 3, .int .i64 (wd : Int), .int .i64 (hd : Int), .slice A (hd * wd) c]) ∧ w'.ownsRow w.heap.size 22 1 (.slice A (hd * wd) c) (hd * wd) (px (ldL L off sd wd (hd * wd))) ∧ Below w.heap.size w w' := by
  obtain ⟨iU, hiU, zU0, zU1, zU2⟩ := info_parts infoU
  have hB := Lib.hid hB
  have hroom := Lib.hid (fun w => room_any off wd hd sd w h1 h2 h3 (by omega) (by have := Nat.mul_le_mul h5 h6; omega) (by omega))
  go_enter Tryd.func41, Tryd.ntmps41
  go_wp2_with fail
  generalize hwv : World.alloc _ _ = w1
  have C4 : Bk w1 w.heap.size 92 #[.int .i64 key, .int .i64 (off : Int), .int .i64 (wd : Int), .int .i64 (hd : Int), .int .i64 (sd : Int), .int .i64 1] := hwv ▸ (Bk.new _ _ _).al _
  have C6 : Bk w1 (w.heap.size + 1) 73 #[.int .i64 0, .int .i64 0, .int .i64 0, .slice none 0 0] := hwv ▸ Bk.new' _ _ _ (by simp)
  have hb1 : Below w.heap.size w w1 := hwv ▸ bl_alloc (bl_alloc (Below.refl _ _) _) _
  clear hwv
  refine (hroom.out w1).mono ?_
  rintro e w2 ⟨rfl, hq2⟩
  have hb2 := bl_step hb1 hq2
  have C4 := C4.be hq2
  have C6 := C6.be hq2
  clear hb1 hq2
  obtain ⟨g4, hg4⟩ : ∃ g4, w.heap.size = g4 := ⟨_, rfl⟩
  obtain ⟨g6, hg6⟩ : ∃ g6, g4 + 1 = g6 := ⟨_, rfl⟩
  have hb2 := Lib.hid hb2
  rw [hg4, hg6] at C6
  rw [hg4] at C4
  simp only [hg4, hg6]
  obtain ⟨k0, k1, k2, k3, k4, k5⟩ := c6 C4
  go_upto_region 4 with fail
  generalize hwv : World.alloc _ _ = w3
  have D4 : Bk w3 g4 92 #[.int .i64 key, .int .i64 (off : Int), .int .i64 (wd : Int), .int .i64 (hd : Int), .int .i64 (sd : Int), .int .i64 1] := hwv ▸ C4.al _
  have D6 : Bk w3 g6 73 #[.int .i64 0, .int .i64 0, .int .i64 0, .slice none 0 0] := hwv ▸ C6.al _
  have D7 : Bk w3 w2.heap.size 73 #[.int .i64 3, .int .i64 (wd : Int), .int .i64 (hd : Int), .slice none 0 0] := hwv ▸ Bk.new _ _ _
  have hb3 : Below w.heap.size w w3 := hwv ▸ bl_alloc hb2.out _
  have hw2 := hb2.out.size
  have hl4 := C4.lt
  have hl6 := C6.lt
  clear hwv k0 k1 k2 k3 k4 k5 C4 C6 hb2
  obtain ⟨g7, hg7⟩ : ∃ g7, w2.heap.size = g7 := ⟨_, rfl⟩
  rw [hg7] at D7 hl4 hl6 hw2
  simp only [hg7]
  have n46 : g4 ≠ g6 := by omega
  have n47 : g4 ≠ g7 := by omega
  have n67 : g6 ≠ g7 := by omega
  obtain ⟨k0, k1, k2, k3, k4, k5⟩ := c6 D4
  have hl7 := D7.lt
  have hl := Lib.hid (show w.heap.size ≤ g4 ∧ w.heap.size ≤ g6 ∧ w.heap.size ≤ g7 ∧ g4 < w3.heap.size ∧ g6 < w3.heap.size ∧ g7 < w3.heap.size by omega)
  clear hl4 hl6 hl7 hg4 hg6 hg7 hw2
  go_wp2_with fail
  clear k0 k1 k2 k3 k4 k5
  go_loopw [8, 9, 36] (fun _ _ s36 wr => ∃ (y : Nat) (A : Option Addr) (c : Nat), y ≤ hd ∧ s36 = .int .i64 (y : Int) ∧ LdR w wr w3.heap.size g4 g6 g7 #[.int .i64 key, .int .i64 (off : Int), .int .i64 (wd : Int), .int .i64 (hd : Int), .int .i64 (sd : Int), .int .i64 1] wd hd L off sd (y * wd) A c) (fun _ _ s36 _ => hd - (intOf s36).toNat)
  case atStart => exact ⟨0, none, 0, by omega, rfl, by rw [Nat.zero_mul]; exact ⟨World.ownsRow_nil _ _ _ _, D4, D6, D7, hb3, Nat.le_refl _⟩⟩
  case round =>
    obtain ⟨y, A, c, hy, rfl, own, E4, E6, E7, hbr, hsz⟩ := hrel
    by_cases hlt : y < hd
    · have dy : decide ((y : Int) < (hd : Int)) = true := by simp; omega
      have dy2 : decide (y < hd) = true := by simp; omega
      obtain ⟨k0, k1, k2, k3, k4, k5⟩ := c6 E4
      have hltH := Lib.hid hlt
      go_wp2_with fail
      clear k0 k1 k2 k3 k4 k5
      go_loopw [9, 41] (fun _ s41 wx => ∃ (x : Nat) (A : Option Addr) (c : Nat), x ≤ wd ∧ s41 = .int .i64 (x : Int) ∧ LdR w wx w3.heap.size g4 g6 g7 #[.int .i64 key, .int .i64 (off : Int), .int .i64 (wd : Int), .int .i64 (hd : Int), .int .i64 (sd : Int), .int .i64 1] wd hd L off sd (y * wd + x) A c) (fun _ s41 _ => wd - (intOf s41).toNat)
      case atStart => exact ⟨0, A, c, by omega, rfl, by rw [Nat.add_zero]; exact ⟨own, E4, E6, E7, hbr, hsz⟩⟩
      case round =>
        clear own E4 E6 E7 hbr hsz
        obtain ⟨x, A1, c1, hx, rfl, own, E4, E6, E7, hbr, hsz⟩ := hrel
        obtain ⟨wx, rfl⟩ : ∃ x : World, x = wr := ⟨_, rfl⟩
        by_cases hltx : x < wd
        · have dx : decide ((x : Int) < (wd : Int)) = true := by simp; omega
          have dx2 : decide (x < wd) = true := by simp; omega
          obtain ⟨k0, k1, k2, k3, k4, k5⟩ := c6 E4
          have n3 : wx.cell? ⟨g7, 3, none⟩ = some (.slice A1 (y * wd + x) c1) := E7.cell 3
          obtain ⟨p, hp⟩ : ∃ p, sd * y = p := ⟨_, rfl⟩
          have hp6 : p ≤ 600 := by rw [← hp]; have := Nat.mul_le_mul h6 (Nat.le_trans (Nat.le_of_lt hltH.out) h5); omega
          have hyw : y * wd ≤ 36 := by have := Nat.mul_le_mul (Nat.le_trans (Nat.le_of_lt hltH.out) h5) h7; omega
          have ej1 : IntKind.i64.wrap ((sd : Int) * (y : Int)) = ((p : Nat) : Int) := by rw [← hp, i64_in (by rw [← Int.natCast_mul, hp]; omega) (by rw [← Int.natCast_mul, hp]; omega)]; simp
          obtain ⟨r, hr⟩ : ∃ r, off + p = r := ⟨_, rfl⟩
          have ej2 : IntKind.i64.wrap ((off : Int) + (p : Int)) = (r : Int) := by rw [i64_in (by omega) (by omega)]; omega
          obtain ⟨u, hu⟩ : ∃ u, 4 * x = u := ⟨_, rfl⟩
          have ej3 : IntKind.i64.wrap ((4 : Int) * (x : Int)) = (u : Int) := by rw [i64_in (by omega) (by omega)]; omega
          have ej5 : IntKind.i64.wrap ((x : Int) * (4 : Int)) = (u : Int) := by rw [i64_in (by omega) (by omega)]; omega
          obtain ⟨j, hj⟩ : ∃ j, r + u = j := ⟨_, rfl⟩
          have ej4 : IntKind.i64.wrap ((r : Int) + (u : Int)) = (j : Int) := by rw [i64_in (by omega) (by omega)]; omega
          have hj2 : off + sd * y + 4 * x = j := by rw [hp, hr, hu, hj]
          have hjb : j ≤ 1000000000 := by omega
          have hls := ldL_s L off sd wd y x hltx
          rw [hj2] at hls
          have hls := Lib.hid hls
          have hltxH := Lib.hid hltx
          have hmw := Lib.hid (fun w h => mword_any m g b key L j w h hL hB.out hjb)
          obtain ⟨wk, hwk⟩ : ∃ k, wdk L j 4 = k := ⟨_, rfl⟩
          have hwkb := wdk_bd hB.out j
          rw [hwk] at hmw hls hwkb
          have hMb := Lib.hid (h.be hbr)
          clear hp hr hu hj hj2 hwk
          go_upto_region 10 with fail
          have hS : ∀ w' : World, Bk w' g4 92 #[.int .i64 key, .int .i64 (off : Int), .int .i64 (wd : Int), .int .i64 (hd : Int), .int .i64 (sd : Int), .int .i64 1] → (w'.cell? ⟨g4, 0, none⟩ = some (.int .i64 key) ∧ w'.cell? ⟨g4, 1, none⟩ = some (.int .i64 (off : Int)) ∧ w'.cell? ⟨g4, 4, none⟩ = some (.int .i64 (sd : Int)) ∧ w'.cell? ⟨g4, 5, none⟩ = some (.int .i64 1)) := fun w' hb => ⟨hb.cell 0, hb.cell 1, hb.cell 4, hb.cell 5⟩
          have hS := Lib.hid hS
          clear k0 k1 k2 k3 k4 k5
          refine wp_region_held_drew (S := fun w' : World => w'.cell? ⟨g4, 0, none⟩ = some (.int .i64 key) ∧ w'.cell? ⟨g4, 1, none⟩ = some (.int .i64 (off : Int)) ∧ w'.cell? ⟨g4, 4, none⟩ = some (.int .i64 (sd : Int)) ∧ w'.cell? ⟨g4, 5, none⟩ = some (.int .i64 1)) (by kernel_rfl) (by (try dsimp only); exact hS.out _ E4) (fun hHeld => ?_)
          refine wpAnyH_take (i := 0) (v := ?_) rfl (by kernel_rfl) (by kernel_rfl) (by kernel_rfl) (fun _ _ _ h => h) (Or.inl ⟨by rfl, ?_⟩) (by assumption) ?_
          rotate_left
          · (intro w hSw; (try dsimp only at hSw); go_simp; try (with_reducible rfl))
          (try simp only [Act.put, List.setIfInBounds_toArray, List.set_cons_zero, List.set_cons_succ])
          refine wpAnyH_take (i := 2) (v := ?_) rfl (by kernel_rfl) (by kernel_rfl) (by kernel_rfl) (fun _ _ _ h => h) (Or.inl ⟨by rfl, ?_⟩) (by assumption) ?_
          rotate_left
          · (intro w hSw; (try dsimp only at hSw); go_simp; try (with_reducible rfl))
          (try simp only [Act.put, List.setIfInBounds_toArray, List.set_cons_zero, List.set_cons_succ])
          refine wpAnyH_take (i := 3) (v := ?_) rfl (by kernel_rfl) (by kernel_rfl) (by kernel_rfl) (fun _ _ _ h => h) (Or.inl ⟨by rfl, ?_⟩) (by assumption) ?_
          rotate_left
          · (intro w hSw; (try dsimp only at hSw); go_simp; try (with_reducible rfl))
          (try simp only [Act.put, List.setIfInBounds_toArray, List.set_cons_zero, List.set_cons_succ])
          refine wpAnyH_take (i := 4) (v := ?_) rfl (by kernel_rfl) (by kernel_rfl) (by kernel_rfl) (fun _ _ _ h => h) (Or.inl ⟨by rfl, ?_⟩) (by assumption) ?_
          rotate_left
          · (intro w hSw; (try dsimp only at hSw); go_simp; try (with_reducible rfl))
          (try simp only [Act.put, List.setIfInBounds_toArray, List.set_cons_zero, List.set_cons_succ])
          refine wpAnyH_take (i := 5) (v := ?_) rfl (by kernel_rfl) (by kernel_rfl) (by kernel_rfl) (fun _ _ _ h => h) (Or.inl ⟨by rfl, ?_⟩) (by assumption) ?_
          rotate_left
          · (intro w hSw; (try dsimp only at hSw); go_simp; try (with_reducible rfl))
          (try simp only [Act.put, List.setIfInBounds_toArray, List.set_cons_zero, List.set_cons_succ])
          refine wpAnyH_take (i := 6) (v := ?_) rfl (by kernel_rfl) (by kernel_rfl) (by kernel_rfl) (fun _ _ _ h => h) (Or.inl ⟨by rfl, ?_⟩) (by assumption) ?_
          rotate_left
          · (intro w hSw; (try dsimp only at hSw); go_simp; try (with_reducible rfl))
          (try simp only [Act.put, List.setIfInBounds_toArray, List.set_cons_zero, List.set_cons_succ])
          refine wpAnyH_take (i := 7) (v := ?_) rfl (by kernel_rfl) (by kernel_rfl) (by kernel_rfl) (fun _ _ _ h => h) (Or.inl ⟨by rfl, ?_⟩) (by assumption) ?_
          rotate_left
          · (intro w hSw; (try dsimp only at hSw); go_simp; try (with_reducible rfl))
          (try simp only [Act.put, List.setIfInBounds_toArray, List.set_cons_zero, List.set_cons_succ])
          refine wpAnyH_take (i := 8) (v := ?_) rfl (by kernel_rfl) (by kernel_rfl) (by kernel_rfl) (fun _ _ _ h => h) (Or.inl ⟨by rfl, ?_⟩) (by assumption) ?_
          rotate_left
          · (intro w hSw; (try dsimp only at hSw); go_simp; try (with_reducible rfl))
          (try simp only [Act.put, List.setIfInBounds_toArray, List.set_cons_zero, List.set_cons_succ])
          refine wpAnyH_take (i := 9) (v := ?_) rfl (by kernel_rfl) (by kernel_rfl) (by kernel_rfl) (fun _ _ _ h => h) (Or.inl ⟨by rfl, ?_⟩) (by assumption) ?_
          rotate_left
          · (intro w hSw; (try dsimp only at hSw); go_simp; try (with_reducible rfl))
          (try simp only [Act.put, List.setIfInBounds_toArray, List.set_cons_zero, List.set_cons_succ])
          refine wpAnyH_take (i := 10) (v := ?_) rfl (by kernel_rfl) (by kernel_rfl) (by kernel_rfl) (fun _ _ _ h => h) (Or.inl ⟨by rfl, ?_⟩) (by assumption) ?_
          rotate_left
          · (intro w hSw; (try dsimp only at hSw); go_simp; try (with_reducible rfl))
          (try simp only [Act.put, List.setIfInBounds_toArray, List.set_cons_zero, List.set_cons_succ])
          refine wpAnyH_take (i := 11) (v := ?_) rfl (by kernel_rfl) (by kernel_rfl) (by kernel_rfl) (fun _ _ _ h => h) (Or.inl ⟨by rfl, ?_⟩) (by assumption) ?_
          rotate_left
          · (intro w hSw; (try dsimp only at hSw); go_simp; try (with_reducible rfl))
          (try simp only [Act.put, List.setIfInBounds_toArray, List.set_cons_zero, List.set_cons_succ])
          refine wpAnyH_take (i := 12) (v := ?_) rfl (by kernel_rfl) (by kernel_rfl) (by kernel_rfl) (fun _ _ _ h => h) (Or.inl ⟨by rfl, ?_⟩) (by assumption) ?_
          rotate_left
          · (intro w hSw; (try dsimp only at hSw); go_simp; try (with_reducible rfl))
          (try simp only [Act.put, List.setIfInBounds_toArray, List.set_cons_zero, List.set_cons_succ])
          refine wpAnyH_take (i := 13) (v := ?_) rfl (by kernel_rfl) (by kernel_rfl) (by kernel_rfl) (fun _ _ _ h => h) (Or.inl ⟨by rfl, ?_⟩) (by assumption) ?_
          rotate_left
          · (intro w hSw; (try dsimp only at hSw); go_simp; try (with_reducible rfl))
          (try simp only [Act.put, List.setIfInBounds_toArray, List.set_cons_zero, List.set_cons_succ])
          refine wpAnyH_take (i := 14) (v := ?_) rfl (by kernel_rfl) (by kernel_rfl) (by kernel_rfl) (fun _ _ _ h => h) (Or.inl ⟨by rfl, ?_⟩) (by assumption) ?_
          rotate_left
          · (intro w hSw; (try dsimp only at hSw); go_simp; try (with_reducible rfl))
          (try simp only [Act.put, List.setIfInBounds_toArray, List.set_cons_zero, List.set_cons_succ])
          refine wpAnyH_take (i := 16) (v := ?_) rfl (by kernel_rfl) (by kernel_rfl) (by kernel_rfl) (fun _ _ _ h => h) (Or.inl ⟨by rfl, ?_⟩) (by assumption) ?_
          rotate_left
          · (intro w hSw; (try dsimp only at hSw); go_simp; try (with_reducible rfl))
          (try simp only [Act.put, List.setIfInBounds_toArray, List.set_cons_zero, List.set_cons_succ])
          refine wpAnyH_take (i := 17) (v := ?_) rfl (by kernel_rfl) (by kernel_rfl) (by kernel_rfl) (fun _ _ _ h => h) (Or.inl ⟨by rfl, ?_⟩) (by assumption) ?_
          rotate_left
          · (intro w hSw; (try dsimp only at hSw); go_simp; try (with_reducible rfl))
          (try simp only [Act.put, List.setIfInBounds_toArray, List.set_cons_zero, List.set_cons_succ])
          refine wpAnyH_ready (rs := [1, 15]) (by kernel_rfl) (by simp) ?_
          refine AllReadyH.cons (i := 1) rfl (fun K hK => ?_) (AllReadyH.cons (i := 15) rfl (fun K hK => ?_) AllReadyH.nil)
          · skip
            have n3 := E7.cell 3
            go_simp
            refine hK.out _ _ (by (try dsimp only); exact hS.out _ (E4)) (fun hHeld2 => ?_)
            clear hHeld
            rename _ => hHeld
            clear hK K
            (try simp only [Act.put, List.setIfInBounds_toArray, List.set_cons_zero, List.set_cons_succ])
            try clear n3
            refine wpAnyH_ready (rs := [15]) (by kernel_rfl) (by simp) ?_
            refine AllReadyH.cons (i := 15) rfl (fun K hK => ?_) AllReadyH.nil
            go_simp
            go_at_call 65
            refine (hmw.out wx.drew (hMb.out.be (Below.refl _ _).drew)).mono ?_
            rintro e u1 ⟨rfl, hq1⟩
            have hq1 : Below wx.heap.size wx u1 := (Below.refl _ _).drew.trans hq1
            have E4 := E4.be hq1
            have E6 := E6.be hq1
            have E7 := E7.be hq1
            have own := own_be own hq1
            have hbr := bl_step hbr hq1
            have hsz : w3.heap.size ≤ u1.heap.size := by have := hq1.size; omega
            clear hq1
            try (go_wp2_with fail)
            refine hK.out _ _ (by (try dsimp only); exact hS.out _ (E4)) (fun hHeld2 => ?_)
            clear hHeld
            rename _ => hHeld
            clear hK K
            (try simp only [Act.put, List.setIfInBounds_toArray, List.set_cons_zero, List.set_cons_succ])
            refine wpAnyH_ready (rs := [18]) (by kernel_rfl) (by simp) ?_
            refine AllReadyH.cons (i := 18) rfl (fun K hK => ?_) AllReadyH.nil
            go_simp
            go_at_call 64
            refine (Load_any wk 1 u1 hwkb.1 hwkb.2).mono ?_
            rintro e _ ⟨rfl, rfl⟩
            try (go_wp2_with fail)
            refine hK.out _ _ (by (try dsimp only); exact hS.out _ (E4)) (fun hHeld2 => ?_)
            clear hHeld
            rename _ => hHeld
            clear hK K
            (try simp only [Act.put, List.setIfInBounds_toArray, List.set_cons_zero, List.set_cons_succ])
            refine wpAnyH_ready (rs := [19]) (by kernel_rfl) (by simp) ?_
            refine AllReadyH.cons (i := 19) rfl (fun K hK => ?_) AllReadyH.nil
            go_simp
            try (go_wp2_with fail)
            have E4 := E4.al (.cells #[.int .u32 (ld wk 1)] 22)
            have E6 := E6.al (.cells #[.int .u32 (ld wk 1)] 22)
            have E7 := E7.al (.cells #[.int .u32 (ld wk 1)] 22)
            have own := own_be own (bl_alloc (Below.refl _ _) (.cells #[.int .u32 (ld wk 1)] 22))
            have hbr := bl_alloc hbr (.cells #[.int .u32 (ld wk 1)] 22)
            refine hK.out _ _ (by (try dsimp only); exact hS.out _ (E4)) (fun hHeld2 => ?_)
            clear hHeld
            rename _ => hHeld
            clear hK K
            (try simp only [Act.put, List.setIfInBounds_toArray, List.set_cons_zero, List.set_cons_succ])
            refine wpAnyH_ready (rs := [20]) (by kernel_rfl) (by simp) ?_
            refine AllReadyH.cons (i := 20) rfl (fun K hK => ?_) AllReadyH.nil
            have hx6 : x < 6 := by have := hltxH.out; omega
            refine app_row (.tmp 45) (.tmp 63) _ (some 64) ?_ ?_ w3.heap.size 22 iU _ 1 4 Tryd.underlying34 hiU zU0 zU1 zU2 rfl (by omega) (.slice A1 (y * wd + x) c1) (y * wd + x) (px (ldL L off sd wd (y * wd + x))) ?_ own (u1.heap.size + 1) (some ⟨u1.heap.size, 0, none⟩) 1 1 [.int .u32 (ld wk 1)] ?_ (Rds.block (cs := #[.int .u32 (ld wk 1)]) (Bk.new _ _ _) rfl (by omega)) ?_ ?_ ?_ ?_ ?_
            · kernel_rfl
            · kernel_rfl
            · kernel_rfl
            · kernel_rfl
            · intro v hv; simp at hv; subst hv; rfl
            · simp only [maxLen]; omega
            · omega
            · simp; omega
            intro A9 c9 w9 own9 hg9
            have hne4 : (some g4 : Option Nat) ≠ (Value.slice A1 (y * wd + x) c1).ownBlock := fun e => by have := (own.lt g4 e.symm).1; have := hl.out; omega
            have hne6 : (some g6 : Option Nat) ≠ (Value.slice A1 (y * wd + x) c1).ownBlock := fun e => by have := (own.lt g6 e.symm).1; have := hl.out; omega
            have hne7 : (some g7 : Option Nat) ≠ (Value.slice A1 (y * wd + x) c1).ownBlock := fun e => by have := (own.lt g7 e.symm).1; have := hl.out; omega
            have F4 := E4.gr hg9 hne4
            have F6 := E6.gr hg9 hne6
            have F7 := E7.gr hg9 hne7
            have hb9 : Below w.heap.size w w9 := hbr.grown hg9 hbr.size (fun g hg => by have := (own.lt g hg).1; have := hl.out; omega)
            have hz9 : w3.heap.size ≤ w9.heap.size := by have := hg9.size; simp at this; omega
            have hg7o : ∀ g, (Value.slice A9 (y * wd + x + 1) c9).ownBlock = some g → g ≠ g7 := fun g hg => by have := (own9.lt g hg).1; have := hl.out; omega
            have own9 := Lib.hid own9
            have hg7o := Lib.hid hg7o
            clear own hg9 hne4 hne6 hne7 E4 E6 E7 hbr hsz
            refine hK.out _ _ (by (try dsimp only); exact hS.out _ (F4)) (fun hHeld2 => ?_)
            clear hHeld
            rename _ => hHeld
            clear hK K
            (try simp only [Act.put, List.setIfInBounds_toArray, List.set_cons_zero, List.set_cons_succ])
            have f7 := F7.fz
            have m3 := F7.cell 3
            have l7 := F7.lt
            refine wpAnyH_take (i := 21) (v := ?_) rfl (by kernel_rfl) (by kernel_rfl) (by kernel_rfl) (fun _ _ _ h => h) (Or.inl ⟨by rfl, ?_⟩) (by assumption) ?_
            rotate_left
            · (intro w hSw; (try dsimp only at hSw); go_simp; try (with_reducible rfl))
            (try simp only [Act.put, List.setIfInBounds_toArray, List.set_cons_zero, List.set_cons_succ])
            refine wpAnyH_ready (rs := [22]) (by kernel_rfl) (by simp) ?_
            refine AllReadyH.cons (i := 22) rfl (fun K hK => ?_) AllReadyH.nil
            go_simp
            try (go_wp2_with fail)
            refine hK.out _ _ (by (try dsimp only); exact hS.out _ (F4.ot n47 _)) (fun hHeld2 => ?_)
            clear hHeld
            rename _ => hHeld
            clear hK K
            (try simp only [Act.put, List.setIfInBounds_toArray, List.set_cons_zero, List.set_cons_succ])
            refine wpAnyH_done (by kernel_rfl) ?_ _
            clear hHeld hS f7 m3 l7
            generalize hwv : World.setCell _ _ _ = wz
            have G4 : Bk wz g4 92 #[.int .i64 key, .int .i64 (off : Int), .int .i64 (wd : Int), .int .i64 (hd : Int), .int .i64 (sd : Int), .int .i64 1] := hwv ▸ F4.ot n47 _
            have G6 : Bk wz g6 73 #[.int .i64 0, .int .i64 0, .int .i64 0, .slice none 0 0] := hwv ▸ F6.ot n67 _
            have G7 : Bk wz g7 73 #[.int .i64 3, .int .i64 (wd : Int), .int .i64 (hd : Int), .slice A9 (y * wd + x + 1) c9] := hwv ▸ F7.st 3 _
            have hsv : Sav g7 w9 wz := hwv ▸ (Sav.refl _ _).st 3 _
            have ownz := Lib.hid (own_sv own9.out hsv hg7o.out)
            have hbz : Below w.heap.size w wz := hwv ▸ bl_set hb9 (show w.heap.size ≤ g7 from hl.out.2.2.1) _
            have hzz : w3.heap.size ≤ wz.heap.size := by rw [← hwv]; simpa using hz9
            clear hwv hsv own9 F4 F6 F7 hb9 hz9
            go_wp2_with fail
            go_roundw
            case rel => exact ⟨x + 1, A9, c9, hltxH.out, by go_num, by rw [← Nat.add_assoc]; exact ⟨by rw [hls.out, px_s]; exact ownz.out, G4, G6, G7, hbz, hzz⟩⟩
            case measure => have := hltxH.out; simp [intOf]; omega
          · skip
            go_simp
            go_at_call 65
            refine (hmw.out wx.drew (hMb.out.be (Below.refl _ _).drew)).mono ?_
            rintro e u1 ⟨rfl, hq1⟩
            have hq1 : Below wx.heap.size wx u1 := (Below.refl _ _).drew.trans hq1
            have E4 := E4.be hq1
            have E6 := E6.be hq1
            have E7 := E7.be hq1
            have own := own_be own hq1
            have hbr := bl_step hbr hq1
            have hsz : w3.heap.size ≤ u1.heap.size := by have := hq1.size; omega
            clear hq1
            try (go_wp2_with fail)
            refine hK.out _ _ (by (try dsimp only); exact hS.out _ (E4)) (fun hHeld2 => ?_)
            clear hHeld
            rename _ => hHeld
            clear hK K
            (try simp only [Act.put, List.setIfInBounds_toArray, List.set_cons_zero, List.set_cons_succ])
            refine wpAnyH_ready (rs := [1, 18]) (by kernel_rfl) (by simp) ?_
            refine AllReadyH.cons (i := 1) rfl (fun K hK => ?_) (AllReadyH.cons (i := 18) rfl (fun K hK => ?_) AllReadyH.nil)
            · skip
              have n3 := E7.cell 3
              go_simp
              refine hK.out _ _ (by (try dsimp only); exact hS.out _ (E4)) (fun hHeld2 => ?_)
              clear hHeld
              rename _ => hHeld
              clear hK K
              (try simp only [Act.put, List.setIfInBounds_toArray, List.set_cons_zero, List.set_cons_succ])
              try clear n3
              refine wpAnyH_ready (rs := [18]) (by kernel_rfl) (by simp) ?_
              refine AllReadyH.cons (i := 18) rfl (fun K hK => ?_) AllReadyH.nil
              go_simp
              go_at_call 64
              refine (Load_any wk 1 u1 hwkb.1 hwkb.2).mono ?_
              rintro e _ ⟨rfl, rfl⟩
              try (go_wp2_with fail)
              refine hK.out _ _ (by (try dsimp only); exact hS.out _ (E4)) (fun hHeld2 => ?_)
              clear hHeld
              rename _ => hHeld
              clear hK K
              (try simp only [Act.put, List.setIfInBounds_toArray, List.set_cons_zero, List.set_cons_succ])
              refine wpAnyH_ready (rs := [19]) (by kernel_rfl) (by simp) ?_
              refine AllReadyH.cons (i := 19) rfl (fun K hK => ?_) AllReadyH.nil
              go_simp
              try (go_wp2_with fail)
              have E4 := E4.al (.cells #[.int .u32 (ld wk 1)] 22)
              have E6 := E6.al (.cells #[.int .u32 (ld wk 1)] 22)
              have E7 := E7.al (.cells #[.int .u32 (ld wk 1)] 22)
              have own := own_be own (bl_alloc (Below.refl _ _) (.cells #[.int .u32 (ld wk 1)] 22))
              have hbr := bl_alloc hbr (.cells #[.int .u32 (ld wk 1)] 22)
              refine hK.out _ _ (by (try dsimp only); exact hS.out _ (E4)) (fun hHeld2 => ?_)
              clear hHeld
              rename _ => hHeld
              clear hK K
              (try simp only [Act.put, List.setIfInBounds_toArray, List.set_cons_zero, List.set_cons_succ])
              refine wpAnyH_ready (rs := [20]) (by kernel_rfl) (by simp) ?_
              refine AllReadyH.cons (i := 20) rfl (fun K hK => ?_) AllReadyH.nil
              have hx6 : x < 6 := by have := hltxH.out; omega
              refine app_row (.tmp 45) (.tmp 63) _ (some 64) ?_ ?_ w3.heap.size 22 iU _ 1 4 Tryd.underlying34 hiU zU0 zU1 zU2 rfl (by omega) (.slice A1 (y * wd + x) c1) (y * wd + x) (px (ldL L off sd wd (y * wd + x))) ?_ own (u1.heap.size + 1) (some ⟨u1.heap.size, 0, none⟩) 1 1 [.int .u32 (ld wk 1)] ?_ (Rds.block (cs := #[.int .u32 (ld wk 1)]) (Bk.new _ _ _) rfl (by omega)) ?_ ?_ ?_ ?_ ?_
              · kernel_rfl
              · kernel_rfl
              · kernel_rfl
              · kernel_rfl
              · intro v hv; simp at hv; subst hv; rfl
              · simp only [maxLen]; omega
              · omega
              · simp; omega
              intro A9 c9 w9 own9 hg9
              have hne4 : (some g4 : Option Nat) ≠ (Value.slice A1 (y * wd + x) c1).ownBlock := fun e => by have := (own.lt g4 e.symm).1; have := hl.out; omega
              have hne6 : (some g6 : Option Nat) ≠ (Value.slice A1 (y * wd + x) c1).ownBlock := fun e => by have := (own.lt g6 e.symm).1; have := hl.out; omega
              have hne7 : (some g7 : Option Nat) ≠ (Value.slice A1 (y * wd + x) c1).ownBlock := fun e => by have := (own.lt g7 e.symm).1; have := hl.out; omega
              have F4 := E4.gr hg9 hne4
              have F6 := E6.gr hg9 hne6
              have F7 := E7.gr hg9 hne7
              have hb9 : Below w.heap.size w w9 := hbr.grown hg9 hbr.size (fun g hg => by have := (own.lt g hg).1; have := hl.out; omega)
              have hz9 : w3.heap.size ≤ w9.heap.size := by have := hg9.size; simp at this; omega
              have hg7o : ∀ g, (Value.slice A9 (y * wd + x + 1) c9).ownBlock = some g → g ≠ g7 := fun g hg => by have := (own9.lt g hg).1; have := hl.out; omega
              have own9 := Lib.hid own9
              have hg7o := Lib.hid hg7o
              clear own hg9 hne4 hne6 hne7 E4 E6 E7 hbr hsz
              refine hK.out _ _ (by (try dsimp only); exact hS.out _ (F4)) (fun hHeld2 => ?_)
              clear hHeld
              rename _ => hHeld
              clear hK K
              (try simp only [Act.put, List.setIfInBounds_toArray, List.set_cons_zero, List.set_cons_succ])
              have f7 := F7.fz
              have m3 := F7.cell 3
              have l7 := F7.lt
              refine wpAnyH_take (i := 21) (v := ?_) rfl (by kernel_rfl) (by kernel_rfl) (by kernel_rfl) (fun _ _ _ h => h) (Or.inl ⟨by rfl, ?_⟩) (by assumption) ?_
              rotate_left
              · (intro w hSw; (try dsimp only at hSw); go_simp; try (with_reducible rfl))
              (try simp only [Act.put, List.setIfInBounds_toArray, List.set_cons_zero, List.set_cons_succ])
              refine wpAnyH_ready (rs := [22]) (by kernel_rfl) (by simp) ?_
              refine AllReadyH.cons (i := 22) rfl (fun K hK => ?_) AllReadyH.nil
              go_simp
              try (go_wp2_with fail)
              refine hK.out _ _ (by (try dsimp only); exact hS.out _ (F4.ot n47 _)) (fun hHeld2 => ?_)
              clear hHeld
              rename _ => hHeld
              clear hK K
              (try simp only [Act.put, List.setIfInBounds_toArray, List.set_cons_zero, List.set_cons_succ])
              refine wpAnyH_done (by kernel_rfl) ?_ _
              clear hHeld hS f7 m3 l7
              generalize hwv : World.setCell _ _ _ = wz
              have G4 : Bk wz g4 92 #[.int .i64 key, .int .i64 (off : Int), .int .i64 (wd : Int), .int .i64 (hd : Int), .int .i64 (sd : Int), .int .i64 1] := hwv ▸ F4.ot n47 _
              have G6 : Bk wz g6 73 #[.int .i64 0, .int .i64 0, .int .i64 0, .slice none 0 0] := hwv ▸ F6.ot n67 _
              have G7 : Bk wz g7 73 #[.int .i64 3, .int .i64 (wd : Int), .int .i64 (hd : Int), .slice A9 (y * wd + x + 1) c9] := hwv ▸ F7.st 3 _
              have hsv : Sav g7 w9 wz := hwv ▸ (Sav.refl _ _).st 3 _
              have ownz := Lib.hid (own_sv own9.out hsv hg7o.out)
              have hbz : Below w.heap.size w wz := hwv ▸ bl_set hb9 (show w.heap.size ≤ g7 from hl.out.2.2.1) _
              have hzz : w3.heap.size ≤ wz.heap.size := by rw [← hwv]; simpa using hz9
              clear hwv hsv own9 F4 F6 F7 hb9 hz9
              go_wp2_with fail
              go_roundw
              case rel => exact ⟨x + 1, A9, c9, hltxH.out, by go_num, by rw [← Nat.add_assoc]; exact ⟨by rw [hls.out, px_s]; exact ownz.out, G4, G6, G7, hbz, hzz⟩⟩
              case measure => have := hltxH.out; simp [intOf]; omega
            · skip
              go_simp
              go_at_call 64
              refine (Load_any wk 1 u1 hwkb.1 hwkb.2).mono ?_
              rintro e _ ⟨rfl, rfl⟩
              try (go_wp2_with fail)
              refine hK.out _ _ (by (try dsimp only); exact hS.out _ (E4)) (fun hHeld2 => ?_)
              clear hHeld
              rename _ => hHeld
              clear hK K
              (try simp only [Act.put, List.setIfInBounds_toArray, List.set_cons_zero, List.set_cons_succ])
              refine wpAnyH_ready (rs := [1, 19]) (by kernel_rfl) (by simp) ?_
              refine AllReadyH.cons (i := 1) rfl (fun K hK => ?_) (AllReadyH.cons (i := 19) rfl (fun K hK => ?_) AllReadyH.nil)
              · skip
                have n3 := E7.cell 3
                go_simp
                refine hK.out _ _ (by (try dsimp only); exact hS.out _ (E4)) (fun hHeld2 => ?_)
                clear hHeld
                rename _ => hHeld
                clear hK K
                (try simp only [Act.put, List.setIfInBounds_toArray, List.set_cons_zero, List.set_cons_succ])
                try clear n3
                refine wpAnyH_ready (rs := [19]) (by kernel_rfl) (by simp) ?_
                refine AllReadyH.cons (i := 19) rfl (fun K hK => ?_) AllReadyH.nil
                go_simp
                try (go_wp2_with fail)
                have E4 := E4.al (.cells #[.int .u32 (ld wk 1)] 22)
                have E6 := E6.al (.cells #[.int .u32 (ld wk 1)] 22)
                have E7 := E7.al (.cells #[.int .u32 (ld wk 1)] 22)
                have own := own_be own (bl_alloc (Below.refl _ _) (.cells #[.int .u32 (ld wk 1)] 22))
                have hbr := bl_alloc hbr (.cells #[.int .u32 (ld wk 1)] 22)
                refine hK.out _ _ (by (try dsimp only); exact hS.out _ (E4)) (fun hHeld2 => ?_)
                clear hHeld
                rename _ => hHeld
                clear hK K
                (try simp only [Act.put, List.setIfInBounds_toArray, List.set_cons_zero, List.set_cons_succ])
                refine wpAnyH_ready (rs := [20]) (by kernel_rfl) (by simp) ?_
                refine AllReadyH.cons (i := 20) rfl (fun K hK => ?_) AllReadyH.nil
                have hx6 : x < 6 := by have := hltxH.out; omega
                refine app_row (.tmp 45) (.tmp 63) _ (some 64) ?_ ?_ w3.heap.size 22 iU _ 1 4 Tryd.underlying34 hiU zU0 zU1 zU2 rfl (by omega) (.slice A1 (y * wd + x) c1) (y * wd + x) (px (ldL L off sd wd (y * wd + x))) ?_ own (u1.heap.size + 1) (some ⟨u1.heap.size, 0, none⟩) 1 1 [.int .u32 (ld wk 1)] ?_ (Rds.block (cs := #[.int .u32 (ld wk 1)]) (Bk.new _ _ _) rfl (by omega)) ?_ ?_ ?_ ?_ ?_
                · kernel_rfl
                · kernel_rfl
                · kernel_rfl
                · kernel_rfl
                · intro v hv; simp at hv; subst hv; rfl
                · simp only [maxLen]; omega
                · omega
                · simp; omega
                intro A9 c9 w9 own9 hg9
                have hne4 : (some g4 : Option Nat) ≠ (Value.slice A1 (y * wd + x) c1).ownBlock := fun e => by have := (own.lt g4 e.symm).1; have := hl.out; omega
                have hne6 : (some g6 : Option Nat) ≠ (Value.slice A1 (y * wd + x) c1).ownBlock := fun e => by have := (own.lt g6 e.symm).1; have := hl.out; omega
                have hne7 : (some g7 : Option Nat) ≠ (Value.slice A1 (y * wd + x) c1).ownBlock := fun e => by have := (own.lt g7 e.symm).1; have := hl.out; omega
                have F4 := E4.gr hg9 hne4
                have F6 := E6.gr hg9 hne6
                have F7 := E7.gr hg9 hne7
                have hb9 : Below w.heap.size w w9 := hbr.grown hg9 hbr.size (fun g hg => by have := (own.lt g hg).1; have := hl.out; omega)
                have hz9 : w3.heap.size ≤ w9.heap.size := by have := hg9.size; simp at this; omega
                have hg7o : ∀ g, (Value.slice A9 (y * wd + x + 1) c9).ownBlock = some g → g ≠ g7 := fun g hg => by have := (own9.lt g hg).1; have := hl.out; omega
                have own9 := Lib.hid own9
                have hg7o := Lib.hid hg7o
                clear own hg9 hne4 hne6 hne7 E4 E6 E7 hbr hsz
                refine hK.out _ _ (by (try dsimp only); exact hS.out _ (F4)) (fun hHeld2 => ?_)
                clear hHeld
                rename _ => hHeld
                clear hK K
                (try simp only [Act.put, List.setIfInBounds_toArray, List.set_cons_zero, List.set_cons_succ])
                have f7 := F7.fz
                have m3 := F7.cell 3
                have l7 := F7.lt
                refine wpAnyH_take (i := 21) (v := ?_) rfl (by kernel_rfl) (by kernel_rfl) (by kernel_rfl) (fun _ _ _ h => h) (Or.inl ⟨by rfl, ?_⟩) (by assumption) ?_
                rotate_left
                · (intro w hSw; (try dsimp only at hSw); go_simp; try (with_reducible rfl))
                (try simp only [Act.put, List.setIfInBounds_toArray, List.set_cons_zero, List.set_cons_succ])
                refine wpAnyH_ready (rs := [22]) (by kernel_rfl) (by simp) ?_
                refine AllReadyH.cons (i := 22) rfl (fun K hK => ?_) AllReadyH.nil
                go_simp
                try (go_wp2_with fail)
                refine hK.out _ _ (by (try dsimp only); exact hS.out _ (F4.ot n47 _)) (fun hHeld2 => ?_)
                clear hHeld
                rename _ => hHeld
                clear hK K
                (try simp only [Act.put, List.setIfInBounds_toArray, List.set_cons_zero, List.set_cons_succ])
                refine wpAnyH_done (by kernel_rfl) ?_ _
                clear hHeld hS f7 m3 l7
                generalize hwv : World.setCell _ _ _ = wz
                have G4 : Bk wz g4 92 #[.int .i64 key, .int .i64 (off : Int), .int .i64 (wd : Int), .int .i64 (hd : Int), .int .i64 (sd : Int), .int .i64 1] := hwv ▸ F4.ot n47 _
                have G6 : Bk wz g6 73 #[.int .i64 0, .int .i64 0, .int .i64 0, .slice none 0 0] := hwv ▸ F6.ot n67 _
                have G7 : Bk wz g7 73 #[.int .i64 3, .int .i64 (wd : Int), .int .i64 (hd : Int), .slice A9 (y * wd + x + 1) c9] := hwv ▸ F7.st 3 _
                have hsv : Sav g7 w9 wz := hwv ▸ (Sav.refl _ _).st 3 _
                have ownz := Lib.hid (own_sv own9.out hsv hg7o.out)
                have hbz : Below w.heap.size w wz := hwv ▸ bl_set hb9 (show w.heap.size ≤ g7 from hl.out.2.2.1) _
                have hzz : w3.heap.size ≤ wz.heap.size := by rw [← hwv]; simpa using hz9
                clear hwv hsv own9 F4 F6 F7 hb9 hz9
                go_wp2_with fail
                go_roundw
                case rel => exact ⟨x + 1, A9, c9, hltxH.out, by go_num, by rw [← Nat.add_assoc]; exact ⟨by rw [hls.out, px_s]; exact ownz.out, G4, G6, G7, hbz, hzz⟩⟩
                case measure => have := hltxH.out; simp [intOf]; omega
              · skip
                go_simp
                try (go_wp2_with fail)
                have E4 := E4.al (.cells #[.int .u32 (ld wk 1)] 22)
                have E6 := E6.al (.cells #[.int .u32 (ld wk 1)] 22)
                have E7 := E7.al (.cells #[.int .u32 (ld wk 1)] 22)
                have own := own_be own (bl_alloc (Below.refl _ _) (.cells #[.int .u32 (ld wk 1)] 22))
                have hbr := bl_alloc hbr (.cells #[.int .u32 (ld wk 1)] 22)
                refine hK.out _ _ (by (try dsimp only); exact hS.out _ (E4)) (fun hHeld2 => ?_)
                clear hHeld
                rename _ => hHeld
                clear hK K
                (try simp only [Act.put, List.setIfInBounds_toArray, List.set_cons_zero, List.set_cons_succ])
                refine wpAnyH_ready (rs := [1]) (by kernel_rfl) (by simp) ?_
                refine AllReadyH.cons (i := 1) rfl (fun K hK => ?_) AllReadyH.nil
                have n3 := E7.cell 3
                go_simp
                refine hK.out _ _ (by (try dsimp only); exact hS.out _ (E4)) (fun hHeld2 => ?_)
                clear hHeld
                rename _ => hHeld
                clear hK K
                (try simp only [Act.put, List.setIfInBounds_toArray, List.set_cons_zero, List.set_cons_succ])
                try clear n3
                refine wpAnyH_ready (rs := [20]) (by kernel_rfl) (by simp) ?_
                refine AllReadyH.cons (i := 20) rfl (fun K hK => ?_) AllReadyH.nil
                have hx6 : x < 6 := by have := hltxH.out; omega
                refine app_row (.tmp 45) (.tmp 63) _ (some 64) ?_ ?_ w3.heap.size 22 iU _ 1 4 Tryd.underlying34 hiU zU0 zU1 zU2 rfl (by omega) (.slice A1 (y * wd + x) c1) (y * wd + x) (px (ldL L off sd wd (y * wd + x))) ?_ own (u1.heap.size + 1) (some ⟨u1.heap.size, 0, none⟩) 1 1 [.int .u32 (ld wk 1)] ?_ (Rds.block (cs := #[.int .u32 (ld wk 1)]) (Bk.new _ _ _) rfl (by omega)) ?_ ?_ ?_ ?_ ?_
                · kernel_rfl
                · kernel_rfl
                · kernel_rfl
                · kernel_rfl
                · intro v hv; simp at hv; subst hv; rfl
                · simp only [maxLen]; omega
                · omega
                · simp; omega
                intro A9 c9 w9 own9 hg9
                have hne4 : (some g4 : Option Nat) ≠ (Value.slice A1 (y * wd + x) c1).ownBlock := fun e => by have := (own.lt g4 e.symm).1; have := hl.out; omega
                have hne6 : (some g6 : Option Nat) ≠ (Value.slice A1 (y * wd + x) c1).ownBlock := fun e => by have := (own.lt g6 e.symm).1; have := hl.out; omega
                have hne7 : (some g7 : Option Nat) ≠ (Value.slice A1 (y * wd + x) c1).ownBlock := fun e => by have := (own.lt g7 e.symm).1; have := hl.out; omega
                have F4 := E4.gr hg9 hne4
                have F6 := E6.gr hg9 hne6
                have F7 := E7.gr hg9 hne7
                have hb9 : Below w.heap.size w w9 := hbr.grown hg9 hbr.size (fun g hg => by have := (own.lt g hg).1; have := hl.out; omega)
                have hz9 : w3.heap.size ≤ w9.heap.size := by have := hg9.size; simp at this; omega
                have hg7o : ∀ g, (Value.slice A9 (y * wd + x + 1) c9).ownBlock = some g → g ≠ g7 := fun g hg => by have := (own9.lt g hg).1; have := hl.out; omega
                have own9 := Lib.hid own9
                have hg7o := Lib.hid hg7o
                clear own hg9 hne4 hne6 hne7 E4 E6 E7 hbr hsz
                refine hK.out _ _ (by (try dsimp only); exact hS.out _ (F4)) (fun hHeld2 => ?_)
                clear hHeld
                rename _ => hHeld
                clear hK K
                (try simp only [Act.put, List.setIfInBounds_toArray, List.set_cons_zero, List.set_cons_succ])
                have f7 := F7.fz
                have m3 := F7.cell 3
                have l7 := F7.lt
                refine wpAnyH_take (i := 21) (v := ?_) rfl (by kernel_rfl) (by kernel_rfl) (by kernel_rfl) (fun _ _ _ h => h) (Or.inl ⟨by rfl, ?_⟩) (by assumption) ?_
                rotate_left
                · (intro w hSw; (try dsimp only at hSw); go_simp; try (with_reducible rfl))
                (try simp only [Act.put, List.setIfInBounds_toArray, List.set_cons_zero, List.set_cons_succ])
                refine wpAnyH_ready (rs := [22]) (by kernel_rfl) (by simp) ?_
                refine AllReadyH.cons (i := 22) rfl (fun K hK => ?_) AllReadyH.nil
                go_simp
                try (go_wp2_with fail)
                refine hK.out _ _ (by (try dsimp only); exact hS.out _ (F4.ot n47 _)) (fun hHeld2 => ?_)
                clear hHeld
                rename _ => hHeld
                clear hK K
                (try simp only [Act.put, List.setIfInBounds_toArray, List.set_cons_zero, List.set_cons_succ])
                refine wpAnyH_done (by kernel_rfl) ?_ _
                clear hHeld hS f7 m3 l7
                generalize hwv : World.setCell _ _ _ = wz
                have G4 : Bk wz g4 92 #[.int .i64 key, .int .i64 (off : Int), .int .i64 (wd : Int), .int .i64 (hd : Int), .int .i64 (sd : Int), .int .i64 1] := hwv ▸ F4.ot n47 _
                have G6 : Bk wz g6 73 #[.int .i64 0, .int .i64 0, .int .i64 0, .slice none 0 0] := hwv ▸ F6.ot n67 _
                have G7 : Bk wz g7 73 #[.int .i64 3, .int .i64 (wd : Int), .int .i64 (hd : Int), .slice A9 (y * wd + x + 1) c9] := hwv ▸ F7.st 3 _
                have hsv : Sav g7 w9 wz := hwv ▸ (Sav.refl _ _).st 3 _
                have ownz := Lib.hid (own_sv own9.out hsv hg7o.out)
                have hbz : Below w.heap.size w wz := hwv ▸ bl_set hb9 (show w.heap.size ≤ g7 from hl.out.2.2.1) _
                have hzz : w3.heap.size ≤ wz.heap.size := by rw [← hwv]; simpa using hz9
                clear hwv hsv own9 F4 F6 F7 hb9 hz9
                go_wp2_with fail
                go_roundw
                case rel => exact ⟨x + 1, A9, c9, hltxH.out, by go_num, by rw [← Nat.add_assoc]; exact ⟨by rw [hls.out, px_s]; exact ownz.out, G4, G6, G7, hbz, hzz⟩⟩
                case measure => have := hltxH.out; simp [intOf]; omega
        · have hxe : x = wd := by omega
          have dxf : decide ((x : Int) < (wd : Int)) = false := by simp; omega
          have dxf2 : decide (x < wd) = false := by simp; omega
          have hxe := Lib.hid hxe
          go_wp2_with fail
          go_roundw
          case rel => exact ⟨y + 1, A1, c1, hltH.out, by go_num, by rw [show (y + 1) * wd = y * wd + x by rw [Nat.succ_mul, hxe.out]]; exact ⟨own, E4, E6, E7, hbr, hsz⟩⟩
          case measure => have := hltH.out; simp [intOf]; omega
    · obtain rfl : y = hd := by omega
      have dyf : decide ((y : Int) < (y : Int)) = false := by simp
      have dyf2 : decide (y < y) = false := by simp
      have n0 := E7.cell 0
      have n1 := E7.cell 1
      have n2 := E7.cell 2
      have n3 := E7.cell 3
      have f6 := E6.fz
      have l6 := E6.lt
      have z0 := E6.cell 0
      have z1 := E6.cell 1
      have z2 := E6.cell 2
      have z3 := E6.cell 3
      go_wp2_with fail
      have hI : (Tryd.prog.info? 73).map (·.size) = some (#[.int .i64 3, .int .i64 (wd : Int), .int .i64 (y : Int), .slice A (y * wd) c] : Array Value).size := by kernel_rfl
      refine post_cell g6 73 #[.int .i64 3, .int .i64 (wd : Int), .int .i64 (y : Int), .slice A (y * wd) c] Tryd.results41 Tryd.underlying73 rfl hI rfl ?bk rfl ?fin
      case bk => exact (((E6.st 0 _).st 1 _).st 2 _).st 3 _
      case fin =>
        have h6 := hl.out.2.1
        refine ⟨A, c, rfl, ?_, bl_set (bl_set (bl_set (bl_set hbr h6 _) h6 _) h6 _) h6 _⟩
        have hs : ∀ a b c d, Sav g6 wr ((((wr.setCell ⟨g6, 0, none⟩ a).setCell ⟨g6, 1, none⟩ b).setCell ⟨g6, 2, none⟩ c).setCell ⟨g6, 3, none⟩ d) := fun a b c d => ((((Sav.refl _ _).st 0 a).st 1 b).st 2 c).st 3 d
        exact own_lo (own_sv own (hs _ _ _ _) (fun g hg => by have := (own.lt g hg).1; have := hl.out; omega)) (Nat.le_trans hl.out.1 (Nat.le_of_lt hl.out.2.2.2.1))
end Go.Proofs.YtjjdgbhplechbaaDoor.Mm
