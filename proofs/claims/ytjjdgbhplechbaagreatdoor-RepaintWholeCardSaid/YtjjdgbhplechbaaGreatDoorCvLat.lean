/- PaintLater, walked. Printed by gen_later.py. -/
import Derived.Test.YtjjdgbhplechbaaGreatDoorCvFol
set_option linter.unusedVariables false
set_option linter.unusedSimpArgs false
namespace Go.Proofs.YtjjdgbhplechbaaGreatDoor.Cv
open Go.RowKit Go.Proofs.YtjjdgbhplechbaaGreatDoor.Kit Go.Proofs.YtjjdgbhplechbaaGreatDoor.Rect Go.Proofs.YtjjdgbhplechbaaGreatDoor.Pix
theorem infoV : (Tryz.prog.info? 62).map (fun i => (i.zero, i.size, i.bytes)) = some (some (.agg #[.int .i64 0, .int .i64 0, .int .i64 0, .int .i64 0, .int .i64 0, .int .i64 0]), 6, 48) := by kernel_rfl
theorem vwC_one (l : List Vw) : ∀ u ∈ l.flatMap vwC, u.oneCell' = true := by
  intro u hu
  obtain ⟨a, _, ha⟩ := List.mem_flatMap.1 hu
  simp only [vwC, List.mem_cons, List.not_mem_nil, or_false] at ha
  rcases ha with rfl | rfl | rfl | rfl | rfl | rfl <;> rfl
theorem drawn_clip {W H : Nat} {c1 c2 : List R} {f : Nat → Nat → Int → Int} {L : List Int} (hW : 0 < W) (hL : L.length = W * H) (h : ∀ x y : Nat, x < W → y < H → inn c1 (x : Int) (y : Int) = inn c2 (x : Int) (y : Int)) : drawn W H c1 f L = drawn W H c2 f L := by
  unfold drawn
  apply List.ext_getElem (by rw [pnt_len, pnt_len])
  intro i h1 h2
  have hi : i < L.length := by rw [pnt_len] at h1; exact h1
  rw [pnt_get hi, pnt_get hi]
  have hx : i % W < W := Nat.mod_lt _ hW
  have hy : i / W < H := Nat.div_lt_of_lt_mul (by rw [← hL]; exact hi)
  rw [h _ _ hx hy]
theorem paintV_clip {W H : Nat} {c1 c2 : List R} {m : List Im} {L : List Int} {v : Vw} (hW : 0 < W) (hL : L.length = W * H) (h : ∀ x y : Nat, x < W → y < H → inn c1 (x : Int) (y : Int) = inn c2 (x : Int) (y : Int)) : paintV W H c1 m L v = paintV W H c2 m L v := by
  unfold paintV
  split
  · rfl
  · unfold drawO
    rw [drawn_clip hW hL h]
theorem foldP_clip {W H : Nat} {c1 c2 : List R} {m : List Im} (hW : 0 < W) (h : ∀ x y : Nat, x < W → y < H → inn c1 (x : Int) (y : Int) = inn c2 (x : Int) (y : Int)) :
    ∀ (l : List Vw) (L : List Int), L.length = W * H → l.foldl (paintV W H c1 m) L = l.foldl (paintV W H c2 m) L
  | [], _, _ => rfl
  | v :: l, L, hL => by
    rw [List.foldl_cons, List.foldl_cons, paintV_clip hW hL h]
    exact foldP_clip hW h l _ (by rw [paintV_len]; exact hL)
def evR : R := ⟨-16777216, -16777216, 33554432, 33554432⟩
theorem inn_ev {x y : Nat} (hx : x < 48) (hy : y < 48) : inn [evR] (x : Int) (y : Int) = true := by
  simp only [inn, evR, List.any_cons, List.any_nil, Bool.or_false]
  rw [has_iff, inR_bound]
  unfold inR
  simp only
  omega
theorem later (back : Int) (a b : List Vw) (m : List Im) : allL 9 7 back (a ++ b) m (List.replicate (9 * 7) 0) = b.foldl (paintV 9 7 [evR] m) (allL 9 7 back a m (List.replicate (9 * 7) 0)) := by
  unfold allL
  rw [List.foldl_append]
  refine foldP_clip (by omega) (fun x y hx hy => ?_) b _ ?_
  · rw [inn_ev (by omega) (by omega)]
    exact inn_field (W := 9) (H := 7) (by omega) (by omega) hx hy
  · have : ∀ (l : List Vw) (L : List Int), L.length = 63 → (l.foldl (paintV 9 7 [⟨0, 0, ((9 : Nat) : Int), ((7 : Nat) : Int)⟩] m) L).length = 63 := by
      intro l
      induction l with
      | nil => intro L h; exact h
      | cons v l ih => intro L h; rw [List.foldl_cons]; exact ih _ (by rw [paintV_len]; exact h)
    exact this a _ (by unfold drawn; rw [pnt_len]; simp)
theorem ev_any (w : World) : Calls Tryz.prog 11 #[] w fun e w' => ∃ g, e = .returned (.slice (some ⟨g, 0, none⟩) 1 1) ∧ Bk w' g 64 (rV evR) ∧ w.heap.size ≤ g ∧ Below w.heap.size w w' := by
  go_enter Tryz.func11, Tryz.ntmps11
  go_wp2_with fail
  go_ret
  exact ⟨_, rfl, Bk.new _ _ _, Nat.le_refl _, bl_alloc (Below.refl _ _) _⟩
theorem rd1 {w : World} {B : Nat} {A : Option Addr} {L : List Int} (h : Rds w B 1 A L.length (L.map (Value.int .u32))) {i : Nat} (hi : i < L.length) : ∃ ad, A = some ad ∧ ad.block < B ∧ w.cell? (ad.add i) = some (.int .u32 L[i]) := by
  obtain ⟨ad, e, hb, hc⟩ := h.2 (by omega)
  exact ⟨ad, e, hb, hc i _ (by simp [hi])⟩
set_option maxHeartbeats 4000000 in
theorem same_words (A B : Option Addr) (c d : Nat) (L : List Int) (w : World) (hn : L.length ≤ 1000000) (hA : Rds w w.heap.size 1 A L.length (L.map (Value.int .u32))) (hB : Rds w w.heap.size 1 B L.length (L.map (Value.int .u32))) :
    Calls Tryz.prog 14 #[.slice A L.length c, .slice B L.length d] w fun e w' => e = .returned (.bool true) ∧ Below w.heap.size w w' := by
  go_enter Tryz.func14, Tryz.ntmps14
  go_wp2_with fail
  go_loopw [5] (fun i wr => ∃ k : Nat, k ≤ L.length ∧ i = .int .i64 (k : Int) ∧ Below w.heap.size w wr) (fun i _ => L.length - (intOf i).toNat)
  case atStart => exact ⟨0, by omega, rfl, Below.refl _ _⟩
  case round =>
    obtain ⟨k, hk, rfl, hbr⟩ := hrel
    by_cases hlt : k < L.length
    · obtain ⟨a1, rfl, hb1, hc1⟩ := rd1 (hA.be hbr) hlt
      obtain ⟨a2, rfl, hb2, hc2⟩ := rd1 (hB.be hbr) hlt
      have i0 : (0 : Int) ≤ (k : Int) := by omega
      have i1 : (k : Int) < (L.length : Int) := by omega
      obtain ⟨v, hv⟩ : ∃ v, L[k] = v := ⟨_, rfl⟩
      rw [hv] at hc1 hc2
      clear hv
      go_wp2_with fail
      go_quiet (fail)
      go_wp2_with fail
      go_roundw
      case rel => exact ⟨k + 1, by omega, by go_num, bl_drewN hbr _⟩
      case measure => simp [intOf]; omega
    · obtain rfl : k = L.length := by omega
      go_wp2_with fail
      go_ret
      exact ⟨rfl, hbr⟩
end Go.Proofs.YtjjdgbhplechbaaGreatDoor.Cv
