/- damage.add, Flat, Add: what they make. Printed by gen_dam.py. -/
import Derived.Test.YtjjdgbhplechbaaDoorDm1
import Derived.Test.YtjjdgbhplechbaaDoorRfP
set_option linter.unusedVariables false
set_option linter.unusedSimpArgs false
namespace Go.Proofs.YtjjdgbhplechbaaDoor.Cv
open Go.RowKit Go.Proofs.YtjjdgbhplechbaaDoor.Kit Go.Proofs.YtjjdgbhplechbaaDoor.Reg Go.Proofs.YtjjdgbhplechbaaDoor.Rect
open Go.Proofs.YtjjdgbhplechbaaDoor.Wk (InXY make_xy)
def OutB (base : Nat) (w : World) (l : List R) (e : Ending) (w' : World) : Prop := ∃ A c, e = .returned (.slice A l.length c) ∧ l.length ≤ c ∧ Out base w' A l ∧ Below w.heap.size w w'
theorem OutB.le {b b' : Nat} {w w' : World} {l : List R} {e : Ending} (h : OutB b w l e w') (hb : b' ≤ b) : OutB b' w l e w' := by
  obtain ⟨A, c, r, k, s, t⟩ := h
  exact ⟨A, c, r, k, s.le hb, t⟩
theorem OutP.b {w w' : World} {l : List R} {e : Ending} (h : OutP w l e w') : OutB w.heap.size w l e w' := h
theorem put_len3 (op : Bool → Bool → Bool) (h0 : op false false = false) (a b : List R) (ha : a.length ≤ 40) (hb : b.length ≤ 1) : (joinF op a b).length ≤ 6724 := by
  rw [join_make h0]
  have hx : InXY ((a ++ b).flatMap fun r => [r.x, r.x + r.w]) ((a ++ b).flatMap fun r => [r.y, r.y + r.h]) (a ++ b) := fun r hr =>
    ⟨⟨List.mem_flatMap.2 ⟨r, hr, by simp⟩, List.mem_flatMap.2 ⟨r, hr, by simp⟩⟩, List.mem_flatMap.2 ⟨r, hr, by simp⟩, List.mem_flatMap.2 ⟨r, hr, by simp⟩⟩
  have h2 : ∀ (l : List R) (f g : R → Int), (l.flatMap fun r => [f r, g r]).length = 2 * l.length := by
    intro l f g
    induction l with
    | nil => rfl
    | cons a l ih => rw [List.flatMap_cons, List.length_append, ih]; simp; omega
  refine Nat.le_trans (make_xy op hx).2 ?_
  rw [h2, h2, List.length_append]
  exact Nat.le_trans (Nat.mul_le_mul (show 2 * (a.length + b.length) ≤ 82 by omega) (show 2 * (a.length + b.length) ≤ 82 by omega)) (by omega)
theorem len_foldl : ∀ (l M : List R), M.length ≤ 40 → (l.foldl putF M).length ≤ 40
  | [], _, h => h
  | r :: l, M, _ => len_foldl l _ (len_put M r)
set_option maxRecDepth 100000 in
set_option maxHeartbeats 16000000 in
theorem add_any (base : Nat) (A : Option Addr) (c : Nat) (M : List R) (B : Option Addr) (d : Nat) (l : List R) (w : World) (hM : Rg M) (hm : M.length ≤ 40) (hcc : M.length ≤ c) (hA : Out base w A M) (hbase : base ≤ w.heap.size)
    (hl : Rds w w.heap.size 4 B l.length (l.flatMap rC)) (h64 : ∀ r ∈ l, I64 r) (hn : l.length ≤ 1000000) :
    Calls Tryd.prog 89 #[.slice A M.length c, .slice B l.length d] w (OutB base w (l.foldl putF M)) := by
  have h64 := Lib.hid h64
  have hrg := Lib.hid (fun k => rg_foldl (l.take k) hM)
  have hlen := Lib.hid (fun k => len_foldl (l.take k) M hm)
  have hA := Lib.hid hA
  clear hM hm
  go_enter Tryd.func89, Tryd.ntmps89
  go_wp2_with fail
  go_loopw [0, 6, 9] (fun s0 _ s9 wr => ∃ k : Nat, k ≤ l.length ∧ s9 = .int .i64 (k : Int) ∧ ∃ A' c', s0 = .slice A' ((l.take k).foldl putF M).length c' ∧ ((l.take k).foldl putF M).length ≤ c' ∧ Hid (Out base wr A' ((l.take k).foldl putF M)) ∧ Below w.heap.size w wr) (fun _ _ s9 _ => l.length - (intOf s9).toNat)
  case atStart => exact ⟨0, by omega, rfl, A, c, rfl, hcc, hA, Below.refl _ _⟩
  case round =>
    obtain ⟨k, hk, rfl, A', c', rfl, hcp, hO, hbr⟩ := hrel
    by_cases hlt : k < l.length
    · obtain ⟨ad, rfl, hbl, c0, c1, c2, c3⟩ := Rds.rc (hl.be hbr) hlt
      have hst := foldl_tk putF M l hlt
      have hs64 := h64.out l[k] (List.getElem_mem hlt)
      have hMr := hrg.out k
      have hMl := hlen.out k
      have i0 : (0 : Int) ≤ (k : Int) := by omega
      have i1 : (k : Int) < (l.length : Int) := by omega
      have hlt := Lib.hid hlt
      generalize hs : l[k] = s at *
      obtain ⟨s0, s1, s2, s3⟩ := s
      dsimp only at c0 c1 c2 c3
      obtain ⟨Mk, hMk⟩ : ∃ Mk, (l.take k).foldl putF M = Mk := ⟨_, rfl⟩
      rw [hMk] at hst hMr hMl hO hcp ⊢
      have hput : putF Mk ⟨s0, s1, s2, s3⟩ = if 40 < (joinF (· || ·) Mk (ofF ⟨s0, s1, s2, s3⟩)).length then ofF (coverF (joinF (· || ·) Mk (ofF ⟨s0, s1, s2, s3⟩))) else joinF (· || ·) Mk (ofF ⟨s0, s1, s2, s3⟩) := rfl
      have hlo := len_of ⟨s0, s1, s2, s3⟩
      have hml := put_len3 (· || ·) rfl Mk (ofF ⟨s0, s1, s2, s3⟩) hMl hlo
      have hrm : Rg (joinF (· || ·) Mk (ofF ⟨s0, s1, s2, s3⟩)) := rg_join rfl _ _
      have ho64 := i64_ofF hs64
      have hm64 := rg_i64 hMr
      obtain ⟨m, hmm⟩ : ∃ m, joinF (· || ·) Mk (ofF ⟨s0, s1, s2, s3⟩) = m := ⟨_, rfl⟩
      rw [hmm] at hput hml hrm
      have hUn := fun A B c d w hA hB => Wk.Union_any A B c d Mk (ofF ⟨s0, s1, s2, s3⟩) w (by omega) (by omega) hm64 ho64 hA hB
      rw [hmm] at hUn
      have hUn := Lib.hid hUn
      have hput := Lib.hid hput
      have hst := Lib.hid hst
      have hszr := Nat.le_trans hbase hbr.size
      clear hmm hMk hs hMl hMr hlo hm64 ho64
      have hrm := Lib.hid hrm
      have hs64 := Lib.hid hs64
      go_wp2_with fail
      generalize hwv : World.alloc _ _ = w1
      have hb1 : Below wr.heap.size wr w1 := hwv ▸ bl_alloc (Below.refl _ _) _
      clear hwv c0 c1 c2 c3
      refine (of_reg_any s0 s1 s2 s3 w1 hs64.out).mono ?_
      rintro e w2 ⟨Ao, co, rfl, hco, hOo, hb2⟩
      have h12 := bl_step hb1 hb2
      have hOm := hO.out.be h12
      go_wp2_with fail
      refine (hUn.out A' Ao c' co w2 hOm.1 hOo.1).mono ?_
      rintro e w3 hRc
      obtain ⟨Au, cu, rfl, hcu, hOu, hb3⟩ := out_of hRc
      have h13 := bl_step h12 hb3
      have h03 := bl_step hbr h13
      have hsz2 := h12.size
      have hOu := hOu.le (show base ≤ w2.heap.size by omega)
      clear hRc hOm hOo
      by_cases h40 : 40 < m.length
      · have d40 : decide ((40 : Int) < (m.length : Int)) = true := by simp; omega
        have hp : putF Mk ⟨s0, s1, s2, s3⟩ = ofF (coverF m) := by rw [hput.out, if_pos h40]
        have hcc : chkR (coverF m) := (cover_chk hrm.out (by intro e; rw [e] at h40; simp at h40)).1
        have hcl := fun w hA => coverL_any Au cu m w hrm.out (by omega) hA
        obtain ⟨⟨q0, q1, q2, q3⟩, hq⟩ : ∃ q, coverF m = q := ⟨_, rfl⟩
        rw [hq] at hp hcc hcl
        have hi := chk_i64 hcc
        have hi := Lib.hid hi
        have hcl := Lib.hid hcl
        have hp := Lib.hid hp
        clear hq hcc
        go_wp2_with fail
        refine (hcl.out w3 hOu.1).mono ?_
        rintro e w4 ⟨rfl, hb4⟩
        have h04 := bl_step h03 hb4
        go_wp2_with fail
        refine (of_reg_any q0 q1 q2 q3 w4 hi.out).mono ?_
        rintro e w5 ⟨A5, c5, rfl, hc5, hO5, hb5⟩
        have h05 := bl_step h04 hb5
        have hO5 := hO5.le (show base ≤ w4.heap.size by have := h04.size; omega)
        go_wp2_with fail
        go_roundw
        case rel => exact ⟨k + 1, hlt.out, by go_num, A5, c5, by rw [hst.out, hp.out], by rw [hst.out, hp.out]; exact hc5, by rw [hst.out, hp.out]; exact Lib.hid hO5, h05⟩
        case measure => have := hlt.out; simp [intOf]; omega
      · have d40 : decide ((40 : Int) < (m.length : Int)) = false := by simp; omega
        have hp : putF Mk ⟨s0, s1, s2, s3⟩ = m := by rw [hput.out, if_neg h40]
        have hp := Lib.hid hp
        go_wp2_with fail
        go_roundw
        case rel => exact ⟨k + 1, hlt.out, by go_num, Au, cu, by rw [hst.out, hp.out], by rw [hst.out, hp.out]; exact hcu, by rw [hst.out, hp.out]; exact Lib.hid hOu, h03⟩
        case measure => have := hlt.out; simp [intOf]; omega
    · obtain rfl : k = l.length := by omega
      rw [List.take_length] at hO hcp
      go_wp2_with fail
      go_ret
      exact ⟨A', c', by (show Ending.returned (.slice A' ((l.take l.length).foldl putF M).length c') = _; rw [List.take_length]), hcp, hO.out, hbr⟩
theorem flat_any (A : Option Addr) (c : Nat) (l : List R) (w : World) (hl : Rds w w.heap.size 4 A l.length (l.flatMap rC)) (h64 : ∀ r ∈ l, I64 r) (hn : l.length ≤ 1000000) :
    Calls Tryd.prog 90 #[.slice A l.length c] w (OutP w (flatF l)) := by
  have HA := Lib.hid (add_any w.heap.size none 0 [] A c l w Rg.nil (by simp) (Nat.zero_le _) Out.nil (Nat.le_refl _) hl h64 hn)
  clear hl h64 hn
  go_enter Tryd.func90, Tryd.ntmps90
  go_wp2_with fail
  refine HA.out.mono ?_
  rintro e w1 ⟨A1, c1, rfl, h0, h1, h2⟩
  go_wp2_with fail
  go_ret
  exact ⟨A1, c1, rfl, h0, h1, h2⟩
set_option maxRecDepth 100000 in
set_option maxHeartbeats 8000000 in
theorem damAdd_any (A : Option Addr) (c : Nat) (l : List R) (x y a b : Int) (w : World) (hl : Rds w w.heap.size 4 A l.length (l.flatMap rC)) (h64 : ∀ r ∈ l, I64 r) (hn : l.length ≤ 1000000) (hr : I64 ⟨x, y, a, b⟩) :
    Calls Tryd.prog 70 #[.slice A l.length c, .agg #[.int .i64 x, .int .i64 y, .int .i64 a, .int .i64 b]] w (OutP w (damAdd l ⟨x, y, a, b⟩)) := by
  have HF := Lib.hid (fun w hl => flat_any A c l w hl h64 hn)
  have HG := Lib.hid (fun base A c B d w hcc hA hbase hl => add_any base A c (flatF l) B d [⟨x, y, a, b⟩] w (rg_flat l) (len_flat l) hcc hA hbase hl (by intro r h; obtain rfl := List.mem_singleton.1 h; exact hr) (by simp))
  obtain ⟨F, hF⟩ : ∃ F, flatF l = F := ⟨_, rfl⟩
  have hD : damAdd l ⟨x, y, a, b⟩ = [(⟨x, y, a, b⟩ : R)].foldl putF F := by rw [← hF]; rfl
  rw [hD]
  rw [hF] at HF HG
  obtain ⟨D, hD2⟩ : ∃ D, [(⟨x, y, a, b⟩ : R)].foldl putF F = D := ⟨_, rfl⟩
  rw [hD2] at HG ⊢
  have hl := Lib.hid hl
  clear hF hD hD2 hr h64 hn
  go_enter Tryd.func70, Tryd.ntmps70
  go_upto_region 1 with fail
  generalize hwv : World.alloc _ _ = w1
  have B1 : Bk w1 w.heap.size 32 #[.int .i64 x, .int .i64 y, .int .i64 a, .int .i64 b] := hwv ▸ Bk.new _ _ _
  have hb1 : Below w.heap.size w w1 := hwv ▸ bl_alloc (Below.refl _ _) _
  have hl1 := Lib.hid ((hl.out.be hb1).more hb1.size)
  clear hwv hl
  obtain ⟨gb, hgb⟩ : ∃ gb, w.heap.size = gb := ⟨_, rfl⟩
  rw [hgb] at B1 ⊢
  have hS : ∀ w' : World, Below w1.heap.size w1 w' → (Below w1.heap.size w1 w' ∧ w'.cell? ⟨gb, 0, none⟩ = some (.int .i64 x) ∧ w'.cell? ⟨gb, 1, none⟩ = some (.int .i64 y) ∧ w'.cell? ⟨gb, 2, none⟩ = some (.int .i64 a) ∧ w'.cell? ⟨gb, 3, none⟩ = some (.int .i64 b)) := fun w' hb => ⟨hb, (B1.be hb).cell 0, (B1.be hb).cell 1, (B1.be hb).cell 2, (B1.be hb).cell 3⟩
  have hS := Lib.hid hS
  refine wp_region_held_drew (S := fun w' : World => Below w1.heap.size w1 w' ∧ w'.cell? ⟨gb, 0, none⟩ = some (.int .i64 x) ∧ w'.cell? ⟨gb, 1, none⟩ = some (.int .i64 y) ∧ w'.cell? ⟨gb, 2, none⟩ = some (.int .i64 a) ∧ w'.cell? ⟨gb, 3, none⟩ = some (.int .i64 b)) (by kernel_rfl) (by (try dsimp only); exact hS.out _ (by repeat (first | (with_reducible exact Below.refl _ _) | (with_reducible assumption) | (with_reducible apply bl_alloc) | (with_reducible apply bl_drew)))) (fun hHeld => ?_)
  refine wpAnyH_take (i := 0) (v := ?_) rfl (by kernel_rfl) (by kernel_rfl) (by kernel_rfl) (fun _ _ _ h => h) (Or.inl ⟨by rfl, ?_⟩) (by assumption) ?_
  rotate_left
  · (intro w hSw; (try dsimp only at hSw); go_simp; try (with_reducible rfl))
  (try simp only [Act.put, List.setIfInBounds_toArray, List.set_cons_zero, List.set_cons_succ])
  refine wpAnyH_take (i := 2) (v := ?_) rfl (by kernel_rfl) (by kernel_rfl) (by kernel_rfl) (fun _ _ _ h => h) (Or.inl ⟨by rfl, ?_⟩) (by assumption) ?_
  rotate_left
  · (intro w hSw; (try dsimp only at hSw); go_simp; try (with_reducible rfl))
  (try simp only [Act.put, List.setIfInBounds_toArray, List.set_cons_zero, List.set_cons_succ])
  refine wpAnyH_ready (rs := [1, 3]) (by kernel_rfl) (by simp) ?_
  refine AllReadyH.cons (i := 1) rfl (fun K hK => ?_) (AllReadyH.cons (i := 3) rfl (fun K hK => ?_) AllReadyH.nil)
  · go_simp
    have hbe : Below w1.heap.size w1 w1.drew := bl_drew (Below.refl _ _)
    go_at_call 90
    refine (HF.out _ ((hl1.out.be (hbe)).more (Below.size (hbe)))).mono ?_
    rintro e w2 ⟨A2, c2, rfl, hcp2, hO2, hb2⟩
    have hb12 : Below w1.heap.size w1 w2 := bl_step hbe hb2
    try (go_wp2_with fail)
    refine hK.out _ _ (by (try dsimp only); exact hS.out _ (by repeat (first | (with_reducible exact Below.refl _ _) | (with_reducible assumption) | (with_reducible apply bl_alloc) | (with_reducible apply bl_drew)))) (fun hHeld2 => ?_)
    clear hHeld
    rename _ => hHeld
    clear hK K
    (try simp only [Act.put, List.setIfInBounds_toArray, List.set_cons_zero, List.set_cons_succ])
    refine wpAnyH_ready (rs := [3]) (by kernel_rfl) (by simp) ?_
    refine AllReadyH.cons (i := 3) rfl (fun K hK => ?_) AllReadyH.nil
    go_simp
    have hb3 : Below w2.heap.size w2 (w2.alloc (.cells #[.int .i64 x, .int .i64 y, .int .i64 a, .int .i64 b] 32)) := bl_alloc (Below.refl _ _) _
    have B3 : Bk (w2.alloc (.cells #[.int .i64 x, .int .i64 y, .int .i64 a, .int .i64 b] 32)) w2.heap.size 32 (rV ⟨x, y, a, b⟩) := Bk.new _ _ _
    have hb13 := bl_step hb12 hb3
    try (go_wp2_with fail)
    refine hK.out _ _ (by (try dsimp only); exact hS.out _ (by repeat (first | (with_reducible exact Below.refl _ _) | (with_reducible assumption) | (with_reducible apply bl_alloc) | (with_reducible apply bl_drew)))) (fun hHeld2 => ?_)
    clear hHeld
    rename _ => hHeld
    clear hK K
    (try simp only [Act.put, List.setIfInBounds_toArray, List.set_cons_zero, List.set_cons_succ])
    refine wpAnyH_ready (rs := [4]) (by kernel_rfl) (by simp) ?_
    refine AllReadyH.cons (i := 4) rfl (fun K hK => ?_) AllReadyH.nil
    go_simp
    go_at_call 89
    refine (HG.out gb A2 c2 (some ⟨w2.heap.size, 0, none⟩) 1 _ hcp2 ((hO2.be hb3).le (by have := hb1.size; have := hbe.size; omega)) (by have := hb1.size; have := hb13.size; omega) ((out_one (b := 0) B3 (Nat.zero_le _)).1)).mono ?_
    rintro e w4 ⟨A4, c4, rfl, hcp4, hO4, hb4⟩
    have hb14 : Below w1.heap.size w1 w4 := bl_step hb13 hb4
    try (go_wp2_with fail)
    refine hK.out _ _ (by (try dsimp only); exact hS.out _ (by repeat (first | (with_reducible exact Below.refl _ _) | (with_reducible assumption) | (with_reducible apply bl_alloc) | (with_reducible apply bl_drew)))) (fun hHeld2 => ?_)
    clear hHeld
    rename _ => hHeld
    clear hK K
    (try simp only [Act.put, List.setIfInBounds_toArray, List.set_cons_zero, List.set_cons_succ])
    refine wpAnyH_ready (rs := [5]) (by kernel_rfl) (by simp) ?_
    refine AllReadyH.cons (i := 5) rfl (fun K hK => ?_) AllReadyH.nil
    go_simp
    refine hK.out _ _ hHeld (fun hHeld2 => ?_)
    clear hHeld2 hK K
    (try simp only [Act.put, List.setIfInBounds_toArray, List.set_cons_zero, List.set_cons_succ])
    refine wpAnyH_done (by kernel_rfl) ?_ _
    clear hHeld
    go_wp2_with fail
    go_ret
    exact ⟨A4, c4, rfl, hcp4, by rw [hgb]; exact hO4, bl_step hb1 hb14⟩
  · go_simp
    generalize hw3 : World.alloc _ _ = w3
    have hbe : Below w1.heap.size w1 w3 := by (first | exact hw3 ▸ bl_alloc (bl_drew (Below.refl _ _)) _ | exact hw3 ▸ bl_alloc (Below.refl _ _) _)
    have B3 : Bk w3 w1.heap.size 32 (rV ⟨x, y, a, b⟩) := hw3 ▸ Bk.new' _ _ _ rfl
    try (go_wp2_with fail)
    refine hK.out _ _ (by (try dsimp only); exact hS.out _ (by repeat (first | (with_reducible exact Below.refl _ _) | (with_reducible assumption) | (with_reducible apply bl_alloc) | (with_reducible apply bl_drew)))) (fun hHeld2 => ?_)
    clear hHeld
    rename _ => hHeld
    clear hK K
    (try simp only [Act.put, List.setIfInBounds_toArray, List.set_cons_zero, List.set_cons_succ])
    refine wpAnyH_ready (rs := [1]) (by kernel_rfl) (by simp) ?_
    refine AllReadyH.cons (i := 1) rfl (fun K hK => ?_) AllReadyH.nil
    go_simp
    have hbd : Below w1.heap.size w1 w3.drew := bl_drew hbe
    go_at_call 90
    refine (HF.out _ ((hl1.out.be (hbd)).more (Below.size (hbd)))).mono ?_
    rintro e w2 ⟨A2, c2, rfl, hcp2, hO2, hb2⟩
    have hb12 : Below w1.heap.size w1 w2 := bl_step hbd hb2
    have B32 := B3.dr.be hb2
    try (go_wp2_with fail)
    refine hK.out _ _ (by (try dsimp only); exact hS.out _ (by repeat (first | (with_reducible exact Below.refl _ _) | (with_reducible assumption) | (with_reducible apply bl_alloc) | (with_reducible apply bl_drew)))) (fun hHeld2 => ?_)
    clear hHeld
    rename _ => hHeld
    clear hK K
    (try simp only [Act.put, List.setIfInBounds_toArray, List.set_cons_zero, List.set_cons_succ])
    refine wpAnyH_ready (rs := [4]) (by kernel_rfl) (by simp) ?_
    refine AllReadyH.cons (i := 4) rfl (fun K hK => ?_) AllReadyH.nil
    go_simp
    go_at_call 89
    refine (HG.out gb A2 c2 (some ⟨w1.heap.size, 0, none⟩) 1 _ hcp2 (hO2.le (by have := hb1.size; have := hbd.size; omega)) (by have := hb1.size; have := hb12.size; omega) ((out_one (b := 0) B32 (Nat.zero_le _)).1)).mono ?_
    rintro e w4 ⟨A4, c4, rfl, hcp4, hO4, hb4⟩
    have hb14 : Below w1.heap.size w1 w4 := bl_step hb12 hb4
    try (go_wp2_with fail)
    refine hK.out _ _ (by (try dsimp only); exact hS.out _ (by repeat (first | (with_reducible exact Below.refl _ _) | (with_reducible assumption) | (with_reducible apply bl_alloc) | (with_reducible apply bl_drew)))) (fun hHeld2 => ?_)
    clear hHeld
    rename _ => hHeld
    clear hK K
    (try simp only [Act.put, List.setIfInBounds_toArray, List.set_cons_zero, List.set_cons_succ])
    refine wpAnyH_ready (rs := [5]) (by kernel_rfl) (by simp) ?_
    refine AllReadyH.cons (i := 5) rfl (fun K hK => ?_) AllReadyH.nil
    go_simp
    refine hK.out _ _ hHeld (fun hHeld2 => ?_)
    clear hHeld2 hK K
    (try simp only [Act.put, List.setIfInBounds_toArray, List.set_cons_zero, List.set_cons_succ])
    refine wpAnyH_done (by kernel_rfl) ?_ _
    clear hHeld
    go_wp2_with fail
    go_ret
    exact ⟨A4, c4, rfl, hcp4, by rw [hgb]; exact hO4, bl_step hb1 hb14⟩
end Go.Proofs.YtjjdgbhplechbaaDoor.Cv
