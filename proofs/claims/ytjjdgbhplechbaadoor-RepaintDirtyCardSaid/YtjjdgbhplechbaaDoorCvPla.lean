/- PaintPlays, walked. Printed by gen_plays23.py. -/
import Derived.Test.YtjjdgbhplechbaaDoorCvPt
set_option linter.unusedVariables false
set_option linter.unusedSimpArgs false
namespace Go.Proofs.YtjjdgbhplechbaaDoor.Cv
open Go.RowKit Go.Proofs.YtjjdgbhplechbaaDoor.Kit Go.Proofs.YtjjdgbhplechbaaDoor.Rect Go.Proofs.YtjjdgbhplechbaaDoor.Pix
theorem paintV_pl {W H : Nat} {clip : List R} {m l : List Im} (h : m.map pl = l.map pl) (L : List Int) (v : Vw) : paintV W H clip m L v = paintV W H clip l L v := by
  have e := find_pl h v.b
  unfold paintV
  cases h1 : findI m v.b with
  | none =>
    cases h2 : findI l v.b with
    | none => rfl
    | some a => rw [h1, h2] at e; simp at e
  | some g =>
    cases h2 : findI l v.b with
    | none => rw [h1, h2] at e; simp at e
    | some a =>
      rw [h1, h2] at e
      simp only [Option.map_some, Option.some.injEq, pl, Prod.mk.injEq] at e
      obtain ⟨_, e1, e2, e3⟩ := e
      simp only [e1, e2, e3]
theorem foldP_pl {W H : Nat} {clip : List R} {m l : List Im} (h : m.map pl = l.map pl) (vs : List Vw) (L : List Int) : vs.foldl (paintV W H clip m) L = vs.foldl (paintV W H clip l) L := by
  have : paintV W H clip m = paintV W H clip l := by funext L v; exact paintV_pl h L v
  rw [this]
theorem drawn_len {W H : Nat} {l : List R} {f : Nat → Nat → Int → Int} {L : List Int} : (drawn W H l f L).length = L.length := pnt_len
theorem partL_clip {W H : Nat} {c1 c2 : List R} {m : List Im} {vs : List Vw} {back : Int} {L : List Int} (hW : 0 < W) (hL : L.length = W * H) (h : ∀ x y : Nat, x < W → y < H → inn c1 (x : Int) (y : Int) = inn c2 (x : Int) (y : Int)) : partL W H back vs m c1 L = partL W H back vs m c2 L := by
  unfold partL
  rw [drawn_clip hW hL h]
  exact foldP_clip hW h vs _ (by rw [drawn_len]; exact hL)
/-- painted everywhere: All, and the reference's Part -/
theorem all_part {W H : Nat} {m l : List Im} {vs : List Vw} {back : Int} {L : List Int} (hm : m.map pl = l.map pl) (hW : 0 < W) (hW2 : W ≤ 48) (hH2 : H ≤ 48) (hL : L.length = W * H) : allL W H back vs m L = partL W H back vs l [evR] L := by
  rw [show allL W H back vs m L = partL W H back vs m [⟨0, 0, (W : Int), (H : Int)⟩] L from rfl]
  rw [partL_clip hW hL (c2 := [evR]) (fun x y hx hy => by rw [inn_ev (by omega) (by omega)]; exact inn_field hW2 hH2 hx hy)]
  exact foldP_pl hm vs _
theorem h64_ev : ∀ r ∈ [evR], I64 r := by intro r hr; obtain rfl := List.mem_singleton.1 hr; unfold I64 evR; simp only; omega
theorem px_rds {w : World} {q n : Nat} {L : List Int} (h : Bk w q 22 (pxV L)) (hn : L.length = n) : Rds w w.heap.size 1 (some ⟨q, 0, none⟩) n (L.map (Value.int .u32)) := by
  have := Rds.block (n := n) (sz := 1) h (by rw [px_size, Nat.mul_one, hn]) h.lt
  simpa [pxV] using this
theorem same_wn (A B : Option Addr) (n : Nat) (L : List Int) (w : World) (hL : L.length = n) (hn : n ≤ 1000000) (hA : Rds w w.heap.size 1 A n (L.map (Value.int .u32))) (hB : Rds w w.heap.size 1 B n (L.map (Value.int .u32))) :
    Calls Tryd.prog 33 #[.slice A n n, .slice B n n] w fun e w' => e = .returned (.bool true) ∧ Below w.heap.size w w' := by
  subst hL
  exact same_words A B _ _ L w hn hA hB

set_option maxRecDepth 100000 in
set_option maxHeartbeats 32000000 in
theorem pplays_law (a b back : Int) (A : Option Addr) (lc : Nat) (l : List Vw) (A' : Option Addr) (lc' : Nat) (im : List Im) (w : World) (hback : 0 ≤ back ∧ back < 4294967296)
    (hl : Rds w w.heap.size 6 A l.length (l.flatMap vwC)) (hr : RdI w w.heap.size A' im) :
    Calls Tryd.prog 8 #[.int .i64 a, .int .i64 b, .int .u32 back, .slice A l.length lc, .slice A' im.length lc'] w fun e w' => e = .returned (.bool true) ∧ Below w.heap.size w w' := by
  obtain ⟨iV, hiV, zV0, zV1, zV2⟩ := info_parts infoV
  have hback := Lib.hid hback
  go_enter Tryd.func8, Tryd.ntmps8
  go_wp2_with fail
  refine (images_any A' lc' im w hr).mono ?_
  rintro e w1 ⟨hb1, hcase⟩
  rcases hcase with ⟨hbad, rfl⟩ | ⟨hok, A1, c1, m, rfl, hmp, hown, hownI⟩
  · go_wp2_with fail
    refine (place_any a 20 w1 (by omega) (by omega)).mono ?_
    rintro e _ ⟨rfl, rfl⟩
    obtain ⟨P, hP⟩ : ∃ n, a % 20 = n := ⟨_, rfl⟩
    have lP : 0 ≤ P := by rw [← hP]; exact Int.emod_nonneg _ (by omega)
    have mP : P < 20 := by rw [← hP]; exact Int.emod_lt_of_pos _ (by omega)
    rw [hP]
    clear hP
    go_wp2_with fail
    refine (place_any b 20 w1 (by omega) (by omega)).mono ?_
    rintro e _ ⟨rfl, rfl⟩
    obtain ⟨Q, hQ⟩ : ∃ n, b % 20 = n := ⟨_, rfl⟩
    have lQ : 0 ≤ Q := by rw [← hQ]; exact Int.emod_nonneg _ (by omega)
    have mQ : Q < 20 := by rw [← hQ]; exact Int.emod_lt_of_pos _ (by omega)
    rw [hQ]
    clear hQ
    go_wp2_with fail
    refine (new_any' (1 + P) (1 + Q) w1 (by omega) (by omega) (by omega) (by omega)).mono ?_
    rintro e w2 ⟨c, p, W, H, hW, hH, rfl, hc, hc0, hp0, hb2⟩
    rw [hW, hH]
    clear hW hH lP mP lQ mQ
    go_wp2_with fail
    refine (rnew_any W H w2 hc.w1 hc.w2 hc.h1 hc.h2).mono ?_
    rintro e w3 ⟨d, q, rfl, hd, hd0, hq0, hb3⟩
    go_wp2_with fail
    refine (awake23_any w3).mono ?_
    rintro e wz ⟨rfl, hbz⟩
    go_wp2_with fail
    go_ret
    exact ⟨rfl, bl_step (bl_step (bl_step hb1 hb2) hb3) hbz⟩
  have hi8 : im.length ≤ 8 := by
    unfold okI at hok
    rw [Bool.and_eq_true] at hok
    simpa using hok.1
  have hml : m.length ≤ 1000000 := by have := congrArg List.length hmp; simp at this; omega
  have himl : im.length ≤ 1000000 := by omega
  have hm1 : RdI w1 w1.heap.size A1 m := ⟨Rds.own hown, fun g hg => Rds.own (hownI g hg), u32_pl hmp hr.u32⟩
  have hoff : ∀ p, w1.heap.size ≤ p → Off p A1 m := fun p hp => ⟨fun ad e => by subst e; have := (hown.lt ad.block rfl).2; omega, fun g hg ad e => by have := ((hownI g hg).lt ad.block (by rw [e]; rfl)).2; omega⟩
  have hmp := Lib.hid hmp
  have hoff := Lib.hid hoff
  have hm1 := Lib.hid hm1
  have hr := Lib.hid hr
  clear hown hownI hok hi8
  go_wp2_with fail
  refine (place_any a 20 w1 (by omega) (by omega)).mono ?_
  rintro e _ ⟨rfl, rfl⟩
  obtain ⟨P, hP⟩ : ∃ n, a % 20 = n := ⟨_, rfl⟩
  have lP : 0 ≤ P := by rw [← hP]; exact Int.emod_nonneg _ (by omega)
  have mP : P < 20 := by rw [← hP]; exact Int.emod_lt_of_pos _ (by omega)
  rw [hP]
  clear hP
  go_wp2_with fail
  refine (place_any b 20 w1 (by omega) (by omega)).mono ?_
  rintro e _ ⟨rfl, rfl⟩
  obtain ⟨Q, hQ⟩ : ∃ n, b % 20 = n := ⟨_, rfl⟩
  have lQ : 0 ≤ Q := by rw [← hQ]; exact Int.emod_nonneg _ (by omega)
  have mQ : Q < 20 := by rw [← hQ]; exact Int.emod_lt_of_pos _ (by omega)
  rw [hQ]
  clear hQ
  go_wp2_with fail
  refine (new_any' (1 + P) (1 + Q) w1 (by omega) (by omega) (by omega) (by omega)).mono ?_
  rintro e w2 ⟨c, p, W, H, hW, hH, rfl, hc, hc0, hp0, hb2⟩
  rw [hW, hH]
  clear hW hH lP mP lQ mQ
  go_wp2_with fail
  refine (rnew_any W H w2 hc.w1 hc.w2 hc.h1 hc.h2).mono ?_
  rintro e w3 ⟨d, q, rfl, hd, hd0, hq0, hb3⟩
  have hw2 := bl_step hb1 hb2
  have hw3 := bl_step hw2 hb3
  have hc3 := hc.be hb3
  by_cases h12 : 12 < l.length
  · have d12 : decide ((12 : Int) < (l.length : Int)) = true := dec_t (lt_cast h12)
    go_wp2_with fail
    refine (awake23_any w3).mono ?_
    rintro e wz ⟨rfl, hbz⟩
    go_wp2_with fail
    go_ret
    exact ⟨rfl, bl_step hw3 hbz⟩
  have d12 : decide ((12 : Int) < (l.length : Int)) = false := dec_f (nlt_cast h12)
  have hs1 := hb1.size
  have hs2 := hb2.size
  have hs3 := hb3.size
  have hcl := hc.hd.lt
  have hpl := hc.px.lt
  have hl3 := (hl.be hw3).more hw3.size
  go_wp2_with (first
    | (at_builtin; (refine wpList_app _ rfl (.const (.slice none 0 0)) (.tmp 56) _ rfl w3.heap.size 60 iV _ 6 48 Tryd.underlying53 hiV zV0 zV1 zV2 rfl (by omega) (.slice none 0 0) 0 [] rfl (World.ownsRow_nil _ _ _ _) w3.heap.size A l.length lc (l.flatMap vwC) rfl hl3 (vwC_one l) (by simp only [maxLen]; omega) (by omega) (Nat.le_refl _) ?_); intro v4 w4 own4 hg4 hat4; rw [Nat.zero_add, List.nil_append] at own4; have hb4 : Below w3.heap.size w3 w4 := (Below.refl _ _).grown hg4 (Nat.le_refl _) (by simp [Value.ownBlock]); obtain ⟨A4, c4, rfl, _⟩ := own_form own4; have hs4 := hb4.size))
  have hp3 : p < w3.heap.size := by omega
  refine (all_any c p W H _ back A4 c4 l A1 c1 m w4 (hc3.be hb4) hback.out (Rds.own own4) (fun _ ad e => by subst e; have := (own4.lt ad.block rfl).1; omega) (by omega) ((hm1.out.be (bl_step (bl_step hb2 hb3) hb4)).more (bl_step (bl_step hb2 hb3) hb4).size) (hoff.out p hp0) hml).mono ?_
  rintro e w6 ⟨rfl, hs6, hc6⟩
  have hw4 := bl_step hw3 hb4
  have hw6 : Below w.heap.size w w6 := hs6.below hw4 (by omega) hw4.size
  have hd6 : Cr w6 d q W H _ := (hd.be hb4).sav hs6 (by omega) (by omega)
  have hs6s := hs6.size
  have hl6 := (hl.be hw6).more hw6.size
  have hm6 := Lib.hid ((hr.out.be hw6).more hw6.size)
  have hpq : p ≠ q := by omega
  have hcq : c ≠ q := by omega
  have hqw : w.heap.size ≤ q := by omega
  have hq6 : q < w6.heap.size := hd6.px.lt
  have hL0 : (List.replicate (W * H) (0 : Int)).length = W * H := by simp
  have hall := Lib.hid (all_part (vs := l) (back := back) hmp.out (show 0 < W from hc.w1) hc.w2 hc.h2 hL0)
  have h20 := Lib.hid (wh_le hc.w2 hc.h2)
  have hlq := Lib.hid (Rds.off hl hqw)
  have hiq := Lib.hid (hr.out.off hqw)
  have hc6 := Lib.hid hc6
  have hd6 := Lib.hid hd6
  clear own4 hb4 hg4 hs6 hw4 hw3 hw2 hc3 hc hd hl3 hb1 hb2 hb3 hs1 hs2 hs3 hs4 hs6s hcl hpl hp3 hc0 hp0 hd0 hq0 hL0
  go_wp2_with fail
  refine (ev_any w6).mono ?_
  rintro e w7 ⟨ge, rfl, Be, hge, hb7⟩
  have hq7 : ge ≠ q := by omega
  have hw7 := bl_step hw6 hb7
  go_wp2_with fail
  refine (rpart_any d q W H _ back A lc l A' lc' im (some ⟨ge, 0, none⟩) 1 [evR] w7 (hd6.out.be hb7) hback.out ((hl6.be hb7).more hb7.size) hlq.out (by omega) ((hm6.out.be hb7).more hb7.size) hiq.out himl (one_rds Be) (by intro _ ad e; injection e with e; subst e; exact hq7) h64_ev (by simp)).mono ?_
  rintro e w8 ⟨rfl, hs8, hd8⟩
  have hw8 : Below w.heap.size w w8 := hs8.below hw7 hqw hw7.size
  have hc8 := (hc6.out.be hb7).sav hs8 hcq hpq
  rw [← hall.out] at hd8
  obtain ⟨L8, hL8⟩ : ∃ L8, allL W H back l m (List.replicate (W * H) 0) = L8 := ⟨_, rfl⟩
  rw [hL8] at hd8 hc8
  have hd8c := hd8.hd
  have hc8 := Lib.hid hc8
  have hd8 := Lib.hid hd8
  clear hL8 hs8 hb7 hq7 hq6 hall Be hl6
  go_upto_region 9 with fail
  have hS : ∀ w' : World, Below w8.heap.size w8 w' → (Below w8.heap.size w8 w' ∧ w'.cell? ⟨d, 2, none⟩ = some (.slice (some ⟨q, 0, none⟩) (W * H) (W * H))) := fun w' hb => ⟨hb, (hd8c.be hb).cell 2⟩
  have hS := Lib.hid hS
  refine wp_region_held_drew (S := fun w' : World => Below w8.heap.size w8 w' ∧ w'.cell? ⟨d, 2, none⟩ = some (.slice (some ⟨q, 0, none⟩) (W * H) (W * H))) (by kernel_rfl) (by (try dsimp only); exact hS.out _ (by repeat (first | (with_reducible exact Below.refl _ _) | (with_reducible assumption) | (with_reducible apply bl_drew)))) (fun hHeld => ?_)
  refine wpAnyH_take (i := 0) (v := ?_) rfl (by kernel_rfl) (by kernel_rfl) (by kernel_rfl) (fun _ _ _ h => h) (Or.inl ⟨by rfl, ?_⟩) (by assumption) ?_
  rotate_left
  · (intro w hSw; (try dsimp only at hSw); go_simp; try (with_reducible rfl))
  (try simp only [Act.put, List.setIfInBounds_toArray, List.set_cons_zero, List.set_cons_succ])
  refine wpAnyH_take (i := 2) (v := ?_) rfl (by kernel_rfl) (by kernel_rfl) (by kernel_rfl) (fun _ _ _ h => h) (Or.inl ⟨by rfl, ?_⟩) (by assumption) ?_
  rotate_left
  · (intro w hSw; (try dsimp only at hSw); go_simp; try (with_reducible rfl))
  (try simp only [Act.put, List.setIfInBounds_toArray, List.set_cons_zero, List.set_cons_succ])
  refine wpAnyH_take (i := 3) (v := ?_) rfl (by kernel_rfl) (by kernel_rfl) (by kernel_rfl) (fun _ _ _ h => h) (Or.inl ⟨by rfl, ?_⟩) (by assumption) ?_
  rotate_left
  · (intro w hSw; (try dsimp only at hSw); go_simp; try (with_reducible rfl))
  (try simp only [Act.put, List.setIfInBounds_toArray, List.set_cons_zero, List.set_cons_succ])
  refine wpAnyH_take (i := 4) (v := ?_) rfl (by kernel_rfl) (by kernel_rfl) (by kernel_rfl) (fun _ _ _ h => h) (Or.inl ⟨by rfl, ?_⟩) (by assumption) ?_
  rotate_left
  · (intro w hSw; (try dsimp only at hSw); go_simp; try (with_reducible rfl))
  (try simp only [Act.put, List.setIfInBounds_toArray, List.set_cons_zero, List.set_cons_succ])
  refine wpAnyH_take (i := 5) (v := ?_) rfl (by kernel_rfl) (by kernel_rfl) (by kernel_rfl) (fun _ _ _ h => h) (Or.inl ⟨by rfl, ?_⟩) (by assumption) ?_
  rotate_left
  · (intro w hSw; (try dsimp only at hSw); go_simp; try (with_reducible rfl))
  (try simp only [Act.put, List.setIfInBounds_toArray, List.set_cons_zero, List.set_cons_succ])
  refine wpAnyH_ready (rs := [1]) (by kernel_rfl) (by simp) ?_
  refine AllReadyH.cons (i := 1) rfl (fun K hK => ?_) AllReadyH.nil
  go_simp
  go_at_call 18
  have hbe : Below w8.heap.size w8 w8.drew := bl_drew (Below.refl _ _)
  refine (pixels_any c p W H L8 _ (hc8.out.be hbe)).mono ?_
  rintro e w9 ⟨r1, rfl, Br1, hr1, hb9⟩
  have hb9' : Below w8.heap.size w8 w9 := bl_step hbe hb9
  try (go_wp2_with fail)
  refine hK.out _ _ (by (try dsimp only); exact hS.out _ (by repeat (first | (with_reducible exact Below.refl _ _) | (with_reducible assumption) | (with_reducible apply bl_drew)))) (fun hHeld2 => ?_)
  clear hHeld
  rename _ => hHeld
  clear hK K
  (try simp only [Act.put, List.setIfInBounds_toArray, List.set_cons_zero, List.set_cons_succ])
  refine wpAnyH_ready (rs := [6]) (by kernel_rfl) (by simp) ?_
  refine AllReadyH.cons (i := 6) rfl (fun K hK => ?_) AllReadyH.nil
  go_simp
  go_at_call 33
  refine (same_wn (some ⟨r1, 0, none⟩) (some ⟨q, 0, none⟩) (W * H) L8 w9 hd8.out.len (Nat.le_trans h20.out (by omega)) (px_rds Br1 hd8.out.len) (px_rds ((hd8.out.be hb9').px) hd8.out.len)).mono ?_
  rintro e w10 ⟨rfl, hb10⟩
  have hb10' : Below w8.heap.size w8 w10 := bl_step hb9' hb10
  try (go_wp2_with fail)
  refine hK.out _ _ (by (try dsimp only); exact hS.out _ (by repeat (first | (with_reducible exact Below.refl _ _) | (with_reducible assumption) | (with_reducible apply bl_drew)))) (fun hHeld2 => ?_)
  clear hHeld
  rename _ => hHeld
  clear hK K
  (try simp only [Act.put, List.setIfInBounds_toArray, List.set_cons_zero, List.set_cons_succ])
  refine wpAnyH_take (i := 7) (v := ?_) rfl (by kernel_rfl) (by kernel_rfl) (by kernel_rfl) (fun _ _ _ h => h) (Or.inl ⟨by rfl, ?_⟩) (by assumption) ?_
  rotate_left
  · (intro w hSw; (try dsimp only at hSw); go_simp; try (with_reducible rfl))
  (try simp only [Act.put, List.setIfInBounds_toArray, List.set_cons_zero, List.set_cons_succ])
  refine wpAnyH_ready (rs := [8]) (by kernel_rfl) (by simp) ?_
  refine AllReadyH.cons (i := 8) rfl (fun K hK => ?_) AllReadyH.nil
  rw [if_pos (by kernel_rfl)]
  go_simp
  go_at_call 28
  refine (awake23_any w10).mono ?_
  rintro e w11 ⟨rfl, hb11⟩
  have hb11' : Below w8.heap.size w8 w11 := bl_step hb10' hb11
  try (go_wp2_with fail)
  refine hK.out _ _ (by (try dsimp only); exact hS.out _ (by repeat (first | (with_reducible exact Below.refl _ _) | (with_reducible assumption) | (with_reducible apply bl_drew)))) (fun hHeld2 => ?_)
  clear hHeld
  rename _ => hHeld
  clear hK K
  (try simp only [Act.put, List.setIfInBounds_toArray, List.set_cons_zero, List.set_cons_succ])
  refine wpAnyH_take (i := 9) (v := ?_) rfl (by kernel_rfl) (by kernel_rfl) (by kernel_rfl) (fun _ _ _ h => h) (Or.inl ⟨by rfl, ?_⟩) (by assumption) ?_
  rotate_left
  · (intro w hSw; (try dsimp only at hSw); go_simp; try (with_reducible rfl))
  (try simp only [Act.put, List.setIfInBounds_toArray, List.set_cons_zero, List.set_cons_succ])
  refine wpAnyH_ready (rs := [10]) (by kernel_rfl) (by simp) ?_
  refine AllReadyH.cons (i := 10) rfl (fun K hK => ?_) AllReadyH.nil
  go_simp
  refine hK.out _ _ hHeld (fun hHeld2 => ?_)
  clear hHeld2 hK K
  (try simp only [Act.put, List.setIfInBounds_toArray, List.set_cons_zero, List.set_cons_succ])
  refine wpAnyH_done (by kernel_rfl) ?_ _
  clear hHeld
  go_wp2_with fail
  go_ret
  exact ⟨rfl, bl_step hw8 hb11'⟩
theorem PaintPlays_walk (a : Int) (wa : (Lit.int .i64 a).wf = true) (b : Int) (wb : (Lit.int .i64 b).wf = true) (back : Int) (wk : (Lit.int .u32 back).wf = true) (A : Option Addr) (lc : Nat) (l : List Vw) (A' : Option Addr) (lc' : Nat) (im : List Im) (w : World)
    (hl : l.length ≤ lc) (rd : Rds w w.heap.size 6 A l.length (l.flatMap vwC)) (mx : l.length ≤ 9223372036854775807) (hl' : im.length ≤ lc') (rd' : RdI w w.heap.size A' im) (mx' : im.length ≤ 9223372036854775807) :
    Calls Tryd.prog 8 #[.int .i64 a, .int .i64 b, .int .u32 back, .slice A l.length lc, .slice A' im.length lc'] w fun e w' => e = .returned (.bool true) ∧ Below w.heap.size w w' :=
  pplays_law a b back A lc l A' lc' im w (by have := bounds_u32 wk; omega) rd rd'
end Go.Proofs.YtjjdgbhplechbaaDoor.Cv
