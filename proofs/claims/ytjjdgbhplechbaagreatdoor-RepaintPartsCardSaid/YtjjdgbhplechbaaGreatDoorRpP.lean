/- RepaintParts, walked. Printed by gen_parts24.py. -/
import Derived.Test.YtjjdgbhplechbaaGreatDoorCvPla
import Derived.Test.YtjjdgbhplechbaaGreatDoorCvOp
import Derived.Test.YtjjdgbhplechbaaGreatDoorDm6
set_option linter.unusedVariables false
set_option linter.unusedSimpArgs false
namespace Go.Proofs.YtjjdgbhplechbaaGreatDoor.Cv
open Go.RowKit Go.Proofs.YtjjdgbhplechbaaGreatDoor.Kit Go.Proofs.YtjjdgbhplechbaaGreatDoor.Rect Go.Proofs.YtjjdgbhplechbaaGreatDoor.Pix
theorem u32_bd (n : Int) : 0 ≤ IntKind.u32.wrap n ∧ IntKind.u32.wrap n < 4294967296 := by
  rw [IntKind.wrap_u32]
  omega
theorem partL_pl {W H : Nat} {clip : List R} {m l : List Im} (h : m.map pl = l.map pl) (vs : List Vw) (back : Int) (L : List Int) : partL W H back vs m clip L = partL W H back vs l clip L := foldP_pl h vs _

set_option maxRecDepth 100000 in
set_option maxHeartbeats 32000000 in
theorem rparts_law (back : Int) (A : Option Addr) (la : Nat) (a : List Vw) (B : Option Addr) (lb : Nat) (b : List Vw) (A' : Option Addr) (lc' : Nat) (im : List Im) (K : Option Addr) (lk : Nat) (clip : List R) (w : World) (hback : 0 ≤ back ∧ back < 4294967296)
    (ha : Rds w w.heap.size 6 A a.length (a.flatMap vwC)) (hb : Rds w w.heap.size 6 B b.length (b.flatMap vwC)) (hr : RdI w w.heap.size A' im) (hk : Rds w w.heap.size 4 K clip.length (clip.flatMap rC)) (h64 : ∀ r ∈ clip, I64 r) :
    Calls Tryz.prog 3 #[.int .u32 back, .slice A a.length la, .slice B b.length lb, .slice A' im.length lc', .slice K clip.length lk] w fun e w' => e = .returned (.bool true) ∧ Below w.heap.size w w' := by
  have hback := Lib.hid hback
  have h64 := Lib.hid h64
  obtain ⟨b2, hw2⟩ : ∃ b2, IntKind.u32.wrap (back + 1) = b2 := ⟨_, rfl⟩
  have hb2d := Lib.hid (show 0 ≤ b2 ∧ b2 < 4294967296 from hw2 ▸ u32_bd _)
  go_enter Tryz.func3, Tryz.ntmps3
  go_wp2_with fail
  refine (images_any A' lc' im w hr).mono ?_
  rintro e w1 ⟨hb1, hcase⟩
  rcases hcase with ⟨hbad, rfl⟩ | ⟨hok, A1, c1, m, rfl, hmp, hown, hownI⟩
  · go_wp2_with fail
    refine (new_any 11 8 w1 (by omega) (by omega) (by omega) (by omega)).mono ?_
    rintro e w2 ⟨c, p, rfl, hc, hc0, hp0, hb2⟩
    go_wp2_with fail
    refine (rnew_any 11 8 w2 (by omega) (by omega) (by omega) (by omega)).mono ?_
    rintro e w3 ⟨d, q, rfl, hd, hd0, hq0, hb3⟩
    go_wp2_with fail
    refine (awake24_any w3).mono ?_
    rintro e wz ⟨rfl, hbz⟩
    go_wp2_with fail
    go_ret
    exact ⟨rfl, bl_step (bl_step (bl_step hb1 hb2) hb3) hbz⟩
  have hi8 : im.length ≤ 8 := by
    unfold okI at hok
    rw [Bool.and_eq_true] at hok
    simpa using hok.1
  have hml : m.length ≤ 1000000 := by have := congrArg List.length hmp; simp at this; omega
  have himl : im.length ≤ 1000000 := by omega
  have hm1 : RdI w1 w1.heap.size A1 m := ⟨Rds.own hown, fun g hg => Rds.own (hownI g hg), u32_pl hmp hr.u32⟩
  have hoff : ∀ p, w1.heap.size ≤ p → Off p A1 m := fun p hp => ⟨fun ad e => by subst e; have := (hown.lt ad.block rfl).2; omega, fun g hg ad e => by have := ((hownI g hg).lt ad.block (by rw [e]; rfl)).2; omega⟩
  have hmp := Lib.hid hmp
  have hoff := Lib.hid hoff
  have hm1 := Lib.hid hm1
  have hr := Lib.hid hr
  clear hown hownI hok hi8
  go_wp2_with fail
  refine (new_any 11 8 w1 (by omega) (by omega) (by omega) (by omega)).mono ?_
  rintro e w2 ⟨c, p, rfl, hc, hc0, hp0, hb2⟩
  go_wp2_with fail
  refine (rnew_any 11 8 w2 (by omega) (by omega) (by omega) (by omega)).mono ?_
  rintro e w3 ⟨d, q, rfl, hd, hd0, hq0, hb3⟩
  have hw2' := bl_step hb1 hb2
  have hw3 := bl_step hw2' hb3
  have hc3 := hc.be hb3
  by_cases h8a : 8 < a.length
  · have d8a : decide ((8 : Int) < (a.length : Int)) = true := dec_t (lt_cast h8a)
    go_wp2_with fail
    refine (awake24_any w3).mono ?_
    rintro e wz ⟨rfl, hbz⟩
    go_wp2_with fail
    go_ret
    exact ⟨rfl, bl_step hw3 hbz⟩
  have d8a : decide ((8 : Int) < (a.length : Int)) = false := dec_f (nlt_cast h8a)
  by_cases h8b : 8 < b.length
  · have d8b : decide ((8 : Int) < (b.length : Int)) = true := dec_t (lt_cast h8b)
    go_wp2_with fail
    refine (awake24_any w3).mono ?_
    rintro e wz ⟨rfl, hbz⟩
    go_wp2_with fail
    go_ret
    exact ⟨rfl, bl_step hw3 hbz⟩
  have d8b : decide ((8 : Int) < (b.length : Int)) = false := dec_f (nlt_cast h8b)
  by_cases h6 : 6 < clip.length
  · have d6 : decide ((6 : Int) < (clip.length : Int)) = true := dec_t (lt_cast h6)
    go_wp2_with fail
    refine (awake24_any w3).mono ?_
    rintro e wz ⟨rfl, hbz⟩
    go_wp2_with fail
    go_ret
    exact ⟨rfl, bl_step hw3 hbz⟩
  have d6 : decide ((6 : Int) < (clip.length : Int)) = false := dec_f (nlt_cast h6)
  have hs1 := hb1.size
  have hs2 := hb2.size
  have hs3 := hb3.size
  have hcl := hc.hd.lt
  have hpl := hc.px.lt
  have hpw : w.heap.size ≤ p := by omega
  have hqw : w.heap.size ≤ q := by omega
  have hpq : p ≠ q := by omega
  have hqp : q ≠ p := by omega
  have hcq : c ≠ q := by omega
  have hdp : d ≠ p := by omega
  have hqw1 : w1.heap.size ≤ q := by omega
  have h13 := bl_step hb2 hb3
  have h1w := hb1.size
  have hL0 : (List.replicate (11 * 8) (0 : Int)).length = 11 * 8 := by simp
  have hall := Lib.hid (all_part (vs := a) (back := back) hmp.out (show 0 < 11 by omega) (show 11 ≤ 48 by omega) (show 8 ≤ 48 by omega) hL0)
  have hA1 : ∀ w', Below w.heap.size w w' → Rds w' w'.heap.size 6 A a.length (a.flatMap vwC) := fun w' h => (ha.be h).more h.size
  have hB1 : ∀ w', Below w.heap.size w w' → Rds w' w'.heap.size 6 B b.length (b.flatMap vwC) := fun w' h => (hb.be h).more h.size
  have hK1 : ∀ w', Below w.heap.size w w' → Rds w' w'.heap.size 4 K clip.length (clip.flatMap rC) := fun w' h => (hk.be h).more h.size
  have hI1 : ∀ w', Below w.heap.size w w' → RdI w' w'.heap.size A' im := fun w' h => (hr.out.be h).more h.size
  have hM1 : ∀ w', Below w1.heap.size w1 w' → RdI w' w'.heap.size A1 m := fun w' h => (hm1.out.be h).more h.size
  have oap := Lib.hid (Rds.off ha hpw)
  have oaq := Lib.hid (Rds.off ha hqw)
  have obp := Lib.hid (Rds.off hb hpw)
  have obq := Lib.hid (Rds.off hb hqw)
  have okq := Lib.hid (Rds.off hk hqw)
  have oiq := Lib.hid (hr.out.off hqw)
  have omp := Lib.hid (OffW.of (hoff.out p hp0))
  have omp2 := Lib.hid (hoff.out p hp0)
  have hA1 := Lib.hid hA1
  have hB1 := Lib.hid hB1
  have hK1 := Lib.hid hK1
  have hI1 := Lib.hid hI1
  have hM1 := Lib.hid hM1
  have na : a.length ≤ 1000000 := by omega
  have nb : b.length ≤ 1000000 := by omega
  have nk : clip.length ≤ 1000000 := by omega
  have hd := Lib.hid hd
  have hc3 := Lib.hid hc3
  clear hb1 hb2 hb3 hw2' hs1 hs2 hs3 hcl hpl hd0 hq0 hc0 hL0 ha hb hk hc hoff hm1 hr
  go_wp2_with fail
  refine (all_any c p 11 8 _ back A la a A1 c1 m w3 hc3.out hback.out (hA1.out w3 hw3) oap.out na (hM1.out w3 h13) omp2.out hml).mono ?_
  rintro e w4 ⟨rfl, hs4, hc4⟩
  have hw4 : Below w.heap.size w w4 := hs4.below hw3 hpw hw3.size
  have h14 : Below w1.heap.size w1 w4 := hs4.below h13 hp0 h13.size
  have hd4 := Lib.hid (hd.out.sav hs4 hdp hqp)
  rw [hall.out] at hc4
  obtain ⟨L1, hL1⟩ : ∃ L1, partL 11 8 back a im [evR] (List.replicate (11 * 8) 0) = L1 := ⟨_, rfl⟩
  rw [hL1] at hc4
  have hc4 := Lib.hid hc4
  have hq4 : q < w4.heap.size := hd4.out.px.lt
  clear hs4 hc3 hd hall
  go_wp2_with fail
  refine (ev_any w4).mono ?_
  rintro e w5 ⟨ge, rfl, Be, hge, hb5⟩
  have hq5 : ge ≠ q := by omega
  have hw5 := bl_step hw4 hb5
  go_wp2_with fail
  refine (rpart_any d q 11 8 _ back A la a A' lc' im (some ⟨ge, 0, none⟩) 1 [evR] w5 (hd4.out.be hb5) hback.out (hA1.out w5 hw5) oaq.out na (hI1.out w5 hw5) oiq.out himl (one_rds Be) (by intro _ ad e; injection e with e; subst e; exact hq5) h64_ev (by simp)).mono ?_
  rintro e w6 ⟨rfl, hs6, hd6⟩
  have hw6 : Below w.heap.size w w6 := hs6.below hw5 hqw hw5.size
  have h15 := bl_step h14 hb5
  have h16 : Below w1.heap.size w1 w6 := hs6.below h15 hqw1 h15.size
  have hc6 := Lib.hid ((hc4.out.be hb5).sav hs6 hcq hpq)
  rw [hL1] at hd6
  have hd6 := Lib.hid hd6
  have hp6 : p < w6.heap.size := hc6.out.px.lt
  clear hs6 hc4 hd4 Be hq5 hge hb5 hw5 hw4 h15 h14 hL1
  go_wp2_with fail
  refine (rects_any K lk clip w6 nk (hK1.out w6 hw6)).mono ?_
  rintro e w7 ⟨A7, c7, rfl, own7, hb7⟩
  have hw7 := bl_step hw6 hb7
  have h17 := bl_step h16 hb7
  have hk7 := Rds.own own7
  have hkp7 : 0 < clip.length → ∀ ad, A7 = some ad → ad.block ≠ p := fun _ ad e => by subst e; have := (own7.lt ad.block rfl).1; omega
  clear own7
  have hkp7 := Lib.hid hkp7
  go_wp2_with fail
  refine (part_any c p 11 8 L1 b2 B lb b A1 c1 m A7 c7 clip w7 (hc6.out.be hb7) hb2d.out (hB1.out w7 hw7) obp.out nb (hM1.out w7 h17) omp.out hml hk7 hkp7.out h64.out nk).mono ?_
  rintro e w8 ⟨rfl, hs8, hc8⟩
  have hw8 : Below w.heap.size w w8 := hs8.below hw7 hpw hw7.size
  have hd8 := Lib.hid ((hd6.out.be hb7).sav hs8 hdp hqp)
  rw [partL_pl hmp.out] at hc8
  have hc8 := Lib.hid hc8
  clear hs8 hc6 hd6 hk7 hkp7 hb7
  go_wp2_with fail
  refine (rpart_any d q 11 8 L1 b2 B lb b A' lc' im K lk clip w8 hd8.out hb2d.out (hB1.out w8 hw8) obq.out nb (hI1.out w8 hw8) oiq.out himl (hK1.out w8 hw8) okq.out h64.out nk).mono ?_
  rintro e w9 ⟨rfl, hs9, hd9⟩
  have hw9 : Below w.heap.size w w9 := hs9.below hw8 hqw hw8.size
  have hc9 := hc8.out.sav hs9 hcq hpq
  obtain ⟨L9, hL9⟩ : ∃ L9, partL 11 8 b2 b im clip L1 = L9 := ⟨_, rfl⟩
  rw [hL9] at hd9 hc9
  have hd9c := hd9.hd
  have hc9 := Lib.hid hc9
  have hd9 := Lib.hid hd9
  clear hL9 hs9 hc8 hd8
  go_upto_region 10 with fail
  have hS : ∀ w' : World, Below w9.heap.size w9 w' → (Below w9.heap.size w9 w' ∧ w'.cell? ⟨d, 2, none⟩ = some (.slice (some ⟨q, 0, none⟩) (11 * 8) (11 * 8))) := fun w' hb => ⟨hb, (hd9c.be hb).cell 2⟩
  have hS := Lib.hid hS
  refine wp_region_held_drew (S := fun w' : World => Below w9.heap.size w9 w' ∧ w'.cell? ⟨d, 2, none⟩ = some (.slice (some ⟨q, 0, none⟩) (11 * 8) (11 * 8))) (by kernel_rfl) (by (try dsimp only); exact hS.out _ (by repeat (first | (with_reducible exact Below.refl _ _) | (with_reducible assumption) | (with_reducible apply bl_drew)))) (fun hHeld => ?_)
  refine wpAnyH_take (i := 0) (v := ?_) rfl (by kernel_rfl) (by kernel_rfl) (by kernel_rfl) (fun _ _ _ h => h) (Or.inl ⟨by rfl, ?_⟩) (by assumption) ?_
  rotate_left
  · (intro w hSw; (try dsimp only at hSw); go_simp; try (with_reducible rfl))
  (try simp only [Act.put, List.setIfInBounds_toArray, List.set_cons_zero, List.set_cons_succ])
  refine wpAnyH_take (i := 2) (v := ?_) rfl (by kernel_rfl) (by kernel_rfl) (by kernel_rfl) (fun _ _ _ h => h) (Or.inl ⟨by rfl, ?_⟩) (by assumption) ?_
  rotate_left
  · (intro w hSw; (try dsimp only at hSw); go_simp; try (with_reducible rfl))
  (try simp only [Act.put, List.setIfInBounds_toArray, List.set_cons_zero, List.set_cons_succ])
  refine wpAnyH_take (i := 3) (v := ?_) rfl (by kernel_rfl) (by kernel_rfl) (by kernel_rfl) (fun _ _ _ h => h) (Or.inl ⟨by rfl, ?_⟩) (by assumption) ?_
  rotate_left
  · (intro w hSw; (try dsimp only at hSw); go_simp; try (with_reducible rfl))
  (try simp only [Act.put, List.setIfInBounds_toArray, List.set_cons_zero, List.set_cons_succ])
  refine wpAnyH_take (i := 4) (v := ?_) rfl (by kernel_rfl) (by kernel_rfl) (by kernel_rfl) (fun _ _ _ h => h) (Or.inl ⟨by rfl, ?_⟩) (by assumption) ?_
  rotate_left
  · (intro w hSw; (try dsimp only at hSw); go_simp; try (with_reducible rfl))
  (try simp only [Act.put, List.setIfInBounds_toArray, List.set_cons_zero, List.set_cons_succ])
  refine wpAnyH_take (i := 5) (v := ?_) rfl (by kernel_rfl) (by kernel_rfl) (by kernel_rfl) (fun _ _ _ h => h) (Or.inl ⟨by rfl, ?_⟩) (by assumption) ?_
  rotate_left
  · (intro w hSw; (try dsimp only at hSw); go_simp; try (with_reducible rfl))
  (try simp only [Act.put, List.setIfInBounds_toArray, List.set_cons_zero, List.set_cons_succ])
  refine wpAnyH_ready (rs := [1]) (by kernel_rfl) (by simp) ?_
  refine AllReadyH.cons (i := 1) rfl (fun K hK => ?_) AllReadyH.nil
  go_simp
  go_at_call 15
  have hbe : Below w9.heap.size w9 w9.drew := bl_drew (Below.refl _ _)
  refine (pixels_any c p 11 8 L9 _ (hc9.out.be hbe)).mono ?_
  rintro e wA ⟨r1, rfl, Br1, hr1, hbA⟩
  have hbA' : Below w9.heap.size w9 wA := bl_step hbe hbA
  try (go_wp2_with fail)
  refine hK.out _ _ (by (try dsimp only); exact hS.out _ (by repeat (first | (with_reducible exact Below.refl _ _) | (with_reducible assumption) | (with_reducible apply bl_drew)))) (fun hHeld2 => ?_)
  clear hHeld
  rename _ => hHeld
  clear hK K
  (try simp only [Act.put, List.setIfInBounds_toArray, List.set_cons_zero, List.set_cons_succ])
  refine wpAnyH_ready (rs := [6]) (by kernel_rfl) (by simp) ?_
  refine AllReadyH.cons (i := 6) rfl (fun K hK => ?_) AllReadyH.nil
  go_simp
  go_at_call 14
  refine (same_wn (some ⟨r1, 0, none⟩) (some ⟨q, 0, none⟩) (11 * 8) L9 wA hd9.out.len (by omega) (px_rds Br1 hd9.out.len) (px_rds ((hd9.out.be hbA').px) hd9.out.len)).mono ?_
  rintro e wB ⟨rfl, hbB⟩
  have hbB' : Below w9.heap.size w9 wB := bl_step hbA' hbB
  try (go_wp2_with fail)
  refine hK.out _ _ (by (try dsimp only); exact hS.out _ (by repeat (first | (with_reducible exact Below.refl _ _) | (with_reducible assumption) | (with_reducible apply bl_drew)))) (fun hHeld2 => ?_)
  clear hHeld
  rename _ => hHeld
  clear hK K
  (try simp only [Act.put, List.setIfInBounds_toArray, List.set_cons_zero, List.set_cons_succ])
  refine wpAnyH_take (i := 7) (v := ?_) rfl (by kernel_rfl) (by kernel_rfl) (by kernel_rfl) (fun _ _ _ h => h) (Or.inl ⟨by rfl, ?_⟩) (by assumption) ?_
  rotate_left
  · (intro w hSw; (try dsimp only at hSw); go_simp; try (with_reducible rfl))
  (try simp only [Act.put, List.setIfInBounds_toArray, List.set_cons_zero, List.set_cons_succ])
  refine wpAnyH_ready (rs := [8]) (by kernel_rfl) (by simp) ?_
  refine AllReadyH.cons (i := 8) rfl (fun K hK => ?_) AllReadyH.nil
  rw [if_pos (by kernel_rfl)]
  go_simp
  go_at_call 8
  refine (awake24_any wB).mono ?_
  rintro e wC ⟨rfl, hbC⟩
  have hbC' : Below w9.heap.size w9 wC := bl_step hbB' hbC
  try (go_wp2_with fail)
  refine hK.out _ _ (by (try dsimp only); exact hS.out _ (by repeat (first | (with_reducible exact Below.refl _ _) | (with_reducible assumption) | (with_reducible apply bl_drew)))) (fun hHeld2 => ?_)
  clear hHeld
  rename _ => hHeld
  clear hK K
  (try simp only [Act.put, List.setIfInBounds_toArray, List.set_cons_zero, List.set_cons_succ])
  refine wpAnyH_take (i := 9) (v := ?_) rfl (by kernel_rfl) (by kernel_rfl) (by kernel_rfl) (fun _ _ _ h => h) (Or.inl ⟨by rfl, ?_⟩) (by assumption) ?_
  rotate_left
  · (intro w hSw; (try dsimp only at hSw); go_simp; try (with_reducible rfl))
  (try simp only [Act.put, List.setIfInBounds_toArray, List.set_cons_zero, List.set_cons_succ])
  refine wpAnyH_ready (rs := [10]) (by kernel_rfl) (by simp) ?_
  refine AllReadyH.cons (i := 10) rfl (fun K hK => ?_) AllReadyH.nil
  go_simp
  refine hK.out _ _ hHeld (fun hHeld2 => ?_)
  clear hHeld2 hK K
  (try simp only [Act.put, List.setIfInBounds_toArray, List.set_cons_zero, List.set_cons_succ])
  refine wpAnyH_done (by kernel_rfl) ?_ _
  clear hHeld
  go_wp2_with fail
  go_ret
  exact ⟨rfl, bl_step hw9 hbC'⟩
theorem RepaintParts_walk (back : Int) (wk : (Lit.int .u32 back).wf = true) (A : Option Addr) (la : Nat) (a : List Vw) (B : Option Addr) (lb : Nat) (b : List Vw) (A' : Option Addr) (lc' : Nat) (im : List Im) (K : Option Addr) (lk : Nat) (clip : List R) (w : World)
    (h1 : a.length ≤ la) (rd1 : Rds w w.heap.size 6 A a.length (a.flatMap vwC)) (mx1 : a.length ≤ 9223372036854775807) (h2 : b.length ≤ lb) (rd2 : Rds w w.heap.size 6 B b.length (b.flatMap vwC)) (mx2 : b.length ≤ 9223372036854775807) (h3 : im.length ≤ lc') (rd3 : RdI w w.heap.size A' im) (mx3 : im.length ≤ 9223372036854775807) (h4 : clip.length ≤ lk) (rd4 : Rds w w.heap.size 4 K clip.length (clip.flatMap rC)) (mx4 : (∀ r ∈ clip, I64 r) ∧ clip.length ≤ 9223372036854775807) :
    Calls Tryz.prog 3 #[.int .u32 back, .slice A a.length la, .slice B b.length lb, .slice A' im.length lc', .slice K clip.length lk] w fun e w' => e = .returned (.bool true) ∧ Below w.heap.size w w' :=
  rparts_law back A la a B lb b A' lc' im K lk clip w (by have := bounds_u32 wk; omega) rd1 rd2 rd3 rd4 mx4.1
end Go.Proofs.YtjjdgbhplechbaaGreatDoor.Cv
