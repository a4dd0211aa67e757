/- tableauref14: New, In, Fill. Printed by gen_ref14.py. -/
import Derived.Test.YtjjdgbhplechbaaGreatDoorCvLat
import Derived.Test.YtjjdgbhplechbaaGreatDoorRectWalk4
set_option linter.unusedVariables false
set_option linter.unusedSimpArgs false
namespace Go.Proofs.YtjjdgbhplechbaaGreatDoor.Cv
open Go.RowKit Go.Proofs.YtjjdgbhplechbaaGreatDoor.Kit Go.Proofs.YtjjdgbhplechbaaGreatDoor.Rect Go.Proofs.YtjjdgbhplechbaaGreatDoor.Pix
/-- A canvas at c, its points at p. -/
structure Cr (w : World) (c p W H : Nat) (L : List Int) : Prop where
  hd : Bk w c 46 #[.int .i64 (W : Int), .int .i64 (H : Int), .slice (some ⟨p, 0, none⟩) (W * H) (W * H)]
  px : Bk w p 22 (pxV L)
  len : L.length = W * H
  u32 : ∀ v ∈ L, 0 ≤ v ∧ v < 4294967296
  w1 : 1 ≤ W
  w2 : W ≤ 48
  h1 : 1 ≤ H
  h2 : H ≤ 48
section
variable {w w' : World} {c p W H : Nat} {L : List Int}
theorem Cr.ne (h : Cr w c p W H L) : c ≠ p := fun e => by
  subst e
  have a := h.hd
  have b := h.px
  unfold Bk at a b
  rw [a] at b
  injection b with b
  injection b with b1 b2
  exact absurd b2 (by decide)
theorem Cr.be (h : Cr w c p W H L) (hb : Below w.heap.size w w') : Cr w' c p W H L := ⟨h.hd.be hb, h.px.be hb, h.len, h.u32, h.w1, h.w2, h.h1, h.h2⟩
theorem Cr.sav {q : Nat} (h : Cr w c p W H L) (s : Sav q w w') (hc : c ≠ q) (hp : p ≠ q) : Cr w' c p W H L := ⟨s.bk h.hd hc, s.bk h.px hp, h.len, h.u32, h.w1, h.w2, h.h1, h.h2⟩
theorem Cr.c3 (h : Cr w c p W H L) : w.cell? ⟨c, 0, none⟩ = some (.int .i64 (W : Int)) ∧ w.cell? ⟨c, 1, none⟩ = some (.int .i64 (H : Int)) ∧ w.cell? ⟨c, 2, none⟩ = some (.slice (some ⟨p, 0, none⟩) (W * H) (W * H)) := ⟨h.hd.cell 0, h.hd.cell 1, h.hd.cell 2⟩
end

set_option maxRecDepth 100000 in
set_option maxHeartbeats 8000000 in
theorem rnew_any (W H : Nat) (w : World) (h1 : 1 ≤ W) (h2 : W ≤ 48) (h3 : 1 ≤ H) (h4 : H ≤ 48) :
    Calls Tryz.prog 7 #[.int .i64 (W : Int), .int .i64 (H : Int)] w fun e w' =>
      ∃ c p, e = .returned (.pointer (some ⟨c, 0, none⟩)) ∧ Cr w' c p W H (List.replicate (W * H) 0) ∧ w.heap.size ≤ c ∧ w.heap.size ≤ p ∧ Below w.heap.size w w' := by
  obtain ⟨iU, hiU, zU0, zU1, zU2⟩ := info_parts infoU
  have m2 := wh_le h2 h4
  obtain ⟨n, hn⟩ : ∃ n, W * H = n := ⟨_, rfl⟩
  have e1 : (W : Int) * (H : Int) = (n : Int) := by rw [← hn]; simp
  rw [hn] at m2
  obtain ⟨v1, -, -, v4, -, -⟩ := row_w (y := 0) (k := n) (W := 0) (n := n) (by omega) m2 (by omega)
  have d1 : decide ((W : Int) < 1) = false := by simp; omega
  have d2 : decide ((48 : Int) < (W : Int)) = false := by simp; omega
  have d3 : decide ((H : Int) < 1) = false := by simp; omega
  have d4 : decide ((48 : Int) < (H : Int)) = false := by simp; omega
  have hn := Lib.hid hn
  have h1 := Lib.hid h1
  have h2 := Lib.hid h2
  have h3 := Lib.hid h3
  have h4 := Lib.hid h4
  go_enter Tryz.func7, Tryz.ntmps7
  go_wp2_with (at_make; go_must (refine wpList_make_full _ rfl (.tmp 23) (.tmp 23) 43 rfl w.heap.size 22 iU _ 1 Tryz.underlying43 hiU zU0 zU1 .i64 .i64 _ _ n rfl rfl rfl rfl (by rw [zU2]; omega) (by simp only [maxLen]; omega) (by omega) ?_); intro w4 hown4 hg4; have hb4 : Below w.heap.size w w4 := (Below.refl _ _).grown hg4 (Nat.le_refl _) (by intro g hg; simp at hg); have hbk := own_bk hown4)
  go_ret
  obtain rfl := hn.out
  rw [made_px] at hbk
  refine ⟨_, _, rfl, ⟨Bk.new _ _ _, hbk.al _, by simp, fun v hv => by obtain rfl := (List.mem_replicate.1 hv).2; omega, h1.out, h2.out, h3.out, h4.out⟩, hb4.size, Nat.le_refl _, bl_alloc hb4 _⟩
set_option maxHeartbeats 4000000 in
theorem in_any (A : Option Addr) (c : Nat) (l : List R) (x y : Int) (w : World) (hn : l.length ≤ 1000000) (h64 : ∀ r ∈ l, I64 r) (hx : -9223372036854775808 ≤ x ∧ x ≤ 9223372036854775807) (hy : -9223372036854775808 ≤ y ∧ y ≤ 9223372036854775807) (hL : Rds w w.heap.size 4 A l.length (l.flatMap rC)) :
    Calls Tryz.prog 43 #[.slice A l.length c, .int .i64 x, .int .i64 y] w fun e w' => e = .returned (.bool (inn l x y)) ∧ Below w.heap.size w w' := by
  have hx := Lib.hid hx
  have hy := Lib.hid hy
  have h64 := Lib.hid h64
  go_enter Tryz.func43, Tryz.ntmps43
  go_wp2_with fail
  go_loopw [7] (fun i wr => ∃ k : Nat, k ≤ l.length ∧ i = .int .i64 (k : Int) ∧ (∀ j (hj : j < l.length), j < k → rHas (rBound l[j]) x y = false) ∧ Below w.heap.size w wr) (fun i _ => l.length - (intOf i).toNat)
  case atStart => exact ⟨0, by omega, rfl, fun j hj h => absurd h (by omega), Below.refl _ _⟩
  case round =>
    obtain ⟨k, hk, rfl, hno, hbr⟩ := hrel
    have hno := Lib.hid hno
    by_cases hlt : k < l.length
    · obtain ⟨ad, rfl, hbl, c0, c1, c2, c3⟩ := Rds.rc (hL.be hbr) hlt
      have h6 := Lib.hid (h64.out l[k] (List.getElem_mem hlt))
      have i0 : (0 : Int) ≤ (k : Int) := by omega
      have i1 : (k : Int) < (l.length : Int) := by omega
      have hd : decide ((k : Int) < (l.length : Int)) = true := by simp; omega
      have hmem : l[k] ∈ l := List.getElem_mem hlt
      have hmem := Lib.hid hmem
      have hkk := Lib.hid hlt
      generalize hs : l[k] = s at *
      have hs := Lib.hid hs
      go_wp2_with fail
      refine (rBound_any s.x s.y s.w s.h wr h6.out).mono ?_
      rintro e w1 ⟨rfl, hb1⟩
      have hbr1 := bl_step hbr hb1
      go_wp2_with fail
      refine (rHas_any (rBound s).x (rBound s).y (rBound s).w (rBound s).h x y w1 (i64_bound s) hx.out hy.out).mono ?_
      rintro e w2 ⟨rfl, hb2⟩
      have hbr2 := bl_step hbr1 hb2
      cases hh : rHas (rBound s) x y with
      | true =>
        have hi : inn l x y = true := List.any_eq_true.2 ⟨s, hmem.out, hh⟩
        have hi := Lib.hid hi
        clear hh
        go_wp2_with fail
        go_ret
        exact ⟨ret_bool hi.out.symm, hbr2⟩
      | false =>
        have hh := Lib.hid hh
        go_wp2_with fail
        go_roundw
        case rel =>
          refine ⟨k + 1, hkk.out, by go_num, fun j hj hjk => ?_, hbr2⟩
          rcases Nat.lt_or_ge j k with h | h
          · exact hno.out j hj h
          · obtain rfl : j = k := by omega
            exact (congrArg (fun r => rHas (rBound r) x y) hs.out).trans hh.out
        case measure => have := hkk.out; simp [intOf]; omega
    · obtain rfl : k = l.length := by omega
      have hd : decide ((l.length : Int) < (l.length : Int)) = false := by simp
      have hi : inn l x y = false := by
        unfold inn
        rw [List.any_eq_false]
        intro r hr
        obtain ⟨j, hj, rfl⟩ := List.mem_iff_getElem.1 hr
        rw [hno.out j hj hj]
        simp
      have hi := Lib.hid hi
      go_wp2_with fail
      go_ret
      exact ⟨ret_bool hi.out.symm, hbr⟩
set_option maxRecDepth 100000 in
set_option maxHeartbeats 16000000 in
theorem rfill_any (c p W H : Nat) (L : List Int) (v : Int) (A : Option Addr) (lc : Nat) (l : List R) (w : World) (hc : Cr w c p W H L) (hv : 0 ≤ v ∧ v < 4294967296) (hl : Rds w w.heap.size 4 A l.length (l.flatMap rC)) (hne : 0 < l.length → ∀ ad, A = some ad → ad.block ≠ p)
    (h64 : ∀ r ∈ l, I64 r) (hn : l.length ≤ 1000000) :
    Calls Tryz.prog 26 #[.pointer (some ⟨c, 0, none⟩), .int .u32 v, .slice A l.length lc] w fun e w' => e = .returned (.tuple #[]) ∧ Sav p w w' ∧ Cr w' c p W H (drawn W H l (fun _ _ _ => v) L) := by
  have h64 := Lib.hid h64
  have hne := Lib.hid hne
  have hv := Lib.hid hv
  have hcH := Lib.hid hc
  have hpk : ∀ (wr : World) (k : Nat), Sav p w wr → Bk wr p 22 (pxV (pk W l (fun _ _ _ => v) k L)) → Cr wr c p W H (pk W l (fun _ _ _ => v) k L) := fun wr k s b =>
    ⟨s.bk hc.hd hc.ne, b, by rw [pk_len]; exact hc.len, pk_u32 hc.u32 (fun _ _ _ _ => hv.out), hc.w1, hc.w2, hc.h1, hc.h2⟩
  have hpk := Lib.hid hpk
  have W2 := hc.w2
  have H2 := hc.h2
  obtain ⟨k0, k1, k2⟩ := hc.c3
  go_enter Tryz.func26, Tryz.ntmps26
  go_wp2_with fail
  clear k0 k1 k2
  go_loopw [6, 7] (fun s6 _ wr => ∃ y : Nat, y ≤ H ∧ s6 = .int .i64 (y : Int) ∧ Bk wr p 22 (pxV (pk W l (fun _ _ _ => v) (y * W) L)) ∧ Sav p w wr) (fun s6 _ _ => H - (intOf s6).toNat)
  case atStart => exact ⟨0, by omega, rfl, by rw [Nat.zero_mul, pk_zero]; exact hc.px, Sav.refl _ _⟩
  case round =>
    obtain ⟨y, hy, rfl, Bp, hs⟩ := hrel
    obtain ⟨wy, rfl⟩ : ∃ x : World, x = wr := ⟨_, rfl⟩
    obtain ⟨k0, k1, k2⟩ := (hpk.out wy _ hs Bp).c3
    by_cases hyH : y < H
    · have dy : decide ((y : Int) < (H : Int)) = true := by simp; omega
      have hyH' := Lib.hid hyH
      have y48 : (y : Int) < 48 := by omega
      go_wp2_with fail
      clear k0 k1 k2
      go_loopw [7] (fun s7 wr => ∃ x : Nat, x ≤ W ∧ s7 = .int .i64 (x : Int) ∧ Bk wr p 22 (pxV (pk W l (fun _ _ _ => v) (y * W + x) L)) ∧ Sav p w wr) (fun s7 _ => W - (intOf s7).toNat)
      case atStart => exact ⟨0, by omega, rfl, by rw [Nat.add_zero]; exact Bp, hs⟩
      case round =>
        obtain ⟨x, hx, rfl, Bx, hsx⟩ := hrel
        obtain ⟨wx, rfl⟩ : ∃ x : World, x = wr := ⟨_, rfl⟩
        obtain ⟨k0, k1, k2⟩ := (hpk.out wx _ hsx Bx).c3
        by_cases hxW : x < W
        · have dx : decide ((x : Int) < (W : Int)) = true := by simp; omega
          have x48 : (x : Int) < 48 := by omega
          have g1 : IntKind.i64.wrap ((x : Int) + 1) = (x : Int) + 1 := i64_in (by omega) (by omega)
          have g2 : wrap64 ((x : Int) + 1) = (x : Int) + 1 := w64_in (by omega) (by omega)
          have hxW' := Lib.hid hxW
          have hkl : y * W + x < L.length := by rw [hcH.out.len]; have := mul_le (W := W) hyH'.out; omega
          have hkl := Lib.hid hkl
          go_wp2_with fail
          refine (in_any A lc l (x : Int) (y : Int) wx hn h64.out (by omega) (by omega) ((hsx.rds' hl (Nat.le_refl _) hne.out).more hsx.size)).mono ?_
          rintro e wz ⟨rfl, hbz⟩
          have hsz := hsx.step hbz
          have Bz := Bx.be hbz
          obtain ⟨k3, k4, k5⟩ := (hpk.out wz _ hsz Bz).c3
          cases hi : inn l (x : Int) (y : Int) with
          | true =>
            have hi := Lib.hid hi
            obtain ⟨n, hnn⟩ : ∃ n, W * H = n := ⟨_, rfl⟩
            obtain ⟨q, hq⟩ : ∃ q, y * W = q := ⟨_, rfl⟩
            have e1 : (y : Int) * (W : Int) = (q : Int) := by rw [← hq]; simp
            have hm1 := mul_le (W := W) hyH'.out
            have hm2 := wh_le W2 H2
            rw [hnn] at hm1 hm2 k5
            rw [hq] at hm1
            obtain ⟨v1, -, v3, v4, -, v6⟩ := row_w (y := 0) (k := q) (W := x) (n := n) (Nat.le_trans (Nat.add_le_add_left (Nat.le_of_lt hxW'.out) q) hm1) hm2 (Nat.zero_le _)
            have j0 : (0 : Int) ≤ (q : Int) + (x : Int) := Int.add_nonneg (Int.natCast_nonneg _) (Int.natCast_nonneg _)
            have j1 : (q : Int) + (x : Int) < (n : Int) := by rw [← Int.natCast_add]; exact Int.ofNat_lt.2 (Nat.lt_of_lt_of_le (Nat.add_lt_add_left hxW'.out q) hm1)
            have hcell : wz.cell? ⟨p, q + x, none⟩ = some (.int .u32 (L[y * W + x]'hkl.out)) := by
              rw [Bz.cell, ← hq]
              simp only [pxV, List.getElem?_toArray, List.getElem?_map, pk_at hkl.out, Option.map_some]
            have htn : ((q : Int) + (x : Int)).toNat = q + x := by rw [← Int.natCast_add]; exact Int.toNat_natCast _
            have hfz := Bz.fz
            have hcell2 : wz.drew.cell? ⟨p, q + x, none⟩ = some (.int .u32 (L[y * W + x]'hkl.out)) := hcell
            have hfz2 : ∀ i, wz.drew.frozen? ⟨p, i, none⟩ = false := hfz
            have hpl := Bz.lt
            have hq := Lib.hid hq
            have hnn := Lib.hid hnn
            go_upto_region 7 with fail
            have hS : ∀ w' : World, Sav p wz w' → (Sav p wz w' ∧ w'.cell? ⟨c, 0, none⟩ = some (.int .i64 (W : Int)) ∧ w'.cell? ⟨c, 2, none⟩ = some (.slice (some ⟨p, 0, none⟩) n n)) := fun w' hb => by
              have b := hb.bk (hpk.out wz _ hsz Bz).hd (hpk.out wz _ hsz Bz).ne
              exact ⟨hb, b.cell 0, by rw [← hnn.out]; exact b.cell 2⟩
            have hS := Lib.hid hS
            refine wp_region_held_drew (S := fun w' : World => Sav p wz w' ∧ w'.cell? ⟨c, 0, none⟩ = some (.int .i64 (W : Int)) ∧ w'.cell? ⟨c, 2, none⟩ = some (.slice (some ⟨p, 0, none⟩) n n)) (by kernel_rfl) (by (try dsimp only); exact hS.out _ (by first | exact Sav.refl _ _ | exact (Sav.refl _ _).dr | exact (Sav.refl _ _).st _ _ | exact ((Sav.refl _ _).dr).st _ _)) (fun hHeld => ?_)
            refine wpAnyH_take (i := 0) (v := ?_) rfl (by kernel_rfl) (by kernel_rfl) (by kernel_rfl) (fun _ _ _ h => h) (Or.inl ⟨by rfl, ?_⟩) (by assumption) ?_
            rotate_left
            · (intro w hSw; (try dsimp only at hSw); go_simp; try (with_reducible rfl))
            (try simp only [Act.put, List.setIfInBounds_toArray, List.set_cons_zero, List.set_cons_succ])
            refine wpAnyH_take (i := 1) (v := ?_) rfl (by kernel_rfl) (by kernel_rfl) (by kernel_rfl) (fun _ _ _ h => h) (Or.inl ⟨by rfl, ?_⟩) (by assumption) ?_
            rotate_left
            · (intro w hSw; (try dsimp only at hSw); go_simp; try (with_reducible rfl))
            (try simp only [Act.put, List.setIfInBounds_toArray, List.set_cons_zero, List.set_cons_succ])
            refine wpAnyH_take (i := 2) (v := ?_) rfl (by kernel_rfl) (by kernel_rfl) (by kernel_rfl) (fun _ _ _ h => h) (Or.inl ⟨by rfl, ?_⟩) (by assumption) ?_
            rotate_left
            · (intro w hSw; (try dsimp only at hSw); go_simp; try (with_reducible rfl))
            (try simp only [Act.put, List.setIfInBounds_toArray, List.set_cons_zero, List.set_cons_succ])
            refine wpAnyH_take (i := 3) (v := ?_) rfl (by kernel_rfl) (by kernel_rfl) (by kernel_rfl) (fun _ _ _ h => h) (Or.inl ⟨by rfl, ?_⟩) (by assumption) ?_
            rotate_left
            · (intro w hSw; (try dsimp only at hSw); go_simp; try (with_reducible rfl))
            (try simp only [Act.put, List.setIfInBounds_toArray, List.set_cons_zero, List.set_cons_succ])
            refine wpAnyH_take (i := 4) (v := ?_) rfl (by kernel_rfl) (by kernel_rfl) (by kernel_rfl) (fun _ _ _ h => h) (Or.inl ⟨by rfl, ?_⟩) (by assumption) ?_
            rotate_left
            · (intro w hSw; (try dsimp only at hSw); go_simp; try (with_reducible rfl))
            (try simp only [Act.put, List.setIfInBounds_toArray, List.set_cons_zero, List.set_cons_succ])
            refine wpAnyH_take (i := 5) (v := ?_) rfl (by kernel_rfl) (by kernel_rfl) (by kernel_rfl) (fun _ _ _ h => h) (Or.inl ⟨by rfl, ?_⟩) (by assumption) ?_
            rotate_left
            · (intro w hSw; (try dsimp only at hSw); go_simp; try (with_reducible rfl))
            (try simp only [Act.put, List.setIfInBounds_toArray, List.set_cons_zero, List.set_cons_succ])
            refine wpAnyH_take (i := 6) (v := ?_) rfl (by kernel_rfl) (by kernel_rfl) (by kernel_rfl) (fun _ _ _ h => h) (Or.inl ⟨by rfl, ?_⟩) (by assumption) ?_
            rotate_left
            · (intro w hSw; (try dsimp only at hSw); go_simp; try (with_reducible rfl))
            (try simp only [Act.put, List.setIfInBounds_toArray, List.set_cons_zero, List.set_cons_succ])
            refine wpAnyH_take (i := 7) (v := ?_) rfl (by kernel_rfl) (by kernel_rfl) (by kernel_rfl) (fun _ _ _ h => h) (Or.inl ⟨by rfl, ?_⟩) (by assumption) ?_
            rotate_left
            · (intro w hSw; (try dsimp only at hSw); go_simp; try (with_reducible rfl))
            (try simp only [Act.put, List.setIfInBounds_toArray, List.set_cons_zero, List.set_cons_succ])
            refine wpAnyH_take (i := 8) (v := ?_) rfl (by kernel_rfl) (by kernel_rfl) (by kernel_rfl) (fun _ _ _ h => h) (Or.inl ⟨by rfl, ?_⟩) (by assumption) ?_
            rotate_left
            · (intro w hSw; (try dsimp only at hSw); go_simp; try (with_reducible rfl))
            (try simp only [Act.put, List.setIfInBounds_toArray, List.set_cons_zero, List.set_cons_succ])
            refine wpAnyH_take (i := 9) (v := ?_) rfl (by kernel_rfl) (by kernel_rfl) (by kernel_rfl) (fun _ _ _ h => h) (Or.inl ⟨by rfl, ?_⟩) (by assumption) ?_
            rotate_left
            · (intro w hSw; (try dsimp only at hSw); go_simp; try (with_reducible rfl))
            (try simp only [Act.put, List.setIfInBounds_toArray, List.set_cons_zero, List.set_cons_succ])
            refine wpAnyH_take (i := 10) (v := ?_) rfl (by kernel_rfl) (by kernel_rfl) (by kernel_rfl) (fun _ _ _ h => h) (Or.inl ⟨by rfl, ?_⟩) (by assumption) ?_
            rotate_left
            · (intro w hSw; (try dsimp only at hSw); go_simp; try (with_reducible rfl))
            (try simp only [Act.put, List.setIfInBounds_toArray, List.set_cons_zero, List.set_cons_succ])
            refine wpAnyH_take (i := 11) (v := ?_) rfl (by kernel_rfl) (by kernel_rfl) (by kernel_rfl) (fun _ _ _ h => h) (Or.inl ⟨by rfl, ?_⟩) (by assumption) ?_
            rotate_left
            · (intro w hSw; (try dsimp only at hSw); go_simp; try (with_reducible rfl))
            (try simp only [Act.put, List.setIfInBounds_toArray, List.set_cons_zero, List.set_cons_succ])
            refine wpAnyH_take (i := 12) (v := ?_) rfl (by kernel_rfl) (by kernel_rfl) (by kernel_rfl) (fun _ _ _ h => h) (Or.inl ⟨by rfl, ?_⟩) (by assumption) ?_
            rotate_left
            · (intro w hSw; (try dsimp only at hSw); go_simp; try (with_reducible rfl))
            (try simp only [Act.put, List.setIfInBounds_toArray, List.set_cons_zero, List.set_cons_succ])
            refine wpAnyH_take (i := 13) (v := ?_) rfl (by kernel_rfl) (by kernel_rfl) (by kernel_rfl) (fun _ _ _ h => h) (Or.inl ⟨by rfl, ?_⟩) (by assumption) ?_
            rotate_left
            · (intro w hSw; (try dsimp only at hSw); go_simp; try (with_reducible rfl))
            (try simp only [Act.put, List.setIfInBounds_toArray, List.set_cons_zero, List.set_cons_succ])
            refine wpAnyH_ready (rs := [14]) (by kernel_rfl) (by simp) ?_
            refine AllReadyH.cons (i := 14) rfl (fun K hK => ?_) AllReadyH.nil
            go_simp
            try (go_wp2_with fail)
            refine hK.out _ _ (by (try dsimp only); exact hS.out _ (by first | exact Sav.refl _ _ | exact (Sav.refl _ _).dr | exact (Sav.refl _ _).st _ _ | exact ((Sav.refl _ _).dr).st _ _)) (fun hHeld2 => ?_)
            clear hHeld
            rename _ => hHeld
            clear hK K
            (try simp only [Act.put, List.setIfInBounds_toArray, List.set_cons_zero, List.set_cons_succ])
            refine wpAnyH_done (by kernel_rfl) ?_ _
            go_wp2_with fail
            have hsx' := hsz.trans ((Sav.refl p wz).st (q + x) (.int .u32 v))
            have Bn : Bk (wz.setCell ⟨p, q + x, none⟩ (.int .u32 v)) p 22 (pxV (pk W l (fun _ _ _ => v) (y * W + (x + 1)) L)) := by
              have := Bz.st (q + x) (.int .u32 v)
              rw [← hq.out, px_set] at this
              rw [pk_t hxW'.out hkl.out hi.out, ← hq.out]
              exact this
            clear hS
            go_roundw
            case rel => exact ⟨x + 1, hxW'.out, by go_num, Bn.dr, hsx'.dr⟩
            case measure => have h9 : W - (x + 1) < W - x := Nat.sub_lt_sub_left hxW'.out (Nat.lt_succ_self x); simpa [intOf] using h9
          | false =>
            have hi := Lib.hid hi
            go_wp2_with fail
            go_roundw
            case rel => exact ⟨x + 1, hxW'.out, by go_num, by rw [pk_f hxW'.out hkl.out hi.out]; exact Bz, hsz⟩
            case measure => have h9 : W - (x + 1) < W - x := Nat.sub_lt_sub_left hxW'.out (Nat.lt_succ_self x); simpa [intOf] using h9
        · obtain rfl : x = W := by omega
          have dx : decide ((x : Int) < (x : Int)) = false := by simp
          go_wp2_with fail
          go_roundw
          case rel => exact ⟨y + 1, hyH'.out, by go_num, by rw [Nat.succ_mul]; exact Bx, hsx⟩
          case measure => have := hyH'.out; simp [intOf]; omega
    · obtain rfl : y = H := by omega
      have dy : decide ((y : Int) < (y : Int)) = false := by simp
      have hres := hpk.out wy _ hs Bp
      go_wp2_with fail
      go_end0
      rw [← pk_all, Nat.mul_comm W y]
      exact ⟨rfl, hs, hres⟩
end Go.Proofs.YtjjdgbhplechbaaGreatDoor.Cv
