/- Draw. -/
import Derived.Test.YtjjdgbhplechbaaDoorCvF
import Derived.Test.YtjjdgbhplechbaaDoorPixWalk
set_option linter.unusedVariables false
set_option linter.unusedSimpArgs false
namespace Go.Proofs.YtjjdgbhplechbaaDoor.Cv
open Go.RowKit Go.Proofs.YtjjdgbhplechbaaDoor.Kit Go.Proofs.YtjjdgbhplechbaaDoor.Rect Go.Proofs.YtjjdgbhplechbaaDoor.Pix

theorem mul_bd {d w : Int} (h1 : -33554432 ≤ d) (h2 : d ≤ 33554432) (h3 : 1 ≤ w) (h4 : w ≤ 16777216) : -562949953421312 ≤ d * w ∧ d * w ≤ 562949953421312 := by
  have a : d * w ≤ 33554432 * w := Int.mul_le_mul_of_nonneg_right h2 (by omega)
  have b : -33554432 * w ≤ d * w := Int.mul_le_mul_of_nonneg_right h1 (by omega)
  omega
/-- how Draw paints a point -/
def drawF (X Y Wd Hd : Int) (P : List Int) : Nat → Nat → Int → Int := fun x y o =>
  if rHas ⟨X, Y, Wd, Hd⟩ (x : Int) (y : Int) = true ∧ (((y : Int) - Y) * Wd + (x : Int) - X).toNat < P.length then ovr o (P.getD (((y : Int) - Y) * Wd + (x : Int) - X).toNat 0) else o
theorem has_ix {X Y Wd Hd : Int} {x y : Nat} (h : rHas ⟨X, Y, Wd, Hd⟩ (x : Int) (y : Int) = true) : 0 ≤ ((y : Int) - Y) * Wd + (x : Int) - X := by
  rw [has_iff] at h
  unfold inR at h
  simp only at h
  have : 0 ≤ ((y : Int) - Y) * Wd := Int.mul_nonneg (by omega) (by omega)
  omega
/-- what the closure has caught -/
structure Caught (w : World) (gx gy gw gi gp : Nat) (X Y Wd Hd : Int) (A : Option Addr) (n lc : Nat) : Prop where
  cx : Bk w gx 3 #[.int .i64 X]
  cy : Bk w gy 3 #[.int .i64 Y]
  cw : Bk w gw 3 #[.int .i64 Wd]
  ci : Bk w gi 32 (rV ⟨X, Y, Wd, Hd⟩)
  cp : Bk w gp 34 #[.slice A n lc]
  x1 : -16777216 ≤ X
  x2 : X ≤ 16777216
  y1 : -16777216 ≤ Y
  y2 : Y ≤ 16777216
  w1 : 1 ≤ Wd
  w2 : Wd ≤ 16777216
  h1 : 1 ≤ Hd
  h2 : Hd ≤ 16777216
theorem Caught.sv {w w' : World} {gx gy gw gi gp : Nat} {X Y Wd Hd : Int} {A : Option Addr} {n lc p : Nat} (h : Caught w gx gy gw gi gp X Y Wd Hd A n lc) (s : Sav p w w') (h1 : gx ≠ p) (h2 : gy ≠ p) (h3 : gw ≠ p) (h4 : gi ≠ p) (h5 : gp ≠ p) : Caught w' gx gy gw gi gp X Y Wd Hd A n lc :=
  ⟨s.bk h.cx h1, s.bk h.cy h2, s.bk h.cw h3, s.bk h.ci h4, s.bk h.cp h5, h.x1, h.x2, h.y1, h.y2, h.w1, h.w2, h.h1, h.h2⟩
theorem ix_bd {X Y Wd : Int} {x y : Nat} (x1 : -16777216 ≤ X) (x2 : X ≤ 16777216) (y1 : -16777216 ≤ Y) (y2 : Y ≤ 16777216) (w1 : 1 ≤ Wd) (w2 : Wd ≤ 16777216) (hx : x < 48) (hy : y < 48) :
    IntKind.i64.wrap ((y : Int) - Y) = (y : Int) - Y ∧ IntKind.i64.wrap (((y : Int) - Y) * Wd) = ((y : Int) - Y) * Wd ∧ IntKind.i64.wrap (((y : Int) - Y) * Wd + (x : Int)) = ((y : Int) - Y) * Wd + (x : Int) ∧ IntKind.i64.wrap (((y : Int) - Y) * Wd + (x : Int) - X) = ((y : Int) - Y) * Wd + (x : Int) - X := by
  obtain ⟨a, b⟩ := mul_bd (d := (y : Int) - Y) (by omega) (by omega) w1 w2
  exact ⟨i64_in (by omega) (by omega), i64_in (by omega) (by omega), i64_in (by omega) (by omega), i64_in (by omega) (by omega)⟩
set_option maxRecDepth 100000 in
set_option maxHeartbeats 8000000 in
theorem drawC_out (gx gy gw gi gp p k : Nat) (X Y Wd Hd : Int) (A : Option Addr) (n lc x y : Nat) (w : World) (h : Caught w gx gy gw gi gp X Y Wd Hd A n lc) (hx : x < 48) (hy : y < 48) (hh : rHas ⟨X, Y, Wd, Hd⟩ (x : Int) (y : Int) = false) :
    Calls Tryd.prog 51 #[.pointer (some ⟨p, k, none⟩), .int .i64 (x : Int), .int .i64 (y : Int), .pointer (some ⟨gy, 0, none⟩), .pointer (some ⟨gw, 0, none⟩), .pointer (some ⟨gx, 0, none⟩), .pointer (some ⟨gi, 0, none⟩), .pointer (some ⟨gp, 0, none⟩)] w
      fun e w' => e = .returned (.tuple #[]) ∧ Below w.heap.size w w' := by
  obtain ⟨v1, v2, v3, v4⟩ := ix_bd h.x1 h.x2 h.y1 h.y2 h.w1 h.w2 hx hy
  have c1 := h.cx.cell 0
  have c2 := h.cy.cell 0
  have c3 := h.cw.cell 0
  have c4 := h.cp.cell 0
  obtain ⟨b0, b1, b2, b3⟩ := h.ci.c4
  have HI : I64 ⟨X, Y, Wd, Hd⟩ := by have := h.x1; have := h.x2; have := h.y1; have := h.y2; have := h.w1; have := h.w2; have := h.h1; have := h.h2; unfold I64; simp only; omega
  have HI := Lib.hid HI
  have hx := Lib.hid hx
  have hy := Lib.hid hy
  have hh := Lib.hid hh
  have h := Lib.hid h
  go_enter Tryd.func51, Tryd.ntmps51
  go_wp2_with fail
  refine (Has_any X Y Wd Hd (x : Int) (y : Int) w HI.out (by have := hx.out; omega) (by have := hy.out; omega)).mono ?_
  rintro e w1 ⟨rfl, hb1⟩
  rw [hh.out]
  go_wp2_with fail
  go_end0
  exact ⟨rfl, hb1⟩
set_option maxRecDepth 100000 in
set_option maxHeartbeats 8000000 in
theorem drawC_past (gx gy gw gi gp p k : Nat) (X Y Wd Hd : Int) (A : Option Addr) (n lc x y ix : Nat) (w : World) (h : Caught w gx gy gw gi gp X Y Wd Hd A n lc) (hx : x < 48) (hy : y < 48) (hh : rHas ⟨X, Y, Wd, Hd⟩ (x : Int) (y : Int) = true) (hix : ((y : Int) - Y) * Wd + (x : Int) - X = (ix : Int)) (hn : n ≤ ix) :
    Calls Tryd.prog 51 #[.pointer (some ⟨p, k, none⟩), .int .i64 (x : Int), .int .i64 (y : Int), .pointer (some ⟨gy, 0, none⟩), .pointer (some ⟨gw, 0, none⟩), .pointer (some ⟨gx, 0, none⟩), .pointer (some ⟨gi, 0, none⟩), .pointer (some ⟨gp, 0, none⟩)] w
      fun e w' => e = .returned (.tuple #[]) ∧ Below w.heap.size w w' := by
  obtain ⟨v1, v2, v3, v4⟩ := ix_bd h.x1 h.x2 h.y1 h.y2 h.w1 h.w2 hx hy
  rw [hix] at v4
  have c1 := h.cx.cell 0
  have c2 := h.cy.cell 0
  have c3 := h.cw.cell 0
  have c4 := h.cp.cell 0
  obtain ⟨b0, b1, b2, b3⟩ := h.ci.c4
  have HI : I64 ⟨X, Y, Wd, Hd⟩ := by have := h.x1; have := h.x2; have := h.y1; have := h.y2; have := h.w1; have := h.w2; have := h.h1; have := h.h2; unfold I64; simp only; omega
  have HI := Lib.hid HI
  have hx := Lib.hid hx
  have hy := Lib.hid hy
  have hh := Lib.hid hh
  have h := Lib.hid h
  have hd : decide ((ix : Int) < (n : Int)) = false := by simp; omega
  have j0 : (0 : Int) ≤ (ix : Int) := by omega
  go_enter Tryd.func51, Tryd.ntmps51
  go_wp2_with fail
  refine (Has_any X Y Wd Hd (x : Int) (y : Int) w HI.out (by have := hx.out; omega) (by have := hy.out; omega)).mono ?_
  rintro e w1 ⟨rfl, hb1⟩
  rw [hh.out]
  have c4' := (hb1.cell (p := ⟨gp, 0, none⟩) h.out.cp.lt).trans c4
  go_wp2_with fail
  go_end0
  exact ⟨rfl, hb1⟩
set_option maxRecDepth 100000 in
set_option maxHeartbeats 8000000 in
theorem drawC_in (gx gy gw gi gp p k : Nat) (X Y Wd Hd : Int) (A : Option Addr) (n lc x y ix : Nat) (P : List Int) (o : Int) (w : World) (h : Caught w gx gy gw gi gp X Y Wd Hd A n lc) (hx : x < 48) (hy : y < 48) (hh : rHas ⟨X, Y, Wd, Hd⟩ (x : Int) (y : Int) = true) (hix : ((y : Int) - Y) * Wd + (x : Int) - X = (ix : Int)) (hn : ix < n) (hP : P.length = n) (hR : Rds w w.heap.size 1 A n (P.map (Value.int .u32))) (hPu : ∀ v ∈ P, 0 ≤ v ∧ v < 4294967296) (hne : 0 < n → ∀ ad, A = some ad → ad.block ≠ p) (hgp : gp ≠ p) (ho : 0 ≤ o ∧ o < 4294967296) (hk : w.cell? ⟨p, k, none⟩ = some (.int .u32 o)) (hf : w.frozen? ⟨p, k, none⟩ = false) (hpl : p < w.heap.size) :
    Calls Tryd.prog 51 #[.pointer (some ⟨p, k, none⟩), .int .i64 (x : Int), .int .i64 (y : Int), .pointer (some ⟨gy, 0, none⟩), .pointer (some ⟨gw, 0, none⟩), .pointer (some ⟨gx, 0, none⟩), .pointer (some ⟨gi, 0, none⟩), .pointer (some ⟨gp, 0, none⟩)] w
      fun e w' => e = .returned (.tuple #[]) ∧ ∃ W, Below w.heap.size w W ∧ w' = W.setCell ⟨p, k, none⟩ (.int .u32 (ovr o (P.getD ix 0))) := by
  obtain ⟨v1, v2, v3, v4⟩ := ix_bd h.x1 h.x2 h.y1 h.y2 h.w1 h.w2 hx hy
  rw [hix] at v4
  have c1 := h.cx.cell 0
  have c2 := h.cy.cell 0
  have c3 := h.cw.cell 0
  have c4 := h.cp.cell 0
  obtain ⟨b0, b1, b2, b3⟩ := h.ci.c4
  have HI : I64 ⟨X, Y, Wd, Hd⟩ := by have := h.x1; have := h.x2; have := h.y1; have := h.y2; have := h.w1; have := h.w2; have := h.h1; have := h.h2; unfold I64; simp only; omega
  have HI := Lib.hid HI
  have hx := Lib.hid hx
  have hy := Lib.hid hy
  have hh := Lib.hid hh
  have h := Lib.hid h
  have hd : decide ((ix : Int) < (n : Int)) = true := by simp; omega
  have j0 : (0 : Int) ≤ (ix : Int) := by omega
  go_enter Tryd.func51, Tryd.ntmps51
  go_wp2_with fail
  refine (Has_any X Y Wd Hd (x : Int) (y : Int) w HI.out (by have := hx.out; omega) (by have := hy.out; omega)).mono ?_
  rintro e w1 ⟨rfl, hb1⟩
  rw [hh.out]
  obtain ⟨ad, rfl, hadl, hcell⟩ := hR.2 (by omega)
  have hadp : ad.block ≠ p := hne (by omega) ad rfl
  obtain ⟨v, hv⟩ : ∃ v, P[ix]? = some v := ⟨_, List.getElem?_eq_getElem (by omega)⟩
  have hv0 := hPu v (List.mem_of_getElem? hv)
  have hgd : P.getD ix 0 = v := by rw [List.getD_eq_getElem?_getD, hv]; rfl
  have hgd := Lib.hid hgd
  have hcv : w.cell? (ad.add ix) = some (.int .u32 v) := hcell ix _ (by simp [hv])
  have c4' := (hb1.cell (p := ⟨gp, 0, none⟩) h.out.cp.lt).trans c4
  have hcv' := (hb1.cell (p := ad.add ix) (by rw [add_blk]; exact hadl)).trans hcv
  have hk' := (hb1.cell (p := ⟨p, k, none⟩) hpl).trans hk
  have hf' := (hb1.frozen (p := ⟨p, k, none⟩) hpl).trans hf
  have hpl1 : p < w1.heap.size := Nat.lt_of_lt_of_le hpl hb1.size
  have hgl1 : gp < w1.heap.size := Nat.lt_of_lt_of_le h.out.cp.lt hb1.size
  have hal1 : ad.block < w1.heap.size := Nat.lt_of_lt_of_le hadl hb1.size
  have hn1 : (ix : Int) < (n : Int) := by omega
  have hv0 := Lib.hid hv0
  have ho := Lib.hid ho
  have hS : ∀ w' : World, Sav p w1 w' → (Sav p w1 w' ∧ w'.cell? ⟨gp, 0, none⟩ = some (.slice (some ad) n lc) ∧ w'.cell? (ad.add ix) = some (.int .u32 v)) := fun w' hs => ⟨hs, (World.cell?_of_block (w := w1) (hs.block _ hgl1 hgp)).trans c4', (World.cell?_of_block (w := w1) (hs.block _ (by rw [add_blk]; exact hal1) (by rw [add_blk]; exact hadp))).trans hcv'⟩
  have hS := Lib.hid hS
  clear hne hPu hR hcell hv hcv hP
  go_upto_region 2 with fail
  refine wp_region_held_drew (S := fun w' : World => Sav p w1 w' ∧ w'.cell? ⟨gp, 0, none⟩ = some (.slice (some ad) n lc) ∧ w'.cell? (ad.add ix) = some (.int .u32 v)) (by kernel_rfl) (by (try dsimp only); exact hS.out _ (by repeat (first | (with_reducible assumption) | (with_reducible exact Sav.of (by assumption)) | (with_reducible exact Sav.refl _ _) | (with_reducible apply Sav.st) | (with_reducible apply Sav.dr) | (with_reducible apply Sav.al) | (with_reducible refine Sav.step ?_ (by assumption))))) (fun hHeld => ?_)
  refine wpAnyH_take (i := 0) (v := ?_) rfl (by kernel_rfl) (by kernel_rfl) (by kernel_rfl) (fun _ _ _ h => h) (Or.inl ⟨by rfl, ?_⟩) (by assumption) ?_
  rotate_left
  · (intro w hSw; (try dsimp only at hSw); go_simp; try (with_reducible rfl))
  (try simp only [Act.put, List.setIfInBounds_toArray, List.set_cons_zero, List.set_cons_succ])
  refine wpAnyH_take (i := 1) (v := ?_) rfl (by kernel_rfl) (by kernel_rfl) (by kernel_rfl) (fun _ _ _ h => h) (Or.inl ⟨by rfl, ?_⟩) (by assumption) ?_
  rotate_left
  · (intro w hSw; (try dsimp only at hSw); go_simp; try (with_reducible rfl))
  (try simp only [Act.put, List.setIfInBounds_toArray, List.set_cons_zero, List.set_cons_succ])
  refine wpAnyH_take (i := 2) (v := ?_) rfl (by kernel_rfl) (by kernel_rfl) (by kernel_rfl) (fun _ _ _ h => h) (Or.inl ⟨by rfl, ?_⟩) (by assumption) ?_
  rotate_left
  · (intro w hSw; (try dsimp only at hSw); go_simp; try (with_reducible rfl))
  (try simp only [Act.put, List.setIfInBounds_toArray, List.set_cons_zero, List.set_cons_succ])
  refine wpAnyH_take (i := 4) (v := ?_) rfl (by kernel_rfl) (by kernel_rfl) (by kernel_rfl) (fun _ _ _ h => h) (Or.inl ⟨by rfl, ?_⟩) (by assumption) ?_
  rotate_left
  · (intro w hSw; (try dsimp only at hSw); go_simp; try (with_reducible rfl))
  (try simp only [Act.put, List.setIfInBounds_toArray, List.set_cons_zero, List.set_cons_succ])
  refine wpAnyH_take (i := 5) (v := ?_) rfl (by kernel_rfl) (by kernel_rfl) (by kernel_rfl) (fun _ _ _ h => h) (Or.inl ⟨by rfl, ?_⟩) (by assumption) ?_
  rotate_left
  · (intro w hSw; (try dsimp only at hSw); go_simp; try (with_reducible rfl))
  (try simp only [Act.put, List.setIfInBounds_toArray, List.set_cons_zero, List.set_cons_succ])
  refine wpAnyH_take (i := 6) (v := ?_) rfl (by kernel_rfl) (by kernel_rfl) (by kernel_rfl) (fun _ _ _ h => h) (Or.inl ⟨by rfl, ?_⟩) (by assumption) ?_
  rotate_left
  · (intro w hSw; (try dsimp only at hSw); go_simp; try (with_reducible rfl))
  (try simp only [Act.put, List.setIfInBounds_toArray, List.set_cons_zero, List.set_cons_succ])
  refine wpAnyH_take (i := 7) (v := ?_) rfl (by kernel_rfl) (by kernel_rfl) (by kernel_rfl) (fun _ _ _ h => h) (Or.inl ⟨by rfl, ?_⟩) (by assumption) ?_
  rotate_left
  · (intro w hSw; (try dsimp only at hSw); go_simp; try (with_reducible rfl))
  (try simp only [Act.put, List.setIfInBounds_toArray, List.set_cons_zero, List.set_cons_succ])
  refine wpAnyH_ready (rs := [3]) (by kernel_rfl) (by simp) ?_
  refine AllReadyH.cons (i := 3) rfl (fun K hK => ?_) AllReadyH.nil
  go_simp
  refine hK.out _ _ hHeld (fun hHeld2 => ?_)
  clear hHeld2 hK K
  (try simp only [Act.put, List.setIfInBounds_toArray, List.set_cons_zero, List.set_cons_succ])
  refine wpAnyH_ready (rs := [8]) (by kernel_rfl) (by simp) ?_
  refine AllReadyH.cons (i := 8) rfl (fun K hK => ?_) AllReadyH.nil
  go_simp
  go_at_call 53
  refine (over_any o v _ ho.out.1 ho.out.2 hv0.out.1 hv0.out.2).mono ?_
  rintro e w2 ⟨rfl, hb2⟩
  have hb2' : Below w1.heap.size w1 w2 := (by first | exact hb2 | exact bl_step (bl_drew (Below.refl _ _)) hb2)
  have hf2 := (hb2'.frozen (p := ⟨p, k, none⟩) hpl1).trans hf'
  have hk2 := (hb2'.cell (p := ⟨p, k, none⟩) hpl1).trans hk'
  try (go_wp2_with fail)
  refine hK.out _ _ (by (try dsimp only); exact hS.out _ (by repeat (first | (with_reducible assumption) | (with_reducible exact Sav.of (by assumption)) | (with_reducible exact Sav.refl _ _) | (with_reducible apply Sav.st) | (with_reducible apply Sav.dr) | (with_reducible apply Sav.al) | (with_reducible refine Sav.step ?_ (by assumption))))) (fun hHeld2 => ?_)
  clear hHeld
  rename _ => hHeld
  clear hK K
  (try simp only [Act.put, List.setIfInBounds_toArray, List.set_cons_zero, List.set_cons_succ])
  refine wpAnyH_take (i := 9) (v := ?_) rfl (by kernel_rfl) (by kernel_rfl) (by kernel_rfl) (fun _ _ _ h => h) (Or.inl ⟨by rfl, ?_⟩) (by assumption) ?_
  rotate_left
  · (intro w hSw; (try dsimp only at hSw); go_simp; try (with_reducible rfl))
  (try simp only [Act.put, List.setIfInBounds_toArray, List.set_cons_zero, List.set_cons_succ])
  refine wpAnyH_ready (rs := [10]) (by kernel_rfl) (by simp) ?_
  refine AllReadyH.cons (i := 10) rfl (fun K hK => ?_) AllReadyH.nil
  go_simp
  try (go_wp2_with fail)
  refine hK.out _ _ (by (try dsimp only); exact hS.out _ (by repeat (first | (with_reducible assumption) | (with_reducible exact Sav.of (by assumption)) | (with_reducible exact Sav.refl _ _) | (with_reducible apply Sav.st) | (with_reducible apply Sav.dr) | (with_reducible apply Sav.al) | (with_reducible refine Sav.step ?_ (by assumption))))) (fun hHeld2 => ?_)
  clear hHeld
  rename _ => hHeld
  clear hK K
  (try simp only [Act.put, List.setIfInBounds_toArray, List.set_cons_zero, List.set_cons_succ])
  refine wpAnyH_done (by kernel_rfl) ?_ _
  go_wp2_with fail
  go_end0
  exact ⟨rfl, w2, bl_step hb1 hb2', by rw [hgd.out]⟩
end Go.Proofs.YtjjdgbhplechbaaDoor.Cv
