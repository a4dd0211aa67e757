/- tableaulaw24.near, sized. Printed by gen_sized.py. -/
import Derived.Test.YtjjdgbhplechbaaGreatDoorRpQ
import Derived.Test.YtjjdgbhplechbaaGreatDoorDm6
set_option linter.unusedVariables false
set_option linter.unusedSimpArgs false
namespace Go.Proofs.YtjjdgbhplechbaaGreatDoor.Cv
open Go.RowKit Go.Proofs.YtjjdgbhplechbaaGreatDoor.Kit Go.Proofs.YtjjdgbhplechbaaGreatDoor.Rect Go.Proofs.YtjjdgbhplechbaaGreatDoor.Pix
attribute [local go_sem high] bmax2 bmin2 bmax_4 bmin_4
theorem own_bl {w w' : World} {base : Nat} {e : TypeId} {sz n : Nat} {v : Value} {xs : List Value} (h : w.ownsRow base e sz v n xs) (hb : Below w.heap.size w w') : w'.ownsRow base e sz v n xs :=
  own_sv h (Sav.of (p := w.heap.size) hb) (fun g hg => by have := (h.lt g hg).2; omega)
def NearP (w : World) (l : List Vw) (e : Ending) (w' : World) : Prop := ∃ b, e = .returned (.bool b) ∧ (b = true → l.length ≤ 10 ∧ ∀ v ∈ l, NearV v) ∧ Below w.heap.size w w'
set_option maxRecDepth 100000 in
set_option maxHeartbeats 8000000 in
theorem near_any (A : Option Addr) (c : Nat) (l : List Vw) (w : World) (hn : l.length ≤ 9223372036854775807) (hA : Rds w w.heap.size 6 A l.length (l.flatMap vwC)) :
    Calls Tryz.prog 16 #[.slice A l.length c] w (NearP w l) := by
  go_enter Tryz.func16, Tryz.ntmps16
  go_wp2_with fail
  go_loopw [3, 4] (fun s3 _ wr => ∃ k : Nat, k ≤ l.length ∧ s3 = .int .i64 (k : Int) ∧ Hid (∀ j (hj : j < l.length), j < k → NearV l[j]) ∧ Below w.heap.size w wr) (fun s3 _ _ => l.length - (intOf s3).toNat)
  case atStart => exact ⟨0, by omega, rfl, Lib.hid (fun j hj h => absurd h (by omega)), Below.refl _ _⟩
  case round =>
    obtain ⟨k, hk, rfl, hno, hbr⟩ := hrel
    by_cases hlt : k < l.length
    · have hd : decide ((k : Int) < (l.length : Int)) = true := dec_t (lt_cast hlt)
      obtain ⟨ad, rfl, hbl, c0, c1, c2, c3, c4, c5⟩ := at6 (hA.be hbr) hlt
      have i0 : (0 : Int) ≤ (k : Int) := cast_nn k
      have i1 : (k : Int) < (l.length : Int) := lt_cast hlt
      have g1 : IntKind.i64.wrap ((k : Int) + 1) = (k : Int) + 1 := i64_in (by omega) (by omega)
      have g2 : wrap64 ((k : Int) + 1) = (k : Int) + 1 := w64_in (by omega) (by omega)
      have hlt := Lib.hid hlt
      have hstep : NearV (l[k]'hlt.out) → ∀ j (hj : j < l.length), j < k + 1 → NearV l[j] := fun h j hj hjk => by
        rcases Nat.lt_or_ge j k with h' | h'
        · exact hno.out j hj h'
        · obtain rfl : j = k := by omega
          exact h
      have hstep := Lib.hid hstep
      generalize hs : l[k]'hlt.out = v at *
      have hs := Lib.hid hs
      obtain ⟨M, hM⟩ : ∃ M, mxI (mxI (mxI v.x v.y) v.w) v.h = M := ⟨_, rfl⟩
      obtain ⟨m, hm⟩ : ∃ m, mnI (mnI (mnI v.x v.y) v.w) v.h = m := ⟨_, rfl⟩
      by_cases b1 : 67108864 < M
      · have d1 : decide (67108864 < M) = true := dec_t b1
        go_wp2_with fail
        go_ret
        exact ⟨false, rfl, fun h => (by cases h), bl_alloc hbr _⟩
      have d1 : decide (67108864 < M) = false := dec_f b1
      by_cases b2 : m < -67108864
      · have d2 : decide (m < -67108864) = true := dec_t b2
        go_wp2_with fail
        go_ret
        exact ⟨false, rfl, fun h => (by cases h), bl_alloc hbr _⟩
      have d2 : decide (m < -67108864) = false := dec_f b2
      have hv : NearV v := by
        simp only [mxI_max] at hM
        simp only [mnI_min] at hm
        unfold NearV Nr
        omega
      have hv := Lib.hid hv
      clear b1 b2
      go_wp2_with fail
      go_roundw
      case rel => exact ⟨k + 1, hlt.out, by go_num, Lib.hid (hstep.out hv.out), bl_alloc hbr _⟩
      case measure => have h9 := sub_dec hlt.out; simpa [intOf] using h9
    · obtain rfl : k = l.length := by omega
      have hd : decide ((l.length : Int) < (l.length : Int)) = false := by simp
      go_wp2_with fail
      go_ret
      refine ⟨_, rfl, fun h => ⟨?_, fun v hv => ?_⟩, hbr⟩
      · have h := h; simp at h; omega
      · obtain ⟨j, hj, rfl⟩ := List.mem_iff_getElem.1 hv
        exact hno.out j hj hj
/-- a view at its image's size -/
def sizeV (im : List Im) (v : Vw) : List Vw :=
  match findI im v.b with
  | none => []
  | some g => if (1 ≤ g.w ∧ g.w ≤ 100) ∧ 1 ≤ g.h ∧ g.h ≤ 100 then [⟨v.s, v.b, v.x % 40 - 20, v.y % 40 - 20, g.w, g.h⟩] else []
def sizedL (im : List Im) (l : List Vw) : List Vw := l.flatMap (sizeV im)
theorem size_len (im : List Im) (v : Vw) : (sizeV im v).length ≤ 1 := by
  unfold sizeV
  split
  · simp
  · split <;> simp
theorem sized_len (im : List Im) : ∀ l : List Vw, (sizedL im l).length ≤ l.length
  | [] => by simp [sizedL]
  | v :: l => by
    have h1 := size_len im v
    have h2 := sized_len im l
    unfold sizedL at *
    rw [List.flatMap_cons, List.length_append, List.length_cons]
    omega
theorem sized_mem {im : List Im} {l : List Vw} {u : Vw} (h : u ∈ sizedL im l) : Sized im u ∧ NearV u := by
  obtain ⟨v, _, hu⟩ := List.mem_flatMap.1 h
  unfold sizeV at hu
  split at hu
  · cases hu
  · rename_i g hg
    split at hu
    · rename_i hc
      obtain rfl := List.mem_singleton.1 hu
      refine ⟨fun g' h' => ?_, ?_⟩
      · simp only at h'
        rw [hg] at h'
        injection h' with h'
        subst h'
        exact ⟨rfl, rfl⟩
      · have := Int.emod_nonneg v.x (b := 40) (by omega)
        have := Int.emod_lt_of_pos v.x (b := 40) (by omega)
        have := Int.emod_nonneg v.y (b := 40) (by omega)
        have := Int.emod_lt_of_pos v.y (b := 40) (by omega)
        unfold NearV Nr
        simp only
        omega
    · cases hu
theorem Sized.pl {m l : List Im} (h : m.map pl = l.map pl) {v : Vw} (hs : Sized l v) : Sized m v := by
  intro g hg
  have e := find_pl h v.b
  rw [hg] at e
  cases h2 : findI l v.b with
  | none => rw [h2] at e; simp at e
  | some a =>
    rw [h2] at e
    simp only [Option.map_some, Option.some.injEq, Cv.pl, Prod.mk.injEq] at e
    have := hs a h2
    exact ⟨e.2.1.trans this.1, e.2.2.1.trans this.2⟩

set_option maxRecDepth 100000 in
set_option maxHeartbeats 32000000 in
theorem sized_any (A : Option Addr) (c : Nat) (l : List Vw) (A' : Option Addr) (c' : Nat) (im : List Im) (w : World) (hn : l.length ≤ 10) (him : im.length ≤ 1000000) (hA : Rds w w.heap.size 6 A l.length (l.flatMap vwC)) (hr : Rds w w.heap.size 4 A' im.length (im.flatMap imC)) :
    Calls Tryz.prog 17 #[.slice A l.length c, .slice A' im.length c'] w fun e w' => ∃ B d, e = .returned (.slice B (sizedL im l).length d) ∧ w'.ownsRow w.heap.size 62 6 (.slice B (sizedL im l).length d) (sizedL im l).length ((sizedL im l).flatMap vwC) ∧ Below w.heap.size w w' := by
  obtain ⟨iV, hiV, zV0, zV1, zV2⟩ := info_parts infoV
  have hr := Lib.hid hr
  go_enter Tryz.func17, Tryz.ntmps17
  go_wp2_with fail
  go_loopw [5, 6, 7, 8, 9] (fun s5 s6 _ _ _ wr => ∃ k : Nat, k ≤ l.length ∧ s6 = .int .i64 (k : Int) ∧ ∃ B d, s5 = .slice B (sizedL im (l.take k)).length d ∧ Hid (wr.ownsRow w.heap.size 62 6 (.slice B (sizedL im (l.take k)).length d) (sizedL im (l.take k)).length ((sizedL im (l.take k)).flatMap vwC)) ∧ Below w.heap.size w wr) (fun _ s6 _ _ _ _ => l.length - (intOf s6).toNat)
  case atStart => exact ⟨0, by omega, rfl, none, 0, rfl, Lib.hid (World.ownsRow_nil _ _ _ _), Below.refl _ _⟩
  case round =>
    obtain ⟨k, hk, rfl, B, d, rfl, hown, hbr⟩ := hrel
    obtain ⟨wo, rfl⟩ : ∃ x : World, x = wr := ⟨_, rfl⟩
    by_cases hlt : k < l.length
    · have hd : decide ((k : Int) < (l.length : Int)) = true := dec_t (lt_cast hlt)
      obtain ⟨ad, rfl, hbl, c0, c1, c2, c3, c4, c5⟩ := at6 (hA.be hbr) hlt
      have i0 : (0 : Int) ≤ (k : Int) := cast_nn k
      have i1 : (k : Int) < (l.length : Int) := lt_cast hlt
      have hst : sizedL im (l.take (k + 1)) = sizedL im (l.take k) ++ sizeV im l[k] := by
        unfold sizedL
        rw [← List.take_append_getElem hlt, List.flatMap_append]; simp
      have hml : (sizedL im (l.take k)).length ≤ 10 := Nat.le_trans (sized_len im _) (by simp; omega)
      obtain ⟨ml, hmle⟩ : ∃ ml, sizedL im (l.take k) = ml := ⟨_, rfl⟩
      rw [hmle] at hst hown hml ⊢
      have hlt := Lib.hid hlt
      generalize hs : l[k]'hlt.out = v at *
      have hst := Lib.hid hst
      clear hs hmle
      go_wp2_with fail
      generalize hwv : World.alloc _ _ = w1
      have Bv : Bk w1 wo.heap.size 62 #[.int .i64 v.s, .int .i64 v.b, .int .i64 v.x, .int .i64 v.y, .int .i64 v.w, .int .i64 v.h] := hwv ▸ Bk.new _ _ _
      have hb1 : Below wo.heap.size wo w1 := hwv ▸ bl_alloc (Below.refl _ _) _
      clear hwv c0 c1 c2 c3 c4 c5
      have hw1 := bl_step hbr hb1
      refine (rfind_any A' c' im v.b w1 him ((hr.out.be hw1).more hw1.size)).mono ?_
      rintro e w2 ⟨rfl, hb2⟩
      have h02 := bl_step hb1 hb2
      have B2 := Bv.be hb2
      have own2 := own_bl hown.out h02
      obtain ⟨gv, hgv⟩ : ∃ gv, wo.heap.size = gv := ⟨_, rfl⟩
      have hwgv : w.heap.size ≤ gv := by have := hbr.size; omega
      have hBgv : ∀ g, (Value.slice B ml.length d).ownBlock = some g → g ≠ gv := fun g hg => by have := (hown.out.lt g hg).2; omega
      rw [hgv] at B2 ⊢
      have hw2 := bl_step hbr h02
      have hgl := B2.lt
      clear hgv Bv hb1 hb2 hw1
      cases hf : findI im v.b with
      | none =>
        have e1 : (imC (opI (none : Option Im))).toArray = #[.int .i64 0, .int .i64 0, .int .i64 0, .slice none 0 0] := rfl
        have e2 : (none : Option Im).isSome = false := rfl
        rw [e1, e2]
        have hz : sizeV im v = [] := by unfold sizeV; rw [hf]
        have hst2 := hst.out
        rw [hz, List.append_nil] at hst2
        have hst2 := Lib.hid hst2
        have own3 := Lib.hid (own_bl own2 (bl_alloc (Below.refl _ _) (.cells #[.int .i64 0, .int .i64 0, .int .i64 0, .slice none 0 0] 55)))
        have hw3 := bl_alloc hw2 (.cells #[.int .i64 0, .int .i64 0, .int .i64 0, .slice none 0 0] 55)
        clear hf hz
        go_wp2_with fail
        go_roundw
        case rel => exact ⟨k + 1, hlt.out, by go_num, B, d, by rw [hst2.out], by rw [hst2.out]; exact own3, hw3⟩
        case measure => have h9 := sub_dec hlt.out; simpa [intOf] using h9
      | some g =>
        have e1 : (imC (opI (some g))).toArray = #[.int .i64 g.b, .int .i64 g.w, .int .i64 g.h, .slice g.A g.P.length g.c] := rfl
        have e2 : (some g).isSome = true := rfl
        rw [e1, e2]
        have hz : sizeV im v = if (1 ≤ g.w ∧ g.w ≤ 100) ∧ 1 ≤ g.h ∧ g.h ≤ 100 then [⟨v.s, v.b, v.x % 40 - 20, v.y % 40 - 20, g.w, g.h⟩] else [] := by unfold sizeV; rw [hf]
        clear hf
        have own3 := Lib.hid (own_bl own2 (bl_alloc (Below.refl _ _) (.cells #[.int .i64 g.b, .int .i64 g.w, .int .i64 g.h, .slice g.A g.P.length g.c] 55)))
        have hw3 := bl_alloc hw2 (.cells #[.int .i64 g.b, .int .i64 g.w, .int .i64 g.h, .slice g.A g.P.length g.c] 55)
        by_cases nd1 : g.w < 1
        · have d1 : decide (g.w < 1) = true := dec_t nd1
          have hst2 := hst.out
          rw [hz, if_neg (by omega), List.append_nil] at hst2
          have hst2 := Lib.hid hst2
          clear hz
          go_wp2_with fail
          go_roundw
          case rel => exact ⟨k + 1, hlt.out, by go_num, B, d, by rw [hst2.out], by rw [hst2.out]; exact own3, hw3⟩
          case measure => have h9 := sub_dec hlt.out; simpa [intOf] using h9
        have d1 : decide (g.w < 1) = false := dec_f nd1
        by_cases nd2 : g.h < 1
        · have d2 : decide (g.h < 1) = true := dec_t nd2
          have hst2 := hst.out
          rw [hz, if_neg (by omega), List.append_nil] at hst2
          have hst2 := Lib.hid hst2
          clear hz
          go_wp2_with fail
          go_roundw
          case rel => exact ⟨k + 1, hlt.out, by go_num, B, d, by rw [hst2.out], by rw [hst2.out]; exact own3, hw3⟩
          case measure => have h9 := sub_dec hlt.out; simpa [intOf] using h9
        have d2 : decide (g.h < 1) = false := dec_f nd2
        by_cases nd3 : 100 < g.w
        · have d3 : decide (100 < g.w) = true := dec_t nd3
          have hst2 := hst.out
          rw [hz, if_neg (by omega), List.append_nil] at hst2
          have hst2 := Lib.hid hst2
          clear hz
          go_wp2_with fail
          go_roundw
          case rel => exact ⟨k + 1, hlt.out, by go_num, B, d, by rw [hst2.out], by rw [hst2.out]; exact own3, hw3⟩
          case measure => have h9 := sub_dec hlt.out; simpa [intOf] using h9
        have d3 : decide (100 < g.w) = false := dec_f nd3
        by_cases nd4 : 100 < g.h
        · have d4 : decide (100 < g.h) = true := dec_t nd4
          have hst2 := hst.out
          rw [hz, if_neg (by omega), List.append_nil] at hst2
          have hst2 := Lib.hid hst2
          clear hz
          go_wp2_with fail
          go_roundw
          case rel => exact ⟨k + 1, hlt.out, by go_num, B, d, by rw [hst2.out], by rw [hst2.out]; exact own3, hw3⟩
          case measure => have h9 := sub_dec hlt.out; simpa [intOf] using h9
        have d4 : decide (100 < g.h) = false := dec_f nd4
        have hst2 := hst.out
        rw [hz, if_pos (by omega)] at hst2
        have hst2 := Lib.hid hst2
        clear hz hst
        obtain ⟨X, hX⟩ : ∃ n, v.x % 40 = n := ⟨_, rfl⟩
        have lX : 0 ≤ X := by rw [← hX]; exact Int.emod_nonneg _ (by omega)
        have mX : X < 40 := by rw [← hX]; exact Int.emod_lt_of_pos _ (by omega)
        obtain ⟨Y, hY⟩ : ∃ n, v.y % 40 = n := ⟨_, rfl⟩
        have lY : 0 ≤ Y := by rw [← hY]; exact Int.emod_nonneg _ (by omega)
        have mY : Y < 40 := by rw [← hY]; exact Int.emod_lt_of_pos _ (by omega)
        have hst2 := Lib.hid (show sizedL im (l.take (k + 1)) = ml ++ [⟨v.s, v.b, X - 20, Y - 20, g.w, g.h⟩] by rw [← hX, ← hY]; exact hst2.out)
        have gX : IntKind.i64.wrap (X - 20) = X - 20 := i64_in (by omega) (by omega)
        have gY : IntKind.i64.wrap (Y - 20) = Y - 20 := i64_in (by omega) (by omega)
        have hgn : ¬ (gv = w2.heap.size) := by omega
        have hgn' : ¬ (w2.heap.size = gv) := by omega
        go_upto_region 8 with fail
        generalize hwv : World.alloc _ _ = w3 at *
        have B3 : Bk w3 gv 62 #[.int .i64 v.s, .int .i64 v.b, .int .i64 v.x, .int .i64 v.y, .int .i64 v.w, .int .i64 v.h] := hwv ▸ B2.al _
        have Bi3 : Bk w3 w2.heap.size 55 #[.int .i64 g.b, .int .i64 g.w, .int .i64 g.h, .slice g.A g.P.length g.c] := hwv ▸ Bk.new _ _ _
        obtain ⟨gi, hgi⟩ : ∃ gi, w2.heap.size = gi := ⟨_, rfl⟩
        rw [hgi] at Bi3 hgn hgn' ⊢
        clear hwv hgi B2 own2 hgl
        have f3 := B3.fz
        have l3 := B3.lt
        have f3d : ∀ i, w3.drew.frozen? ⟨gv, i, none⟩ = false := f3
        obtain ⟨y0, y1, y2, y3, y4, y5⟩ := Bk.c6 B3
        have y4d : w3.drew.cell? ⟨gv, 4, none⟩ = some (.int .i64 v.w) := y4
        have y5d : w3.drew.cell? ⟨gv, 5, none⟩ = some (.int .i64 v.h) := y5
        have zi2 := Bi3.cell 2
        have zi2d : w3.drew.cell? ⟨gi, 2, none⟩ = some (.int .i64 g.h) := zi2
        have hS : ∀ w' : World, Sav gv w3 w' → (Sav gv w3 w' ∧ w'.cell? ⟨gi, 1, none⟩ = some (.int .i64 g.w) ∧ w'.cell? ⟨gi, 2, none⟩ = some (.int .i64 g.h)) := fun w' hb => ⟨hb, (hb.bk Bi3 (fun e => hgn e.symm)).cell 1, (hb.bk Bi3 (fun e => hgn e.symm)).cell 2⟩
        have hS := Lib.hid hS
        refine wp_region_held_drew (S := fun w' : World => Sav gv w3 w' ∧ w'.cell? ⟨gi, 1, none⟩ = some (.int .i64 g.w) ∧ w'.cell? ⟨gi, 2, none⟩ = some (.int .i64 g.h)) (by kernel_rfl) (by (try dsimp only); exact hS.out _ (by repeat (first | (with_reducible exact Sav.refl _ _) | (with_reducible assumption) | (with_reducible apply Sav.st) | (with_reducible apply Sav.dr)))) (fun hHeld => ?_)
        refine wpAnyH_take (i := 0) (v := ?_) rfl (by kernel_rfl) (by kernel_rfl) (by kernel_rfl) (fun _ _ _ h => h) (Or.inl ⟨by rfl, ?_⟩) (by assumption) ?_
        rotate_left
        · (intro w hSw; (try dsimp only at hSw); go_simp; try (with_reducible rfl))
        (try simp only [Act.put, List.setIfInBounds_toArray, List.set_cons_zero, List.set_cons_succ])
        refine wpAnyH_take (i := 1) (v := ?_) rfl (by kernel_rfl) (by kernel_rfl) (by kernel_rfl) (fun _ _ _ h => h) (Or.inl ⟨by rfl, ?_⟩) (by assumption) ?_
        rotate_left
        · (intro w hSw; (try dsimp only at hSw); go_simp; try (with_reducible rfl))
        (try simp only [Act.put, List.setIfInBounds_toArray, List.set_cons_zero, List.set_cons_succ])
        refine wpAnyH_take (i := 2) (v := ?_) rfl (by kernel_rfl) (by kernel_rfl) (by kernel_rfl) (fun _ _ _ h => h) (Or.inl ⟨by rfl, ?_⟩) (by assumption) ?_
        rotate_left
        · (intro w hSw; (try dsimp only at hSw); go_simp; try (with_reducible rfl))
        (try simp only [Act.put, List.setIfInBounds_toArray, List.set_cons_zero, List.set_cons_succ])
        refine wpAnyH_take (i := 4) (v := ?_) rfl (by kernel_rfl) (by kernel_rfl) (by kernel_rfl) (fun _ _ _ h => h) (Or.inl ⟨by rfl, ?_⟩) (by assumption) ?_
        rotate_left
        · (intro w hSw; (try dsimp only at hSw); go_simp; try (with_reducible rfl))
        (try simp only [Act.put, List.setIfInBounds_toArray, List.set_cons_zero, List.set_cons_succ])
        refine wpAnyH_ready (rs := [3, 5]) (by kernel_rfl) (by simp) ?_
        refine AllReadyH.cons (i := 3) rfl (fun K hK => ?_) (AllReadyH.cons (i := 5) rfl (fun K hK => ?_) AllReadyH.nil)
        · go_simp
          refine hK.out _ _ hHeld (fun hHeld2 => ?_)
          clear hHeld2 hK K
          (try simp only [Act.put, List.setIfInBounds_toArray, List.set_cons_zero, List.set_cons_succ])
          refine wpAnyH_ready (rs := [5]) (by kernel_rfl) (by simp) ?_
          refine AllReadyH.cons (i := 5) rfl (fun K hK => ?_) AllReadyH.nil
          go_simp
          try (go_wp2_with fail)
          refine hK.out _ _ (by (try dsimp only); exact hS.out _ (by repeat (first | (with_reducible exact Sav.refl _ _) | (with_reducible assumption) | (with_reducible apply Sav.st) | (with_reducible apply Sav.dr)))) (fun hHeld2 => ?_)
          clear hHeld
          rename _ => hHeld
          clear hK K
          (try simp only [Act.put, List.setIfInBounds_toArray, List.set_cons_zero, List.set_cons_succ])
          refine wpAnyH_take (i := 6) (v := ?_) rfl (by kernel_rfl) (by kernel_rfl) (by kernel_rfl) (fun _ _ _ h => h) (Or.inl ⟨by rfl, ?_⟩) (by assumption) ?_
          rotate_left
          · (intro w hSw; (try dsimp only at hSw); go_simp; try (with_reducible rfl))
          (try simp only [Act.put, List.setIfInBounds_toArray, List.set_cons_zero, List.set_cons_succ])
          refine wpAnyH_ready (rs := [7]) (by kernel_rfl) (by simp) ?_
          refine AllReadyH.cons (i := 7) rfl (fun K hK => ?_) AllReadyH.nil
          go_simp
          try (go_wp2_with fail)
          refine hK.out _ _ (by (try dsimp only); exact hS.out _ (by repeat (first | (with_reducible exact Sav.refl _ _) | (with_reducible assumption) | (with_reducible apply Sav.st) | (with_reducible apply Sav.dr)))) (fun hHeld2 => ?_)
          clear hHeld
          rename _ => hHeld
          clear hK K
          (try simp only [Act.put, List.setIfInBounds_toArray, List.set_cons_zero, List.set_cons_succ])
          refine wpAnyH_done (by kernel_rfl) ?_ _
          clear hHeld hS
          go_upto_region 9 with fail
          generalize hwv : World.drew _ = w4
          have B4 : Bk w4 gv 62 #[.int .i64 v.s, .int .i64 v.b, .int .i64 v.x, .int .i64 v.y, .int .i64 g.w, .int .i64 g.h] := hwv ▸ ((B3.st 4 (.int .i64 g.w)).st 5 (.int .i64 g.h)).dr
          have s4 : Sav gv w3 w4 := hwv ▸ (((Sav.refl gv w3).st 4 (.int .i64 g.w)).st 5 (.int .i64 g.h)).dr
          clear hwv
          have hw4 := s4.below hw3 hwgv hw3.size
          have own4 := own_sv own3.out s4 hBgv
          obtain ⟨x0, x1, x2, x3, x4, x5⟩ := Bk.c6 B4
          have f4 := B4.fz
          have l4 := B4.lt
          have f4d : ∀ i, w4.drew.frozen? ⟨gv, i, none⟩ = false := f4
          have x2d : w4.drew.cell? ⟨gv, 2, none⟩ = some (.int .i64 v.x) := x2
          have x3d : w4.drew.cell? ⟨gv, 3, none⟩ = some (.int .i64 v.y) := x3
          have hS9 : ∀ w' : World, Sav gv w4 w' → Sav gv w4 w' := fun w' hb => hb
          have hS9 := Lib.hid hS9
          refine wp_region_held_drew (S := fun w' : World => Sav gv w4 w') (by kernel_rfl) (by (try dsimp only); exact hS9.out _ (by repeat (first | (with_reducible exact Sav.refl _ _) | (with_reducible assumption) | (with_reducible apply Sav.st) | (with_reducible apply Sav.dr)))) (fun hHeld => ?_)
          refine wpAnyH_take (i := 0) (v := ?_) rfl (by kernel_rfl) (by kernel_rfl) (by kernel_rfl) (fun _ _ _ h => h) (Or.inl ⟨by rfl, ?_⟩) (by assumption) ?_
          rotate_left
          · (intro w hSw; (try dsimp only at hSw); go_simp; try (with_reducible rfl))
          (try simp only [Act.put, List.setIfInBounds_toArray, List.set_cons_zero, List.set_cons_succ])
          refine wpAnyH_take (i := 4) (v := ?_) rfl (by kernel_rfl) (by kernel_rfl) (by kernel_rfl) (fun _ _ _ h => h) (Or.inl ⟨by rfl, ?_⟩) (by assumption) ?_
          rotate_left
          · (intro w hSw; (try dsimp only at hSw); go_simp; try (with_reducible rfl))
          (try simp only [Act.put, List.setIfInBounds_toArray, List.set_cons_zero, List.set_cons_succ])
          refine wpAnyH_ready (rs := [1, 5]) (by kernel_rfl) (by simp) ?_
          refine AllReadyH.cons (i := 1) rfl (fun K hK => ?_) (AllReadyH.cons (i := 5) rfl (fun K hK => ?_) AllReadyH.nil)
          · go_simp
            refine hK.out _ _ hHeld (fun hHeld2 => ?_)
            clear hHeld2 hK K
            (try simp only [Act.put, List.setIfInBounds_toArray, List.set_cons_zero, List.set_cons_succ])
            refine wpAnyH_ready (rs := [2, 5]) (by kernel_rfl) (by simp) ?_
            refine AllReadyH.cons (i := 2) rfl (fun K hK => ?_) (AllReadyH.cons (i := 5) rfl (fun K hK => ?_) AllReadyH.nil)
            · go_simp
              go_at_call 29
              refine (place_any v.x 40 _ (by omega) (by omega)).mono ?_
              rintro e _ ⟨rfl, rfl⟩
              rw [hX]
              try (go_wp2_with fail)
              refine hK.out _ _ (by (try dsimp only); exact hS9.out _ (by repeat (first | (with_reducible exact Sav.refl _ _) | (with_reducible assumption) | (with_reducible apply Sav.st) | (with_reducible apply Sav.dr)))) (fun hHeld2 => ?_)
              clear hHeld
              rename _ => hHeld
              clear hK K
              (try simp only [Act.put, List.setIfInBounds_toArray, List.set_cons_zero, List.set_cons_succ])
              refine wpAnyH_take (i := 3) (v := ?_) rfl (by kernel_rfl) (by kernel_rfl) (by kernel_rfl) (fun _ _ _ h => h) (Or.inl ⟨by rfl, ?_⟩) (by assumption) ?_
              rotate_left
              · (intro w hSw; (try dsimp only at hSw); go_simp; try (with_reducible rfl))
              (try simp only [Act.put, List.setIfInBounds_toArray, List.set_cons_zero, List.set_cons_succ])
              refine wpAnyH_ready (rs := [5]) (by kernel_rfl) (by simp) ?_
              refine AllReadyH.cons (i := 5) rfl (fun K hK => ?_) AllReadyH.nil
              go_simp
              refine hK.out _ _ hHeld (fun hHeld2 => ?_)
              clear hHeld2 hK K
              (try simp only [Act.put, List.setIfInBounds_toArray, List.set_cons_zero, List.set_cons_succ])
              refine wpAnyH_take (i := 8) (v := ?_) rfl (by kernel_rfl) (by kernel_rfl) (by kernel_rfl) (fun _ _ _ h => h) (Or.inl ⟨by rfl, ?_⟩) (by assumption) ?_
              rotate_left
              · (intro w hSw; (try dsimp only at hSw); go_simp; try (with_reducible rfl))
              (try simp only [Act.put, List.setIfInBounds_toArray, List.set_cons_zero, List.set_cons_succ])
              refine wpAnyH_ready (rs := [6]) (by kernel_rfl) (by simp) ?_
              refine AllReadyH.cons (i := 6) rfl (fun K hK => ?_) AllReadyH.nil
              go_simp
              go_at_call 29
              refine (place_any v.y 40 _ (by omega) (by omega)).mono ?_
              rintro e _ ⟨rfl, rfl⟩
              rw [hY]
              try (go_wp2_with fail)
              refine hK.out _ _ (by (try dsimp only); exact hS9.out _ (by repeat (first | (with_reducible exact Sav.refl _ _) | (with_reducible assumption) | (with_reducible apply Sav.st) | (with_reducible apply Sav.dr)))) (fun hHeld2 => ?_)
              clear hHeld
              rename _ => hHeld
              clear hK K
              (try simp only [Act.put, List.setIfInBounds_toArray, List.set_cons_zero, List.set_cons_succ])
              refine wpAnyH_take (i := 7) (v := ?_) rfl (by kernel_rfl) (by kernel_rfl) (by kernel_rfl) (fun _ _ _ h => h) (Or.inl ⟨by rfl, ?_⟩) (by assumption) ?_
              rotate_left
              · (intro w hSw; (try dsimp only at hSw); go_simp; try (with_reducible rfl))
              (try simp only [Act.put, List.setIfInBounds_toArray, List.set_cons_zero, List.set_cons_succ])
              refine wpAnyH_ready (rs := [9]) (by kernel_rfl) (by simp) ?_
              refine AllReadyH.cons (i := 9) rfl (fun K hK => ?_) AllReadyH.nil
              go_simp
              try (go_wp2_with fail)
              refine hK.out _ _ (by (try dsimp only); exact hS9.out _ (by repeat (first | (with_reducible exact Sav.refl _ _) | (with_reducible assumption) | (with_reducible apply Sav.st) | (with_reducible apply Sav.dr)))) (fun hHeld2 => ?_)
              clear hHeld
              rename _ => hHeld
              clear hK K
              (try simp only [Act.put, List.setIfInBounds_toArray, List.set_cons_zero, List.set_cons_succ])
              refine wpAnyH_take (i := 10) (v := ?_) rfl (by kernel_rfl) (by kernel_rfl) (by kernel_rfl) (fun _ _ _ h => h) (Or.inl ⟨by rfl, ?_⟩) (by assumption) ?_
              rotate_left
              · (intro w hSw; (try dsimp only at hSw); go_simp; try (with_reducible rfl))
              (try simp only [Act.put, List.setIfInBounds_toArray, List.set_cons_zero, List.set_cons_succ])
              refine wpAnyH_ready (rs := [11]) (by kernel_rfl) (by simp) ?_
              refine AllReadyH.cons (i := 11) rfl (fun K hK => ?_) AllReadyH.nil
              go_simp
              try (go_wp2_with fail)
              refine hK.out _ _ (by (try dsimp only); exact hS9.out _ (by repeat (first | (with_reducible exact Sav.refl _ _) | (with_reducible assumption) | (with_reducible apply Sav.st) | (with_reducible apply Sav.dr)))) (fun hHeld2 => ?_)
              clear hHeld
              rename _ => hHeld
              clear hK K
              (try simp only [Act.put, List.setIfInBounds_toArray, List.set_cons_zero, List.set_cons_succ])
              refine wpAnyH_done (by kernel_rfl) ?_ _
              clear hHeld hS9
              go_upto_region 10 with fail
              generalize hwv : World.drew _ = w5
              have B5 : Bk w5 gv 62 #[.int .i64 v.s, .int .i64 v.b, .int .i64 (X - 20), .int .i64 (Y - 20), .int .i64 g.w, .int .i64 g.h] := hwv ▸ ((B4.st 2 (.int .i64 (X - 20))).st 3 (.int .i64 (Y - 20))).dr
              have s5 : Sav gv w4 w5 := hwv ▸ (((Sav.refl gv w4).st 2 (.int .i64 (X - 20))).st 3 (.int .i64 (Y - 20))).dr
              clear hwv
              have hw5 := s5.below hw4 hwgv hw4.size
              have own5 := own_sv own4 s5 hBgv
              obtain ⟨u0, u1, u2, u3, u4, u5⟩ := Bk.c6 B5
              have hba : Below w5.heap.size w5 (w5.alloc (.cells #[.int .i64 v.s, .int .i64 v.b, .int .i64 (X - 20), .int .i64 (Y - 20), .int .i64 g.w, .int .i64 g.h] 62)) := bl_alloc (Below.refl _ _) _
              have Bu : Bk (w5.alloc (.cells #[.int .i64 v.s, .int .i64 v.b, .int .i64 (X - 20), .int .i64 (Y - 20), .int .i64 g.w, .int .i64 g.h] 62)) w5.heap.size 62 #[.int .i64 v.s, .int .i64 v.b, .int .i64 (X - 20), .int .i64 (Y - 20), .int .i64 g.w, .int .i64 g.h] := Bk.new _ _ _
              have own6 := own_bl own5 hba
              have hw6 := bl_step hw5 hba
              have hs6 := hw6.size
              have hRu := one_vw (v := ⟨v.s, v.b, X - 20, Y - 20, g.w, g.h⟩) Bu
              go_wp2_with (at_builtin; (refine wpList_app _ rfl (.tmp 65) (.tmp 67) _ rfl w.heap.size 62 iV _ 6 48 Tryz.underlying23 hiV zV0 zV1 zV2 rfl (by omega) (.slice B ml.length d) ml.length (ml.flatMap vwC) rfl own6 _ (some ⟨w5.heap.size, 0, none⟩) 1 1 ([(⟨v.s, v.b, X - 20, Y - 20, g.w, g.h⟩ : Vw)].flatMap vwC) rfl hRu (vwC_one _) (by simp only [maxLen]; omega) (by omega) hs6 ?_); intro v7 w7 own7 hg7 hat7; obtain ⟨A7, c7, rfl, _⟩ := own_form own7; have hw7 : Below w.heap.size w w7 := hw6.grown hg7 hs6 (fun g hg => (own6.lt g hg).1))
              go_roundw
              case rel => exact ⟨k + 1, hlt.out, by go_num, A7, c7, by (rw [hst2.out, List.length_append]; rfl), by rw [hst2.out, List.length_append, List.flatMap_append]; exact Lib.hid own7, hw7⟩
              case measure => have h9 := sub_dec hlt.out; simpa [intOf] using h9
            · go_simp
              refine hK.out _ _ hHeld (fun hHeld2 => ?_)
              clear hHeld2 hK K
              (try simp only [Act.put, List.setIfInBounds_toArray, List.set_cons_zero, List.set_cons_succ])
              refine wpAnyH_ready (rs := [2]) (by kernel_rfl) (by simp) ?_
              refine AllReadyH.cons (i := 2) rfl (fun K hK => ?_) AllReadyH.nil
              go_simp
              go_at_call 29
              refine (place_any v.x 40 _ (by omega) (by omega)).mono ?_
              rintro e _ ⟨rfl, rfl⟩
              rw [hX]
              try (go_wp2_with fail)
              refine hK.out _ _ (by (try dsimp only); exact hS9.out _ (by repeat (first | (with_reducible exact Sav.refl _ _) | (with_reducible assumption) | (with_reducible apply Sav.st) | (with_reducible apply Sav.dr)))) (fun hHeld2 => ?_)
              clear hHeld
              rename _ => hHeld
              clear hK K
              (try simp only [Act.put, List.setIfInBounds_toArray, List.set_cons_zero, List.set_cons_succ])
              refine wpAnyH_take (i := 3) (v := ?_) rfl (by kernel_rfl) (by kernel_rfl) (by kernel_rfl) (fun _ _ _ h => h) (Or.inl ⟨by rfl, ?_⟩) (by assumption) ?_
              rotate_left
              · (intro w hSw; (try dsimp only at hSw); go_simp; try (with_reducible rfl))
              (try simp only [Act.put, List.setIfInBounds_toArray, List.set_cons_zero, List.set_cons_succ])
              refine wpAnyH_take (i := 8) (v := ?_) rfl (by kernel_rfl) (by kernel_rfl) (by kernel_rfl) (fun _ _ _ h => h) (Or.inl ⟨by rfl, ?_⟩) (by assumption) ?_
              rotate_left
              · (intro w hSw; (try dsimp only at hSw); go_simp; try (with_reducible rfl))
              (try simp only [Act.put, List.setIfInBounds_toArray, List.set_cons_zero, List.set_cons_succ])
              refine wpAnyH_ready (rs := [6]) (by kernel_rfl) (by simp) ?_
              refine AllReadyH.cons (i := 6) rfl (fun K hK => ?_) AllReadyH.nil
              go_simp
              go_at_call 29
              refine (place_any v.y 40 _ (by omega) (by omega)).mono ?_
              rintro e _ ⟨rfl, rfl⟩
              rw [hY]
              try (go_wp2_with fail)
              refine hK.out _ _ (by (try dsimp only); exact hS9.out _ (by repeat (first | (with_reducible exact Sav.refl _ _) | (with_reducible assumption) | (with_reducible apply Sav.st) | (with_reducible apply Sav.dr)))) (fun hHeld2 => ?_)
              clear hHeld
              rename _ => hHeld
              clear hK K
              (try simp only [Act.put, List.setIfInBounds_toArray, List.set_cons_zero, List.set_cons_succ])
              refine wpAnyH_take (i := 7) (v := ?_) rfl (by kernel_rfl) (by kernel_rfl) (by kernel_rfl) (fun _ _ _ h => h) (Or.inl ⟨by rfl, ?_⟩) (by assumption) ?_
              rotate_left
              · (intro w hSw; (try dsimp only at hSw); go_simp; try (with_reducible rfl))
              (try simp only [Act.put, List.setIfInBounds_toArray, List.set_cons_zero, List.set_cons_succ])
              refine wpAnyH_ready (rs := [9]) (by kernel_rfl) (by simp) ?_
              refine AllReadyH.cons (i := 9) rfl (fun K hK => ?_) AllReadyH.nil
              go_simp
              try (go_wp2_with fail)
              refine hK.out _ _ (by (try dsimp only); exact hS9.out _ (by repeat (first | (with_reducible exact Sav.refl _ _) | (with_reducible assumption) | (with_reducible apply Sav.st) | (with_reducible apply Sav.dr)))) (fun hHeld2 => ?_)
              clear hHeld
              rename _ => hHeld
              clear hK K
              (try simp only [Act.put, List.setIfInBounds_toArray, List.set_cons_zero, List.set_cons_succ])
              refine wpAnyH_take (i := 10) (v := ?_) rfl (by kernel_rfl) (by kernel_rfl) (by kernel_rfl) (fun _ _ _ h => h) (Or.inl ⟨by rfl, ?_⟩) (by assumption) ?_
              rotate_left
              · (intro w hSw; (try dsimp only at hSw); go_simp; try (with_reducible rfl))
              (try simp only [Act.put, List.setIfInBounds_toArray, List.set_cons_zero, List.set_cons_succ])
              refine wpAnyH_ready (rs := [11]) (by kernel_rfl) (by simp) ?_
              refine AllReadyH.cons (i := 11) rfl (fun K hK => ?_) AllReadyH.nil
              go_simp
              try (go_wp2_with fail)
              refine hK.out _ _ (by (try dsimp only); exact hS9.out _ (by repeat (first | (with_reducible exact Sav.refl _ _) | (with_reducible assumption) | (with_reducible apply Sav.st) | (with_reducible apply Sav.dr)))) (fun hHeld2 => ?_)
              clear hHeld
              rename _ => hHeld
              clear hK K
              (try simp only [Act.put, List.setIfInBounds_toArray, List.set_cons_zero, List.set_cons_succ])
              refine wpAnyH_done (by kernel_rfl) ?_ _
              clear hHeld hS9
              go_upto_region 10 with fail
              generalize hwv : World.drew _ = w5
              have B5 : Bk w5 gv 62 #[.int .i64 v.s, .int .i64 v.b, .int .i64 (X - 20), .int .i64 (Y - 20), .int .i64 g.w, .int .i64 g.h] := hwv ▸ ((B4.st 2 (.int .i64 (X - 20))).st 3 (.int .i64 (Y - 20))).dr
              have s5 : Sav gv w4 w5 := hwv ▸ (((Sav.refl gv w4).st 2 (.int .i64 (X - 20))).st 3 (.int .i64 (Y - 20))).dr
              clear hwv
              have hw5 := s5.below hw4 hwgv hw4.size
              have own5 := own_sv own4 s5 hBgv
              obtain ⟨u0, u1, u2, u3, u4, u5⟩ := Bk.c6 B5
              have hba : Below w5.heap.size w5 (w5.alloc (.cells #[.int .i64 v.s, .int .i64 v.b, .int .i64 (X - 20), .int .i64 (Y - 20), .int .i64 g.w, .int .i64 g.h] 62)) := bl_alloc (Below.refl _ _) _
              have Bu : Bk (w5.alloc (.cells #[.int .i64 v.s, .int .i64 v.b, .int .i64 (X - 20), .int .i64 (Y - 20), .int .i64 g.w, .int .i64 g.h] 62)) w5.heap.size 62 #[.int .i64 v.s, .int .i64 v.b, .int .i64 (X - 20), .int .i64 (Y - 20), .int .i64 g.w, .int .i64 g.h] := Bk.new _ _ _
              have own6 := own_bl own5 hba
              have hw6 := bl_step hw5 hba
              have hs6 := hw6.size
              have hRu := one_vw (v := ⟨v.s, v.b, X - 20, Y - 20, g.w, g.h⟩) Bu
              go_wp2_with (at_builtin; (refine wpList_app _ rfl (.tmp 65) (.tmp 67) _ rfl w.heap.size 62 iV _ 6 48 Tryz.underlying23 hiV zV0 zV1 zV2 rfl (by omega) (.slice B ml.length d) ml.length (ml.flatMap vwC) rfl own6 _ (some ⟨w5.heap.size, 0, none⟩) 1 1 ([(⟨v.s, v.b, X - 20, Y - 20, g.w, g.h⟩ : Vw)].flatMap vwC) rfl hRu (vwC_one _) (by simp only [maxLen]; omega) (by omega) hs6 ?_); intro v7 w7 own7 hg7 hat7; obtain ⟨A7, c7, rfl, _⟩ := own_form own7; have hw7 : Below w.heap.size w w7 := hw6.grown hg7 hs6 (fun g hg => (own6.lt g hg).1))
              go_roundw
              case rel => exact ⟨k + 1, hlt.out, by go_num, A7, c7, by (rw [hst2.out, List.length_append]; rfl), by rw [hst2.out, List.length_append, List.flatMap_append]; exact Lib.hid own7, hw7⟩
              case measure => have h9 := sub_dec hlt.out; simpa [intOf] using h9
          · go_simp
            refine hK.out _ _ hHeld (fun hHeld2 => ?_)
            clear hHeld2 hK K
            (try simp only [Act.put, List.setIfInBounds_toArray, List.set_cons_zero, List.set_cons_succ])
            refine wpAnyH_ready (rs := [1]) (by kernel_rfl) (by simp) ?_
            refine AllReadyH.cons (i := 1) rfl (fun K hK => ?_) AllReadyH.nil
            go_simp
            refine hK.out _ _ hHeld (fun hHeld2 => ?_)
            clear hHeld2 hK K
            (try simp only [Act.put, List.setIfInBounds_toArray, List.set_cons_zero, List.set_cons_succ])
            refine wpAnyH_ready (rs := [2]) (by kernel_rfl) (by simp) ?_
            refine AllReadyH.cons (i := 2) rfl (fun K hK => ?_) AllReadyH.nil
            go_simp
            go_at_call 29
            refine (place_any v.x 40 _ (by omega) (by omega)).mono ?_
            rintro e _ ⟨rfl, rfl⟩
            rw [hX]
            try (go_wp2_with fail)
            refine hK.out _ _ (by (try dsimp only); exact hS9.out _ (by repeat (first | (with_reducible exact Sav.refl _ _) | (with_reducible assumption) | (with_reducible apply Sav.st) | (with_reducible apply Sav.dr)))) (fun hHeld2 => ?_)
            clear hHeld
            rename _ => hHeld
            clear hK K
            (try simp only [Act.put, List.setIfInBounds_toArray, List.set_cons_zero, List.set_cons_succ])
            refine wpAnyH_take (i := 3) (v := ?_) rfl (by kernel_rfl) (by kernel_rfl) (by kernel_rfl) (fun _ _ _ h => h) (Or.inl ⟨by rfl, ?_⟩) (by assumption) ?_
            rotate_left
            · (intro w hSw; (try dsimp only at hSw); go_simp; try (with_reducible rfl))
            (try simp only [Act.put, List.setIfInBounds_toArray, List.set_cons_zero, List.set_cons_succ])
            refine wpAnyH_take (i := 8) (v := ?_) rfl (by kernel_rfl) (by kernel_rfl) (by kernel_rfl) (fun _ _ _ h => h) (Or.inl ⟨by rfl, ?_⟩) (by assumption) ?_
            rotate_left
            · (intro w hSw; (try dsimp only at hSw); go_simp; try (with_reducible rfl))
            (try simp only [Act.put, List.setIfInBounds_toArray, List.set_cons_zero, List.set_cons_succ])
            refine wpAnyH_ready (rs := [6]) (by kernel_rfl) (by simp) ?_
            refine AllReadyH.cons (i := 6) rfl (fun K hK => ?_) AllReadyH.nil
            go_simp
            go_at_call 29
            refine (place_any v.y 40 _ (by omega) (by omega)).mono ?_
            rintro e _ ⟨rfl, rfl⟩
            rw [hY]
            try (go_wp2_with fail)
            refine hK.out _ _ (by (try dsimp only); exact hS9.out _ (by repeat (first | (with_reducible exact Sav.refl _ _) | (with_reducible assumption) | (with_reducible apply Sav.st) | (with_reducible apply Sav.dr)))) (fun hHeld2 => ?_)
            clear hHeld
            rename _ => hHeld
            clear hK K
            (try simp only [Act.put, List.setIfInBounds_toArray, List.set_cons_zero, List.set_cons_succ])
            refine wpAnyH_take (i := 7) (v := ?_) rfl (by kernel_rfl) (by kernel_rfl) (by kernel_rfl) (fun _ _ _ h => h) (Or.inl ⟨by rfl, ?_⟩) (by assumption) ?_
            rotate_left
            · (intro w hSw; (try dsimp only at hSw); go_simp; try (with_reducible rfl))
            (try simp only [Act.put, List.setIfInBounds_toArray, List.set_cons_zero, List.set_cons_succ])
            refine wpAnyH_ready (rs := [9]) (by kernel_rfl) (by simp) ?_
            refine AllReadyH.cons (i := 9) rfl (fun K hK => ?_) AllReadyH.nil
            go_simp
            try (go_wp2_with fail)
            refine hK.out _ _ (by (try dsimp only); exact hS9.out _ (by repeat (first | (with_reducible exact Sav.refl _ _) | (with_reducible assumption) | (with_reducible apply Sav.st) | (with_reducible apply Sav.dr)))) (fun hHeld2 => ?_)
            clear hHeld
            rename _ => hHeld
            clear hK K
            (try simp only [Act.put, List.setIfInBounds_toArray, List.set_cons_zero, List.set_cons_succ])
            refine wpAnyH_take (i := 10) (v := ?_) rfl (by kernel_rfl) (by kernel_rfl) (by kernel_rfl) (fun _ _ _ h => h) (Or.inl ⟨by rfl, ?_⟩) (by assumption) ?_
            rotate_left
            · (intro w hSw; (try dsimp only at hSw); go_simp; try (with_reducible rfl))
            (try simp only [Act.put, List.setIfInBounds_toArray, List.set_cons_zero, List.set_cons_succ])
            refine wpAnyH_ready (rs := [11]) (by kernel_rfl) (by simp) ?_
            refine AllReadyH.cons (i := 11) rfl (fun K hK => ?_) AllReadyH.nil
            go_simp
            try (go_wp2_with fail)
            refine hK.out _ _ (by (try dsimp only); exact hS9.out _ (by repeat (first | (with_reducible exact Sav.refl _ _) | (with_reducible assumption) | (with_reducible apply Sav.st) | (with_reducible apply Sav.dr)))) (fun hHeld2 => ?_)
            clear hHeld
            rename _ => hHeld
            clear hK K
            (try simp only [Act.put, List.setIfInBounds_toArray, List.set_cons_zero, List.set_cons_succ])
            refine wpAnyH_done (by kernel_rfl) ?_ _
            clear hHeld hS9
            go_upto_region 10 with fail
            generalize hwv : World.drew _ = w5
            have B5 : Bk w5 gv 62 #[.int .i64 v.s, .int .i64 v.b, .int .i64 (X - 20), .int .i64 (Y - 20), .int .i64 g.w, .int .i64 g.h] := hwv ▸ ((B4.st 2 (.int .i64 (X - 20))).st 3 (.int .i64 (Y - 20))).dr
            have s5 : Sav gv w4 w5 := hwv ▸ (((Sav.refl gv w4).st 2 (.int .i64 (X - 20))).st 3 (.int .i64 (Y - 20))).dr
            clear hwv
            have hw5 := s5.below hw4 hwgv hw4.size
            have own5 := own_sv own4 s5 hBgv
            obtain ⟨u0, u1, u2, u3, u4, u5⟩ := Bk.c6 B5
            have hba : Below w5.heap.size w5 (w5.alloc (.cells #[.int .i64 v.s, .int .i64 v.b, .int .i64 (X - 20), .int .i64 (Y - 20), .int .i64 g.w, .int .i64 g.h] 62)) := bl_alloc (Below.refl _ _) _
            have Bu : Bk (w5.alloc (.cells #[.int .i64 v.s, .int .i64 v.b, .int .i64 (X - 20), .int .i64 (Y - 20), .int .i64 g.w, .int .i64 g.h] 62)) w5.heap.size 62 #[.int .i64 v.s, .int .i64 v.b, .int .i64 (X - 20), .int .i64 (Y - 20), .int .i64 g.w, .int .i64 g.h] := Bk.new _ _ _
            have own6 := own_bl own5 hba
            have hw6 := bl_step hw5 hba
            have hs6 := hw6.size
            have hRu := one_vw (v := ⟨v.s, v.b, X - 20, Y - 20, g.w, g.h⟩) Bu
            go_wp2_with (at_builtin; (refine wpList_app _ rfl (.tmp 65) (.tmp 67) _ rfl w.heap.size 62 iV _ 6 48 Tryz.underlying23 hiV zV0 zV1 zV2 rfl (by omega) (.slice B ml.length d) ml.length (ml.flatMap vwC) rfl own6 _ (some ⟨w5.heap.size, 0, none⟩) 1 1 ([(⟨v.s, v.b, X - 20, Y - 20, g.w, g.h⟩ : Vw)].flatMap vwC) rfl hRu (vwC_one _) (by simp only [maxLen]; omega) (by omega) hs6 ?_); intro v7 w7 own7 hg7 hat7; obtain ⟨A7, c7, rfl, _⟩ := own_form own7; have hw7 : Below w.heap.size w w7 := hw6.grown hg7 hs6 (fun g hg => (own6.lt g hg).1))
            go_roundw
            case rel => exact ⟨k + 1, hlt.out, by go_num, A7, c7, by (rw [hst2.out, List.length_append]; rfl), by rw [hst2.out, List.length_append, List.flatMap_append]; exact Lib.hid own7, hw7⟩
            case measure => have h9 := sub_dec hlt.out; simpa [intOf] using h9
        · go_simp
          try (go_wp2_with fail)
          refine hK.out _ _ (by (try dsimp only); exact hS.out _ (by repeat (first | (with_reducible exact Sav.refl _ _) | (with_reducible assumption) | (with_reducible apply Sav.st) | (with_reducible apply Sav.dr)))) (fun hHeld2 => ?_)
          clear hHeld
          rename _ => hHeld
          clear hK K
          (try simp only [Act.put, List.setIfInBounds_toArray, List.set_cons_zero, List.set_cons_succ])
          refine wpAnyH_ready (rs := [3]) (by kernel_rfl) (by simp) ?_
          refine AllReadyH.cons (i := 3) rfl (fun K hK => ?_) AllReadyH.nil
          go_simp
          refine hK.out _ _ hHeld (fun hHeld2 => ?_)
          clear hHeld2 hK K
          (try simp only [Act.put, List.setIfInBounds_toArray, List.set_cons_zero, List.set_cons_succ])
          refine wpAnyH_take (i := 6) (v := ?_) rfl (by kernel_rfl) (by kernel_rfl) (by kernel_rfl) (fun _ _ _ h => h) (Or.inl ⟨by rfl, ?_⟩) (by assumption) ?_
          rotate_left
          · (intro w hSw; (try dsimp only at hSw); go_simp; try (with_reducible rfl))
          (try simp only [Act.put, List.setIfInBounds_toArray, List.set_cons_zero, List.set_cons_succ])
          refine wpAnyH_ready (rs := [7]) (by kernel_rfl) (by simp) ?_
          refine AllReadyH.cons (i := 7) rfl (fun K hK => ?_) AllReadyH.nil
          go_simp
          try (go_wp2_with fail)
          refine hK.out _ _ (by (try dsimp only); exact hS.out _ (by repeat (first | (with_reducible exact Sav.refl _ _) | (with_reducible assumption) | (with_reducible apply Sav.st) | (with_reducible apply Sav.dr)))) (fun hHeld2 => ?_)
          clear hHeld
          rename _ => hHeld
          clear hK K
          (try simp only [Act.put, List.setIfInBounds_toArray, List.set_cons_zero, List.set_cons_succ])
          refine wpAnyH_done (by kernel_rfl) ?_ _
          clear hHeld hS
          go_upto_region 9 with fail
          generalize hwv : World.drew _ = w4
          have B4 : Bk w4 gv 62 #[.int .i64 v.s, .int .i64 v.b, .int .i64 v.x, .int .i64 v.y, .int .i64 g.w, .int .i64 g.h] := hwv ▸ ((B3.st 4 (.int .i64 g.w)).st 5 (.int .i64 g.h)).dr
          have s4 : Sav gv w3 w4 := hwv ▸ (((Sav.refl gv w3).st 4 (.int .i64 g.w)).st 5 (.int .i64 g.h)).dr
          clear hwv
          have hw4 := s4.below hw3 hwgv hw3.size
          have own4 := own_sv own3.out s4 hBgv
          obtain ⟨x0, x1, x2, x3, x4, x5⟩ := Bk.c6 B4
          have f4 := B4.fz
          have l4 := B4.lt
          have f4d : ∀ i, w4.drew.frozen? ⟨gv, i, none⟩ = false := f4
          have x2d : w4.drew.cell? ⟨gv, 2, none⟩ = some (.int .i64 v.x) := x2
          have x3d : w4.drew.cell? ⟨gv, 3, none⟩ = some (.int .i64 v.y) := x3
          have hS9 : ∀ w' : World, Sav gv w4 w' → Sav gv w4 w' := fun w' hb => hb
          have hS9 := Lib.hid hS9
          refine wp_region_held_drew (S := fun w' : World => Sav gv w4 w') (by kernel_rfl) (by (try dsimp only); exact hS9.out _ (by repeat (first | (with_reducible exact Sav.refl _ _) | (with_reducible assumption) | (with_reducible apply Sav.st) | (with_reducible apply Sav.dr)))) (fun hHeld => ?_)
          refine wpAnyH_take (i := 0) (v := ?_) rfl (by kernel_rfl) (by kernel_rfl) (by kernel_rfl) (fun _ _ _ h => h) (Or.inl ⟨by rfl, ?_⟩) (by assumption) ?_
          rotate_left
          · (intro w hSw; (try dsimp only at hSw); go_simp; try (with_reducible rfl))
          (try simp only [Act.put, List.setIfInBounds_toArray, List.set_cons_zero, List.set_cons_succ])
          refine wpAnyH_take (i := 4) (v := ?_) rfl (by kernel_rfl) (by kernel_rfl) (by kernel_rfl) (fun _ _ _ h => h) (Or.inl ⟨by rfl, ?_⟩) (by assumption) ?_
          rotate_left
          · (intro w hSw; (try dsimp only at hSw); go_simp; try (with_reducible rfl))
          (try simp only [Act.put, List.setIfInBounds_toArray, List.set_cons_zero, List.set_cons_succ])
          refine wpAnyH_ready (rs := [1, 5]) (by kernel_rfl) (by simp) ?_
          refine AllReadyH.cons (i := 1) rfl (fun K hK => ?_) (AllReadyH.cons (i := 5) rfl (fun K hK => ?_) AllReadyH.nil)
          · go_simp
            refine hK.out _ _ hHeld (fun hHeld2 => ?_)
            clear hHeld2 hK K
            (try simp only [Act.put, List.setIfInBounds_toArray, List.set_cons_zero, List.set_cons_succ])
            refine wpAnyH_ready (rs := [2, 5]) (by kernel_rfl) (by simp) ?_
            refine AllReadyH.cons (i := 2) rfl (fun K hK => ?_) (AllReadyH.cons (i := 5) rfl (fun K hK => ?_) AllReadyH.nil)
            · go_simp
              go_at_call 29
              refine (place_any v.x 40 _ (by omega) (by omega)).mono ?_
              rintro e _ ⟨rfl, rfl⟩
              rw [hX]
              try (go_wp2_with fail)
              refine hK.out _ _ (by (try dsimp only); exact hS9.out _ (by repeat (first | (with_reducible exact Sav.refl _ _) | (with_reducible assumption) | (with_reducible apply Sav.st) | (with_reducible apply Sav.dr)))) (fun hHeld2 => ?_)
              clear hHeld
              rename _ => hHeld
              clear hK K
              (try simp only [Act.put, List.setIfInBounds_toArray, List.set_cons_zero, List.set_cons_succ])
              refine wpAnyH_take (i := 3) (v := ?_) rfl (by kernel_rfl) (by kernel_rfl) (by kernel_rfl) (fun _ _ _ h => h) (Or.inl ⟨by rfl, ?_⟩) (by assumption) ?_
              rotate_left
              · (intro w hSw; (try dsimp only at hSw); go_simp; try (with_reducible rfl))
              (try simp only [Act.put, List.setIfInBounds_toArray, List.set_cons_zero, List.set_cons_succ])
              refine wpAnyH_ready (rs := [5]) (by kernel_rfl) (by simp) ?_
              refine AllReadyH.cons (i := 5) rfl (fun K hK => ?_) AllReadyH.nil
              go_simp
              refine hK.out _ _ hHeld (fun hHeld2 => ?_)
              clear hHeld2 hK K
              (try simp only [Act.put, List.setIfInBounds_toArray, List.set_cons_zero, List.set_cons_succ])
              refine wpAnyH_take (i := 8) (v := ?_) rfl (by kernel_rfl) (by kernel_rfl) (by kernel_rfl) (fun _ _ _ h => h) (Or.inl ⟨by rfl, ?_⟩) (by assumption) ?_
              rotate_left
              · (intro w hSw; (try dsimp only at hSw); go_simp; try (with_reducible rfl))
              (try simp only [Act.put, List.setIfInBounds_toArray, List.set_cons_zero, List.set_cons_succ])
              refine wpAnyH_ready (rs := [6]) (by kernel_rfl) (by simp) ?_
              refine AllReadyH.cons (i := 6) rfl (fun K hK => ?_) AllReadyH.nil
              go_simp
              go_at_call 29
              refine (place_any v.y 40 _ (by omega) (by omega)).mono ?_
              rintro e _ ⟨rfl, rfl⟩
              rw [hY]
              try (go_wp2_with fail)
              refine hK.out _ _ (by (try dsimp only); exact hS9.out _ (by repeat (first | (with_reducible exact Sav.refl _ _) | (with_reducible assumption) | (with_reducible apply Sav.st) | (with_reducible apply Sav.dr)))) (fun hHeld2 => ?_)
              clear hHeld
              rename _ => hHeld
              clear hK K
              (try simp only [Act.put, List.setIfInBounds_toArray, List.set_cons_zero, List.set_cons_succ])
              refine wpAnyH_take (i := 7) (v := ?_) rfl (by kernel_rfl) (by kernel_rfl) (by kernel_rfl) (fun _ _ _ h => h) (Or.inl ⟨by rfl, ?_⟩) (by assumption) ?_
              rotate_left
              · (intro w hSw; (try dsimp only at hSw); go_simp; try (with_reducible rfl))
              (try simp only [Act.put, List.setIfInBounds_toArray, List.set_cons_zero, List.set_cons_succ])
              refine wpAnyH_ready (rs := [9]) (by kernel_rfl) (by simp) ?_
              refine AllReadyH.cons (i := 9) rfl (fun K hK => ?_) AllReadyH.nil
              go_simp
              try (go_wp2_with fail)
              refine hK.out _ _ (by (try dsimp only); exact hS9.out _ (by repeat (first | (with_reducible exact Sav.refl _ _) | (with_reducible assumption) | (with_reducible apply Sav.st) | (with_reducible apply Sav.dr)))) (fun hHeld2 => ?_)
              clear hHeld
              rename _ => hHeld
              clear hK K
              (try simp only [Act.put, List.setIfInBounds_toArray, List.set_cons_zero, List.set_cons_succ])
              refine wpAnyH_take (i := 10) (v := ?_) rfl (by kernel_rfl) (by kernel_rfl) (by kernel_rfl) (fun _ _ _ h => h) (Or.inl ⟨by rfl, ?_⟩) (by assumption) ?_
              rotate_left
              · (intro w hSw; (try dsimp only at hSw); go_simp; try (with_reducible rfl))
              (try simp only [Act.put, List.setIfInBounds_toArray, List.set_cons_zero, List.set_cons_succ])
              refine wpAnyH_ready (rs := [11]) (by kernel_rfl) (by simp) ?_
              refine AllReadyH.cons (i := 11) rfl (fun K hK => ?_) AllReadyH.nil
              go_simp
              try (go_wp2_with fail)
              refine hK.out _ _ (by (try dsimp only); exact hS9.out _ (by repeat (first | (with_reducible exact Sav.refl _ _) | (with_reducible assumption) | (with_reducible apply Sav.st) | (with_reducible apply Sav.dr)))) (fun hHeld2 => ?_)
              clear hHeld
              rename _ => hHeld
              clear hK K
              (try simp only [Act.put, List.setIfInBounds_toArray, List.set_cons_zero, List.set_cons_succ])
              refine wpAnyH_done (by kernel_rfl) ?_ _
              clear hHeld hS9
              go_upto_region 10 with fail
              generalize hwv : World.drew _ = w5
              have B5 : Bk w5 gv 62 #[.int .i64 v.s, .int .i64 v.b, .int .i64 (X - 20), .int .i64 (Y - 20), .int .i64 g.w, .int .i64 g.h] := hwv ▸ ((B4.st 2 (.int .i64 (X - 20))).st 3 (.int .i64 (Y - 20))).dr
              have s5 : Sav gv w4 w5 := hwv ▸ (((Sav.refl gv w4).st 2 (.int .i64 (X - 20))).st 3 (.int .i64 (Y - 20))).dr
              clear hwv
              have hw5 := s5.below hw4 hwgv hw4.size
              have own5 := own_sv own4 s5 hBgv
              obtain ⟨u0, u1, u2, u3, u4, u5⟩ := Bk.c6 B5
              have hba : Below w5.heap.size w5 (w5.alloc (.cells #[.int .i64 v.s, .int .i64 v.b, .int .i64 (X - 20), .int .i64 (Y - 20), .int .i64 g.w, .int .i64 g.h] 62)) := bl_alloc (Below.refl _ _) _
              have Bu : Bk (w5.alloc (.cells #[.int .i64 v.s, .int .i64 v.b, .int .i64 (X - 20), .int .i64 (Y - 20), .int .i64 g.w, .int .i64 g.h] 62)) w5.heap.size 62 #[.int .i64 v.s, .int .i64 v.b, .int .i64 (X - 20), .int .i64 (Y - 20), .int .i64 g.w, .int .i64 g.h] := Bk.new _ _ _
              have own6 := own_bl own5 hba
              have hw6 := bl_step hw5 hba
              have hs6 := hw6.size
              have hRu := one_vw (v := ⟨v.s, v.b, X - 20, Y - 20, g.w, g.h⟩) Bu
              go_wp2_with (at_builtin; (refine wpList_app _ rfl (.tmp 65) (.tmp 67) _ rfl w.heap.size 62 iV _ 6 48 Tryz.underlying23 hiV zV0 zV1 zV2 rfl (by omega) (.slice B ml.length d) ml.length (ml.flatMap vwC) rfl own6 _ (some ⟨w5.heap.size, 0, none⟩) 1 1 ([(⟨v.s, v.b, X - 20, Y - 20, g.w, g.h⟩ : Vw)].flatMap vwC) rfl hRu (vwC_one _) (by simp only [maxLen]; omega) (by omega) hs6 ?_); intro v7 w7 own7 hg7 hat7; obtain ⟨A7, c7, rfl, _⟩ := own_form own7; have hw7 : Below w.heap.size w w7 := hw6.grown hg7 hs6 (fun g hg => (own6.lt g hg).1))
              go_roundw
              case rel => exact ⟨k + 1, hlt.out, by go_num, A7, c7, by (rw [hst2.out, List.length_append]; rfl), by rw [hst2.out, List.length_append, List.flatMap_append]; exact Lib.hid own7, hw7⟩
              case measure => have h9 := sub_dec hlt.out; simpa [intOf] using h9
            · go_simp
              refine hK.out _ _ hHeld (fun hHeld2 => ?_)
              clear hHeld2 hK K
              (try simp only [Act.put, List.setIfInBounds_toArray, List.set_cons_zero, List.set_cons_succ])
              refine wpAnyH_ready (rs := [2]) (by kernel_rfl) (by simp) ?_
              refine AllReadyH.cons (i := 2) rfl (fun K hK => ?_) AllReadyH.nil
              go_simp
              go_at_call 29
              refine (place_any v.x 40 _ (by omega) (by omega)).mono ?_
              rintro e _ ⟨rfl, rfl⟩
              rw [hX]
              try (go_wp2_with fail)
              refine hK.out _ _ (by (try dsimp only); exact hS9.out _ (by repeat (first | (with_reducible exact Sav.refl _ _) | (with_reducible assumption) | (with_reducible apply Sav.st) | (with_reducible apply Sav.dr)))) (fun hHeld2 => ?_)
              clear hHeld
              rename _ => hHeld
              clear hK K
              (try simp only [Act.put, List.setIfInBounds_toArray, List.set_cons_zero, List.set_cons_succ])
              refine wpAnyH_take (i := 3) (v := ?_) rfl (by kernel_rfl) (by kernel_rfl) (by kernel_rfl) (fun _ _ _ h => h) (Or.inl ⟨by rfl, ?_⟩) (by assumption) ?_
              rotate_left
              · (intro w hSw; (try dsimp only at hSw); go_simp; try (with_reducible rfl))
              (try simp only [Act.put, List.setIfInBounds_toArray, List.set_cons_zero, List.set_cons_succ])
              refine wpAnyH_take (i := 8) (v := ?_) rfl (by kernel_rfl) (by kernel_rfl) (by kernel_rfl) (fun _ _ _ h => h) (Or.inl ⟨by rfl, ?_⟩) (by assumption) ?_
              rotate_left
              · (intro w hSw; (try dsimp only at hSw); go_simp; try (with_reducible rfl))
              (try simp only [Act.put, List.setIfInBounds_toArray, List.set_cons_zero, List.set_cons_succ])
              refine wpAnyH_ready (rs := [6]) (by kernel_rfl) (by simp) ?_
              refine AllReadyH.cons (i := 6) rfl (fun K hK => ?_) AllReadyH.nil
              go_simp
              go_at_call 29
              refine (place_any v.y 40 _ (by omega) (by omega)).mono ?_
              rintro e _ ⟨rfl, rfl⟩
              rw [hY]
              try (go_wp2_with fail)
              refine hK.out _ _ (by (try dsimp only); exact hS9.out _ (by repeat (first | (with_reducible exact Sav.refl _ _) | (with_reducible assumption) | (with_reducible apply Sav.st) | (with_reducible apply Sav.dr)))) (fun hHeld2 => ?_)
              clear hHeld
              rename _ => hHeld
              clear hK K
              (try simp only [Act.put, List.setIfInBounds_toArray, List.set_cons_zero, List.set_cons_succ])
              refine wpAnyH_take (i := 7) (v := ?_) rfl (by kernel_rfl) (by kernel_rfl) (by kernel_rfl) (fun _ _ _ h => h) (Or.inl ⟨by rfl, ?_⟩) (by assumption) ?_
              rotate_left
              · (intro w hSw; (try dsimp only at hSw); go_simp; try (with_reducible rfl))
              (try simp only [Act.put, List.setIfInBounds_toArray, List.set_cons_zero, List.set_cons_succ])
              refine wpAnyH_ready (rs := [9]) (by kernel_rfl) (by simp) ?_
              refine AllReadyH.cons (i := 9) rfl (fun K hK => ?_) AllReadyH.nil
              go_simp
              try (go_wp2_with fail)
              refine hK.out _ _ (by (try dsimp only); exact hS9.out _ (by repeat (first | (with_reducible exact Sav.refl _ _) | (with_reducible assumption) | (with_reducible apply Sav.st) | (with_reducible apply Sav.dr)))) (fun hHeld2 => ?_)
              clear hHeld
              rename _ => hHeld
              clear hK K
              (try simp only [Act.put, List.setIfInBounds_toArray, List.set_cons_zero, List.set_cons_succ])
              refine wpAnyH_take (i := 10) (v := ?_) rfl (by kernel_rfl) (by kernel_rfl) (by kernel_rfl) (fun _ _ _ h => h) (Or.inl ⟨by rfl, ?_⟩) (by assumption) ?_
              rotate_left
              · (intro w hSw; (try dsimp only at hSw); go_simp; try (with_reducible rfl))
              (try simp only [Act.put, List.setIfInBounds_toArray, List.set_cons_zero, List.set_cons_succ])
              refine wpAnyH_ready (rs := [11]) (by kernel_rfl) (by simp) ?_
              refine AllReadyH.cons (i := 11) rfl (fun K hK => ?_) AllReadyH.nil
              go_simp
              try (go_wp2_with fail)
              refine hK.out _ _ (by (try dsimp only); exact hS9.out _ (by repeat (first | (with_reducible exact Sav.refl _ _) | (with_reducible assumption) | (with_reducible apply Sav.st) | (with_reducible apply Sav.dr)))) (fun hHeld2 => ?_)
              clear hHeld
              rename _ => hHeld
              clear hK K
              (try simp only [Act.put, List.setIfInBounds_toArray, List.set_cons_zero, List.set_cons_succ])
              refine wpAnyH_done (by kernel_rfl) ?_ _
              clear hHeld hS9
              go_upto_region 10 with fail
              generalize hwv : World.drew _ = w5
              have B5 : Bk w5 gv 62 #[.int .i64 v.s, .int .i64 v.b, .int .i64 (X - 20), .int .i64 (Y - 20), .int .i64 g.w, .int .i64 g.h] := hwv ▸ ((B4.st 2 (.int .i64 (X - 20))).st 3 (.int .i64 (Y - 20))).dr
              have s5 : Sav gv w4 w5 := hwv ▸ (((Sav.refl gv w4).st 2 (.int .i64 (X - 20))).st 3 (.int .i64 (Y - 20))).dr
              clear hwv
              have hw5 := s5.below hw4 hwgv hw4.size
              have own5 := own_sv own4 s5 hBgv
              obtain ⟨u0, u1, u2, u3, u4, u5⟩ := Bk.c6 B5
              have hba : Below w5.heap.size w5 (w5.alloc (.cells #[.int .i64 v.s, .int .i64 v.b, .int .i64 (X - 20), .int .i64 (Y - 20), .int .i64 g.w, .int .i64 g.h] 62)) := bl_alloc (Below.refl _ _) _
              have Bu : Bk (w5.alloc (.cells #[.int .i64 v.s, .int .i64 v.b, .int .i64 (X - 20), .int .i64 (Y - 20), .int .i64 g.w, .int .i64 g.h] 62)) w5.heap.size 62 #[.int .i64 v.s, .int .i64 v.b, .int .i64 (X - 20), .int .i64 (Y - 20), .int .i64 g.w, .int .i64 g.h] := Bk.new _ _ _
              have own6 := own_bl own5 hba
              have hw6 := bl_step hw5 hba
              have hs6 := hw6.size
              have hRu := one_vw (v := ⟨v.s, v.b, X - 20, Y - 20, g.w, g.h⟩) Bu
              go_wp2_with (at_builtin; (refine wpList_app _ rfl (.tmp 65) (.tmp 67) _ rfl w.heap.size 62 iV _ 6 48 Tryz.underlying23 hiV zV0 zV1 zV2 rfl (by omega) (.slice B ml.length d) ml.length (ml.flatMap vwC) rfl own6 _ (some ⟨w5.heap.size, 0, none⟩) 1 1 ([(⟨v.s, v.b, X - 20, Y - 20, g.w, g.h⟩ : Vw)].flatMap vwC) rfl hRu (vwC_one _) (by simp only [maxLen]; omega) (by omega) hs6 ?_); intro v7 w7 own7 hg7 hat7; obtain ⟨A7, c7, rfl, _⟩ := own_form own7; have hw7 : Below w.heap.size w w7 := hw6.grown hg7 hs6 (fun g hg => (own6.lt g hg).1))
              go_roundw
              case rel => exact ⟨k + 1, hlt.out, by go_num, A7, c7, by (rw [hst2.out, List.length_append]; rfl), by rw [hst2.out, List.length_append, List.flatMap_append]; exact Lib.hid own7, hw7⟩
              case measure => have h9 := sub_dec hlt.out; simpa [intOf] using h9
          · go_simp
            refine hK.out _ _ hHeld (fun hHeld2 => ?_)
            clear hHeld2 hK K
            (try simp only [Act.put, List.setIfInBounds_toArray, List.set_cons_zero, List.set_cons_succ])
            refine wpAnyH_ready (rs := [1]) (by kernel_rfl) (by simp) ?_
            refine AllReadyH.cons (i := 1) rfl (fun K hK => ?_) AllReadyH.nil
            go_simp
            refine hK.out _ _ hHeld (fun hHeld2 => ?_)
            clear hHeld2 hK K
            (try simp only [Act.put, List.setIfInBounds_toArray, List.set_cons_zero, List.set_cons_succ])
            refine wpAnyH_ready (rs := [2]) (by kernel_rfl) (by simp) ?_
            refine AllReadyH.cons (i := 2) rfl (fun K hK => ?_) AllReadyH.nil
            go_simp
            go_at_call 29
            refine (place_any v.x 40 _ (by omega) (by omega)).mono ?_
            rintro e _ ⟨rfl, rfl⟩
            rw [hX]
            try (go_wp2_with fail)
            refine hK.out _ _ (by (try dsimp only); exact hS9.out _ (by repeat (first | (with_reducible exact Sav.refl _ _) | (with_reducible assumption) | (with_reducible apply Sav.st) | (with_reducible apply Sav.dr)))) (fun hHeld2 => ?_)
            clear hHeld
            rename _ => hHeld
            clear hK K
            (try simp only [Act.put, List.setIfInBounds_toArray, List.set_cons_zero, List.set_cons_succ])
            refine wpAnyH_take (i := 3) (v := ?_) rfl (by kernel_rfl) (by kernel_rfl) (by kernel_rfl) (fun _ _ _ h => h) (Or.inl ⟨by rfl, ?_⟩) (by assumption) ?_
            rotate_left
            · (intro w hSw; (try dsimp only at hSw); go_simp; try (with_reducible rfl))
            (try simp only [Act.put, List.setIfInBounds_toArray, List.set_cons_zero, List.set_cons_succ])
            refine wpAnyH_take (i := 8) (v := ?_) rfl (by kernel_rfl) (by kernel_rfl) (by kernel_rfl) (fun _ _ _ h => h) (Or.inl ⟨by rfl, ?_⟩) (by assumption) ?_
            rotate_left
            · (intro w hSw; (try dsimp only at hSw); go_simp; try (with_reducible rfl))
            (try simp only [Act.put, List.setIfInBounds_toArray, List.set_cons_zero, List.set_cons_succ])
            refine wpAnyH_ready (rs := [6]) (by kernel_rfl) (by simp) ?_
            refine AllReadyH.cons (i := 6) rfl (fun K hK => ?_) AllReadyH.nil
            go_simp
            go_at_call 29
            refine (place_any v.y 40 _ (by omega) (by omega)).mono ?_
            rintro e _ ⟨rfl, rfl⟩
            rw [hY]
            try (go_wp2_with fail)
            refine hK.out _ _ (by (try dsimp only); exact hS9.out _ (by repeat (first | (with_reducible exact Sav.refl _ _) | (with_reducible assumption) | (with_reducible apply Sav.st) | (with_reducible apply Sav.dr)))) (fun hHeld2 => ?_)
            clear hHeld
            rename _ => hHeld
            clear hK K
            (try simp only [Act.put, List.setIfInBounds_toArray, List.set_cons_zero, List.set_cons_succ])
            refine wpAnyH_take (i := 7) (v := ?_) rfl (by kernel_rfl) (by kernel_rfl) (by kernel_rfl) (fun _ _ _ h => h) (Or.inl ⟨by rfl, ?_⟩) (by assumption) ?_
            rotate_left
            · (intro w hSw; (try dsimp only at hSw); go_simp; try (with_reducible rfl))
            (try simp only [Act.put, List.setIfInBounds_toArray, List.set_cons_zero, List.set_cons_succ])
            refine wpAnyH_ready (rs := [9]) (by kernel_rfl) (by simp) ?_
            refine AllReadyH.cons (i := 9) rfl (fun K hK => ?_) AllReadyH.nil
            go_simp
            try (go_wp2_with fail)
            refine hK.out _ _ (by (try dsimp only); exact hS9.out _ (by repeat (first | (with_reducible exact Sav.refl _ _) | (with_reducible assumption) | (with_reducible apply Sav.st) | (with_reducible apply Sav.dr)))) (fun hHeld2 => ?_)
            clear hHeld
            rename _ => hHeld
            clear hK K
            (try simp only [Act.put, List.setIfInBounds_toArray, List.set_cons_zero, List.set_cons_succ])
            refine wpAnyH_take (i := 10) (v := ?_) rfl (by kernel_rfl) (by kernel_rfl) (by kernel_rfl) (fun _ _ _ h => h) (Or.inl ⟨by rfl, ?_⟩) (by assumption) ?_
            rotate_left
            · (intro w hSw; (try dsimp only at hSw); go_simp; try (with_reducible rfl))
            (try simp only [Act.put, List.setIfInBounds_toArray, List.set_cons_zero, List.set_cons_succ])
            refine wpAnyH_ready (rs := [11]) (by kernel_rfl) (by simp) ?_
            refine AllReadyH.cons (i := 11) rfl (fun K hK => ?_) AllReadyH.nil
            go_simp
            try (go_wp2_with fail)
            refine hK.out _ _ (by (try dsimp only); exact hS9.out _ (by repeat (first | (with_reducible exact Sav.refl _ _) | (with_reducible assumption) | (with_reducible apply Sav.st) | (with_reducible apply Sav.dr)))) (fun hHeld2 => ?_)
            clear hHeld
            rename _ => hHeld
            clear hK K
            (try simp only [Act.put, List.setIfInBounds_toArray, List.set_cons_zero, List.set_cons_succ])
            refine wpAnyH_done (by kernel_rfl) ?_ _
            clear hHeld hS9
            go_upto_region 10 with fail
            generalize hwv : World.drew _ = w5
            have B5 : Bk w5 gv 62 #[.int .i64 v.s, .int .i64 v.b, .int .i64 (X - 20), .int .i64 (Y - 20), .int .i64 g.w, .int .i64 g.h] := hwv ▸ ((B4.st 2 (.int .i64 (X - 20))).st 3 (.int .i64 (Y - 20))).dr
            have s5 : Sav gv w4 w5 := hwv ▸ (((Sav.refl gv w4).st 2 (.int .i64 (X - 20))).st 3 (.int .i64 (Y - 20))).dr
            clear hwv
            have hw5 := s5.below hw4 hwgv hw4.size
            have own5 := own_sv own4 s5 hBgv
            obtain ⟨u0, u1, u2, u3, u4, u5⟩ := Bk.c6 B5
            have hba : Below w5.heap.size w5 (w5.alloc (.cells #[.int .i64 v.s, .int .i64 v.b, .int .i64 (X - 20), .int .i64 (Y - 20), .int .i64 g.w, .int .i64 g.h] 62)) := bl_alloc (Below.refl _ _) _
            have Bu : Bk (w5.alloc (.cells #[.int .i64 v.s, .int .i64 v.b, .int .i64 (X - 20), .int .i64 (Y - 20), .int .i64 g.w, .int .i64 g.h] 62)) w5.heap.size 62 #[.int .i64 v.s, .int .i64 v.b, .int .i64 (X - 20), .int .i64 (Y - 20), .int .i64 g.w, .int .i64 g.h] := Bk.new _ _ _
            have own6 := own_bl own5 hba
            have hw6 := bl_step hw5 hba
            have hs6 := hw6.size
            have hRu := one_vw (v := ⟨v.s, v.b, X - 20, Y - 20, g.w, g.h⟩) Bu
            go_wp2_with (at_builtin; (refine wpList_app _ rfl (.tmp 65) (.tmp 67) _ rfl w.heap.size 62 iV _ 6 48 Tryz.underlying23 hiV zV0 zV1 zV2 rfl (by omega) (.slice B ml.length d) ml.length (ml.flatMap vwC) rfl own6 _ (some ⟨w5.heap.size, 0, none⟩) 1 1 ([(⟨v.s, v.b, X - 20, Y - 20, g.w, g.h⟩ : Vw)].flatMap vwC) rfl hRu (vwC_one _) (by simp only [maxLen]; omega) (by omega) hs6 ?_); intro v7 w7 own7 hg7 hat7; obtain ⟨A7, c7, rfl, _⟩ := own_form own7; have hw7 : Below w.heap.size w w7 := hw6.grown hg7 hs6 (fun g hg => (own6.lt g hg).1))
            go_roundw
            case rel => exact ⟨k + 1, hlt.out, by go_num, A7, c7, by (rw [hst2.out, List.length_append]; rfl), by rw [hst2.out, List.length_append, List.flatMap_append]; exact Lib.hid own7, hw7⟩
            case measure => have h9 := sub_dec hlt.out; simpa [intOf] using h9
    · obtain rfl : k = l.length := by omega
      have hd : decide ((l.length : Int) < (l.length : Int)) = false := by simp
      go_wp2_with fail
      go_ret
      have hown := hown.out
      refine ⟨B, d, ?_, by rw [List.take_length] at hown; exact hown, hbr⟩
      show Ending.returned (.slice B (sizedL im (l.take l.length)).length d) = _
      rw [List.take_length]
end Go.Proofs.YtjjdgbhplechbaaGreatDoor.Cv
