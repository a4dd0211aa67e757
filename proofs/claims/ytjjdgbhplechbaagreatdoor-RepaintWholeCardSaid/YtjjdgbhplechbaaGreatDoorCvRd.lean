/- tableauref14.Draw. Printed by gen_rdraw.py. -/
import Derived.Test.YtjjdgbhplechbaaGreatDoorCvR
set_option linter.unusedVariables false
set_option linter.unusedSimpArgs false
namespace Go.Proofs.YtjjdgbhplechbaaGreatDoor.Cv
open Go.RowKit Go.Proofs.YtjjdgbhplechbaaGreatDoor.Kit Go.Proofs.YtjjdgbhplechbaaGreatDoor.Rect Go.Proofs.YtjjdgbhplechbaaGreatDoor.Pix
theorem pk_n {W : Nat} {l : List R} {f : Nat → Nat → Int → Int} {L : List Int} {x y : Nat} (hx : x < W) (h : y * W + x < L.length) (hs : inn l (x : Int) (y : Int) = true → f x y L[y * W + x] = L[y * W + x]) : pk W l f (y * W + (x + 1)) L = pk W l f (y * W + x) L := by
  cases hi : inn l (x : Int) (y : Int) with
  | false => exact pk_f hx h hi
  | true => rw [pk_t hx h hi, hs hi, set_same (pk_at h)]
theorem drawF_n1 {X Y Wd Hd : Int} {P : List Int} {x y : Nat} {o : Int} (h : ¬ (X ≤ (x : Int) ∧ (x : Int) < X + Wd ∧ Y ≤ (y : Int) ∧ (y : Int) < Y + Hd)) : drawF X Y Wd Hd P x y o = o := by
  unfold drawF
  rw [if_neg]
  intro q
  have := has_iff.1 q.1
  unfold inR at this
  simp only at this
  exact h ⟨this.2.2.1, this.2.2.2.1, this.2.2.2.2.1, this.2.2.2.2.2⟩
theorem drawF_n2 {X Y Wd Hd : Int} {P : List Int} {x y ix : Nat} {o : Int} (hix : ((y : Int) - Y) * Wd + (x : Int) - X = (ix : Int)) (h : ¬ ix < P.length) : drawF X Y Wd Hd P x y o = o := by
  unfold drawF
  rw [hix, if_neg]
  intro q
  exact h q.2
theorem drawF_y {X Y Wd Hd u : Int} {P : List Int} {x y ix : Nat} {o : Int} (h1 : 1 ≤ Wd ∧ 1 ≤ Hd) (h2 : X ≤ (x : Int) ∧ (x : Int) < X + Wd ∧ Y ≤ (y : Int) ∧ (y : Int) < Y + Hd) (hix : ((y : Int) - Y) * Wd + (x : Int) - X = (ix : Int)) (hu : P[ix]? = some u) : drawF X Y Wd Hd P x y o = ovr o u := by
  have hl : ix < P.length := by
    by_cases h : ix < P.length
    · exact h
    · rw [List.getElem?_eq_none (by omega)] at hu; cases hu
  have hh : rHas ⟨X, Y, Wd, Hd⟩ (x : Int) (y : Int) = true := by
    rw [has_iff]
    unfold inR
    simp only
    omega
  unfold drawF
  rw [hix, if_pos ⟨hh, hl⟩]
  have : P.getD ((ix : Int).toNat) 0 = u := by rw [Int.toNat_natCast, List.getD_eq_getElem?_getD, hu]; rfl
  rw [this]
theorem nin1 {X Wd Y Hd : Int} {x y : Nat} (h : (x : Int) < X) : ¬ (X ≤ (x : Int) ∧ (x : Int) < X + Wd ∧ Y ≤ (y : Int) ∧ (y : Int) < Y + Hd) := fun q => absurd q.1 (by omega)
theorem nin2 {X Wd Y Hd : Int} {x y : Nat} (h : Wd ≤ (x : Int) - X) : ¬ (X ≤ (x : Int) ∧ (x : Int) < X + Wd ∧ Y ≤ (y : Int) ∧ (y : Int) < Y + Hd) := fun q => absurd q.2.1 (by omega)
theorem nin3 {X Wd Y Hd : Int} {x y : Nat} (h : (y : Int) < Y) : ¬ (X ≤ (x : Int) ∧ (x : Int) < X + Wd ∧ Y ≤ (y : Int) ∧ (y : Int) < Y + Hd) := fun q => absurd q.2.2.1 (by omega)
theorem nin4 {X Wd Y Hd : Int} {x y : Nat} (h : Hd ≤ (y : Int) - Y) : ¬ (X ≤ (x : Int) ∧ (x : Int) < X + Wd ∧ Y ≤ (y : Int) ∧ (y : Int) < Y + Hd) := fun q => absurd q.2.2.2 (by omega)
theorem yin {X Wd Y Hd : Int} {x y : Nat} (h1 : ¬ (x : Int) < X) (h2 : ¬ Wd ≤ (x : Int) - X) (h3 : ¬ (y : Int) < Y) (h4 : ¬ Hd ≤ (y : Int) - Y) : X ≤ (x : Int) ∧ (x : Int) < X + Wd ∧ Y ≤ (y : Int) ∧ (y : Int) < Y + Hd := by omega
theorem ix_nn {X Wd Y Hd : Int} {x y : Nat} (hw : 1 ≤ Wd) (q : X ≤ (x : Int) ∧ (x : Int) < X + Wd ∧ Y ≤ (y : Int) ∧ (y : Int) < Y + Hd) : ∃ ix : Nat, ((y : Int) - Y) * Wd + (x : Int) - X = (ix : Int) := by
  have h0 : 0 ≤ ((y : Int) - Y) * Wd := Int.mul_nonneg (by omega) (by omega)
  exact ⟨(((y : Int) - Y) * Wd + (x : Int) - X).toNat, by omega⟩
theorem i48 {x : Nat} (h : (x : Int) < 48) : -9223372036854775808 ≤ (x : Int) ∧ (x : Int) ≤ 9223372036854775807 := by omega
theorem dec_t {p : Prop} [Decidable p] (h : p) : decide p = true := by simpa using h
theorem dec_f {p : Prop} [Decidable p] (h : ¬ p) : decide p = false := by simpa using h
theorem lt_cast {a b : Nat} (h : a < b) : (a : Int) < (b : Int) := Int.ofNat_lt.2 h
theorem nlt_cast {a b : Nat} (h : ¬ a < b) : ¬ (a : Int) < (b : Int) := fun q => h (Int.ofNat_lt.1 q)
theorem g64 {x : Nat} (h : (x : Int) < 48) : IntKind.i64.wrap ((x : Int) + 1) = (x : Int) + 1 := i64_in (by omega) (by omega)
theorem gw64 {x : Nat} (h : (x : Int) < 48) : wrap64 ((x : Int) + 1) = (x : Int) + 1 := w64_in (by omega) (by omega)
theorem sb64 {x : Nat} {X : Int} (h : (x : Int) < 48) (a : -16777216 ≤ X) (b : X ≤ 16777216) : IntKind.i64.wrap ((x : Int) - X) = (x : Int) - X := i64_in (by omega) (by omega)
theorem sw64 {x : Nat} {X : Int} (h : (x : Int) < 48) (a : -16777216 ≤ X) (b : X ≤ 16777216) : wrap64 ((x : Int) - X) = (x : Int) - X := w64_in (by omega) (by omega)
theorem le48 {x : Nat} (h : (x : Int) < 48) : x < 48 := by omega
set_option maxRecDepth 100000 in
set_option maxHeartbeats 32000000 in
theorem rdraw_any (c p W H : Nat) (L : List Int) (X Y Wd Hd : Int) (A : Option Addr) (n lc : Nat) (P : List Int) (A' : Option Addr) (lc' : Nat) (l : List R) (w : World) (hc : Cr w c p W H L)
    (hP : P.length = n) (hR : Rds w w.heap.size 1 A n (P.map (Value.int .u32))) (hPu : ∀ v ∈ P, 0 ≤ v ∧ v < 4294967296) (hne : 0 < n → ∀ ad, A = some ad → ad.block ≠ p)
    (hl : Rds w w.heap.size 4 A' l.length (l.flatMap rC)) (hne' : 0 < l.length → ∀ ad, A' = some ad → ad.block ≠ p) (h64 : ∀ r ∈ l, I64 r) (hn : l.length ≤ 1000000) :
    Calls Tryz.prog 28 #[.pointer (some ⟨c, 0, none⟩), .int .i64 X, .int .i64 Y, .int .i64 Wd, .int .i64 Hd, .slice A n lc, .slice A' l.length lc'] w fun e w' => e = .returned (.tuple #[]) ∧ Sav p w w' ∧ Cr w' c p W H (drawO W H l X Y Wd Hd P L) := by
  have h64 := Lib.hid h64
  have hne := Lib.hid hne
  have hne' := Lib.hid hne'
  have hPu := Lib.hid hPu
  have hPl := Lib.hid hP
  have hcH := Lib.hid hc
  by_cases nd1 : Wd < 1
  · have d1 : decide (Wd < 1) = true := by simpa using nd1
    have hno : ¬ okD X Y Wd Hd := by (unfold okD; omega)
    have hno := Lib.hid hno
    go_enter Tryz.func28, Tryz.ntmps28
    go_wp2_with fail
    refine bodyPost_ret (results_none rfl _ _ _) rfl ?_
    refine ⟨rfl, Sav.refl _ _, ?_⟩
    unfold drawO
    rw [if_neg hno.out]
    exact hcH.out
  have d1 : decide (Wd < 1) = false := by simpa using nd1
  by_cases nd2 : Hd < 1
  · have d2 : decide (Hd < 1) = true := by simpa using nd2
    have hno : ¬ okD X Y Wd Hd := by (unfold okD; omega)
    have hno := Lib.hid hno
    go_enter Tryz.func28, Tryz.ntmps28
    go_wp2_with fail
    refine bodyPost_ret (results_none rfl _ _ _) rfl ?_
    refine ⟨rfl, Sav.refl _ _, ?_⟩
    unfold drawO
    rw [if_neg hno.out]
    exact hcH.out
  have d2 : decide (Hd < 1) = false := by simpa using nd2
  by_cases nd3 : 16777216 < Wd
  · have d3 : decide (16777216 < Wd) = true := by simpa using nd3
    have hno : ¬ okD X Y Wd Hd := by (unfold okD; omega)
    have hno := Lib.hid hno
    go_enter Tryz.func28, Tryz.ntmps28
    go_wp2_with fail
    refine bodyPost_ret (results_none rfl _ _ _) rfl ?_
    refine ⟨rfl, Sav.refl _ _, ?_⟩
    unfold drawO
    rw [if_neg hno.out]
    exact hcH.out
  have d3 : decide (16777216 < Wd) = false := by simpa using nd3
  by_cases nd4 : 16777216 < Hd
  · have d4 : decide (16777216 < Hd) = true := by simpa using nd4
    have hno : ¬ okD X Y Wd Hd := by (unfold okD; omega)
    have hno := Lib.hid hno
    go_enter Tryz.func28, Tryz.ntmps28
    go_wp2_with fail
    refine bodyPost_ret (results_none rfl _ _ _) rfl ?_
    refine ⟨rfl, Sav.refl _ _, ?_⟩
    unfold drawO
    rw [if_neg hno.out]
    exact hcH.out
  have d4 : decide (16777216 < Hd) = false := by simpa using nd4
  by_cases nd5 : X < -16777216
  · have d5 : decide (X < -16777216) = true := by simpa using nd5
    have hno : ¬ okD X Y Wd Hd := by (unfold okD; omega)
    have hno := Lib.hid hno
    go_enter Tryz.func28, Tryz.ntmps28
    go_wp2_with fail
    refine bodyPost_ret (results_none rfl _ _ _) rfl ?_
    refine ⟨rfl, Sav.refl _ _, ?_⟩
    unfold drawO
    rw [if_neg hno.out]
    exact hcH.out
  have d5 : decide (X < -16777216) = false := by simpa using nd5
  by_cases nd6 : 16777216 < X
  · have d6 : decide (16777216 < X) = true := by simpa using nd6
    have hno : ¬ okD X Y Wd Hd := by (unfold okD; omega)
    have hno := Lib.hid hno
    go_enter Tryz.func28, Tryz.ntmps28
    go_wp2_with fail
    refine bodyPost_ret (results_none rfl _ _ _) rfl ?_
    refine ⟨rfl, Sav.refl _ _, ?_⟩
    unfold drawO
    rw [if_neg hno.out]
    exact hcH.out
  have d6 : decide (16777216 < X) = false := by simpa using nd6
  by_cases nd7 : Y < -16777216
  · have d7 : decide (Y < -16777216) = true := by simpa using nd7
    have hno : ¬ okD X Y Wd Hd := by (unfold okD; omega)
    have hno := Lib.hid hno
    go_enter Tryz.func28, Tryz.ntmps28
    go_wp2_with fail
    refine bodyPost_ret (results_none rfl _ _ _) rfl ?_
    refine ⟨rfl, Sav.refl _ _, ?_⟩
    unfold drawO
    rw [if_neg hno.out]
    exact hcH.out
  have d7 : decide (Y < -16777216) = false := by simpa using nd7
  by_cases nd8 : 16777216 < Y
  · have d8 : decide (16777216 < Y) = true := by simpa using nd8
    have hno : ¬ okD X Y Wd Hd := by (unfold okD; omega)
    have hno := Lib.hid hno
    go_enter Tryz.func28, Tryz.ntmps28
    go_wp2_with fail
    refine bodyPost_ret (results_none rfl _ _ _) rfl ?_
    refine ⟨rfl, Sav.refl _ _, ?_⟩
    unfold drawO
    rw [if_neg hno.out]
    exact hcH.out
  have d8 : decide (16777216 < Y) = false := by simpa using nd8
  have hok : okD X Y Wd Hd := by unfold okD; omega
  have x1 : -16777216 ≤ X := hok.2.2.1.1
  have x2 : X ≤ 16777216 := hok.2.2.1.2
  have y1 : -16777216 ≤ Y := hok.2.2.2.1
  have y2 : Y ≤ 16777216 := hok.2.2.2.2
  have w1 : 1 ≤ Wd := hok.1.1
  have w2 : Wd ≤ 16777216 := hok.1.2
  have h1 : 1 ≤ Hd := hok.2.1.1
  have h2 : Hd ≤ 16777216 := hok.2.1.2
  have hok := Lib.hid hok
  clear nd1 nd2 nd3 nd4 nd5 nd6 nd7 nd8
  have hpk : ∀ (wr : World) (k : Nat), Sav p w wr → Bk wr p 22 (pxV (pk W l (drawF X Y Wd Hd P) k L)) → Cr wr c p W H (pk W l (drawF X Y Wd Hd P) k L) := fun wr k s b =>
    ⟨s.bk hc.hd hc.ne, b, by rw [pk_len]; exact hc.len, pk_u32 hc.u32 (fun x y v h => drawF_bd x y v h), hc.w1, hc.w2, hc.h1, hc.h2⟩
  have hpk := Lib.hid hpk
  have W2 := hc.w2
  have H2 := hc.h2
  obtain ⟨k0, k1, k2⟩ := hc.c3
  go_enter Tryz.func28, Tryz.ntmps28
  go_wp2_with fail
  clear k0 k1 k2
  go_loopw [14, 15, 16] (fun s14 _ _ wr => ∃ y : Nat, y ≤ H ∧ s14 = .int .i64 (y : Int) ∧ Bk wr p 22 (pxV (pk W l (drawF X Y Wd Hd P) (y * W) L)) ∧ Sav p w wr) (fun s14 _ _ _ => H - (intOf s14).toNat)
  case atStart => exact ⟨0, by omega, rfl, by rw [Nat.zero_mul, pk_zero]; exact hc.px, Sav.refl _ _⟩
  case round =>
    obtain ⟨y, hy, rfl, Bp, hs⟩ := hrel
    obtain ⟨wy, rfl⟩ : ∃ x : World, x = wr := ⟨_, rfl⟩
    obtain ⟨k0, k1, k2⟩ := (hpk.out wy _ hs Bp).c3
    by_cases hyH : y < H
    · have dy : decide ((y : Int) < (H : Int)) = true := dec_t (lt_cast hyH)
      have hyH' := Lib.hid hyH
      have y48 : (y : Int) < 48 := lt_cast (Nat.lt_of_lt_of_le hyH H2)
      go_wp2_with fail
      clear k0 k1 k2
      go_loopw [15, 16] (fun s15 _ wr => ∃ x : Nat, x ≤ W ∧ s15 = .int .i64 (x : Int) ∧ Bk wr p 22 (pxV (pk W l (drawF X Y Wd Hd P) (y * W + x) L)) ∧ Sav p w wr) (fun s15 _ _ => W - (intOf s15).toNat)
      case atStart => exact ⟨0, by omega, rfl, by rw [Nat.add_zero]; exact Bp, hs⟩
      case round =>
        obtain ⟨x, hx, rfl, Bx, hsx⟩ := hrel
        obtain ⟨wx, rfl⟩ : ∃ x : World, x = wr := ⟨_, rfl⟩
        obtain ⟨k0, k1, k2⟩ := (hpk.out wx _ hsx Bx).c3
        by_cases hxW : x < W
        · have dx : decide ((x : Int) < (W : Int)) = true := dec_t (lt_cast hxW)
          have x48 : (x : Int) < 48 := lt_cast (Nat.lt_of_lt_of_le hxW W2)
          have g1 : IntKind.i64.wrap ((x : Int) + 1) = (x : Int) + 1 := g64 x48
          have g2 : wrap64 ((x : Int) + 1) = (x : Int) + 1 := gw64 x48
          have gs1 := sb64 x48 x1 x2
          have gs2 := sw64 x48 x1 x2
          have gs3 := sb64 y48 y1 y2
          have gs4 := sw64 y48 y1 y2
          have hxW' := Lib.hid hxW
          have hkl := Lib.hid (show y * W + x < L.length by rw [hcH.out.len]; exact Nat.lt_of_lt_of_le (Nat.add_lt_add_left hxW (y * W)) (mul_le hyH'.out))
          by_cases nd9 : (x : Int) < X
          · have d9 : decide ((x : Int) < X) = true := dec_t nd9
            have hfx := Lib.hid (pk_n (l := l) (f := drawF X Y Wd Hd P) hxW'.out hkl.out (fun _ => drawF_n1 (nin1 nd9)))
            go_wp2_with fail
            go_roundw
            case rel => exact ⟨x + 1, hxW'.out, by go_num, by rw [hfx.out]; exact Bx, hsx⟩
            case measure => have h9 : W - (x + 1) < W - x := Nat.sub_lt_sub_left hxW'.out (Nat.lt_succ_self x); simpa [intOf] using h9
          have d9 : decide ((x : Int) < X) = false := dec_f nd9
          by_cases nd10 : Wd ≤ (x : Int) - X
          · have d10 : decide (Wd ≤ (x : Int) - X) = true := dec_t nd10
            have hfx := Lib.hid (pk_n (l := l) (f := drawF X Y Wd Hd P) hxW'.out hkl.out (fun _ => drawF_n1 (nin2 nd10)))
            go_wp2_with fail
            go_roundw
            case rel => exact ⟨x + 1, hxW'.out, by go_num, by rw [hfx.out]; exact Bx, hsx⟩
            case measure => have h9 : W - (x + 1) < W - x := Nat.sub_lt_sub_left hxW'.out (Nat.lt_succ_self x); simpa [intOf] using h9
          have d10 : decide (Wd ≤ (x : Int) - X) = false := dec_f nd10
          by_cases nd11 : (y : Int) < Y
          · have d11 : decide ((y : Int) < Y) = true := dec_t nd11
            have hfx := Lib.hid (pk_n (l := l) (f := drawF X Y Wd Hd P) hxW'.out hkl.out (fun _ => drawF_n1 (nin3 nd11)))
            go_wp2_with fail
            go_roundw
            case rel => exact ⟨x + 1, hxW'.out, by go_num, by rw [hfx.out]; exact Bx, hsx⟩
            case measure => have h9 : W - (x + 1) < W - x := Nat.sub_lt_sub_left hxW'.out (Nat.lt_succ_self x); simpa [intOf] using h9
          have d11 : decide ((y : Int) < Y) = false := dec_f nd11
          by_cases nd12 : Hd ≤ (y : Int) - Y
          · have d12 : decide (Hd ≤ (y : Int) - Y) = true := dec_t nd12
            have hfx := Lib.hid (pk_n (l := l) (f := drawF X Y Wd Hd P) hxW'.out hkl.out (fun _ => drawF_n1 (nin4 nd12)))
            go_wp2_with fail
            go_roundw
            case rel => exact ⟨x + 1, hxW'.out, by go_num, by rw [hfx.out]; exact Bx, hsx⟩
            case measure => have h9 : W - (x + 1) < W - x := Nat.sub_lt_sub_left hxW'.out (Nat.lt_succ_self x); simpa [intOf] using h9
          have d12 : decide (Hd ≤ (y : Int) - Y) = false := dec_f nd12
          have hin := Lib.hid (yin nd9 nd10 nd11 nd12)
          clear nd9 nd10 nd11 nd12
          go_wp2_with fail
          refine (in_any A' lc' l (x : Int) (y : Int) wx hn h64.out (i48 x48) (i48 y48) ((hsx.rds' hl (Nat.le_refl _) hne'.out).more hsx.size)).mono ?_
          rintro e wz ⟨rfl, hbz⟩
          have hsz := hsx.step hbz
          have Bz := Bx.be hbz
          cases hi : inn l (x : Int) (y : Int) with
          | false =>
            have hi := Lib.hid hi
            go_wp2_with fail
            go_roundw
            case rel => exact ⟨x + 1, hxW'.out, by go_num, by rw [pk_f hxW'.out hkl.out hi.out]; exact Bz, hsz⟩
            case measure => have h9 : W - (x + 1) < W - x := Nat.sub_lt_sub_left hxW'.out (Nat.lt_succ_self x); simpa [intOf] using h9
          | true =>
            have hi := Lib.hid hi
            obtain ⟨v1, v2, v3, v4⟩ := ix_bd (x := x) (y := y) x1 x2 y1 y2 w1 w2 (le48 x48) (le48 y48)
            obtain ⟨ix, hix⟩ := ix_nn w1 hin.out
            rw [hix] at v4
            have hixH := Lib.hid hix
            by_cases n13 : ix < n
            case neg =>
              have d13 : decide ((ix : Int) < (n : Int)) = false := dec_f (nlt_cast n13)
              have hfx := Lib.hid (pk_n (l := l) (f := drawF X Y Wd Hd P) hxW'.out hkl.out (fun _ => drawF_n2 hixH.out (by rw [hPl.out]; exact n13)))
              go_wp2_with fail
              go_roundw
              case rel => exact ⟨x + 1, hxW'.out, by go_num, by rw [hfx.out]; exact Bz, hsz⟩
              case measure => have h9 : W - (x + 1) < W - x := Nat.sub_lt_sub_left hxW'.out (Nat.lt_succ_self x); simpa [intOf] using h9
            have d13 : decide ((ix : Int) < (n : Int)) = true := dec_t (lt_cast n13)
            have j2 : (0 : Int) ≤ (ix : Int) := Int.natCast_nonneg _
            have j3 : (ix : Int) < (n : Int) := lt_cast n13
            obtain ⟨u, hu⟩ : ∃ u, P[ix]? = some u := ⟨_, List.getElem?_eq_getElem (by rw [hPl.out]; exact n13)⟩
            have hu0 := Lib.hid (hPu.out u (List.mem_of_getElem? hu))
            obtain ⟨pa, rfl, hpb, hpc⟩ := hR.2 (Nat.zero_lt_of_lt n13)
            have hpap : pa.block ≠ p := hne.out (Nat.zero_lt_of_lt n13) pa rfl
            have hpcu := hpc ix (.int .u32 u) (by rw [List.getElem?_map, hu]; rfl)
            obtain ⟨o, ho⟩ : ∃ o, L[y * W + x]'hkl.out = o := ⟨_, rfl⟩
            have hob := Lib.hid (show 0 ≤ o ∧ o < 4294967296 from ho ▸ hcH.out.u32 _ (List.getElem_mem hkl.out))
            have hfy := Lib.hid (drawF_y (o := o) ⟨w1, h1⟩ hin.out hixH.out hu)
            obtain ⟨N, hnn⟩ : ∃ N, W * H = N := ⟨_, rfl⟩
            obtain ⟨q, hq⟩ : ∃ q, y * W = q := ⟨_, rfl⟩
            have e1 : (y : Int) * (W : Int) = (q : Int) := by rw [← hq]; simp
            have hm1 := mul_le (W := W) hyH'.out
            have hm2 := wh_le W2 H2
            rw [hnn] at hm1 hm2
            rw [hq] at hm1
            obtain ⟨z1, -, z3, z4, -, z6⟩ := row_w (y := 0) (k := q) (W := x) (n := N) (Nat.le_trans (Nat.add_le_add_left (Nat.le_of_lt hxW'.out) q) hm1) hm2 (Nat.zero_le _)
            have j0 : (0 : Int) ≤ (q : Int) + (x : Int) := Int.add_nonneg (Int.natCast_nonneg _) (Int.natCast_nonneg _)
            have j1 : (q : Int) + (x : Int) < (N : Int) := by rw [← Int.natCast_add]; exact Int.ofNat_lt.2 (Nat.lt_of_lt_of_le (Nat.add_lt_add_left hxW'.out q) hm1)
            have hcell : wz.cell? ⟨p, q + x, none⟩ = some (.int .u32 o) := by
              rw [Bz.cell, ← hq, ← ho]
              simp only [pxV, List.getElem?_toArray, List.getElem?_map, pk_at hkl.out, Option.map_some]
            have htn : ((q : Int) + (x : Int)).toNat = q + x := by rw [← Int.natCast_add]; exact Int.toNat_natCast _
            have hfz := Bz.fz
            have hcell2 : wz.drew.cell? ⟨p, q + x, none⟩ = some (.int .u32 o) := hcell
            have hfz2 : ∀ i, wz.drew.frozen? ⟨p, i, none⟩ = false := hfz
            have hpl := Bz.lt
            have ho := Lib.hid ho
            have hq := Lib.hid hq
            have hnn := Lib.hid hnn
            have hpa2 : (pa.add ix).block ≠ p := by rw [add_blk]; exact hpap
            have hpa3 : (pa.add ix).block < w.heap.size := by rw [add_blk]; exact hpb
            have hpcz : wz.cell? (pa.add ix) = some (.int .u32 u) := (World.cell?_of_block (w := w) (hsz.block _ hpa3 hpa2)).trans hpcu
            have hpaz : (pa.add ix).block < wz.heap.size := Nat.lt_of_lt_of_le hpa3 hsz.size
            clear hu hpc hpcu n13
            go_upto_region 10 with fail
            have hS : ∀ w' : World, Sav p wz w' → (Sav p wz w' ∧ w'.cell? ⟨c, 0, none⟩ = some (.int .i64 (W : Int)) ∧ w'.cell? ⟨c, 2, none⟩ = some (.slice (some ⟨p, 0, none⟩) N N) ∧ w'.cell? (pa.add ix) = some (.int .u32 u)) := fun w' hb => by
              have b := hb.bk (hpk.out wz _ hsz Bz).hd (hpk.out wz _ hsz Bz).ne
              exact ⟨hb, b.cell 0, by rw [← hnn.out]; exact b.cell 2, (World.cell?_of_block (w := wz) (hb.block _ hpaz hpa2)).trans hpcz⟩
            have hS := Lib.hid hS
            refine wp_region_held_drew (S := fun w' : World => Sav p wz w' ∧ w'.cell? ⟨c, 0, none⟩ = some (.int .i64 (W : Int)) ∧ w'.cell? ⟨c, 2, none⟩ = some (.slice (some ⟨p, 0, none⟩) N N) ∧ w'.cell? (pa.add ix) = some (.int .u32 u)) (by kernel_rfl) (by (try dsimp only); exact hS.out _ (by first | exact Sav.refl _ _ | exact (Sav.refl _ _).dr | exact (Sav.refl _ _).st _ _ | exact ((Sav.refl _ _).dr).st _ _)) (fun hHeld => ?_)
            refine wpAnyH_take (i := 0) (v := ?_) rfl (by kernel_rfl) (by kernel_rfl) (by kernel_rfl) (fun _ _ _ h => h) (Or.inl ⟨by rfl, ?_⟩) (by assumption) ?_
            rotate_left
            · (intro w hSw; (try dsimp only at hSw); go_simp; try (with_reducible rfl))
            (try simp only [Act.put, List.setIfInBounds_toArray, List.set_cons_zero, List.set_cons_succ])
            refine wpAnyH_take (i := 1) (v := ?_) rfl (by kernel_rfl) (by kernel_rfl) (by kernel_rfl) (fun _ _ _ h => h) (Or.inl ⟨by rfl, ?_⟩) (by assumption) ?_
            rotate_left
            · (intro w hSw; (try dsimp only at hSw); go_simp; try (with_reducible rfl))
            (try simp only [Act.put, List.setIfInBounds_toArray, List.set_cons_zero, List.set_cons_succ])
            refine wpAnyH_take (i := 2) (v := ?_) rfl (by kernel_rfl) (by kernel_rfl) (by kernel_rfl) (fun _ _ _ h => h) (Or.inl ⟨by rfl, ?_⟩) (by assumption) ?_
            rotate_left
            · (intro w hSw; (try dsimp only at hSw); go_simp; try (with_reducible rfl))
            (try simp only [Act.put, List.setIfInBounds_toArray, List.set_cons_zero, List.set_cons_succ])
            refine wpAnyH_take (i := 3) (v := ?_) rfl (by kernel_rfl) (by kernel_rfl) (by kernel_rfl) (fun _ _ _ h => h) (Or.inl ⟨by rfl, ?_⟩) (by assumption) ?_
            rotate_left
            · (intro w hSw; (try dsimp only at hSw); go_simp; try (with_reducible rfl))
            (try simp only [Act.put, List.setIfInBounds_toArray, List.set_cons_zero, List.set_cons_succ])
            refine wpAnyH_take (i := 4) (v := ?_) rfl (by kernel_rfl) (by kernel_rfl) (by kernel_rfl) (fun _ _ _ h => h) (Or.inl ⟨by rfl, ?_⟩) (by assumption) ?_
            rotate_left
            · (intro w hSw; (try dsimp only at hSw); go_simp; try (with_reducible rfl))
            (try simp only [Act.put, List.setIfInBounds_toArray, List.set_cons_zero, List.set_cons_succ])
            refine wpAnyH_take (i := 5) (v := ?_) rfl (by kernel_rfl) (by kernel_rfl) (by kernel_rfl) (fun _ _ _ h => h) (Or.inl ⟨by rfl, ?_⟩) (by assumption) ?_
            rotate_left
            · (intro w hSw; (try dsimp only at hSw); go_simp; try (with_reducible rfl))
            (try simp only [Act.put, List.setIfInBounds_toArray, List.set_cons_zero, List.set_cons_succ])
            refine wpAnyH_take (i := 6) (v := ?_) rfl (by kernel_rfl) (by kernel_rfl) (by kernel_rfl) (fun _ _ _ h => h) (Or.inl ⟨by rfl, ?_⟩) (by assumption) ?_
            rotate_left
            · (intro w hSw; (try dsimp only at hSw); go_simp; try (with_reducible rfl))
            (try simp only [Act.put, List.setIfInBounds_toArray, List.set_cons_zero, List.set_cons_succ])
            refine wpAnyH_take (i := 7) (v := ?_) rfl (by kernel_rfl) (by kernel_rfl) (by kernel_rfl) (fun _ _ _ h => h) (Or.inl ⟨by rfl, ?_⟩) (by assumption) ?_
            rotate_left
            · (intro w hSw; (try dsimp only at hSw); go_simp; try (with_reducible rfl))
            (try simp only [Act.put, List.setIfInBounds_toArray, List.set_cons_zero, List.set_cons_succ])
            refine wpAnyH_take (i := 8) (v := ?_) rfl (by kernel_rfl) (by kernel_rfl) (by kernel_rfl) (fun _ _ _ h => h) (Or.inl ⟨by rfl, ?_⟩) (by assumption) ?_
            rotate_left
            · (intro w hSw; (try dsimp only at hSw); go_simp; try (with_reducible rfl))
            (try simp only [Act.put, List.setIfInBounds_toArray, List.set_cons_zero, List.set_cons_succ])
            refine wpAnyH_take (i := 9) (v := ?_) rfl (by kernel_rfl) (by kernel_rfl) (by kernel_rfl) (fun _ _ _ h => h) (Or.inl ⟨by rfl, ?_⟩) (by assumption) ?_
            rotate_left
            · (intro w hSw; (try dsimp only at hSw); go_simp; try (with_reducible rfl))
            (try simp only [Act.put, List.setIfInBounds_toArray, List.set_cons_zero, List.set_cons_succ])
            refine wpAnyH_take (i := 10) (v := ?_) rfl (by kernel_rfl) (by kernel_rfl) (by kernel_rfl) (fun _ _ _ h => h) (Or.inl ⟨by rfl, ?_⟩) (by assumption) ?_
            rotate_left
            · (intro w hSw; (try dsimp only at hSw); go_simp; try (with_reducible rfl))
            (try simp only [Act.put, List.setIfInBounds_toArray, List.set_cons_zero, List.set_cons_succ])
            refine wpAnyH_take (i := 11) (v := ?_) rfl (by kernel_rfl) (by kernel_rfl) (by kernel_rfl) (fun _ _ _ h => h) (Or.inl ⟨by rfl, ?_⟩) (by assumption) ?_
            rotate_left
            · (intro w hSw; (try dsimp only at hSw); go_simp; try (with_reducible rfl))
            (try simp only [Act.put, List.setIfInBounds_toArray, List.set_cons_zero, List.set_cons_succ])
            refine wpAnyH_take (i := 12) (v := ?_) rfl (by kernel_rfl) (by kernel_rfl) (by kernel_rfl) (fun _ _ _ h => h) (Or.inl ⟨by rfl, ?_⟩) (by assumption) ?_
            rotate_left
            · (intro w hSw; (try dsimp only at hSw); go_simp; try (with_reducible rfl))
            (try simp only [Act.put, List.setIfInBounds_toArray, List.set_cons_zero, List.set_cons_succ])
            refine wpAnyH_take (i := 13) (v := ?_) rfl (by kernel_rfl) (by kernel_rfl) (by kernel_rfl) (fun _ _ _ h => h) (Or.inl ⟨by rfl, ?_⟩) (by assumption) ?_
            rotate_left
            · (intro w hSw; (try dsimp only at hSw); go_simp; try (with_reducible rfl))
            (try simp only [Act.put, List.setIfInBounds_toArray, List.set_cons_zero, List.set_cons_succ])
            refine wpAnyH_take (i := 14) (v := ?_) rfl (by kernel_rfl) (by kernel_rfl) (by kernel_rfl) (fun _ _ _ h => h) (Or.inl ⟨by rfl, ?_⟩) (by assumption) ?_
            rotate_left
            · (intro w hSw; (try dsimp only at hSw); go_simp; try (with_reducible rfl))
            (try simp only [Act.put, List.setIfInBounds_toArray, List.set_cons_zero, List.set_cons_succ])
            refine wpAnyH_take (i := 15) (v := ?_) rfl (by kernel_rfl) (by kernel_rfl) (by kernel_rfl) (fun _ _ _ h => h) (Or.inl ⟨by rfl, ?_⟩) (by assumption) ?_
            rotate_left
            · (intro w hSw; (try dsimp only at hSw); go_simp; try (with_reducible rfl))
            (try simp only [Act.put, List.setIfInBounds_toArray, List.set_cons_zero, List.set_cons_succ])
            refine wpAnyH_take (i := 16) (v := ?_) rfl (by kernel_rfl) (by kernel_rfl) (by kernel_rfl) (fun _ _ _ h => h) (Or.inl ⟨by rfl, ?_⟩) (by assumption) ?_
            rotate_left
            · (intro w hSw; (try dsimp only at hSw); go_simp; try (with_reducible rfl))
            (try simp only [Act.put, List.setIfInBounds_toArray, List.set_cons_zero, List.set_cons_succ])
            refine wpAnyH_take (i := 17) (v := ?_) rfl (by kernel_rfl) (by kernel_rfl) (by kernel_rfl) (fun _ _ _ h => h) (Or.inl ⟨by rfl, ?_⟩) (by assumption) ?_
            rotate_left
            · (intro w hSw; (try dsimp only at hSw); go_simp; try (with_reducible rfl))
            (try simp only [Act.put, List.setIfInBounds_toArray, List.set_cons_zero, List.set_cons_succ])
            refine wpAnyH_take (i := 18) (v := ?_) rfl (by kernel_rfl) (by kernel_rfl) (by kernel_rfl) (fun _ _ _ h => h) (Or.inl ⟨by rfl, ?_⟩) (by assumption) ?_
            rotate_left
            · (intro w hSw; (try dsimp only at hSw); go_simp; try (with_reducible rfl))
            (try simp only [Act.put, List.setIfInBounds_toArray, List.set_cons_zero, List.set_cons_succ])
            refine wpAnyH_take (i := 19) (v := ?_) rfl (by kernel_rfl) (by kernel_rfl) (by kernel_rfl) (fun _ _ _ h => h) (Or.inl ⟨by rfl, ?_⟩) (by assumption) ?_
            rotate_left
            · (intro w hSw; (try dsimp only at hSw); go_simp; try (with_reducible rfl))
            (try simp only [Act.put, List.setIfInBounds_toArray, List.set_cons_zero, List.set_cons_succ])
            refine wpAnyH_take (i := 20) (v := ?_) rfl (by kernel_rfl) (by kernel_rfl) (by kernel_rfl) (fun _ _ _ h => h) (Or.inl ⟨by rfl, ?_⟩) (by assumption) ?_
            rotate_left
            · (intro w hSw; (try dsimp only at hSw); go_simp; try (with_reducible rfl))
            (try simp only [Act.put, List.setIfInBounds_toArray, List.set_cons_zero, List.set_cons_succ])
            refine wpAnyH_take (i := 21) (v := ?_) rfl (by kernel_rfl) (by kernel_rfl) (by kernel_rfl) (fun _ _ _ h => h) (Or.inl ⟨by rfl, ?_⟩) (by assumption) ?_
            rotate_left
            · (intro w hSw; (try dsimp only at hSw); go_simp; try (with_reducible rfl))
            (try simp only [Act.put, List.setIfInBounds_toArray, List.set_cons_zero, List.set_cons_succ])
            refine wpAnyH_take (i := 22) (v := ?_) rfl (by kernel_rfl) (by kernel_rfl) (by kernel_rfl) (fun _ _ _ h => h) (Or.inl ⟨by rfl, ?_⟩) (by assumption) ?_
            rotate_left
            · (intro w hSw; (try dsimp only at hSw); go_simp; try (with_reducible rfl))
            (try simp only [Act.put, List.setIfInBounds_toArray, List.set_cons_zero, List.set_cons_succ])
            refine wpAnyH_take (i := 23) (v := ?_) rfl (by kernel_rfl) (by kernel_rfl) (by kernel_rfl) (fun _ _ _ h => h) (Or.inl ⟨by rfl, ?_⟩) (by assumption) ?_
            rotate_left
            · (intro w hSw; (try dsimp only at hSw); go_simp; try (with_reducible rfl))
            (try simp only [Act.put, List.setIfInBounds_toArray, List.set_cons_zero, List.set_cons_succ])
            refine wpAnyH_take (i := 24) (v := ?_) rfl (by kernel_rfl) (by kernel_rfl) (by kernel_rfl) (fun _ _ _ h => h) (Or.inl ⟨by rfl, ?_⟩) (by assumption) ?_
            rotate_left
            · (intro w hSw; (try dsimp only at hSw); go_simp; try (with_reducible rfl))
            (try simp only [Act.put, List.setIfInBounds_toArray, List.set_cons_zero, List.set_cons_succ])
            refine wpAnyH_take (i := 26) (v := ?_) rfl (by kernel_rfl) (by kernel_rfl) (by kernel_rfl) (fun _ _ _ h => h) (Or.inl ⟨by rfl, ?_⟩) (by assumption) ?_
            rotate_left
            · (intro w hSw; (try dsimp only at hSw); go_simp; try (with_reducible rfl))
            (try simp only [Act.put, List.setIfInBounds_toArray, List.set_cons_zero, List.set_cons_succ])
            refine wpAnyH_take (i := 27) (v := ?_) rfl (by kernel_rfl) (by kernel_rfl) (by kernel_rfl) (fun _ _ _ h => h) (Or.inl ⟨by rfl, ?_⟩) (by assumption) ?_
            rotate_left
            · (intro w hSw; (try dsimp only at hSw); go_simp; try (with_reducible rfl))
            (try simp only [Act.put, List.setIfInBounds_toArray, List.set_cons_zero, List.set_cons_succ])
            refine wpAnyH_take (i := 28) (v := ?_) rfl (by kernel_rfl) (by kernel_rfl) (by kernel_rfl) (fun _ _ _ h => h) (Or.inl ⟨by rfl, ?_⟩) (by assumption) ?_
            rotate_left
            · (intro w hSw; (try dsimp only at hSw); go_simp; try (with_reducible rfl))
            (try simp only [Act.put, List.setIfInBounds_toArray, List.set_cons_zero, List.set_cons_succ])
            refine wpAnyH_take (i := 29) (v := ?_) rfl (by kernel_rfl) (by kernel_rfl) (by kernel_rfl) (fun _ _ _ h => h) (Or.inl ⟨by rfl, ?_⟩) (by assumption) ?_
            rotate_left
            · (intro w hSw; (try dsimp only at hSw); go_simp; try (with_reducible rfl))
            (try simp only [Act.put, List.setIfInBounds_toArray, List.set_cons_zero, List.set_cons_succ])
            refine wpAnyH_ready (rs := [25]) (by kernel_rfl) (by simp) ?_
            refine AllReadyH.cons (i := 25) rfl (fun K hK => ?_) AllReadyH.nil
            go_simp
            refine hK.out _ _ hHeld (fun hHeld2 => ?_)
            clear hHeld2 hK K
            (try simp only [Act.put, List.setIfInBounds_toArray, List.set_cons_zero, List.set_cons_succ])
            refine wpAnyH_ready (rs := [30]) (by kernel_rfl) (by simp) ?_
            refine AllReadyH.cons (i := 30) rfl (fun K hK => ?_) AllReadyH.nil
            go_simp
            go_at_call 44
            refine (rOver_any o u _ hob.out.1 hob.out.2 hu0.out.1 hu0.out.2).mono ?_
            rintro e _ ⟨rfl, rfl⟩
            try (go_wp2_with fail)
            refine hK.out _ _ (by (try dsimp only); exact hS.out _ (by first | exact Sav.refl _ _ | exact (Sav.refl _ _).dr | exact (Sav.refl _ _).st _ _ | exact ((Sav.refl _ _).dr).st _ _)) (fun hHeld2 => ?_)
            clear hHeld
            rename _ => hHeld
            clear hK K
            (try simp only [Act.put, List.setIfInBounds_toArray, List.set_cons_zero, List.set_cons_succ])
            refine wpAnyH_take (i := 31) (v := ?_) rfl (by kernel_rfl) (by kernel_rfl) (by kernel_rfl) (fun _ _ _ h => h) (Or.inl ⟨by rfl, ?_⟩) (by assumption) ?_
            rotate_left
            · (intro w hSw; (try dsimp only at hSw); go_simp; try (with_reducible rfl))
            (try simp only [Act.put, List.setIfInBounds_toArray, List.set_cons_zero, List.set_cons_succ])
            refine wpAnyH_ready (rs := [32]) (by kernel_rfl) (by simp) ?_
            refine AllReadyH.cons (i := 32) rfl (fun K hK => ?_) AllReadyH.nil
            go_simp
            try (go_wp2_with fail)
            refine hK.out _ _ (by (try dsimp only); exact hS.out _ (by first | exact Sav.refl _ _ | exact (Sav.refl _ _).dr | exact (Sav.refl _ _).st _ _ | exact ((Sav.refl _ _).dr).st _ _)) (fun hHeld2 => ?_)
            clear hHeld
            rename _ => hHeld
            clear hK K
            (try simp only [Act.put, List.setIfInBounds_toArray, List.set_cons_zero, List.set_cons_succ])
            refine wpAnyH_done (by kernel_rfl) ?_ _
            go_wp2_with fail
            have hsx' := hsz.trans ((Sav.refl p wz).st (q + x) (.int .u32 (ovr o u)))
            have Bn : Bk (wz.setCell ⟨p, q + x, none⟩ (.int .u32 (ovr o u))) p 22 (pxV (pk W l (drawF X Y Wd Hd P) (y * W + (x + 1)) L)) := by
              have := Bz.st (q + x) (.int .u32 (ovr o u))
              rw [← hq.out, px_set] at this
              rw [pk_t hxW'.out hkl.out hi.out, ho.out, hfy.out, ← hq.out]
              exact this
            clear hS
            go_roundw
            case rel => exact ⟨x + 1, hxW'.out, by go_num, Bn.dr, hsx'.dr⟩
            case measure => have h9 : W - (x + 1) < W - x := Nat.sub_lt_sub_left hxW'.out (Nat.lt_succ_self x); simpa [intOf] using h9
        · obtain rfl : x = W := Nat.le_antisymm hx (Nat.le_of_not_lt hxW)
          have dx : decide ((x : Int) < (x : Int)) = false := by simp
          go_wp2_with fail
          go_roundw
          case rel => exact ⟨y + 1, hyH'.out, by go_num, by rw [Nat.succ_mul]; exact Bx, hsx⟩
          case measure => have h9 : H - (y + 1) < H - y := Nat.sub_lt_sub_left hyH'.out (Nat.lt_succ_self y); simpa [intOf] using h9
    · obtain rfl : y = H := Nat.le_antisymm hy (Nat.le_of_not_lt hyH)
      have dy : decide ((y : Int) < (y : Int)) = false := by simp
      have hres := hpk.out wy _ hs Bp
      have hres := Lib.hid hres
      go_wp2_with fail
      go_end0
      unfold drawO
      rw [if_pos hok.out, ← pk_all, Nat.mul_comm W y]
      exact ⟨rfl, hs, hres.out⟩
end Go.Proofs.YtjjdgbhplechbaaGreatDoor.Cv
