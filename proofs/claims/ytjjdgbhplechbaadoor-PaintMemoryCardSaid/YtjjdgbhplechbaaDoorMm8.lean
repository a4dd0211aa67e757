/- PaintMemory, walked. Printed by gen_mem.py. -/
import Derived.Test.YtjjdgbhplechbaaDoorMm7
import Derived.Test.YtjjdgbhplechbaaDoorCvFol
set_option linter.unusedVariables false
set_option linter.unusedSimpArgs false
namespace Go.Proofs.YtjjdgbhplechbaaDoor.Mm
open Go.RowKit Go.Proofs.YtjjdgbhplechbaaDoor.Kit Go.Proofs.YtjjdgbhplechbaaDoor.Rect Go.Proofs.YtjjdgbhplechbaaDoor.Cv Go.Proofs.YtjjdgbhplechbaaDoor.Pix
def v1 (W H : Nat) : Vw := ⟨2, 3, 1, 1, W, H⟩
theorem at_img {W H : Nat} {P : List Int} {A : Option Addr} {c x y : Nat} {u : Int} (hW : 1 ≤ W ∧ W ≤ 6) (hH : 1 ≤ H ∧ H ≤ 6) (hx : x < W) (hy : y < H) (hu : P[y * W + x]? = some u) (h0 : 0 ≤ u) (h1 : u < 4294967296) (hp : pa u = 255) :
    atP 8 8 (allL 8 8 1 [v1 W H] [⟨3, W, H, P, A, c⟩] (List.replicate (8 * 8) 0)) ((x + 1 : Nat) : Int) ((y + 1 : Nat) : Int) = u := by
  rw [at_allL (by omega) (by omega) (by simp) (by omega) (by omega)]
  show foldV [⟨3, W, H, P, A, c⟩] ((x + 1 : Nat) : Int) ((y + 1 : Nat) : Int) 1 (v1 W H) = u
  have hf : findI [(⟨3, W, H, P, A, c⟩ : Im)] (v1 W H).b = some ⟨3, W, H, P, A, c⟩ := rfl
  rw [foldV_some hf]
  show onePt 1 1 W H P _ _ 1 = u
  rw [onePt_y (u := u) (ix := y * W + x) (by unfold okD; omega) (by omega) (by simp; omega) hu, ovr_full h0 h1 hp]
theorem at_no {W H : Nat} {P : List Int} {A : Option Addr} {c : Nat} : atP 8 8 (allL 8 8 1 [v1 W H] [⟨3, W, H, P, A, c⟩] (List.replicate (8 * 8) 0)) 0 0 = 1 := by
  have := at_allL (W := 8) (H := 8) (back := 1) (l := [v1 W H]) (m := [⟨3, W, H, P, A, c⟩]) (L := List.replicate (8 * 8) 0) (x := 0) (y := 0) (by omega) (by omega) (by simp) (by omega) (by omega)
  refine this.trans ?_
  show foldV [⟨3, W, H, P, A, c⟩] _ _ 1 (v1 W H) = 1
  have hf : findI [(⟨3, W, H, P, A, c⟩ : Im)] (v1 W H).b = some ⟨3, W, H, P, A, c⟩ := rfl
  rw [foldV_some hf]
  exact onePt_n2 (by show ¬ ((1 : Int) ≤ _ ∧ _); simp)
theorem rd1 {w : World} {B : Nat} {A : Option Addr} {L : List Int} (h : Rds w B 1 A L.length (L.map (Value.int .u32))) {i : Nat} (hi : i < L.length) : ∃ ad, A = some ad ∧ ad.block < B ∧ w.cell? (ad.add i) = some (.int .u32 L[i]) := by
  obtain ⟨ad, e, hb, hc⟩ := h.2 (by omega)
  exact ⟨ad, e, hb, hc i _ (by simp [hi])⟩
theorem pa_ld (v : Int) : pa (ld v 1) = 255 := by
  unfold pa ld
  rw [if_neg (by omega), if_pos rfl]
  omega
set_option maxRecDepth 100000 in
set_option maxHeartbeats 32000000 in
theorem mem_law (a0 a1 a2 a3 : Int) (A : Option Addr) (lc : Nat) (C : List Int) (w : World) (hu : ∀ v ∈ C, 0 ≤ v ∧ v < 4294967296) (hr : Rds w w.heap.size 1 A C.length (C.map (Value.int .u32))) :
    Calls Tryd.prog 11 #[.int .i64 a0, .int .i64 a1, .int .i64 a2, .int .i64 a3, .slice A C.length lc] w fun e w' => e = .returned (.bool true) ∧ Below w.heap.size w w' := by
  have hu := Lib.hid hu
  go_enter Tryd.func11, Tryd.ntmps11
  go_wp2_with fail
  refine (place_any a0 6 w (by omega) (by omega)).mono ?_
  rintro e _ ⟨rfl, rfl⟩
  obtain ⟨X, hX⟩ : ∃ n : Nat, a0 % 6 = (n : Int) := ⟨(a0 % 6).toNat, by omega⟩
  have lX : X < 6 := by omega
  rw [hX]
  clear hX
  obtain ⟨wd, hwd⟩ : ∃ n, X + 1 = n := ⟨_, rfl⟩
  have q1 : IntKind.i64.wrap ((1 : Int) + (X : Int)) = (wd : Int) := by rw [i64_in (by omega) (by omega)]; omega
  have q1b : IntKind.i64.wrap ((X : Int) + 1) = (wd : Int) := by rw [i64_in (by omega) (by omega)]; omega
  go_wp2_with fail
  refine (place_any a1 6 w (by omega) (by omega)).mono ?_
  rintro e _ ⟨rfl, rfl⟩
  obtain ⟨Y, hY⟩ : ∃ n : Nat, a1 % 6 = (n : Int) := ⟨(a1 % 6).toNat, by omega⟩
  have lY : Y < 6 := by omega
  rw [hY]
  clear hY
  obtain ⟨hd, hhd⟩ : ∃ n, Y + 1 = n := ⟨_, rfl⟩
  have q2 : IntKind.i64.wrap ((1 : Int) + (Y : Int)) = (hd : Int) := by rw [i64_in (by omega) (by omega)]; omega
  have q2b : IntKind.i64.wrap ((Y : Int) + 1) = (hd : Int) := by rw [i64_in (by omega) (by omega)]; omega
  have hw6 : 1 ≤ wd ∧ wd ≤ 6 := by omega
  have hh6 : 1 ≤ hd ∧ hd ≤ 6 := by omega
  clear hwd hhd lX lY
  obtain ⟨p, hp⟩ : ∃ n, 4 * wd = n := ⟨_, rfl⟩
  have q3 : IntKind.i64.wrap ((4 : Int) * (wd : Int)) = (p : Int) := by rw [i64_in (by omega) (by omega)]; omega
  go_wp2_with fail
  refine (place_any a2 4 w (by omega) (by omega)).mono ?_
  rintro e _ ⟨rfl, rfl⟩
  obtain ⟨Z, hZ⟩ : ∃ n : Nat, a2 % 4 = (n : Int) := ⟨(a2 % 4).toNat, by omega⟩
  have lZ : Z < 4 := by omega
  rw [hZ]
  clear hZ
  obtain ⟨q, hq⟩ : ∃ n, 4 * Z = n := ⟨_, rfl⟩
  have q4 : IntKind.i64.wrap ((4 : Int) * (Z : Int)) = (q : Int) := by rw [i64_in (by omega) (by omega)]; omega
  obtain ⟨sd, hsd⟩ : ∃ n, p + q = n := ⟨_, rfl⟩
  have q5 : IntKind.i64.wrap ((p : Int) + (q : Int)) = (sd : Int) := by rw [i64_in (by omega) (by omega)]; omega
  go_wp2_with fail
  refine (place_any a3 20 w (by omega) (by omega)).mono ?_
  rintro e _ ⟨rfl, rfl⟩
  obtain ⟨V, hV⟩ : ∃ n : Nat, a3 % 20 = (n : Int) := ⟨(a3 % 20).toNat, by omega⟩
  have lV : V < 20 := by omega
  rw [hV]
  clear hV
  obtain ⟨off, hoff⟩ : ∃ n, 4 * V = n := ⟨_, rfl⟩
  have q6 : IntKind.i64.wrap ((4 : Int) * (V : Int)) = (off : Int) := by rw [i64_in (by omega) (by omega)]; omega
  have hs4 : 4 * wd ≤ sd := by omega
  have hs36 : sd ≤ 36 := by omega
  have hof : off ≤ 76 := by omega
  clear hp hq hsd hoff lZ lV
  go_wp2_with fail
  clear q1 q1b q2 q2b q3 q4 q5 q6
  refine (mnew_any w).mono ?_
  rintro e w1 ⟨m, g, rfl, hMe, hm0, hg0, hb1⟩
  obtain ⟨n, hn⟩ : ∃ n, wd * hd = n := ⟨_, rfl⟩
  have hn36 : n ≤ 36 := by rw [← hn]; exact Nat.mul_le_mul hw6.2 hh6.2
  have q7 : IntKind.i64.wrap ((wd : Int) * (hd : Int)) = (n : Int) := by rw [← hn, i64_in (by rw [← Int.natCast_mul, hn]; omega) (by rw [← Int.natCast_mul, hn]; omega)]; simp
  go_wp2_with fail
  refine (mset_any m g 5 1000 w1 hMe (by omega) (by omega)).mono ?_
  rintro e w2 ⟨s, rfl, hMe2, hbk2, hsv2⟩
  have hb2 : Below w.heap.size w w2 := hsv2.below hb1 hg0 hb1.size
  obtain ⟨b, hb⟩ : ∃ b, w1.heap.size = b := ⟨_, rfl⟩
  rw [hb] at hMe2 hbk2
  have hMb : Mb w2 m g b 5 (List.replicate 1000 0) := ⟨⟨s, by rw [List.length_replicate]; exact hMe2⟩, hbk2, by have := hMe.mp.lt; omega, by have := hMe.hd.lt; omega⟩
  have hbw : w.heap.size ≤ b := by have := hb1.size; omega
  have hMb := Lib.hid hMb
  clear hMe2 hbk2 hsv2 hMe hb hb1
  by_cases hc : C.length < n
  · have dc : decide ((C.length : Int) < (n : Int)) = true := by simp; omega
    have dc2 : decide (C.length < n) = true := by simp; omega
    go_wp2_with fail
    refine (awake23_any w2).mono ?_
    rintro e w3 ⟨rfl, hb3⟩
    go_wp2_with fail
    go_ret
    exact ⟨rfl, bl_step hb2 hb3⟩
  have dc : decide ((C.length : Int) < (n : Int)) = false := by simp; omega
  have dc2 : decide (C.length < n) = false := by simp; omega
  go_wp2_with fail
  clear dc dc2
  go_loopw [16, 17, 18] (fun s16 _ _ wr => ∃ (y : Nat) (L : List Int), y ≤ hd ∧ s16 = .int .i64 (y : Int) ∧ Mb wr m g b 5 L ∧ Put L off sd wd C y 0 ∧ Below w.heap.size w wr) (fun s16 _ _ _ => hd - (intOf s16).toNat)
  case atStart => exact ⟨0, _, by omega, rfl, hMb.out, Put.start _ _ _ _, hb2⟩
  case round =>
    obtain ⟨y, L, hy, rfl, hMy, hPy, hby⟩ := hrel
    obtain ⟨wy, rfl⟩ : ∃ x : World, x = wr := ⟨_, rfl⟩
    by_cases hlt : y < hd
    · have dy : decide ((y : Int) < (hd : Int)) = true := by simp; omega
      have dy2 : decide (y < hd) = true := by simp; omega
      have hltH := Lib.hid hlt
      go_wp2_with fail
      go_loopw [17, 18] (fun s17 _ wx => ∃ (x : Nat) (L : List Int), x ≤ wd ∧ s17 = .int .i64 (x : Int) ∧ Mb wx m g b 5 L ∧ Put L off sd wd C y x ∧ Below w.heap.size w wx) (fun s17 _ _ => wd - (intOf s17).toNat)
      case atStart => exact ⟨0, L, by omega, rfl, hMy, hPy, hby⟩
      case round =>
        clear hMy hPy hby
        obtain ⟨x, L1, hx, rfl, hMx, hPx, hbx⟩ := hrel
        obtain ⟨wx, rfl⟩ : ∃ x : World, x = wr := ⟨_, rfl⟩
        by_cases hltx : x < wd
        · have dx : decide ((x : Int) < (wd : Int)) = true := by simp; omega
          have dx2 : decide (x < wd) = true := by simp; omega
          have hltxH := Lib.hid hltx
          obtain ⟨f, hf⟩ : ∃ n, y * wd = n := ⟨_, rfl⟩
          have hfn : f + wd ≤ n := by rw [← hf, ← hn, Nat.mul_comm wd hd, ← Nat.succ_mul]; exact Nat.mul_le_mul_right _ hltH.out
          have g1 : IntKind.i64.wrap ((y : Int) * (wd : Int)) = (f : Int) := by rw [← hf, i64_in (by rw [← Int.natCast_mul, hf]; omega) (by rw [← Int.natCast_mul, hf]; omega)]; simp
          obtain ⟨k, hk⟩ : ∃ n, f + x = n := ⟨_, rfl⟩
          have g2 : IntKind.i64.wrap ((f : Int) + (x : Int)) = (k : Int) := by rw [i64_in (by omega) (by omega)]; omega
          have hkl : k < C.length := by omega
          obtain ⟨oa, rfl, hol, hoc⟩ := rd1 (hr.be hbx) hkl
          have i0 : (0 : Int) ≤ (k : Int) := by omega
          have i1 : (k : Int) < (C.length : Int) := by omega
          obtain ⟨v, hv⟩ : ∃ v, C[k] = v := ⟨_, rfl⟩
          have hvb : 0 ≤ v ∧ v < 4294967296 := by rw [← hv]; exact hu.out _ (List.getElem_mem _)
          have hvg : C.getD (y * wd + x) 0 = v := by rw [hf, hk, List.getD_eq_getElem?_getD, List.getElem?_eq_getElem hkl, ← hv]; rfl
          rw [hv] at hoc
          obtain ⟨p, hp⟩ : ∃ p, sd * y = p := ⟨_, rfl⟩
          have hp6 : p ≤ 180 := by rw [← hp]; have := Nat.mul_le_mul hs36 (show y ≤ 5 by have := hltH.out; omega); omega
          have ej1 : IntKind.i64.wrap ((sd : Int) * (y : Int)) = ((p : Nat) : Int) := by rw [← hp, i64_in (by rw [← Int.natCast_mul, hp]; omega) (by rw [← Int.natCast_mul, hp]; omega)]; simp
          obtain ⟨r, hrr⟩ : ∃ r, off + p = r := ⟨_, rfl⟩
          have ej2 : IntKind.i64.wrap ((off : Int) + (p : Int)) = (r : Int) := by rw [i64_in (by omega) (by omega)]; omega
          obtain ⟨u, huu⟩ : ∃ u, 4 * x = u := ⟨_, rfl⟩
          have ej3 : IntKind.i64.wrap ((4 : Int) * (x : Int)) = (u : Int) := by rw [i64_in (by omega) (by omega)]; omega
          obtain ⟨j, hj⟩ : ∃ j, r + u = j := ⟨_, rfl⟩
          have ej4 : IntKind.i64.wrap ((r : Int) + (u : Int)) = (j : Int) := by rw [i64_in (by omega) (by omega)]; omega
          have hj2 : off + sd * y + 4 * x = j := by rw [hp, hrr, huu, hj]
          have hj4 : j + 4 ≤ 1000 := by omega
          have hPs := hPx.step hltx hs4 (by rw [hj2]; exact hj4) hvg hvb.1 hvb.2
          rw [hj2] at hPs
          have hPs := Lib.hid hPs
          have hlen := hPx.len
          have hvg := Lib.hid hvg
          have hj2 := Lib.hid hj2
          clear hf hk hv hp hrr huu hj
          go_wp2_with fail
          have e8 : v / 16777216 = v / 16777216 % 256 := by omega
          rw [e8]
          clear e8
          generalize hwv : World.alloc _ _ = wa
          have B8 : Bk wa wx.heap.size 5 #[.int .u8 (v % 256), .int .u8 (v / 256 % 256), .int .u8 (v / 65536 % 256), .int .u8 (v / 16777216 % 256)] := hwv ▸ Bk.new _ _ _
          have hba : Below wx.heap.size wx wa := hwv ▸ bl_alloc (Below.refl _ _) _
          clear hwv
          have hrd : Rds wa wa.heap.size 1 (some ⟨wx.heap.size, 0, none⟩) (c4 v).length ((c4 v).map (Value.int .u8)) := Rds.block (n := 4) (sz := 1) B8 rfl B8.lt
          refine (mwrite_any m g b 5 L1 (c4 v) j (some ⟨wx.heap.size, 0, none⟩) 4 wa (hMx.be hba) (by omega) (by show j + 4 ≤ _; omega) (by show 0 < 4; omega) hrd).mono ?_
          rintro e wb ⟨rfl, hMz, hsv⟩
          have hbb : Below w.heap.size w wb := hsv.below (bl_step hbx hba) hbw (bl_step hbx hba).size
          clear hsv hrd B8 hba
          go_wp2_with fail
          go_roundw
          case rel => exact ⟨x + 1, _, hltxH.out, by go_num, hMz, hPs.out, hbb⟩
          case measure => have := hltxH.out; simp [intOf]; omega
        · have hxe : x = wd := by omega
          have dxf : decide ((x : Int) < (wd : Int)) = false := by simp; omega
          have dxf2 : decide (x < wd) = false := by simp; omega
          rw [hxe] at hPx
          have hPx := Lib.hid hPx.row
          have hxe := Lib.hid hxe
          go_wp2_with fail
          go_roundw
          case rel => exact ⟨y + 1, L1, hltH.out, by go_num, hMx, hPx.out, hbx⟩
          case measure => have := hltH.out; simp [intOf]; omega
    · have hye : y = hd := by omega
      have dyf : decide ((y : Int) < (hd : Int)) = false := by simp; omega
      have dyf2 : decide (y < hd) = false := by simp; omega
      rw [hye] at hPy
      have hye := Lib.hid hye
      go_wp2_with fail
      clear dyf dyf2
      refine (load_any m g b 5 L off wd hd sd wy hMy (by have := hPy.len; omega) hPy.bd hw6.1 hh6.1 hs4 (by omega) hh6.2 (by omega) hw6.2).mono ?_
      rintro e w3 ⟨A1, c1, rfl, own3, hq3⟩
      have hb3 := bl_step hby hq3
      have hn2 : hd * wd = n := by rw [Nat.mul_comm]; exact hn
      have hPl := ldL_len L off sd wd (hd * wd)
      have hPb := ldL_bd (L := L) (off := off) (sd := sd) (W := wd) (n := hd * wd) hPy.bd
      have hPp : ∀ y x, y < hd → x < wd → (ldL L off sd wd (hd * wd))[y * wd + x]? = some (ld (C.getD (y * wd + x) 0) 1) := fun y x hy hx => hPy.px hy hx
      obtain ⟨P, hP⟩ : ∃ P, ldL L off sd wd (hd * wd) = P := ⟨_, rfl⟩
      rw [hP] at hPl hPb hPp own3
      rw [hn2] at own3 hPl ⊢
      have hPb := Lib.hid hPb
      have hPp := Lib.hid hPp
      clear hP hPy hMy hn2 hq3 hby hMb hye
      go_wp2_with fail
      generalize hwv : World.alloc _ _ = w4
      have B19 : Bk w4 w3.heap.size 73 #[.int .i64 3, .int .i64 (wd : Int), .int .i64 (hd : Int), .slice A1 n c1] := hwv ▸ Bk.new _ _ _
      have hq4 : Below w3.heap.size w3 w4 := hwv ▸ bl_alloc (Below.refl _ _) _
      clear hwv
      have own4 := own_be own3 hq4
      have hb4 := bl_step hb3 hq4
      obtain ⟨g9, hg9⟩ : ∃ g, w3.heap.size = g := ⟨_, rfl⟩
      rw [hg9] at B19 ⊢
      have h9w : w.heap.size ≤ g9 := by have := hb3.size; omega
      clear own3 hq4 hb3 hg9
      refine (new_any 8 8 w4 (by omega) (by omega) (by omega) (by omega)).mono ?_
      rintro e w5 ⟨c, p, rfl, hc, hc0, hp0, hq5⟩
      have hb5 := bl_step hb4 hq5
      have hoffA : ∀ ad, A1 = some ad → ad.block ≠ p := fun ad e => by have := (own4.lt ad.block (by rw [e]; rfl)).2; omega
      have own5 := own_be own4 hq5
      have h9p : g9 ≠ p := by have := B19.lt; omega
      have B5 := B19.be hq5
      have hpw : w.heap.size ≤ p := by have := hb4.size; omega
      have hoffA := Lib.hid hoffA
      clear own4 B19 hq5 hb4
      obtain ⟨k0, k1, k2, k3⟩ := (B5.al (.cells #[.int .i64 2, .int .i64 3, .int .i64 1, .int .i64 1, .int .i64 (wd : Int), .int .i64 (hd : Int)] 60)).c4
      go_wp2_with fail
      clear k0 k1 k2 k3
      generalize hwv : World.alloc _ _ = w6
      have Bv : Bk w6 w5.heap.size 60 #[.int .i64 2, .int .i64 3, .int .i64 1, .int .i64 1, .int .i64 (wd : Int), .int .i64 (hd : Int)] := hwv ▸ (Bk.new _ _ _).al _
      have Bi : Bk w6 (w5.heap.size + 1) 73 #[.int .i64 3, .int .i64 (wd : Int), .int .i64 (hd : Int), .slice A1 n c1] := hwv ▸ Bk.new' _ _ _ (by simp)
      have hq6 : Below w5.heap.size w5 w6 := hwv ▸ bl_alloc (bl_alloc (Below.refl _ _) _) _
      clear hwv
      have hc6 := hc.be hq6
      have own6 := own_be own5 hq6
      have B6 := B5.be hq6
      have hb6 := bl_step hb5 hq6
      have hpl := hc.px.lt
      have hrv : Rds w6 w6.heap.size 6 (some ⟨w5.heap.size, 0, none⟩) [v1 wd hd].length ([v1 wd hd].flatMap vwC) := by
        have := Rds.block (n := 1) (sz := 6) Bv rfl Bv.lt
        simpa [vwC, v1] using this
      have hri : RdI w6 w6.heap.size (some ⟨w5.heap.size + 1, 0, none⟩) [⟨3, wd, hd, P, A1, c1⟩] := by
        refine ⟨?_, fun g hg => ?_, fun g hg v hv => ?_⟩
        · have := Rds.block (n := 1) (sz := 4) Bi rfl Bi.lt
          simpa [imC, hPl] using this
        · obtain rfl := List.mem_singleton.1 hg
          simp only [hPl]
          exact Rds.own own6
        · obtain rfl := List.mem_singleton.1 hg
          exact hPb.out v hv
      refine (all_any c p 8 8 _ 1 (some ⟨w5.heap.size, 0, none⟩) 1 [v1 wd hd] (some ⟨w5.heap.size + 1, 0, none⟩) 1 [⟨3, wd, hd, P, A1, c1⟩] w6 hc6 (by omega) hrv (fun _ ad e => by injection e with e; subst e; simp only; omega) (by simp) hri
        ⟨fun ad e => by injection e with e; subst e; simp only; omega, fun g hg ad e => by obtain rfl := List.mem_singleton.1 hg; exact hoffA.out ad e⟩ (by simp)).mono ?_
      rintro e w7 ⟨rfl, hs7, hc7⟩
      have hb7 : Below w.heap.size w w7 := hs7.below hb6 hpw hb6.size
      have B7 := hs7.bk B6 h9p
      have hat0 := at_no (W := wd) (H := hd) (P := P) (A := A1) (c := c1)
      have hat : ∀ y x v, y < hd → x < wd → C.getD (y * wd + x) 0 = v → 0 ≤ v ∧ v < 4294967296 → atP 8 8 (allL 8 8 1 [v1 wd hd] [⟨3, wd, hd, P, A1, c1⟩] (List.replicate (8 * 8) 0)) ((x + 1 : Nat) : Int) ((y + 1 : Nat) : Int) = v % 16777216 + 4278190080 := by
        intro y x v hy hx hv hvb
        have hb := ld_bd 1 hvb.1 hvb.2
        have := hPp.out y x hy hx
        rw [hv] at this
        rw [at_img (A := A1) (c := c1) hw6 hh6 hx hy this hb.1 hb.2 (pa_ld v)]
        rfl
      obtain ⟨LL, hLL⟩ : ∃ LL, allL 8 8 1 [v1 wd hd] [⟨3, wd, hd, P, A1, c1⟩] (List.replicate (8 * 8) 0) = LL := ⟨_, rfl⟩
      rw [hLL] at hc7 hat0 hat
      have hat := Lib.hid hat
      have hc7 := Lib.hid hc7
      have hr7 := Lib.hid (hr.be hb7)
      clear hLL hs7 hrv hri Bv Bi hq6 hc6 own6 B6 B5 own5 hc hb5 hb6 hpl hoffA hPb hPp hc0 hp0
      go_wp2_with fail
      go_loopw [22, 23] (fun s22 _ wr => ∃ y : Nat, y ≤ hd ∧ s22 = .int .i64 (y : Int) ∧ Below w7.heap.size w7 wr) (fun s22 _ _ => hd - (intOf s22).toNat)
      case atStart => exact ⟨0, by omega, rfl, Below.refl _ _⟩
      case round =>
        obtain ⟨y, hy, rfl, hby⟩ := hrel
        obtain ⟨wy, rfl⟩ : ∃ x : World, x = wr := ⟨_, rfl⟩
        by_cases hlt : y < hd
        · have dy : decide ((y : Int) < (hd : Int)) = true := by simp; omega
          have dy2 : decide (y < hd) = true := by simp; omega
          have hltH := Lib.hid hlt
          go_wp2_with fail
          go_loopw [23] (fun s23 wx => ∃ x : Nat, x ≤ wd ∧ s23 = .int .i64 (x : Int) ∧ Below w7.heap.size w7 wx) (fun s23 _ => wd - (intOf s23).toNat)
          case atStart => exact ⟨0, by omega, rfl, hby⟩
          case round =>
            clear hby
            obtain ⟨x, hx, rfl, hbx⟩ := hrel
            obtain ⟨wx, rfl⟩ : ∃ x : World, x = wr := ⟨_, rfl⟩
            by_cases hltx : x < wd
            · have dx : decide ((x : Int) < (wd : Int)) = true := by simp; omega
              have dx2 : decide (x < wd) = true := by simp; omega
              have hltxH := Lib.hid hltx
              obtain ⟨f, hf⟩ : ∃ n, y * wd = n := ⟨_, rfl⟩
              have hfn : f + wd ≤ n := by rw [← hf, ← hn, Nat.mul_comm wd hd, ← Nat.succ_mul]; exact Nat.mul_le_mul_right _ hltH.out
              have g1 : IntKind.i64.wrap ((y : Int) * (wd : Int)) = (f : Int) := by rw [← hf, i64_in (by rw [← Int.natCast_mul, hf]; omega) (by rw [← Int.natCast_mul, hf]; omega)]; simp
              obtain ⟨k, hk⟩ : ∃ n, f + x = n := ⟨_, rfl⟩
              have g2 : IntKind.i64.wrap ((f : Int) + (x : Int)) = (k : Int) := by rw [i64_in (by omega) (by omega)]; omega
              have g3 : IntKind.i64.wrap ((1 : Int) + (x : Int)) = ((x + 1 : Nat) : Int) := by rw [i64_in (by omega) (by omega)]; omega
              have g4 : IntKind.i64.wrap ((1 : Int) + (y : Int)) = ((y + 1 : Nat) : Int) := by rw [i64_in (by omega) (by omega)]; omega
              have hkl : k < C.length := by omega
              obtain ⟨oa, hoa, hol, hoc⟩ := rd1 ((hr7.out.more hb7.size).be hbx) hkl
              subst hoa
              have i0 : (0 : Int) ≤ (k : Int) := by omega
              have i1 : (k : Int) < (C.length : Int) := by omega
              obtain ⟨v, hv⟩ : ∃ v, C[k] = v := ⟨_, rfl⟩
              have hvb : 0 ≤ v ∧ v < 4294967296 := by rw [← hv]; exact hu.out _ (List.getElem_mem _)
              have hvg : C.getD (y * wd + x) 0 = v := by rw [hf, hk, List.getD_eq_getElem?_getD, List.getElem?_eq_getElem hkl, ← hv]; rfl
              rw [hv] at hoc
              have e1 := or_high hvb.1 hvb.2
              have hatv := hat.out y x v hltH.out hltxH.out hvg hvb
              have hatv := Lib.hid hatv
              have hvg := Lib.hid hvg
              obtain ⟨x1, hx1⟩ : ∃ z : Int, ((x + 1 : Nat) : Int) = z := ⟨_, rfl⟩
              obtain ⟨y1, hy1⟩ : ∃ z : Int, ((y + 1 : Nat) : Int) = z := ⟨_, rfl⟩
              rw [hx1] at hatv g3
              rw [hy1] at hatv g4
              clear hf hk hv hx1 hy1
              go_upto_region 26 with fail
              have hS : ∀ w' : World, Below wx.heap.size wx w' → (w'.cell? (oa.add k) = some (.int .u32 v)) := fun w' hb => (hb.cell (p := oa.add k) (by rw [add_blk]; have := hbx.size; have := hb7.size; omega)).trans hoc
              have hS := Lib.hid hS
              refine wp_region_held_drew (S := fun w' : World => w'.cell? (oa.add k) = some (.int .u32 v)) (by kernel_rfl) (by (try dsimp only); exact hS.out _ (Below.refl _ _).drew) (fun hHeld => ?_)
              refine wpAnyH_take (i := 0) (v := ?_) rfl (by kernel_rfl) (by kernel_rfl) (by kernel_rfl) (fun _ _ _ h => h) (Or.inl ⟨by rfl, ?_⟩) (by assumption) ?_
              rotate_left
              · (intro w hSw; (try dsimp only at hSw); go_simp; try (with_reducible rfl))
              (try simp only [Act.put, List.setIfInBounds_toArray, List.set_cons_zero, List.set_cons_succ])
              refine wpAnyH_take (i := 1) (v := ?_) rfl (by kernel_rfl) (by kernel_rfl) (by kernel_rfl) (fun _ _ _ h => h) (Or.inl ⟨by rfl, ?_⟩) (by assumption) ?_
              rotate_left
              · (intro w hSw; (try dsimp only at hSw); go_simp; try (with_reducible rfl))
              (try simp only [Act.put, List.setIfInBounds_toArray, List.set_cons_zero, List.set_cons_succ])
              refine wpAnyH_take (i := 2) (v := ?_) rfl (by kernel_rfl) (by kernel_rfl) (by kernel_rfl) (fun _ _ _ h => h) (Or.inl ⟨by rfl, ?_⟩) (by assumption) ?_
              rotate_left
              · (intro w hSw; (try dsimp only at hSw); go_simp; try (with_reducible rfl))
              (try simp only [Act.put, List.setIfInBounds_toArray, List.set_cons_zero, List.set_cons_succ])
              refine wpAnyH_take (i := 3) (v := ?_) rfl (by kernel_rfl) (by kernel_rfl) (by kernel_rfl) (fun _ _ _ h => h) (Or.inl ⟨by rfl, ?_⟩) (by assumption) ?_
              rotate_left
              · (intro w hSw; (try dsimp only at hSw); go_simp; try (with_reducible rfl))
              (try simp only [Act.put, List.setIfInBounds_toArray, List.set_cons_zero, List.set_cons_succ])
              refine wpAnyH_take (i := 4) (v := ?_) rfl (by kernel_rfl) (by kernel_rfl) (by kernel_rfl) (fun _ _ _ h => h) (Or.inl ⟨by rfl, ?_⟩) (by assumption) ?_
              rotate_left
              · (intro w hSw; (try dsimp only at hSw); go_simp; try (with_reducible rfl))
              (try simp only [Act.put, List.setIfInBounds_toArray, List.set_cons_zero, List.set_cons_succ])
              refine wpAnyH_take (i := 6) (v := ?_) rfl (by kernel_rfl) (by kernel_rfl) (by kernel_rfl) (fun _ _ _ h => h) (Or.inl ⟨by rfl, ?_⟩) (by assumption) ?_
              rotate_left
              · (intro w hSw; (try dsimp only at hSw); go_simp; try (with_reducible rfl))
              (try simp only [Act.put, List.setIfInBounds_toArray, List.set_cons_zero, List.set_cons_succ])
              refine wpAnyH_take (i := 7) (v := ?_) rfl (by kernel_rfl) (by kernel_rfl) (by kernel_rfl) (fun _ _ _ h => h) (Or.inl ⟨by rfl, ?_⟩) (by assumption) ?_
              rotate_left
              · (intro w hSw; (try dsimp only at hSw); go_simp; try (with_reducible rfl))
              (try simp only [Act.put, List.setIfInBounds_toArray, List.set_cons_zero, List.set_cons_succ])
              refine wpAnyH_take (i := 8) (v := ?_) rfl (by kernel_rfl) (by kernel_rfl) (by kernel_rfl) (fun _ _ _ h => h) (Or.inl ⟨by rfl, ?_⟩) (by assumption) ?_
              rotate_left
              · (intro w hSw; (try dsimp only at hSw); go_simp; try (with_reducible rfl))
              (try simp only [Act.put, List.setIfInBounds_toArray, List.set_cons_zero, List.set_cons_succ])
              refine wpAnyH_take (i := 9) (v := ?_) rfl (by kernel_rfl) (by kernel_rfl) (by kernel_rfl) (fun _ _ _ h => h) (Or.inl ⟨by rfl, ?_⟩) (by assumption) ?_
              rotate_left
              · (intro w hSw; (try dsimp only at hSw); go_simp; try (with_reducible rfl))
              (try simp only [Act.put, List.setIfInBounds_toArray, List.set_cons_zero, List.set_cons_succ])
              refine wpAnyH_take (i := 10) (v := ?_) rfl (by kernel_rfl) (by kernel_rfl) (by kernel_rfl) (fun _ _ _ h => h) (Or.inl ⟨by rfl, ?_⟩) (by assumption) ?_
              rotate_left
              · (intro w hSw; (try dsimp only at hSw); go_simp; try (with_reducible rfl))
              (try simp only [Act.put, List.setIfInBounds_toArray, List.set_cons_zero, List.set_cons_succ])
              refine wpAnyH_take (i := 11) (v := ?_) rfl (by kernel_rfl) (by kernel_rfl) (by kernel_rfl) (fun _ _ _ h => h) (Or.inl ⟨by rfl, ?_⟩) (by assumption) ?_
              rotate_left
              · (intro w hSw; (try dsimp only at hSw); go_simp; try (with_reducible rfl))
              (try simp only [Act.put, List.setIfInBounds_toArray, List.set_cons_zero, List.set_cons_succ])
              refine wpAnyH_take (i := 12) (v := ?_) rfl (by kernel_rfl) (by kernel_rfl) (by kernel_rfl) (fun _ _ _ h => h) (Or.inl ⟨by rfl, ?_⟩) (by assumption) ?_
              rotate_left
              · (intro w hSw; (try dsimp only at hSw); go_simp; try (with_reducible rfl))
              (try simp only [Act.put, List.setIfInBounds_toArray, List.set_cons_zero, List.set_cons_succ])
              refine wpAnyH_take (i := 13) (v := ?_) rfl (by kernel_rfl) (by kernel_rfl) (by kernel_rfl) (fun _ _ _ h => h) (Or.inl ⟨by rfl, ?_⟩) (by assumption) ?_
              rotate_left
              · (intro w hSw; (try dsimp only at hSw); go_simp; try (with_reducible rfl))
              (try simp only [Act.put, List.setIfInBounds_toArray, List.set_cons_zero, List.set_cons_succ])
              refine wpAnyH_take (i := 14) (v := ?_) rfl (by kernel_rfl) (by kernel_rfl) (by kernel_rfl) (fun _ _ _ h => h) (Or.inl ⟨by rfl, ?_⟩) (by assumption) ?_
              rotate_left
              · (intro w hSw; (try dsimp only at hSw); go_simp; try (with_reducible rfl))
              (try simp only [Act.put, List.setIfInBounds_toArray, List.set_cons_zero, List.set_cons_succ])
              refine wpAnyH_ready (rs := [5]) (by kernel_rfl) (by simp) ?_
              refine AllReadyH.cons (i := 5) rfl (fun K hK => ?_) AllReadyH.nil
              go_simp
              go_at_call 19
              refine (at_any c p 8 8 LL x1 y1 wx.drew ((hc7.out.be hbx).be (Below.refl _ _).drew)).mono ?_
              rintro e u1 ⟨rfl, hq1⟩
              have hq1 : Below wx.heap.size wx u1 := (Below.refl _ _).drew.trans hq1
              rw [hatv.out]
              try (go_wp2_with fail)
              refine hK.out _ _ (by (try dsimp only); exact hS.out _ hq1) (fun hHeld2 => ?_)
              clear hHeld
              rename _ => hHeld
              clear hK K
              (try simp only [Act.put, List.setIfInBounds_toArray, List.set_cons_zero, List.set_cons_succ])
              refine wpAnyH_take (i := 15) (v := ?_) rfl (by kernel_rfl) (by kernel_rfl) (by kernel_rfl) (fun _ _ _ h => h) (Or.inl ⟨by rfl, ?_⟩) (by assumption) ?_
              rotate_left
              · (intro w hSw; (try dsimp only at hSw); go_simp; try (with_reducible rfl))
              (try simp only [Act.put, List.setIfInBounds_toArray, List.set_cons_zero, List.set_cons_succ])
              refine wpAnyH_done (by kernel_rfl) ?_ _
              clear hHeld hS
              have hbu := bl_step hbx hq1
              clear hq1
              go_wp2_with fail
              go_roundw
              case rel => exact ⟨x + 1, hltxH.out, by go_num, hbu⟩
              case measure => have := hltxH.out; simp [intOf]; omega
            · have dxf : decide ((x : Int) < (wd : Int)) = false := by simp; omega
              have dxf2 : decide (x < wd) = false := by simp; omega
              go_wp2_with fail
              go_roundw
              case rel => exact ⟨y + 1, hltH.out, by go_num, hbx⟩
              case measure => have := hltH.out; simp [intOf]; omega
        · have dyf : decide ((y : Int) < (hd : Int)) = false := by simp; omega
          have dyf2 : decide (y < hd) = false := by simp; omega
          go_wp2_with fail
          refine (at_any c p 8 8 LL 0 0 wy (hc7.out.be hby)).mono ?_
          rintro e w8 ⟨rfl, hq8⟩
          rw [hat0]
          have hb8 := bl_step (bl_step hb7 hby) hq8
          have n3 : w8.cell? ⟨g9, 3, none⟩ = some (.slice A1 n c1) := ((B7.be hby).be hq8).cell 3
          go_wp2_with fail
          refine (awake23_any w8).mono ?_
          rintro e w9 ⟨rfl, hq9⟩
          go_wp2_with fail
          go_ret
          exact ⟨rfl, bl_step hb8 hq9⟩
theorem PaintMemory_walk (a0 : Int) (w0 : (Lit.int .i64 a0).wf = true) (a1 : Int) (w1 : (Lit.int .i64 a1).wf = true) (a2 : Int) (w2 : (Lit.int .i64 a2).wf = true) (a3 : Int) (w3 : (Lit.int .i64 a3).wf = true) (A : Option Addr) (lc : Nat) (C : List Int) (w : World) (hl : C.length ≤ lc) (hr : Rds w w.heap.size 1 A C.length (C.map (Value.int .u32))) (mx : (∀ v ∈ C, 0 ≤ v ∧ v < 4294967296) ∧ C.length ≤ 9223372036854775807) :
    Calls Tryd.prog 11 #[.int .i64 a0, .int .i64 a1, .int .i64 a2, .int .i64 a3, .slice A C.length lc] w fun e w' => e = .returned (.bool true) ∧ Below w.heap.size w w' := mem_law a0 a1 a2 a3 A lc C w mx.1 hr
end Go.Proofs.YtjjdgbhplechbaaDoor.Mm
