/- CanvasFills, walked. Printed by gen_fills.py. -/
import Derived.Test.YtjjdgbhplechbaaDoorCvD2
import Derived.Test.YtjjdgbhplechbaaDoorCvCop
set_option linter.unusedVariables false
set_option linter.unusedSimpArgs false
namespace Go.Proofs.YtjjdgbhplechbaaDoor.Cv
open Go.RowKit Go.Proofs.YtjjdgbhplechbaaDoor.Kit Go.Proofs.YtjjdgbhplechbaaDoor.Rect Go.Proofs.YtjjdgbhplechbaaDoor.Pix
def allR : R := ⟨-9, -9, 50, 50⟩
theorem inn_all {x y : Nat} (hx : x < 12) (hy : y < 9) : inn [allR] (x : Int) (y : Int) = true := by
  simp only [inn, allR, List.any_cons, List.any_nil, Bool.or_false]
  rw [has_iff, inR_bound]
  unfold inR
  simp only
  omega
/-- what both calls leave -/
def fills (a b I J PW PH : Int) (n : Nat) : List Int := drawn 12 9 [allR] (drawF I J PW PH (List.replicate n b)) (drawn 12 9 [allR] (fun _ _ _ => a) (List.replicate (12 * 9) 0))
theorem fills_at {a b I J PW PH : Int} {n u v : Nat} (hu : u < 12) (hv : v < 9) (hn : PW * PH = (n : Int)) (hp : 1 ≤ PW) (hq : 1 ≤ PH) :
    atP 12 9 (fills a b I J PW PH n) (u : Int) (v : Int) = if I ≤ (u : Int) ∧ (u : Int) < I + PW ∧ J ≤ (v : Int) ∧ (v : Int) < J + PH then ovr a b else a := by
  unfold fills
  rw [drawn_at (by unfold drawn; rw [pnt_len]; simp) hu hv, if_pos (inn_all hu hv), drawn_at (by simp) hu hv, if_pos (inn_all hu hv)]
  unfold drawF
  by_cases h : I ≤ (u : Int) ∧ (u : Int) < I + PW ∧ J ≤ (v : Int) ∧ (v : Int) < J + PH
  · rw [if_pos h]
    obtain ⟨h1, h2, h3, h4⟩ := h
    have hh : rHas ⟨I, J, PW, PH⟩ (u : Int) (v : Int) = true := by
      rw [has_iff]
      unfold inR
      simp only
      omega
    have hi := has_ix hh
    have hlt : ((v : Int) - J) * PW + (u : Int) - I < (n : Int) := by
      rw [← hn]
      have : ((v : Int) - J + 1) * PW ≤ PH * PW := Int.mul_le_mul_of_nonneg_right (by omega) (by omega)
      rw [Int.add_mul, Int.one_mul, Int.mul_comm PH PW] at this
      omega
    have hlt' : (((v : Int) - J) * PW + (u : Int) - I).toNat < n := by omega
    rw [if_pos ⟨hh, by rw [List.length_replicate]; exact hlt'⟩]
    congr 1
    simp [hlt']
  · rw [if_neg h]
    have hh : rHas ⟨I, J, PW, PH⟩ (u : Int) (v : Int) = false := by
      rw [Bool.eq_false_iff, ne_eq, has_iff]
      unfold inR
      simp only
      omega
    rw [if_neg (by rw [hh]; simp)]
set_option maxRecDepth 100000 in
set_option maxHeartbeats 16000000 in
theorem fills_law (a b x y pw ph : Int) (w : World) (ha : 0 ≤ a ∧ a < 4294967296) (hb : 0 ≤ b ∧ b < 4294967296) :
    Calls Tryd.prog 4 #[.int .u32 a, .int .u32 b, .int .i64 x, .int .i64 y, .int .i64 pw, .int .i64 ph] w fun e w' => e = .returned (.bool true) ∧ Below w.heap.size w w' := by
  obtain ⟨iU, hiU, zU0, zU1, zU2⟩ := info_parts infoU
  have ha := Lib.hid ha
  have hb := Lib.hid hb
  go_enter Tryd.func4, Tryd.ntmps4
  go_wp2_with fail
  refine (new_any 12 9 w (by omega) (by omega) (by omega) (by omega)).mono ?_
  rintro e w1 ⟨c, p, rfl, hc, hc0, hp0, hb1⟩
  go_wp2_with fail
  refine (place_any x 20 w1 (by omega) (by omega)).mono ?_
  rintro e _ ⟨rfl, rfl⟩
  obtain ⟨X0, hX0⟩ : ∃ n, x % 20 = n := ⟨_, rfl⟩
  have lX0 : 0 ≤ X0 := by rw [← hX0]; exact Int.emod_nonneg _ (by omega)
  have mX0 : X0 < 20 := by rw [← hX0]; exact Int.emod_lt_of_pos _ (by omega)
  rw [hX0]
  clear hX0
  go_wp2_with fail
  refine (place_any y 20 w1 (by omega) (by omega)).mono ?_
  rintro e _ ⟨rfl, rfl⟩
  obtain ⟨Y0, hY0⟩ : ∃ n, y % 20 = n := ⟨_, rfl⟩
  have lY0 : 0 ≤ Y0 := by rw [← hY0]; exact Int.emod_nonneg _ (by omega)
  have mY0 : Y0 < 20 := by rw [← hY0]; exact Int.emod_lt_of_pos _ (by omega)
  rw [hY0]
  clear hY0
  go_wp2_with fail
  refine (place_any pw 8 w1 (by omega) (by omega)).mono ?_
  rintro e _ ⟨rfl, rfl⟩
  obtain ⟨W0, hW0⟩ : ∃ n, pw % 8 = n := ⟨_, rfl⟩
  have lW0 : 0 ≤ W0 := by rw [← hW0]; exact Int.emod_nonneg _ (by omega)
  have mW0 : W0 < 8 := by rw [← hW0]; exact Int.emod_lt_of_pos _ (by omega)
  rw [hW0]
  clear hW0
  go_wp2_with fail
  refine (place_any ph 8 w1 (by omega) (by omega)).mono ?_
  rintro e _ ⟨rfl, rfl⟩
  obtain ⟨H0, hH0⟩ : ∃ n, ph % 8 = n := ⟨_, rfl⟩
  have lH0 : 0 ≤ H0 := by rw [← hH0]; exact Int.emod_nonneg _ (by omega)
  have mH0 : H0 < 8 := by rw [← hH0]; exact Int.emod_lt_of_pos _ (by omega)
  rw [hH0]
  clear hH0
  go_upto_region 4 with fail
  obtain ⟨I, hI⟩ : ∃ I, X0 - 5 = I := ⟨_, rfl⟩
  obtain ⟨J, hJ⟩ : ∃ J, Y0 - 5 = J := ⟨_, rfl⟩
  obtain ⟨PW, hPW⟩ : ∃ n, 1 + W0 = n := ⟨_, rfl⟩
  obtain ⟨PH, hPH⟩ : ∃ n, 1 + H0 = n := ⟨_, rfl⟩
  rw [hI, hJ, hPW, hPH]
  have I1 : -5 ≤ I := by omega
  have I2 : I ≤ 14 := by omega
  have J1 : -5 ≤ J := by omega
  have J2 : J ≤ 14 := by omega
  have p1 : 1 ≤ PW := by omega
  have p2 : PW ≤ 8 := by omega
  have q1 : 1 ≤ PH := by omega
  have q2 : PH ≤ 8 := by omega
  clear hI hJ hPW hPH lX0 mX0 lY0 mY0 lW0 mW0 lH0 mH0
  have hpos : 0 ≤ PW * PH := Int.mul_nonneg (by omega) (by omega)
  have hup : PW * PH ≤ 8 * 8 := Int.mul_le_mul p2 q2 (by omega) (by omega)
  obtain ⟨n, hn⟩ : ∃ n : Nat, PW * PH = (n : Int) := ⟨(PW * PH).toNat, by omega⟩
  have hn64 : n ≤ 64 := by omega
  clear hpos hup
  have hnH := Lib.hid hn
  go_wp2_with fail
  generalize hwv : World.alloc _ _ = w2
  have hb2 : Below w1.heap.size w1 w2 := hwv ▸ bl_alloc (Below.refl _ _) _
  have B2 : Bk w2 w1.heap.size 32 (rV allR) := hwv ▸ Bk.new _ _ _
  clear hwv
  obtain ⟨gc, hgc⟩ : ∃ gc, w1.heap.size = gc := ⟨_, rfl⟩
  have hgp : gc ≠ p := by have := hc.px.lt; omega
  rw [hgc] at B2 ⊢
  clear hgc
  have h64 : ∀ r ∈ [allR], I64 r := by intro r hr; obtain rfl := List.mem_singleton.1 hr; unfold I64 allR; simp only; omega
  have hne : ∀ ad, (some ⟨gc, 0, none⟩ : Option Addr) = some ad → ad.block ≠ p := by intro ad e; injection e with e; subst e; exact hgp
  have h64 := Lib.hid h64
  have hne := Lib.hid hne
  refine (fill_any c p 12 9 _ a (some ⟨gc, 0, none⟩) 1 [allR] w2 (hc.be hb2) ha.out (one_rds B2) hne.out h64.out (by simp)).mono ?_
  rintro e w3 ⟨rfl, hs3, hc3⟩
  have B3 := hs3.bk B2 hgp
  have hw3 : Below w.heap.size w w3 := hs3.below (bl_step hb1 hb2) hp0 (bl_step hb1 hb2).size
  clear hs3 B2 hb2 hb1 hc
  go_wp2_with fail
  go_loopw [20, 21] (fun s20 s21 wr => ∃ (k : Nat) (A1 : Option Addr) (c1 : Nat), k ≤ n ∧ s21 = .int .i64 (k : Int) ∧ s20 = .slice A1 k c1 ∧ wr.ownsRow w3.heap.size 22 1 (.slice A1 k c1) k (List.replicate k (.int .u32 b)) ∧ Below w3.heap.size w3 wr) (fun _ s21 _ => n - (intOf s21).toNat)
  case atStart => exact ⟨0, none, 0, by omega, rfl, rfl, World.ownsRow_nil _ _ _ _, Below.refl _ _⟩
  case round =>
    obtain ⟨k, A1, c1, hk, rfl, rfl, hown, hbr⟩ := hrel
    by_cases hlt : k < n
    · have hd : decide ((k : Int) < (n : Int)) = true := by simp; omega
      have hsr := hbr.size
      go_wp2_with (at_builtin; go_must (refine wpList_app _ rfl (.tmp 56) (.tmp 58) _ rfl w3.heap.size 22 iU _ 1 4 Tryd.underlying34 hiU zU0 zU1 zU2 rfl (by omega) (.slice A1 k c1) k (List.replicate k (.int .u32 b)) rfl (hown.alloc _) (wr.heap.size + 1) (some ⟨wr.heap.size, 0, none⟩) 1 1 [.int .u32 b] rfl (Rds.block (cs := #[.int .u32 b]) (Bk.new' _ _ _ (by simp)) rfl (by omega)) (by intro u hu; simp at hu; subst hu; rfl) (by simp only [maxLen]; omega) (by omega) (by simp; omega) ?_); intro v9 w9 hown9 hg9 hat9)
      have hb9 : Below w3.heap.size w3 w9 := (bl_alloc hbr _).grown hg9 (by simp; omega) (fun g hg => (hown.lt g hg).1)
      have er : List.replicate k (Value.int .u32 b) ++ [.int .u32 b] = List.replicate (k + 1) (.int .u32 b) := List.replicate_succ'.symm
      have er := Lib.hid er
      go_roundw
      case rel =>
        obtain ⟨A2, c2, rfl, _⟩ := own_form hown9
        exact ⟨k + 1, A2, c2, by omega, by go_num, rfl, by rw [← er.out]; exact hown9, hb9⟩
      case measure => simp [intOf]; omega
    · obtain rfl : k = n := by omega
      have hd : decide ((k : Int) < (k : Int)) = false := by simp
      have hc4 := hc3.be hbr
      have B4 := B3.be hbr
      have hw4 := bl_step hw3 hbr
      have hRd : Rds wr wr.heap.size 1 A1 k ((List.replicate k b).map (Value.int .u32)) := by rw [List.map_replicate]; exact Rds.own hown
      have hbl : ∀ ad, A1 = some ad → ad.block ≠ p := by
        intro ad e
        subst e
        have := (hown.lt _ rfl).1
        have := hc3.px.lt
        omega
      have hbl := Lib.hid hbl
      go_wp2_with fail
      refine (draw_any c p 12 9 _ I J PW PH A1 k c1 (List.replicate k b) (some ⟨gc, 0, none⟩) 1 [allR] wr hc4 (by omega) (by omega) (by omega) (by omega) p1 (by omega) q1 (by omega) (by simp) hRd (fun v hv => by obtain rfl := (List.mem_replicate.1 hv).2; exact hb.out) hbl.out (one_rds B4) hne.out h64.out (by simp)).mono ?_
      rintro e w5 ⟨rfl, hs5, hc5⟩
      have hw5 : Below w.heap.size w w5 := hs5.below hw4 hp0 hw4.size
      have hc5 : Cv w5 c p 12 9 (fills a b I J PW PH k) := hc5
      have hc5 := Lib.hid hc5
      clear hs5 hc4 B4 hw4 hRd hown B3 hbr hc3 hd
      go_wp2_with fail
      go_loopw [22, 23, 24] (fun s22 _ _ wr => ∃ v : Nat, v ≤ 9 ∧ s22 = .int .i64 (v : Int) ∧ Below w5.heap.size w5 wr) (fun s22 _ _ _ => 9 - (intOf s22).toNat)
      case atStart => exact ⟨0, by omega, rfl, Below.refl _ _⟩
      case round =>
        obtain ⟨v, hv, rfl, hbv⟩ := hrel
        by_cases hv9 : v < 9
        · have dv : decide ((v : Int) < 9) = true := by simp; omega
          obtain ⟨wy, rfl⟩ : ∃ x : World, x = wr := ⟨_, rfl⟩
          go_wp2_with fail
          go_loopw [23, 24] (fun s23 _ wr => ∃ u : Nat, u ≤ 12 ∧ s23 = .int .i64 (u : Int) ∧ Below w5.heap.size w5 wr) (fun s23 _ _ => 12 - (intOf s23).toNat)
          case atStart => exact ⟨0, by omega, rfl, hbv⟩
          case round =>
            obtain ⟨u, hu, rfl, hbu⟩ := hrel
            obtain ⟨wx, rfl⟩ : ∃ x : World, x = wr := ⟨_, rfl⟩
            by_cases hu12 : u < 12
            · have du : decide ((u : Int) < 12) = true := by simp; omega
              have hat := fills_at (a := a) (b := b) (I := I) (J := J) (PW := PW) (PH := PH) hu12 hv9 hnH.out p1 q1
              have hat := Lib.hid hat
              by_cases c0 : I ≤ (u : Int)
              case neg =>
                have e0 : decide (I ≤ (u : Int)) = false := by simp; omega
                have hat2 := hat.out
                rw [if_neg (by omega)] at hat2
                have hat2 := Lib.hid hat2
                go_wp2_with fail
                refine (at_any c p 12 9 _ (u : Int) (v : Int) _ (hc5.out.be hbu)).mono ?_
                rintro e w7 ⟨rfl, hb7⟩
                rw [hat2.out]
                have hbw := bl_step hbu hb7
                clear hb7
                go_wp2_with fail
                go_roundw
                case rel => exact ⟨u + 1, by omega, by go_num, hbw⟩
                case measure => simp [intOf]; omega
              by_cases c1 : (u : Int) < I + PW
              case neg =>
                have e0 : decide (I ≤ (u : Int)) = true := by simp; omega
                have e1 : decide ((u : Int) < I + PW) = false := by simp; omega
                have hat2 := hat.out
                rw [if_neg (by omega)] at hat2
                have hat2 := Lib.hid hat2
                go_wp2_with fail
                refine (at_any c p 12 9 _ (u : Int) (v : Int) _ (hc5.out.be hbu)).mono ?_
                rintro e w7 ⟨rfl, hb7⟩
                rw [hat2.out]
                have hbw := bl_step hbu hb7
                clear hb7
                go_wp2_with fail
                go_roundw
                case rel => exact ⟨u + 1, by omega, by go_num, hbw⟩
                case measure => simp [intOf]; omega
              by_cases c2 : J ≤ (v : Int)
              case neg =>
                have e0 : decide (I ≤ (u : Int)) = true := by simp; omega
                have e1 : decide ((u : Int) < I + PW) = true := by simp; omega
                have e2 : decide (J ≤ (v : Int)) = false := by simp; omega
                have hat2 := hat.out
                rw [if_neg (by omega)] at hat2
                have hat2 := Lib.hid hat2
                go_wp2_with fail
                refine (at_any c p 12 9 _ (u : Int) (v : Int) _ (hc5.out.be hbu)).mono ?_
                rintro e w7 ⟨rfl, hb7⟩
                rw [hat2.out]
                have hbw := bl_step hbu hb7
                clear hb7
                go_wp2_with fail
                go_roundw
                case rel => exact ⟨u + 1, by omega, by go_num, hbw⟩
                case measure => simp [intOf]; omega
              by_cases c3 : (v : Int) < J + PH
              case neg =>
                have e0 : decide (I ≤ (u : Int)) = true := by simp; omega
                have e1 : decide ((u : Int) < I + PW) = true := by simp; omega
                have e2 : decide (J ≤ (v : Int)) = true := by simp; omega
                have e3 : decide ((v : Int) < J + PH) = false := by simp; omega
                have hat2 := hat.out
                rw [if_neg (by omega)] at hat2
                have hat2 := Lib.hid hat2
                go_wp2_with fail
                refine (at_any c p 12 9 _ (u : Int) (v : Int) _ (hc5.out.be hbu)).mono ?_
                rintro e w7 ⟨rfl, hb7⟩
                rw [hat2.out]
                have hbw := bl_step hbu hb7
                clear hb7
                go_wp2_with fail
                go_roundw
                case rel => exact ⟨u + 1, by omega, by go_num, hbw⟩
                case measure => simp [intOf]; omega
              have e0 : decide (I ≤ (u : Int)) = true := by simp; omega
              have e1 : decide ((u : Int) < I + PW) = true := by simp; omega
              have e2 : decide (J ≤ (v : Int)) = true := by simp; omega
              have e3 : decide ((v : Int) < J + PH) = true := by simp; omega
              have hat2 := hat.out
              rw [if_pos ⟨c0, c1, c2, c3⟩] at hat2
              have hat2 := Lib.hid hat2
              go_wp2_with fail
              refine (rOver_any a b wx ha.out.1 ha.out.2 hb.out.1 hb.out.2).mono ?_
              rintro e _ ⟨rfl, rfl⟩
              go_wp2_with fail
              refine (at_any c p 12 9 _ (u : Int) (v : Int) _ (hc5.out.be hbu)).mono ?_
              rintro e w7 ⟨rfl, hb7⟩
              rw [hat2.out]
              have hbw := bl_step hbu hb7
              clear hb7
              go_wp2_with fail
              go_roundw
              case rel => exact ⟨u + 1, by omega, by go_num, hbw⟩
              case measure => simp [intOf]; omega
            · obtain rfl : u = 12 := by omega
              go_wp2_with fail
              go_roundw
              case rel => exact ⟨v + 1, by omega, by go_num, hbu⟩
              case measure => simp [intOf]; omega
        · obtain rfl : v = 9 := by omega
          go_wp2_with fail
          refine (awake_any _).mono ?_
          rintro e w8 ⟨rfl, hb8⟩
          go_wp2_with fail
          go_ret
          exact ⟨rfl, bl_step (bl_step hw5 hbv) hb8⟩
theorem CanvasFills_walk (a : Int) (wa : (Lit.int .u32 a).wf = true) (b : Int) (wb : (Lit.int .u32 b).wf = true) (x : Int) (wx : (Lit.int .i64 x).wf = true) (y : Int) (wy : (Lit.int .i64 y).wf = true) (pw : Int) (wp : (Lit.int .i64 pw).wf = true) (ph : Int) (wh : (Lit.int .i64 ph).wf = true) (w : World) :
    Calls Tryd.prog 4 #[.int .u32 a, .int .u32 b, .int .i64 x, .int .i64 y, .int .i64 pw, .int .i64 ph] w fun e w' => e = .returned (.bool true) ∧ Below w.heap.size w w' :=
  fills_law a b x y pw ph w (by have := bounds_u32 wa; omega) (by have := bounds_u32 wb; omega)
end Go.Proofs.YtjjdgbhplechbaaDoor.Cv
