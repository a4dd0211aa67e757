-- Printed for this claim by a program over the kit's print.
import Derived.Test.YtogcokfildbodaaPAx0
import Derived.Test.YtogcokfildbodaaPAx2
import Derived.Test.YtogcokfildbodaaPAx3
import Derived.Test.YtogcokfildbodaaPAGiven
namespace Go.Proofs.Ytogcokfildbodaa.PA
open Go.RowKit Go.Proofs.YtogcokfildbodaaW.PrintWords Go.Proofs.YtogcokfildbodaaW.PrintLast Go.Proofs.YtogcokfildbodaaW.PrintMore
attribute [local go_sem] max2_int min2_int max_two min_two max_three min_three max_four min_four   -- for this text's walks alone
set_option linter.unusedVariables false
set_option linter.unusedSimpArgs false

/-! ### tableaulaw08_RegionGrids: function 4 -/
mutual
def tableaulaw08_RegionGrids.l0 : Nat → List Bool → List (S23) → Int → Int → Option (Bool)
  | 0, _, _, _, _ => none
  | k + 1, x0, x3, x5, x6 => if x6 < (x0.length : Int) then (tableaulaw08_RegionGrids.j1 k x0 x3 ([] : List (S23)) x5 x6 (decide (x6 < 36))) else (tableaulaw08_RegionGrids.j1 k x0 x3 ([] : List (S23)) x5 x6 false)
def tableaulaw08_RegionGrids.j1 : Nat → List Bool → List (S23) → List (S23) → Int → Int → Bool → Option (Bool)
  | 0, _, _, _, _, _, _ => none
  | k + 1, x0, x3, x4, x5, x6, x18 => if x18 = true then (if 0 ≤ x6 then (if x6 < (x0.length : Int) then (if rdOf false x0 x6 = true then ((region_Union.f x3 (([(⟨wrap64 (3 * (Int.tmod x6 6)), wrap64 (2 * (wrap64 (Int.tdiv x6 6))), 3, 2⟩ : S23)] : List (S23)))).bind fun t316 => (tableaulaw08_RegionGrids.l0 k x0 t316 (wrap64 (x5 + 1)) (wrap64 (x6 + 1)))) else (tableaulaw08_RegionGrids.l0 k x0 x3 x5 (wrap64 (x6 + 1)))) else (none)) else (none)) else (tableaulaw08_RegionGrids.l1 k x0 x3 x4 x5 ((mn (x0.length : Int) 36) - 1))
def tableaulaw08_RegionGrids.l1 : Nat → List Bool → List (S23) → List (S23) → Int → Int → Option (Bool)
  | 0, _, _, _, _, _ => none
  | k + 1, x0, x3, x4, x5, x7 => if x7 ≥ 0 then (if 0 ≤ x7 then (if x7 < (x0.length : Int) then (if rdOf false x0 x7 = true then ((region_Union.f x4 (([(⟨wrap64 (3 * (Int.tmod x7 6)), wrap64 (2 * (wrap64 (Int.tdiv x7 6))), 3, 2⟩ : S23)] : List (S23)))).bind fun t323 => (tableaulaw08_RegionGrids.l1 k x0 x3 t323 x5 (wrap64 (x7 - 1)))) else (tableaulaw08_RegionGrids.l1 k x0 x3 x4 x5 (wrap64 (x7 - 1)))) else (none)) else (none)) else (tableaulaw08_RegionGrids.l2 k x0 x3 x4 x5 0)
def tableaulaw08_RegionGrids.l2 : Nat → List Bool → List (S23) → List (S23) → Int → Int → Option (Bool)
  | 0, _, _, _, _, _ => none
  | k + 1, x0, x3, x4, x5, x8 => if x8 < 36 then (if x8 < (x0.length : Int) then (if 0 ≤ x8 then ((region_Has.f x3 (wrap64 ((wrap64 (3 * (Int.tmod x8 6))) + 1)) (wrap64 ((wrap64 (2 * (wrap64 (Int.tdiv x8 6)))) + 1))).bind fun t327 => (if (t327 != (rdOf false x0 x8)) = true then (some false) else (tableaulaw08_RegionGrids.l2 k x0 x3 x4 x5 (wrap64 (x8 + 1))))) else (none)) else ((region_Has.f x3 (wrap64 ((wrap64 (3 * (Int.tmod x8 6))) + 1)) (wrap64 ((wrap64 (2 * (wrap64 (Int.tdiv x8 6)))) + 1))).bind fun t328 => (if (t328 != false) = true then (some false) else (tableaulaw08_RegionGrids.l2 k x0 x3 x4 x5 (wrap64 (x8 + 1)))))) else ((tableaulaw00_SameRects.f k x3 x4).bind fun t329 => (if t329 = true then ((region_Area.f k x3).bind fun t330 => (if t330 = (wrap64 (6 * x5)) then ((region_Check.f x3).bind fun t331 => (tableaulaw08_RegionGrids.j4 k x0 x3 (!t331))) else (tableaulaw08_RegionGrids.j4 k x0 x3 true))) else (tableaulaw08_RegionGrids.j4 k x0 x3 true)))
def tableaulaw08_RegionGrids.j4 : Nat → List Bool → List (S23) → Bool → Option (Bool)
  | 0, _, _, _ => none
  | k + 1, x0, x3, x100 => if x100 = true then (some false) else (tableaulaw08_RegionGrids.l3 k x0 x3 0)
def tableaulaw08_RegionGrids.l3 : Nat → List Bool → List (S23) → Int → Option (Bool)
  | 0, _, _, _ => none
  | k + 1, x0, x3, x10 => if x10 < (x0.length : Int) then (if x10 < 36 then ((region_Subtract.f x3 (([(⟨wrap64 (3 * (Int.tmod x10 6)), wrap64 (2 * (wrap64 (Int.tdiv x10 6))), 3, 2⟩ : S23)] : List (S23)))).bind fun t335 => (tableaulaw08_RegionGrids.l3 k x0 t335 (wrap64 (x10 + 1)))) else (if (x3.length : Int) = 0 then ((tableaulaw08_awake.f k).bind fun t338 => (some t338)) else (some false))) else (if (x3.length : Int) = 0 then ((tableaulaw08_awake.f k).bind fun t339 => (some t339)) else (some false))
end
def tableaulaw08_RegionGrids.f (k : Nat) (l0 : List Bool) : Option (Bool) := tableaulaw08_RegionGrids.l0 k l0 ([] : List (S23)) 0 0
theorem tableaulaw08_RegionGrids.mono_l : ∀ k, (∀ y0 y1 y2 y3, LeO (tableaulaw08_RegionGrids.l0 k y0 y1 y2 y3) (tableaulaw08_RegionGrids.l0 (k + 1) y0 y1 y2 y3)) ∧ (∀ y0 y1 y2 y3 y4 y5, LeO (tableaulaw08_RegionGrids.j1 k y0 y1 y2 y3 y4 y5) (tableaulaw08_RegionGrids.j1 (k + 1) y0 y1 y2 y3 y4 y5)) ∧ (∀ y0 y1 y2 y3 y4, LeO (tableaulaw08_RegionGrids.l1 k y0 y1 y2 y3 y4) (tableaulaw08_RegionGrids.l1 (k + 1) y0 y1 y2 y3 y4)) ∧ (∀ y0 y1 y2 y3 y4, LeO (tableaulaw08_RegionGrids.l2 k y0 y1 y2 y3 y4) (tableaulaw08_RegionGrids.l2 (k + 1) y0 y1 y2 y3 y4)) ∧ (∀ y0 y1 y2, LeO (tableaulaw08_RegionGrids.j4 k y0 y1 y2) (tableaulaw08_RegionGrids.j4 (k + 1) y0 y1 y2)) ∧ (∀ y0 y1 y2, LeO (tableaulaw08_RegionGrids.l3 k y0 y1 y2) (tableaulaw08_RegionGrids.l3 (k + 1) y0 y1 y2))
  | 0 => ⟨fun _ _ _ _ r h => by simp [tableaulaw08_RegionGrids.l0] at h, fun _ _ _ _ _ _ r h => by simp [tableaulaw08_RegionGrids.j1] at h, fun _ _ _ _ _ r h => by simp [tableaulaw08_RegionGrids.l1] at h, fun _ _ _ _ _ r h => by simp [tableaulaw08_RegionGrids.l2] at h, fun _ _ _ r h => by simp [tableaulaw08_RegionGrids.j4] at h, fun _ _ _ r h => by simp [tableaulaw08_RegionGrids.l3] at h⟩
  | k + 1 => by
    obtain ⟨ih0, ih1, ih2, ih3, ih4, ih5⟩ := tableaulaw08_RegionGrids.mono_l k
    refine ⟨?_, ?_, ?_, ?_, ?_, ?_⟩
    · intro y0 y1 y2 y3
      unfold tableaulaw08_RegionGrids.l0
      repeat' first
      | (with_reducible exact ih0 _ _ _ _)
      | (with_reducible exact ih1 _ _ _ _ _ _)
      | (with_reducible exact ih2 _ _ _ _ _)
      | (with_reducible exact ih3 _ _ _ _ _)
      | (with_reducible exact ih4 _ _ _)
      | (with_reducible exact ih5 _ _ _)
      | (with_reducible exact region_Area.mono _ _)
      | (with_reducible exact tableaulaw00_SameRects.mono _ _ _)
      | (with_reducible exact tableaulaw08_awake.mono _)
      | (with_reducible exact LeO.refl _)
      | (with_reducible exact LeO.none _)
      | (with_reducible refine LeO.ite ?_ ?_)
      | (with_reducible refine LeO.bind ?_ (fun _ => ?_))
      | exact ih0 _ _ _ _
      | exact ih1 _ _ _ _ _ _
      | exact ih2 _ _ _ _ _
      | exact ih3 _ _ _ _ _
      | exact ih4 _ _ _
      | exact ih5 _ _ _
      | exact region_Area.mono _ _
      | exact tableaulaw00_SameRects.mono _ _ _
      | exact tableaulaw08_awake.mono _
      | exact LeO.none _
      | refine LeO.ite ?_ ?_
      | refine LeO.bind ?_ (fun _ => ?_)
    · intro y0 y1 y2 y3 y4 y5
      unfold tableaulaw08_RegionGrids.j1
      repeat' first
      | (with_reducible exact ih0 _ _ _ _)
      | (with_reducible exact ih1 _ _ _ _ _ _)
      | (with_reducible exact ih2 _ _ _ _ _)
      | (with_reducible exact ih3 _ _ _ _ _)
      | (with_reducible exact ih4 _ _ _)
      | (with_reducible exact ih5 _ _ _)
      | (with_reducible exact region_Area.mono _ _)
      | (with_reducible exact tableaulaw00_SameRects.mono _ _ _)
      | (with_reducible exact tableaulaw08_awake.mono _)
      | (with_reducible exact LeO.refl _)
      | (with_reducible exact LeO.none _)
      | (with_reducible refine LeO.ite ?_ ?_)
      | (with_reducible refine LeO.bind ?_ (fun _ => ?_))
      | exact ih0 _ _ _ _
      | exact ih1 _ _ _ _ _ _
      | exact ih2 _ _ _ _ _
      | exact ih3 _ _ _ _ _
      | exact ih4 _ _ _
      | exact ih5 _ _ _
      | exact region_Area.mono _ _
      | exact tableaulaw00_SameRects.mono _ _ _
      | exact tableaulaw08_awake.mono _
      | exact LeO.none _
      | refine LeO.ite ?_ ?_
      | refine LeO.bind ?_ (fun _ => ?_)
    · intro y0 y1 y2 y3 y4
      unfold tableaulaw08_RegionGrids.l1
      repeat' first
      | (with_reducible exact ih0 _ _ _ _)
      | (with_reducible exact ih1 _ _ _ _ _ _)
      | (with_reducible exact ih2 _ _ _ _ _)
      | (with_reducible exact ih3 _ _ _ _ _)
      | (with_reducible exact ih4 _ _ _)
      | (with_reducible exact ih5 _ _ _)
      | (with_reducible exact region_Area.mono _ _)
      | (with_reducible exact tableaulaw00_SameRects.mono _ _ _)
      | (with_reducible exact tableaulaw08_awake.mono _)
      | (with_reducible exact LeO.refl _)
      | (with_reducible exact LeO.none _)
      | (with_reducible refine LeO.ite ?_ ?_)
      | (with_reducible refine LeO.bind ?_ (fun _ => ?_))
      | exact ih0 _ _ _ _
      | exact ih1 _ _ _ _ _ _
      | exact ih2 _ _ _ _ _
      | exact ih3 _ _ _ _ _
      | exact ih4 _ _ _
      | exact ih5 _ _ _
      | exact region_Area.mono _ _
      | exact tableaulaw00_SameRects.mono _ _ _
      | exact tableaulaw08_awake.mono _
      | exact LeO.none _
      | refine LeO.ite ?_ ?_
      | refine LeO.bind ?_ (fun _ => ?_)
    · intro y0 y1 y2 y3 y4
      unfold tableaulaw08_RegionGrids.l2
      repeat' first
      | (with_reducible exact ih0 _ _ _ _)
      | (with_reducible exact ih1 _ _ _ _ _ _)
      | (with_reducible exact ih2 _ _ _ _ _)
      | (with_reducible exact ih3 _ _ _ _ _)
      | (with_reducible exact ih4 _ _ _)
      | (with_reducible exact ih5 _ _ _)
      | (with_reducible exact region_Area.mono _ _)
      | (with_reducible exact tableaulaw00_SameRects.mono _ _ _)
      | (with_reducible exact tableaulaw08_awake.mono _)
      | (with_reducible exact LeO.refl _)
      | (with_reducible exact LeO.none _)
      | (with_reducible refine LeO.ite ?_ ?_)
      | (with_reducible refine LeO.bind ?_ (fun _ => ?_))
      | exact ih0 _ _ _ _
      | exact ih1 _ _ _ _ _ _
      | exact ih2 _ _ _ _ _
      | exact ih3 _ _ _ _ _
      | exact ih4 _ _ _
      | exact ih5 _ _ _
      | exact region_Area.mono _ _
      | exact tableaulaw00_SameRects.mono _ _ _
      | exact tableaulaw08_awake.mono _
      | exact LeO.none _
      | refine LeO.ite ?_ ?_
      | refine LeO.bind ?_ (fun _ => ?_)
    · intro y0 y1 y2
      unfold tableaulaw08_RegionGrids.j4
      repeat' first
      | (with_reducible exact ih0 _ _ _ _)
      | (with_reducible exact ih1 _ _ _ _ _ _)
      | (with_reducible exact ih2 _ _ _ _ _)
      | (with_reducible exact ih3 _ _ _ _ _)
      | (with_reducible exact ih4 _ _ _)
      | (with_reducible exact ih5 _ _ _)
      | (with_reducible exact region_Area.mono _ _)
      | (with_reducible exact tableaulaw00_SameRects.mono _ _ _)
      | (with_reducible exact tableaulaw08_awake.mono _)
      | (with_reducible exact LeO.refl _)
      | (with_reducible exact LeO.none _)
      | (with_reducible refine LeO.ite ?_ ?_)
      | (with_reducible refine LeO.bind ?_ (fun _ => ?_))
      | exact ih0 _ _ _ _
      | exact ih1 _ _ _ _ _ _
      | exact ih2 _ _ _ _ _
      | exact ih3 _ _ _ _ _
      | exact ih4 _ _ _
      | exact ih5 _ _ _
      | exact region_Area.mono _ _
      | exact tableaulaw00_SameRects.mono _ _ _
      | exact tableaulaw08_awake.mono _
      | exact LeO.none _
      | refine LeO.ite ?_ ?_
      | refine LeO.bind ?_ (fun _ => ?_)
    · intro y0 y1 y2
      unfold tableaulaw08_RegionGrids.l3
      repeat' first
      | (with_reducible exact ih0 _ _ _ _)
      | (with_reducible exact ih1 _ _ _ _ _ _)
      | (with_reducible exact ih2 _ _ _ _ _)
      | (with_reducible exact ih3 _ _ _ _ _)
      | (with_reducible exact ih4 _ _ _)
      | (with_reducible exact ih5 _ _ _)
      | (with_reducible exact region_Area.mono _ _)
      | (with_reducible exact tableaulaw00_SameRects.mono _ _ _)
      | (with_reducible exact tableaulaw08_awake.mono _)
      | (with_reducible exact LeO.refl _)
      | (with_reducible exact LeO.none _)
      | (with_reducible refine LeO.ite ?_ ?_)
      | (with_reducible refine LeO.bind ?_ (fun _ => ?_))
      | exact ih0 _ _ _ _
      | exact ih1 _ _ _ _ _ _
      | exact ih2 _ _ _ _ _
      | exact ih3 _ _ _ _ _
      | exact ih4 _ _ _
      | exact ih5 _ _ _
      | exact region_Area.mono _ _
      | exact tableaulaw00_SameRects.mono _ _ _
      | exact tableaulaw08_awake.mono _
      | exact LeO.none _
      | refine LeO.ite ?_ ?_
      | refine LeO.bind ?_ (fun _ => ?_)
theorem tableaulaw08_RegionGrids.mono : ∀ a0 k, LeO (tableaulaw08_RegionGrids.f k a0) (tableaulaw08_RegionGrids.f (k + 1) a0) := by
  intro a0 k
  obtain ⟨ih0, ih1, ih2, ih3, ih4, ih5⟩ := tableaulaw08_RegionGrids.mono_l k
  unfold tableaulaw08_RegionGrids.f
  repeat' first
      | (with_reducible exact ih0 _ _ _ _)
      | (with_reducible exact ih1 _ _ _ _ _ _)
      | (with_reducible exact ih2 _ _ _ _ _)
      | (with_reducible exact ih3 _ _ _ _ _)
      | (with_reducible exact ih4 _ _ _)
      | (with_reducible exact ih5 _ _ _)
      | (with_reducible exact region_Area.mono _ _)
      | (with_reducible exact tableaulaw00_SameRects.mono _ _ _)
      | (with_reducible exact tableaulaw08_awake.mono _)
      | (with_reducible exact LeO.refl _)
      | (with_reducible exact LeO.none _)
      | (with_reducible refine LeO.ite ?_ ?_)
      | (with_reducible refine LeO.bind ?_ (fun _ => ?_))
      | exact ih0 _ _ _ _
      | exact ih1 _ _ _ _ _ _
      | exact ih2 _ _ _ _ _
      | exact ih3 _ _ _ _ _
      | exact ih4 _ _ _
      | exact ih5 _ _ _
      | exact region_Area.mono _ _
      | exact tableaulaw00_SameRects.mono _ _ _
      | exact tableaulaw08_awake.mono _
      | exact LeO.none _
      | refine LeO.ite ?_ ?_
      | refine LeO.bind ?_ (fun _ => ?_)
set_option maxHeartbeats 8000000 in
set_option maxRecDepth 100000 in
theorem tableaulaw08_RegionGrids.calls (k : Nat) (A0 : Option Addr) (c0 : Nat) (l0 : List Bool) (r : Bool) (w : World) (hr0 : Kd.C Kd.bool w A0 l0.length l0) (hc0 : l0.length ≤ c0) (h : tableaulaw08_RegionGrids.f k l0 = some r) (hT : r = true) :
    Calls Try.prog 4 #[.slice A0 l0.length c0] w fun e w' => e = .returned (.bool r) ∧ Below w.heap.size w w' := by
  have HT := Aside0.mk hT
  clear hT
  have hu23 := Try.underlying23
  have HR0 := Aside0.mk hr0
  have HC0 := Aside0.mk hc0
  clear hr0 hc0
  have HB := Aside0.mk (Below.refl w.heap.size w)
  have H : (tableaulaw08_RegionGrids.l0 k l0 ([] : List (S23)) 0 0) = some r := h
  clear h
  have H' := Aside0.mk H
  clear H
  go_enter Try.func4, Try.ntmps4
  go_wp2
  go_loopg [3, 5, 6] k (fun kq v3 v5 v6 w' => ∃ (x3_1 : List (S23)) (x5_1 : Int) (x6_1 : Int), v5 = .int .i64 x5_1 ∧ v6 = .int .i64 x6_1 ∧ Aside0 (tableaulaw08_RegionGrids.l0 kq l0 x3_1 x5_1 x6_1 = some r) ∧ Aside0 (kq ≤ k) ∧ Aside0 (Kd.R k23 23 w' w.heap.size (fun _ => True) v3 x3_1) ∧ Aside0 (Below w.heap.size w w'))
  case atStart => exact ⟨(([] : List (S23))), (0), (0), (by first | rfl | (simp; done) | (simp [*]; done)), (by first | rfl | (simp; done) | (simp [*]; done)), H', ⟨Nat.le_refl _⟩, ⟨by first | exact Kd.R_nil _ _ _ _ _ | exact Kd.N_nil _ _ _ _ _ | exact Kd.V_nil _ _ _ _ _ | exact Kd.Q_nil _ _ _ _ _ | exact Kd.S_nil _ _ _ _ _⟩, ⟨by repeat (first | (with_reducible first | exact HB.out | apply below_alloc | apply pw_below_drewN | apply below_drew1) | exact HB.out)⟩⟩
  case round =>
    clear H'
    obtain ⟨x3_1, x5_1, x6_1, rfl, rfl, HA, HK1, HO_3, HB⟩ := hrel
    cases gk with
    | zero => exact absurd HA.out (by simp [tableaulaw08_RegionGrids.l0])
    | succ k1 =>
      have H := HA.out
      clear HA
      simp only [tableaulaw08_RegionGrids.l0] at H
      have HC2 := Aside0.mk H
      clear H
      go_upto_region 4 with (fail)
      go_cut [18] (fun v18 wc => ∃ (kq : Nat) (x18_1 : Bool), v18 = .bool x18_1 ∧ Aside0 (tableaulaw08_RegionGrids.j1 kq l0 x3_1 ([] : List (S23)) x5_1 x6_1 x18_1 = some r) ∧ Aside0 (kq ≤ k1) ∧ Aside0 (Kd.R k23 23 wc w.heap.size (fun k_ => some k_ ≠ ((.slice none 0 0) : Value).ownBlock) u3 x3_1) ∧ Aside0 (Kd.R k23 23 wc w.heap.size (fun k_ => some k_ ≠ (u3 : Value).ownBlock) (.slice none 0 0) ([] : List (S23))) ∧ Aside0 (Below w.heap.size w wc))
      case first =>
        have H := HC2.out
        clear HC2
        by_cases c3 : x6_1 < (l0.length : Int)
        · rw [if_pos c3] at H
          have c3b0 : decide (x6_1 < (l0.length : Int)) = true := decide_eq_true c3
          clear c3
          (first | rw [c3b0] | (simp only [i64_w, i32_w]; rw [c3b0]) | skip)
          have H' := Aside0.mk H
          clear H
          go_wp2
          go_meet
          case rel => exact ⟨_, (decide (x6_1 < 36)), (by first | rfl | (simp; done) | (simp [*]; done)), H', ⟨by have := HK1.out; first | omega | exact Nat.le_refl _⟩, ⟨by (with_reducible repeat (first | apply Kd.R_alloc | apply Kd.R_drewN | apply Kd.R_drew)); exact Kd.R_mono HO_3.out (fun _ hk => (by simp [Value.ownBlock]))⟩, ⟨by first | exact Kd.R_nil _ _ _ _ _ | exact Kd.N_nil _ _ _ _ _ | exact Kd.V_nil _ _ _ _ _ | exact Kd.Q_nil _ _ _ _ _ | exact Kd.S_nil _ _ _ _ _⟩, ⟨by repeat (first | (with_reducible first | exact HB.out | apply below_alloc | apply pw_below_drewN | apply below_drew1) | exact HB.out)⟩⟩
        · rw [if_neg c3] at H
          have c3b0 : decide (x6_1 < (l0.length : Int)) = false := decide_eq_false c3
          clear c3
          (first | rw [c3b0] | (simp only [i64_w, i32_w]; rw [c3b0]) | skip)
          have H' := Aside0.mk H
          clear H
          go_wp2
          go_meet
          case rel => exact ⟨_, (false), (by first | rfl | (simp; done) | (simp [*]; done)), H', ⟨by have := HK1.out; first | omega | exact Nat.le_refl _⟩, ⟨by (with_reducible repeat (first | apply Kd.R_alloc | apply Kd.R_drewN | apply Kd.R_drew)); exact Kd.R_mono HO_3.out (fun _ hk => (by simp [Value.ownBlock]))⟩, ⟨by first | exact Kd.R_nil _ _ _ _ _ | exact Kd.N_nil _ _ _ _ _ | exact Kd.V_nil _ _ _ _ _ | exact Kd.Q_nil _ _ _ _ _ | exact Kd.S_nil _ _ _ _ _⟩, ⟨by repeat (first | (with_reducible first | exact HB.out | apply below_alloc | apply pw_below_drewN | apply below_drew1) | exact HB.out)⟩⟩
      case rest =>
        clear HC2
        try clear p2
        try clear c3
        try clear c3b0
        obtain ⟨kq, x18_1, rfl, HA, HJ1, HO_3, HO_4, HB⟩ := hcut
        cases kq with
        | zero => exact absurd HA.out (by simp [tableaulaw08_RegionGrids.j1])
        | succ kj1 =>
          have H := HA.out
          clear HA
          simp only [tableaulaw08_RegionGrids.j1] at H
          by_cases c4 : x18_1 = true
          · subst c4
            have H1 : (if 0 ≤ x6_1 then (if x6_1 < (l0.length : Int) then (if rdOf false l0 x6_1 = true then ((region_Union.f x3_1 (([(⟨wrap64 (3 * (Int.tmod x6_1 6)), wrap64 (2 * (wrap64 (Int.tdiv x6_1 6))), 3, 2⟩ : S23)] : List (S23)))).bind fun t316 => (tableaulaw08_RegionGrids.l0 kj1 l0 t316 (wrap64 (x5_1 + 1)) (wrap64 (x6_1 + 1)))) else (tableaulaw08_RegionGrids.l0 kj1 l0 x3_1 x5_1 (wrap64 (x6_1 + 1)))) else (none)) else (none)) = some r := by rw [if_pos rfl] at H; exact H
            clear H
            have H := H1
            clear H1
            by_cases c5 : 0 ≤ x6_1
            · rw [if_pos c5] at H
              have c5b0 : decide (0 ≤ x6_1) = true := decide_eq_true c5
              clear c5
              by_cases c6 : x6_1 < (l0.length : Int)
              · rw [if_pos c6] at H
                have c6b0 : decide (x6_1 < (l0.length : Int)) = true := decide_eq_true c6
                clear c6
                obtain ⟨bq7, hbq7⟩ : ∃ b_ : Bool, b_ = (rdOf false l0 x6_1) := ⟨_, rfl⟩
                replace H : (if bq7 = true then ((region_Union.f x3_1 (([(⟨wrap64 (3 * (Int.tmod x6_1 6)), wrap64 (2 * (wrap64 (Int.tdiv x6_1 6))), 3, 2⟩ : S23)] : List (S23)))).bind fun t316 => (tableaulaw08_RegionGrids.l0 kj1 l0 t316 (wrap64 (x5_1 + 1)) (wrap64 (x6_1 + 1)))) else (tableaulaw08_RegionGrids.l0 kj1 l0 x3_1 x5_1 (wrap64 (x6_1 + 1)))) = some r := by rw [← hbq7] at H; exact H
                have Nbq7 := Aside0.mk hbq7
                clear hbq7
                by_cases c8 : bq7 = true
                · subst c8
                  have H1 : ((region_Union.f x3_1 (([(⟨wrap64 (3 * (Int.tmod x6_1 6)), wrap64 (2 * (wrap64 (Int.tdiv x6_1 6))), 3, 2⟩ : S23)] : List (S23)))).bind fun t316 => (tableaulaw08_RegionGrids.l0 kj1 l0 t316 (wrap64 (x5_1 + 1)) (wrap64 (x6_1 + 1)))) = some r := by rw [if_pos rfl] at H; exact H
                  clear H
                  have H := H1
                  clear H1
                  obtain ⟨y313, hy313⟩ : ∃ y_ : List (S23), y_ = (([(⟨wrap64 (3 * (Int.tmod x6_1 6)), wrap64 (2 * (wrap64 (Int.tdiv x6_1 6))), 3, 2⟩ : S23)] : List (S23))) := ⟨_, rfl⟩
                  replace H : ((region_Union.f x3_1 y313).bind fun t316 => (tableaulaw08_RegionGrids.l0 kj1 l0 t316 (wrap64 (x5_1 + 1)) (wrap64 (x6_1 + 1)))) = some r := by first | (rw [hy313]; with_reducible exact H) | (have H2_ := (Option.bind_some _ _).symm.trans H; rw [hy313]; with_reducible exact H2_) | (have H2_ := (Option.bind_some _ _).symm.trans H; with_reducible exact H2_) | with_reducible exact H | (rw [hy313]; exact H) | exact H
                  have Ny313 := Aside0.mk hy313
                  clear hy313
                  replace H := Option.bind_eq_some_iff.mp H
                  obtain ⟨t316, A90, H⟩ := H
                  replace H : (tableaulaw08_RegionGrids.l0 kj1 l0 t316 (wrap64 (x5_1 + 1)) (wrap64 (x6_1 + 1))) = some r := H
                  have A9 := Aside0.mk A90
                  clear A90
                  have H' := Aside0.mk H
                  clear H
                  have p312 : 0 ≤ (x6_1 : Int) := of_decide_eq_true (by first | (with_reducible assumption) | assumption)
                  have q312 : x6_1 < (l0.length : Int) := of_decide_eq_true (by first | (with_reducible assumption) | assumption)
                  obtain ⟨ad312, e312, hx312_0⟩ := Kd.at_bool HR0.out x6_1 p312 q312
                  (try rw [← Nbq7.out] at hx312_0)
                  cases e312
                  replace hx312_0 := (HB.out.cell (World.block_lt_of_cell? w _ hx312_0)).trans hx312_0
                  replace p312 := eq_true p312
                  replace q312 := eq_true q312
                  go_wp2_with (first | ((with_reducible refine gate_dst (N := 33) rfl ?_); refine Kd.R_lit k23 _ 23 ?hg (N := 33) ?hd (xs := ([(⟨wrap64 (3 * (Int.tmod x6_1 6)), wrap64 (2 * (wrap64 (Int.tdiv x6_1 6))), 3, 2⟩ : S23)] : List (S23))) (inner := [.int .i64 (wrap64 (3 * (Int.tmod x6_1 6))), .int .i64 (wrap64 (2 * (wrap64 (Int.tdiv x6_1 6)))), .int .i64 3, .int .i64 2]) (ok := fun _ => True) (okp := fun _ => True) ?hr ?hp (fun _ hk => hk) trivial (Below.refl _ _) (Nat.le_refl _) (by simp) ?_; (case hd => rfl); (case hg => rfl); (case hr => first | (go_simp; done) | (go_simp; rfl)); (case hp => exact (Reps.c4 (show Kd.M k23 _ _ _ (⟨wrap64 (3 * (Int.tmod x6_1 6)), wrap64 (2 * (wrap64 (Int.tdiv x6_1 6))), 3, 2⟩ : S23) [.int .i64 (wrap64 (3 * (Int.tmod x6_1 6))), .int .i64 (wrap64 (2 * (wrap64 (Int.tdiv x6_1 6)))), .int .i64 3, .int .i64 2] from (k23_mkM _ _ _ (⟨wrap64 (3 * (Int.tmod x6_1 6)), wrap64 (2 * (wrap64 (Int.tdiv x6_1 6))), 3, 2⟩ : S23) )) (Reps.none _ _))); intro v314 w10 ho11 hb hg_ hnew_; clear hg_ hnew_; (first | rw [← Ny313.out] at ho11 | (simp only [Int.reduceToNat] at ho11; rw [← Ny313.out] at ho11)); have n0_ := Aside0.mk (Kd.R_elder' (by (with_reducible repeat (first | apply Kd.R_alloc | apply Kd.R_drewN | apply Kd.R_drew)); exact HO_3.out) (Kd.R_base ho11) hb); have n1_ := Aside0.mk (Kd.R_elder' (by (with_reducible repeat (first | apply Kd.R_alloc | apply Kd.R_drewN | apply Kd.R_drew)); exact HO_4.out) (Kd.R_base ho11) hb); have n2_ := Aside0.mk (Kd.R_lower (Kd.R_new' (Kd.R_new' ho11 (Kd.R_lt (by (with_reducible repeat (first | apply Kd.R_alloc | apply Kd.R_drewN | apply Kd.R_drew)); exact HO_3.out))) (Kd.R_lt (by (with_reducible repeat (first | apply Kd.R_alloc | apply Kd.R_drewN | apply Kd.R_drew)); exact HO_4.out))) (below_size (by repeat (first | (with_reducible first | exact HB.out | apply below_alloc | apply pw_below_drewN | apply below_drew1) | exact HB.out)))); have n3_ := Aside0.mk (below_step (by repeat (first | (with_reducible first | exact HB.out | apply below_alloc | apply pw_below_drewN | apply below_drew1) | exact HB.out)) hb); clear HO_3; clear HO_4; clear HB; have HO_3 := n0_; have HO_4 := n1_; have HO315 := n2_; have HB := n3_; clear n0_ n1_ n2_ n3_; clear hb ho11; obtain ⟨Ao12, co12, eo12⟩ := Kd.R_slice HO_3.out; subst eo12; obtain ⟨Ao13, co13, eo13⟩ := Kd.R_slice HO315.out; subst eo13) | ((with_reducible refine gate_callee (f := 18) rfl ?_); refine goesL_ (some 34) rfl rfl Try.func18 (by kernel_rfl) rfl #[.slice Ao12 x3_1.length co12, .slice Ao13 y313.length co13] rfl (by (try simp only [List.map_toArray, List.map_cons, List.map_nil]); first | done | rfl | (simp only [List.length_drop, List.length_take]; rfl)) ?_; (with_reducible refine (region_Union.calls _ _ x3_1 _ _ y313 t316 _ ?side1 ?side2 ?side3 ?side4 A9.out).mono ?_); (case side1 => repeat (first | exact (Kd.R_reads' HO_3.out).2.2 | (with_reducible refine Kd.C_alloc ?_ _) | (with_reducible refine Kd.C_drewN ?_ _) | (with_reducible refine Kd.C_drew ?_))); (case side2 => exact (Kd.R_reads' HO_3.out).2.1); (case side3 => repeat (first | exact (Kd.R_reads' HO315.out).2.2 | (with_reducible refine Kd.C_alloc ?_ _) | (with_reducible refine Kd.C_drewN ?_ _) | (with_reducible refine Kd.C_drew ?_))); (case side4 => exact (Kd.R_reads' HO315.out).2.1); rintro e w14 ⟨v317, rfl, ho0, hb⟩; refine ⟨_, rfl, ?_⟩; have n0_ := Aside0.mk (Kd.R_elder' (by (with_reducible repeat (first | apply Kd.R_alloc | apply Kd.R_drewN | apply Kd.R_drew)); exact HO_3.out) (Kd.R_base ho0) hb); have n1_ := Aside0.mk (Kd.R_elder' (by (with_reducible repeat (first | apply Kd.R_alloc | apply Kd.R_drewN | apply Kd.R_drew)); exact HO_4.out) (Kd.R_base ho0) hb); have n2_ := Aside0.mk (Kd.R_elder' (by (with_reducible repeat (first | apply Kd.R_alloc | apply Kd.R_drewN | apply Kd.R_drew)); exact HO315.out) (Kd.R_base ho0) hb); have n3_ := Aside0.mk (Kd.R_lower (Kd.R_new' (Kd.R_new' (Kd.R_new' ho0 (Kd.R_lt (by (with_reducible repeat (first | apply Kd.R_alloc | apply Kd.R_drewN | apply Kd.R_drew)); exact HO_3.out))) (Kd.R_lt (by (with_reducible repeat (first | apply Kd.R_alloc | apply Kd.R_drewN | apply Kd.R_drew)); exact HO_4.out))) (Kd.R_lt (by (with_reducible repeat (first | apply Kd.R_alloc | apply Kd.R_drewN | apply Kd.R_drew)); exact HO315.out))) (below_size (by repeat (first | (with_reducible first | exact HB.out | apply below_alloc | apply pw_below_drewN | apply below_drew1) | exact HB.out)))); have n4_ := Aside0.mk (below_step (by repeat (first | (with_reducible first | exact HB.out | apply below_alloc | apply pw_below_drewN | apply below_drew1) | exact HB.out)) hb); clear HO_3; clear HO_4; clear HO315; clear HB; have HO_3 := n0_; have HO_4 := n1_; have HO315 := n2_; have HO318 := n3_; have HB := n4_; clear n0_ n1_ n2_ n3_ n4_; (try clear hb); (try clear hb2); (try clear hk); (try clear hi); (try clear ho0)))
                  go_roundg kj1
                  case measure => have := HK1.out; have := HJ1.out; omega
                  case rel => exact ⟨(t316), (wrap64 (x5_1 + 1)), (wrap64 (x6_1 + 1)), (by first | rfl | (simp; done) | (simp [*]; done)), (by first | rfl | (simp; done) | (simp [*]; done)), H', ⟨by have := HK1.out; have := HJ1.out; omega⟩, ⟨by (with_reducible repeat (first | apply Kd.R_alloc | apply Kd.R_drewN | apply Kd.R_drew)); exact Kd.R_mono HO318.out (fun _ hk => trivial)⟩, ⟨by repeat (first | (with_reducible first | exact HB.out | apply below_alloc | apply pw_below_drewN | apply below_drew1) | exact HB.out)⟩⟩
                · replace c8 := Bool.eq_false_iff.mpr c8
                  subst c8
                  have H1 : (tableaulaw08_RegionGrids.l0 kj1 l0 x3_1 x5_1 (wrap64 (x6_1 + 1))) = some r := by rw [if_neg (show ¬ (false = true) by decide)] at H; exact H
                  clear H
                  have H := H1
                  clear H1
                  have H' := Aside0.mk H
                  clear H
                  have p312 : 0 ≤ (x6_1 : Int) := of_decide_eq_true (by first | (with_reducible assumption) | assumption)
                  have q312 : x6_1 < (l0.length : Int) := of_decide_eq_true (by first | (with_reducible assumption) | assumption)
                  obtain ⟨ad312, e312, hx312_0⟩ := Kd.at_bool HR0.out x6_1 p312 q312
                  (try rw [← Nbq7.out] at hx312_0)
                  cases e312
                  replace hx312_0 := (HB.out.cell (World.block_lt_of_cell? w _ hx312_0)).trans hx312_0
                  replace p312 := eq_true p312
                  replace q312 := eq_true q312
                  go_wp2
                  go_roundg kj1
                  case measure => have := HK1.out; have := HJ1.out; omega
                  case rel => exact ⟨(x3_1), (x5_1), (wrap64 (x6_1 + 1)), (by first | rfl | (simp; done) | (simp [*]; done)), (by first | rfl | (simp; done) | (simp [*]; done)), H', ⟨by have := HK1.out; have := HJ1.out; omega⟩, ⟨by (with_reducible repeat (first | apply Kd.R_alloc | apply Kd.R_drewN | apply Kd.R_drew)); exact Kd.R_mono HO_3.out (fun _ hk => trivial)⟩, ⟨by repeat (first | (with_reducible first | exact HB.out | apply below_alloc | apply pw_below_drewN | apply below_drew1) | exact HB.out)⟩⟩
              · rw [if_neg c6] at H
                exact absurd H (by simp)
            · rw [if_neg c5] at H
              exact absurd H (by simp)
          · replace c4 := Bool.eq_false_iff.mpr c4
            subst c4
            have H1 : (tableaulaw08_RegionGrids.l1 kj1 l0 x3_1 ([] : List (S23)) x5_1 ((mn (l0.length : Int) 36) - 1)) = some r := by rw [if_neg (show ¬ (false = true) by decide)] at H; exact H
            clear H
            have H := H1
            clear H1
            obtain ⟨ji15, hji15⟩ : ∃ j_ : Int, (mn (l0.length : Int) 36) = j_ := ⟨_, rfl⟩
            replace H : (tableaulaw08_RegionGrids.l1 kj1 l0 x3_1 ([] : List (S23)) x5_1 ((ji15) - 1)) = some r := by first | (rw [hji15] at H; exact H) | (simp only [hji15] at H ⊢; exact H)
            have hji15_ : (if 36 < (l0.length : Int) then 36 else (l0.length : Int)) = ji15 := hji15
            have H' := Aside0.mk H
            clear H
            go_wp2
            go_loopg [4, 7] kj1 (fun kq v4 v7 w' => ∃ (x4_3 : List (S23)) (x7_3 : Int), v7 = .int .i64 x7_3 ∧ Aside0 (tableaulaw08_RegionGrids.l1 kq l0 x3_1 x4_3 x5_1 x7_3 = some r) ∧ Aside0 (kq ≤ kj1) ∧ Aside0 (Kd.R k23 23 w' w.heap.size (fun k_ => some k_ ≠ (v4 : Value).ownBlock) u3 x3_1) ∧ Aside0 (Kd.R k23 23 w' w.heap.size (fun k_ => some k_ ≠ (u3 : Value).ownBlock) v4 x4_3) ∧ Aside0 (Below w.heap.size w w'))
            case atStart => exact ⟨(([] : List (S23))), ((ji15) - 1), (by first | rfl | (simp; done) | (simp only [← hji15] <;> (first | rfl | simp)) | (simp [*]; done)), H', ⟨Nat.le_refl _⟩, ⟨by (with_reducible repeat (first | apply Kd.R_alloc | apply Kd.R_drewN | apply Kd.R_drew)); exact HO_3.out⟩, ⟨by (with_reducible repeat (first | apply Kd.R_alloc | apply Kd.R_drewN | apply Kd.R_drew)); exact HO_4.out⟩, ⟨by repeat (first | (with_reducible first | exact HB.out | apply below_alloc | apply pw_below_drewN | apply below_drew1) | exact HB.out)⟩⟩
            case round =>
              clear H'
              try clear c1
              try clear p2
              try clear c3
              try clear c3b0
              try clear p3
              try clear q3
              try clear hx3
              try clear c4
              try clear c5
              try clear c5b0
              try clear c6
              try clear c6b0
              try clear p6
              try clear q7
              try clear c8
              try clear hx312_0
              try clear p2
              try clear p312
              try clear q312
              obtain ⟨x4_3, x7_3, rfl, HA, HK3, HO_3, HO_4, HB⟩ := hrel
              cases gk with
              | zero => exact absurd HA.out (by simp [tableaulaw08_RegionGrids.l1])
              | succ k3 =>
                have H := HA.out
                clear HA
                simp only [tableaulaw08_RegionGrids.l1] at H
                by_cases c16 : x7_3 ≥ 0
                · rw [if_pos c16] at H
                  have c16b0 : decide (0 ≤ x7_3) = true := decide_eq_true c16
                  clear c16
                  by_cases c17 : 0 ≤ x7_3
                  · rw [if_pos c17] at H
                    have c17b0 : decide (0 ≤ x7_3) = true := decide_eq_true c17
                    clear c17
                    by_cases c18 : x7_3 < (l0.length : Int)
                    · rw [if_pos c18] at H
                      have c18b0 : decide (x7_3 < (l0.length : Int)) = true := decide_eq_true c18
                      clear c18
                      obtain ⟨bq19, hbq19⟩ : ∃ b_ : Bool, b_ = (rdOf false l0 x7_3) := ⟨_, rfl⟩
                      replace H : (if bq19 = true then ((region_Union.f x4_3 (([(⟨wrap64 (3 * (Int.tmod x7_3 6)), wrap64 (2 * (wrap64 (Int.tdiv x7_3 6))), 3, 2⟩ : S23)] : List (S23)))).bind fun t323 => (tableaulaw08_RegionGrids.l1 k3 l0 x3_1 t323 x5_1 (wrap64 (x7_3 - 1)))) else (tableaulaw08_RegionGrids.l1 k3 l0 x3_1 x4_3 x5_1 (wrap64 (x7_3 - 1)))) = some r := by rw [← hbq19] at H; exact H
                      have Nbq19 := Aside0.mk hbq19
                      clear hbq19
                      by_cases c20 : bq19 = true
                      · subst c20
                        have H1 : ((region_Union.f x4_3 (([(⟨wrap64 (3 * (Int.tmod x7_3 6)), wrap64 (2 * (wrap64 (Int.tdiv x7_3 6))), 3, 2⟩ : S23)] : List (S23)))).bind fun t323 => (tableaulaw08_RegionGrids.l1 k3 l0 x3_1 t323 x5_1 (wrap64 (x7_3 - 1)))) = some r := by rw [if_pos rfl] at H; exact H
                        clear H
                        have H := H1
                        clear H1
                        obtain ⟨y320, hy320⟩ : ∃ y_ : List (S23), y_ = (([(⟨wrap64 (3 * (Int.tmod x7_3 6)), wrap64 (2 * (wrap64 (Int.tdiv x7_3 6))), 3, 2⟩ : S23)] : List (S23))) := ⟨_, rfl⟩
                        replace H : ((region_Union.f x4_3 y320).bind fun t323 => (tableaulaw08_RegionGrids.l1 k3 l0 x3_1 t323 x5_1 (wrap64 (x7_3 - 1)))) = some r := by first | (rw [hy320]; with_reducible exact H) | (have H2_ := (Option.bind_some _ _).symm.trans H; rw [hy320]; with_reducible exact H2_) | (have H2_ := (Option.bind_some _ _).symm.trans H; with_reducible exact H2_) | with_reducible exact H | (rw [hy320]; exact H) | exact H
                        have Ny320 := Aside0.mk hy320
                        clear hy320
                        replace H := Option.bind_eq_some_iff.mp H
                        obtain ⟨t323, A210, H⟩ := H
                        replace H : (tableaulaw08_RegionGrids.l1 k3 l0 x3_1 t323 x5_1 (wrap64 (x7_3 - 1))) = some r := H
                        have A21 := Aside0.mk A210
                        clear A210
                        have H' := Aside0.mk H
                        clear H
                        have p319 : 0 ≤ (x7_3 : Int) := of_decide_eq_true (by first | (with_reducible assumption) | assumption)
                        have q319 : x7_3 < (l0.length : Int) := of_decide_eq_true (by first | (with_reducible assumption) | assumption)
                        obtain ⟨ad319, e319, hx319_0⟩ := Kd.at_bool HR0.out x7_3 p319 q319
                        (try rw [← Nbq19.out] at hx319_0)
                        cases e319
                        replace hx319_0 := (HB.out.cell (World.block_lt_of_cell? w _ hx319_0)).trans hx319_0
                        replace p319 := eq_true p319
                        replace q319 := eq_true q319
                        go_wp2_with (first | ((with_reducible refine gate_dst (N := 57) rfl ?_); refine Kd.R_lit k23 _ 23 ?hg (N := 57) ?hd (xs := ([(⟨wrap64 (3 * (Int.tmod x7_3 6)), wrap64 (2 * (wrap64 (Int.tdiv x7_3 6))), 3, 2⟩ : S23)] : List (S23))) (inner := [.int .i64 (wrap64 (3 * (Int.tmod x7_3 6))), .int .i64 (wrap64 (2 * (wrap64 (Int.tdiv x7_3 6)))), .int .i64 3, .int .i64 2]) (ok := fun _ => True) (okp := fun _ => True) ?hr ?hp (fun _ hk => hk) trivial (Below.refl _ _) (Nat.le_refl _) (by simp) ?_; (case hd => rfl); (case hg => rfl); (case hr => first | (go_simp; done) | (go_simp; rfl)); (case hp => exact (Reps.c4 (show Kd.M k23 _ _ _ (⟨wrap64 (3 * (Int.tmod x7_3 6)), wrap64 (2 * (wrap64 (Int.tdiv x7_3 6))), 3, 2⟩ : S23) [.int .i64 (wrap64 (3 * (Int.tmod x7_3 6))), .int .i64 (wrap64 (2 * (wrap64 (Int.tdiv x7_3 6)))), .int .i64 3, .int .i64 2] from (k23_mkM _ _ _ (⟨wrap64 (3 * (Int.tmod x7_3 6)), wrap64 (2 * (wrap64 (Int.tdiv x7_3 6))), 3, 2⟩ : S23) )) (Reps.none _ _))); intro v321 w22 ho23 hb hg_ hnew_; clear hg_ hnew_; (first | rw [← Ny320.out] at ho23 | (simp only [Int.reduceToNat] at ho23; rw [← Ny320.out] at ho23)); have n0_ := Aside0.mk (Kd.R_elder' (by (with_reducible repeat (first | apply Kd.R_alloc | apply Kd.R_drewN | apply Kd.R_drew)); exact HO_3.out) (Kd.R_base ho23) hb); have n1_ := Aside0.mk (Kd.R_elder' (by (with_reducible repeat (first | apply Kd.R_alloc | apply Kd.R_drewN | apply Kd.R_drew)); exact HO_4.out) (Kd.R_base ho23) hb); have n2_ := Aside0.mk (Kd.R_lower (Kd.R_new' (Kd.R_new' ho23 (Kd.R_lt (by (with_reducible repeat (first | apply Kd.R_alloc | apply Kd.R_drewN | apply Kd.R_drew)); exact HO_3.out))) (Kd.R_lt (by (with_reducible repeat (first | apply Kd.R_alloc | apply Kd.R_drewN | apply Kd.R_drew)); exact HO_4.out))) (below_size (by repeat (first | (with_reducible first | exact HB.out | apply below_alloc | apply pw_below_drewN | apply below_drew1) | exact HB.out)))); have n3_ := Aside0.mk (below_step (by repeat (first | (with_reducible first | exact HB.out | apply below_alloc | apply pw_below_drewN | apply below_drew1) | exact HB.out)) hb); clear HO_3; clear HO_4; clear HB; have HO_3 := n0_; have HO_4 := n1_; have HO322 := n2_; have HB := n3_; clear n0_ n1_ n2_ n3_; clear hb ho23; obtain ⟨Ao24, co24, eo24⟩ := Kd.R_slice HO_4.out; subst eo24; obtain ⟨Ao25, co25, eo25⟩ := Kd.R_slice HO322.out; subst eo25) | ((with_reducible refine gate_callee (f := 18) rfl ?_); refine goesL_ (some 58) rfl rfl Try.func18 (by kernel_rfl) rfl #[.slice Ao24 x4_3.length co24, .slice Ao25 y320.length co25] rfl (by (try simp only [List.map_toArray, List.map_cons, List.map_nil]); first | done | rfl | (simp only [List.length_drop, List.length_take]; rfl)) ?_; (with_reducible refine (region_Union.calls _ _ x4_3 _ _ y320 t323 _ ?side1 ?side2 ?side3 ?side4 A21.out).mono ?_); (case side1 => repeat (first | exact (Kd.R_reads' HO_4.out).2.2 | (with_reducible refine Kd.C_alloc ?_ _) | (with_reducible refine Kd.C_drewN ?_ _) | (with_reducible refine Kd.C_drew ?_))); (case side2 => exact (Kd.R_reads' HO_4.out).2.1); (case side3 => repeat (first | exact (Kd.R_reads' HO322.out).2.2 | (with_reducible refine Kd.C_alloc ?_ _) | (with_reducible refine Kd.C_drewN ?_ _) | (with_reducible refine Kd.C_drew ?_))); (case side4 => exact (Kd.R_reads' HO322.out).2.1); rintro e w26 ⟨v324, rfl, ho0, hb⟩; refine ⟨_, rfl, ?_⟩; have n0_ := Aside0.mk (Kd.R_elder' (by (with_reducible repeat (first | apply Kd.R_alloc | apply Kd.R_drewN | apply Kd.R_drew)); exact HO_3.out) (Kd.R_base ho0) hb); have n1_ := Aside0.mk (Kd.R_elder' (by (with_reducible repeat (first | apply Kd.R_alloc | apply Kd.R_drewN | apply Kd.R_drew)); exact HO_4.out) (Kd.R_base ho0) hb); have n2_ := Aside0.mk (Kd.R_elder' (by (with_reducible repeat (first | apply Kd.R_alloc | apply Kd.R_drewN | apply Kd.R_drew)); exact HO322.out) (Kd.R_base ho0) hb); have n3_ := Aside0.mk (Kd.R_lower (Kd.R_new' (Kd.R_new' (Kd.R_new' ho0 (Kd.R_lt (by (with_reducible repeat (first | apply Kd.R_alloc | apply Kd.R_drewN | apply Kd.R_drew)); exact HO_3.out))) (Kd.R_lt (by (with_reducible repeat (first | apply Kd.R_alloc | apply Kd.R_drewN | apply Kd.R_drew)); exact HO_4.out))) (Kd.R_lt (by (with_reducible repeat (first | apply Kd.R_alloc | apply Kd.R_drewN | apply Kd.R_drew)); exact HO322.out))) (below_size (by repeat (first | (with_reducible first | exact HB.out | apply below_alloc | apply pw_below_drewN | apply below_drew1) | exact HB.out)))); have n4_ := Aside0.mk (below_step (by repeat (first | (with_reducible first | exact HB.out | apply below_alloc | apply pw_below_drewN | apply below_drew1) | exact HB.out)) hb); clear HO_3; clear HO_4; clear HO322; clear HB; have HO_3 := n0_; have HO_4 := n1_; have HO322 := n2_; have HO325 := n3_; have HB := n4_; clear n0_ n1_ n2_ n3_ n4_; (try clear hb); (try clear hb2); (try clear hk); (try clear hi); (try clear ho0)))
                        go_roundg k3
                        case measure => have := HK1.out; have := HJ1.out; have := HK3.out; omega
                        case rel => exact ⟨(t323), (wrap64 (x7_3 - 1)), (by first | rfl | (simp; done) | (simp [*]; done)), H', ⟨by have := HK1.out; have := HJ1.out; have := HK3.out; omega⟩, ⟨by (with_reducible repeat (first | apply Kd.R_alloc | apply Kd.R_drewN | apply Kd.R_drew)); exact Kd.R_mono HO_3.out (fun _ hk => hk.2)⟩, ⟨by (with_reducible repeat (first | apply Kd.R_alloc | apply Kd.R_drewN | apply Kd.R_drew)); exact Kd.R_mono HO325.out (fun _ hk => hk.1.1.2)⟩, ⟨by repeat (first | (with_reducible first | exact HB.out | apply below_alloc | apply pw_below_drewN | apply below_drew1) | exact HB.out)⟩⟩
                      · replace c20 := Bool.eq_false_iff.mpr c20
                        subst c20
                        have H1 : (tableaulaw08_RegionGrids.l1 k3 l0 x3_1 x4_3 x5_1 (wrap64 (x7_3 - 1))) = some r := by rw [if_neg (show ¬ (false = true) by decide)] at H; exact H
                        clear H
                        have H := H1
                        clear H1
                        have H' := Aside0.mk H
                        clear H
                        have p319 : 0 ≤ (x7_3 : Int) := of_decide_eq_true (by first | (with_reducible assumption) | assumption)
                        have q319 : x7_3 < (l0.length : Int) := of_decide_eq_true (by first | (with_reducible assumption) | assumption)
                        obtain ⟨ad319, e319, hx319_0⟩ := Kd.at_bool HR0.out x7_3 p319 q319
                        (try rw [← Nbq19.out] at hx319_0)
                        cases e319
                        replace hx319_0 := (HB.out.cell (World.block_lt_of_cell? w _ hx319_0)).trans hx319_0
                        replace p319 := eq_true p319
                        replace q319 := eq_true q319
                        go_wp2
                        go_roundg k3
                        case measure => have := HK1.out; have := HJ1.out; have := HK3.out; omega
                        case rel => exact ⟨(x4_3), (wrap64 (x7_3 - 1)), (by first | rfl | (simp; done) | (simp [*]; done)), H', ⟨by have := HK1.out; have := HJ1.out; have := HK3.out; omega⟩, ⟨by (with_reducible repeat (first | apply Kd.R_alloc | apply Kd.R_drewN | apply Kd.R_drew)); exact HO_3.out⟩, ⟨by (with_reducible repeat (first | apply Kd.R_alloc | apply Kd.R_drewN | apply Kd.R_drew)); exact HO_4.out⟩, ⟨by repeat (first | (with_reducible first | exact HB.out | apply below_alloc | apply pw_below_drewN | apply below_drew1) | exact HB.out)⟩⟩
                    · rw [if_neg c18] at H
                      exact absurd H (by simp)
                  · rw [if_neg c17] at H
                    exact absurd H (by simp)
                · rw [if_neg c16] at H
                  have c16b0 : decide (0 ≤ x7_3) = false := decide_eq_false c16
                  clear c16
                  have H' := Aside0.mk H
                  clear H
                  go_wp2
                  go_loopg [8] k3 (fun kq v8 w' => ∃ (x8_4 : Int), v8 = .int .i64 x8_4 ∧ Aside0 (tableaulaw08_RegionGrids.l2 kq l0 x3_1 x4_3 x5_1 x8_4 = some r) ∧ Aside0 (kq ≤ k3) ∧ Aside0 (Kd.R k23 23 w' w.heap.size (fun k_ => some k_ ≠ (u4 : Value).ownBlock) u3 x3_1) ∧ Aside0 (Kd.R k23 23 w' w.heap.size (fun k_ => some k_ ≠ (u3 : Value).ownBlock) u4 x4_3) ∧ Aside0 (Below w.heap.size w w'))
                  case atStart => exact ⟨(0), (by first | rfl | (simp; done) | (simp [*]; done)), H', ⟨Nat.le_refl _⟩, ⟨by (with_reducible repeat (first | apply Kd.R_alloc | apply Kd.R_drewN | apply Kd.R_drew)); exact HO_3.out⟩, ⟨by (with_reducible repeat (first | apply Kd.R_alloc | apply Kd.R_drewN | apply Kd.R_drew)); exact HO_4.out⟩, ⟨by repeat (first | (with_reducible first | exact HB.out | apply below_alloc | apply pw_below_drewN | apply below_drew1) | exact HB.out)⟩⟩
                  case round =>
                    clear H'
                    try clear c1
                    try clear q1
                    try clear c2
                    try clear p2
                    try clear c3
                    try clear c3b0
                    try clear p3
                    try clear q3
                    try clear hx3
                    try clear c4
                    try clear c5
                    try clear c5b0
                    try clear c6
                    try clear c6b0
                    try clear p6
                    try clear q7
                    try clear c8
                    try clear c16
                    try clear c16b0
                    try clear c17
                    try clear c17b0
                    try clear c18
                    try clear c18b0
                    try clear q19
                    try clear c20
                    try clear hx312_0
                    try clear hx319_0
                    try clear p2
                    try clear p3
                    try clear p312
                    try clear p319
                    try clear p6
                    try clear q3
                    try clear q312
                    try clear q319
                    try clear q7
                    obtain ⟨x8_4, rfl, HA, HK4, HO_3, HO_4, HB⟩ := hrel
                    cases gk with
                    | zero => exact absurd HA.out (by simp [tableaulaw08_RegionGrids.l2])
                    | succ k4 =>
                      have H := HA.out
                      clear HA
                      simp only [tableaulaw08_RegionGrids.l2] at H
                      by_cases c27 : x8_4 < 36
                      · rw [if_pos c27] at H
                        have c27b0 : decide (x8_4 < 36) = true := decide_eq_true c27
                        clear c27
                        by_cases c28 : x8_4 < (l0.length : Int)
                        · rw [if_pos c28] at H
                          have c28b0 : decide (x8_4 < (l0.length : Int)) = true := decide_eq_true c28
                          clear c28
                          by_cases c29 : 0 ≤ x8_4
                          · rw [if_pos c29] at H
                            have c29b0 : decide (0 ≤ x8_4) = true := decide_eq_true c29
                            clear c29
                            replace H := Option.bind_eq_some_iff.mp H
                            obtain ⟨t327, A300, H⟩ := H
                            replace H : (if (t327 != (rdOf false l0 x8_4)) = true then (some false) else (tableaulaw08_RegionGrids.l2 k4 l0 x3_1 x4_3 x5_1 (wrap64 (x8_4 + 1)))) = some r := H
                            have A30 := Aside0.mk A300
                            clear A300
                            by_cases c31 : (t327 != (rdOf false l0 x8_4)) = true
                            · rw [if_pos c31] at H
                              have c31b0 : (t327 != (rdOf false l0 x8_4)) = true := c31
                              (try (have c31b1 : decide (t327 = (rdOf false l0 x8_4)) = false := by simpa using c31))
                              (try (have c31b2 : (t327 == (rdOf false l0 x8_4)) = false := by simpa using c31))
                              (try (have c31b3 : ¬ (t327 = (rdOf false l0 x8_4)) := by simpa using c31))
                              clear c31
                              exact absurd H (by rw [HT.out]; simp)
                            · rw [if_neg c31] at H
                              have c31b0 : (t327 != (rdOf false l0 x8_4)) = false := by simpa using c31
                              (try (have c31b1 : decide (t327 = (rdOf false l0 x8_4)) = true := by simpa using c31))
                              (try (have c31b2 : (t327 == (rdOf false l0 x8_4)) = true := by simpa using c31))
                              clear c31
                              have H' := Aside0.mk H
                              clear H
                              have p326 : 0 ≤ (x8_4 : Int) := of_decide_eq_true (by first | (with_reducible assumption) | assumption)
                              have q326 : x8_4 < (l0.length : Int) := of_decide_eq_true (by first | (with_reducible assumption) | assumption)
                              obtain ⟨ad326, e326, hx326_0⟩ := Kd.at_bool HR0.out x8_4 p326 q326
                              cases e326
                              replace hx326_0 := (HB.out.cell (World.block_lt_of_cell? w _ hx326_0)).trans hx326_0
                              replace p326 := eq_true p326
                              replace q326 := eq_true q326
                              obtain ⟨Ao32, co32, eo32⟩ := Kd.R_slice HO_3.out
                              subst eo32
                              go_wp2_with (first | ((with_reducible refine gate_callee (f := 19) rfl ?_); refine goesL_ (some 82) rfl rfl Try.func19 (by kernel_rfl) rfl #[.slice Ao32 x3_1.length co32, .int .i64 (wrap64 ((wrap64 (3 * (Int.tmod x8_4 6))) + 1)), .int .i64 (wrap64 ((wrap64 (2 * (wrap64 (Int.tdiv x8_4 6)))) + 1))] rfl (by (try simp only [List.map_toArray, List.map_cons, List.map_nil]); first | done | rfl | (simp only [List.length_drop, List.length_take]; rfl)) ?_; (with_reducible refine (region_Has.calls _ _ x3_1 (wrap64 ((wrap64 (3 * (Int.tmod x8_4 6))) + 1)) (wrap64 ((wrap64 (2 * (wrap64 (Int.tdiv x8_4 6)))) + 1)) t327 _ ?side1 ?side2 A30.out).mono ?_); (case side1 => repeat (first | exact (Kd.R_reads' HO_3.out).2.2 | (with_reducible refine Kd.C_alloc ?_ _) | (with_reducible refine Kd.C_drewN ?_ _) | (with_reducible refine Kd.C_drew ?_))); (case side2 => exact (Kd.R_reads' HO_3.out).2.1); rintro e w33 ⟨rfl, hb⟩; refine ⟨_, rfl, ?_⟩; have n0_ := Aside0.mk (Kd.R_below (by (with_reducible repeat (first | apply Kd.R_alloc | apply Kd.R_drewN | apply Kd.R_drew)); exact HO_3.out) hb); have n1_ := Aside0.mk (Kd.R_below (by (with_reducible repeat (first | apply Kd.R_alloc | apply Kd.R_drewN | apply Kd.R_drew)); exact HO_4.out) hb); have n2_ := Aside0.mk (below_step (by repeat (first | (with_reducible first | exact HB.out | apply below_alloc | apply pw_below_drewN | apply below_drew1) | exact HB.out)) hb); clear HO_3; clear HO_4; clear HB; have HO_3 := n0_; have HO_4 := n1_; have HB := n2_; clear n0_ n1_ n2_; (try clear hb); (try clear hb2); (try clear hk); (try clear hi)))
                              go_roundg k4
                              case measure => have := HK1.out; have := HJ1.out; have := HK3.out; have := HK4.out; omega
                              case rel => exact ⟨(wrap64 (x8_4 + 1)), (by first | rfl | (simp; done) | (simp [*]; done)), H', ⟨by have := HK1.out; have := HJ1.out; have := HK3.out; have := HK4.out; omega⟩, ⟨by (with_reducible repeat (first | apply Kd.R_alloc | apply Kd.R_drewN | apply Kd.R_drew)); exact HO_3.out⟩, ⟨by (with_reducible repeat (first | apply Kd.R_alloc | apply Kd.R_drewN | apply Kd.R_drew)); exact HO_4.out⟩, ⟨by repeat (first | (with_reducible first | exact HB.out | apply below_alloc | apply pw_below_drewN | apply below_drew1) | exact HB.out)⟩⟩
                          · rw [if_neg c29] at H
                            exact absurd H (by simp)
                        · rw [if_neg c28] at H
                          have c28b0 : decide (x8_4 < (l0.length : Int)) = false := decide_eq_false c28
                          clear c28
                          replace H := Option.bind_eq_some_iff.mp H
                          obtain ⟨t328, A340, H⟩ := H
                          replace H : (if (t328 != false) = true then (some false) else (tableaulaw08_RegionGrids.l2 k4 l0 x3_1 x4_3 x5_1 (wrap64 (x8_4 + 1)))) = some r := H
                          have A34 := Aside0.mk A340
                          clear A340
                          by_cases c35 : (t328 != false) = true
                          · rw [if_pos c35] at H
                            have c35b0 : (t328 != false) = true := c35
                            (try (have c35b1 : decide (t328 = false) = false := by simpa using c35))
                            (try (have c35b2 : (t328 == false) = false := by simpa using c35))
                            (try (have c35b3 : ¬ (t328 = false) := by simpa using c35))
                            clear c35
                            exact absurd H (by rw [HT.out]; simp)
                          · rw [if_neg c35] at H
                            have c35b0 : (t328 != false) = false := by simpa using c35
                            (try (have c35b1 : decide (t328 = false) = true := by simpa using c35))
                            (try (have c35b2 : (t328 == false) = true := by simpa using c35))
                            clear c35
                            have H' := Aside0.mk H
                            clear H
                            obtain ⟨Ao36, co36, eo36⟩ := Kd.R_slice HO_3.out
                            subst eo36
                            go_wp2_with (first | ((with_reducible refine gate_callee (f := 19) rfl ?_); refine goesL_ (some 82) rfl rfl Try.func19 (by kernel_rfl) rfl #[.slice Ao36 x3_1.length co36, .int .i64 (wrap64 ((wrap64 (3 * (Int.tmod x8_4 6))) + 1)), .int .i64 (wrap64 ((wrap64 (2 * (wrap64 (Int.tdiv x8_4 6)))) + 1))] rfl (by (try simp only [List.map_toArray, List.map_cons, List.map_nil]); first | done | rfl | (simp only [List.length_drop, List.length_take]; rfl)) ?_; (with_reducible refine (region_Has.calls _ _ x3_1 (wrap64 ((wrap64 (3 * (Int.tmod x8_4 6))) + 1)) (wrap64 ((wrap64 (2 * (wrap64 (Int.tdiv x8_4 6)))) + 1)) t328 _ ?side1 ?side2 A34.out).mono ?_); (case side1 => repeat (first | exact (Kd.R_reads' HO_3.out).2.2 | (with_reducible refine Kd.C_alloc ?_ _) | (with_reducible refine Kd.C_drewN ?_ _) | (with_reducible refine Kd.C_drew ?_))); (case side2 => exact (Kd.R_reads' HO_3.out).2.1); rintro e w37 ⟨rfl, hb⟩; refine ⟨_, rfl, ?_⟩; have n0_ := Aside0.mk (Kd.R_below (by (with_reducible repeat (first | apply Kd.R_alloc | apply Kd.R_drewN | apply Kd.R_drew)); exact HO_3.out) hb); have n1_ := Aside0.mk (Kd.R_below (by (with_reducible repeat (first | apply Kd.R_alloc | apply Kd.R_drewN | apply Kd.R_drew)); exact HO_4.out) hb); have n2_ := Aside0.mk (below_step (by repeat (first | (with_reducible first | exact HB.out | apply below_alloc | apply pw_below_drewN | apply below_drew1) | exact HB.out)) hb); clear HO_3; clear HO_4; clear HB; have HO_3 := n0_; have HO_4 := n1_; have HB := n2_; clear n0_ n1_ n2_; (try clear hb); (try clear hb2); (try clear hk); (try clear hi)))
                            go_roundg k4
                            case measure => have := HK1.out; have := HJ1.out; have := HK3.out; have := HK4.out; omega
                            case rel => exact ⟨(wrap64 (x8_4 + 1)), (by first | rfl | (simp; done) | (simp [*]; done)), H', ⟨by have := HK1.out; have := HJ1.out; have := HK3.out; have := HK4.out; omega⟩, ⟨by (with_reducible repeat (first | apply Kd.R_alloc | apply Kd.R_drewN | apply Kd.R_drew)); exact HO_3.out⟩, ⟨by (with_reducible repeat (first | apply Kd.R_alloc | apply Kd.R_drewN | apply Kd.R_drew)); exact HO_4.out⟩, ⟨by repeat (first | (with_reducible first | exact HB.out | apply below_alloc | apply pw_below_drewN | apply below_drew1) | exact HB.out)⟩⟩
                      · rw [if_neg c27] at H
                        have c27b0 : decide (x8_4 < 36) = false := decide_eq_false c27
                        clear c27
                        have HC38 := Aside0.mk H
                        clear H
                        go_upto_region 20 with (fail)
                        go_cut [100] (fun v100 wc => ∃ (kq : Nat) (x100_37 : Bool), v100 = .bool x100_37 ∧ Aside0 (tableaulaw08_RegionGrids.j4 kq l0 x3_1 x100_37 = some r) ∧ Aside0 (kq ≤ k4) ∧ Aside0 (Kd.R k23 23 wc w.heap.size (fun _ => True) u3 x3_1) ∧ Aside0 (Below w.heap.size w wc))
                        case first =>
                          have H := HC38.out
                          clear HC38
                          replace H := Option.bind_eq_some_iff.mp H
                          obtain ⟨t329, A390, H⟩ := H
                          replace H : (if t329 = true then ((region_Area.f k4 x3_1).bind fun t330 => (if t330 = (wrap64 (6 * x5_1)) then ((region_Check.f x3_1).bind fun t331 => (tableaulaw08_RegionGrids.j4 k4 l0 x3_1 (!t331))) else (tableaulaw08_RegionGrids.j4 k4 l0 x3_1 true))) else (tableaulaw08_RegionGrids.j4 k4 l0 x3_1 true)) = some r := H
                          have A39 := Aside0.mk A390
                          clear A390
                          by_cases c40 : t329 = true
                          · subst c40
                            have H1 : ((region_Area.f k4 x3_1).bind fun t330 => (if t330 = (wrap64 (6 * x5_1)) then ((region_Check.f x3_1).bind fun t331 => (tableaulaw08_RegionGrids.j4 k4 l0 x3_1 (!t331))) else (tableaulaw08_RegionGrids.j4 k4 l0 x3_1 true))) = some r := by rw [if_pos rfl] at H; exact H
                            clear H
                            have H := H1
                            clear H1
                            replace H := Option.bind_eq_some_iff.mp H
                            obtain ⟨t330, A410, H⟩ := H
                            replace H : (if t330 = (wrap64 (6 * x5_1)) then ((region_Check.f x3_1).bind fun t331 => (tableaulaw08_RegionGrids.j4 k4 l0 x3_1 (!t331))) else (tableaulaw08_RegionGrids.j4 k4 l0 x3_1 true)) = some r := H
                            have A41 := Aside0.mk A410
                            clear A410
                            by_cases c42 : t330 = (wrap64 (6 * x5_1))
                            · rw [if_pos c42] at H
                              have c42b0 : (t330 == (wrap64 (6 * x5_1))) = true := beq_iff_eq.mpr c42
                              have c42b1 : (t330 != (wrap64 (6 * x5_1))) = false := bne_eq_false_iff_eq.mpr c42
                              clear c42
                              (first | rw [c42b0] | (simp only [i64_w, i32_w]; rw [c42b0]) | skip)
                              replace H := Option.bind_eq_some_iff.mp H
                              obtain ⟨t331, A430, H⟩ := H
                              replace H : (tableaulaw08_RegionGrids.j4 k4 l0 x3_1 (!t331)) = some r := H
                              have A43 := Aside0.mk A430
                              clear A430
                              have H' := Aside0.mk H
                              clear H
                              obtain ⟨Ao44, co44, eo44⟩ := Kd.R_slice HO_3.out
                              subst eo44
                              obtain ⟨Ao45, co45, eo45⟩ := Kd.R_slice HO_4.out
                              subst eo45
                              go_wp2_with (first | ((with_reducible refine gate_callee (f := 20) rfl ?_); refine goesL_ (some 87) rfl rfl Try.func20 (by kernel_rfl) rfl #[.slice Ao44 x3_1.length co44, .slice Ao45 x4_3.length co45] rfl (by (try simp only [List.map_toArray, List.map_cons, List.map_nil]); first | done | rfl | (simp only [List.length_drop, List.length_take]; rfl)) ?_; (with_reducible refine (tableaulaw00_SameRects.calls k4 _ _ x3_1 _ _ x4_3 true _ ?side1 ?side2 ?side3 ?side4 A39.out).mono ?_); (case side1 => repeat (first | exact (Kd.R_reads' HO_3.out).2.2 | (with_reducible refine Kd.C_alloc ?_ _) | (with_reducible refine Kd.C_drewN ?_ _) | (with_reducible refine Kd.C_drew ?_))); (case side2 => exact (Kd.R_reads' HO_3.out).2.1); (case side3 => repeat (first | exact (Kd.R_reads' HO_4.out).2.2 | (with_reducible refine Kd.C_alloc ?_ _) | (with_reducible refine Kd.C_drewN ?_ _) | (with_reducible refine Kd.C_drew ?_))); (case side4 => exact (Kd.R_reads' HO_4.out).2.1); rintro e w' ⟨rfl, ⟨nd, rfl⟩⟩; refine ⟨_, rfl, ?_⟩) | (go_at_call 21; (with_reducible refine (region_Area.calls k4 _ _ x3_1 t330 _ ?side1 ?side2 A41.out).mono ?_); (case side1 => repeat (first | exact (Kd.R_reads' HO_3.out).2.2 | (with_reducible refine Kd.C_alloc ?_ _) | (with_reducible refine Kd.C_drewN ?_ _) | (with_reducible refine Kd.C_drew ?_))); (case side2 => exact (Kd.R_reads' HO_3.out).2.1); rintro e w46 ⟨rfl, hb⟩; have n0_ := Aside0.mk (Kd.R_below (by (with_reducible repeat (first | apply Kd.R_alloc | apply Kd.R_drewN | apply Kd.R_drew)); exact HO_3.out) hb); have n1_ := Aside0.mk (Kd.R_below (by (with_reducible repeat (first | apply Kd.R_alloc | apply Kd.R_drewN | apply Kd.R_drew)); exact HO_4.out) hb); have n2_ := Aside0.mk (below_step (by repeat (first | (with_reducible first | exact HB.out | apply below_alloc | apply pw_below_drewN | apply below_drew1) | exact HB.out)) hb); clear HO_3; clear HO_4; clear HB; have HO_3 := n0_; have HO_4 := n1_; have HB := n2_; clear n0_ n1_ n2_; (try clear hb); (try clear hb2); (try clear hk); (try clear hi)) | (go_at_call 16; (with_reducible refine (region_Check.calls _ _ x3_1 t331 _ ?side1 ?side2 A43.out).mono ?_); (case side1 => repeat (first | exact (Kd.R_reads' HO_3.out).2.2 | (with_reducible refine Kd.C_alloc ?_ _) | (with_reducible refine Kd.C_drewN ?_ _) | (with_reducible refine Kd.C_drew ?_))); (case side2 => exact (Kd.R_reads' HO_3.out).2.1); rintro e w47 ⟨rfl, hb⟩; have n0_ := Aside0.mk (Kd.R_below (by (with_reducible repeat (first | apply Kd.R_alloc | apply Kd.R_drewN | apply Kd.R_drew)); exact HO_3.out) hb); have n1_ := Aside0.mk (Kd.R_below (by (with_reducible repeat (first | apply Kd.R_alloc | apply Kd.R_drewN | apply Kd.R_drew)); exact HO_4.out) hb); have n2_ := Aside0.mk (below_step (by repeat (first | (with_reducible first | exact HB.out | apply below_alloc | apply pw_below_drewN | apply below_drew1) | exact HB.out)) hb); clear HO_3; clear HO_4; clear HB; have HO_3 := n0_; have HO_4 := n1_; have HB := n2_; clear n0_ n1_ n2_; (try clear hb); (try clear hb2); (try clear hk); (try clear hi)))
                              go_meet
                              case rel => exact ⟨_, (!t331), (by first | rfl | (simp; done) | (simp [*]; done)), H', ⟨by have := HK1.out; have := HJ1.out; have := HK3.out; have := HK4.out; first | omega | exact Nat.le_refl _⟩, ⟨by (with_reducible repeat (first | apply Kd.R_alloc | apply Kd.R_drewN | apply Kd.R_drew)); exact Kd.R_mono HO_3.out (fun _ hk => trivial)⟩, ⟨by repeat (first | (with_reducible first | exact HB.out | apply below_alloc | apply pw_below_drewN | apply below_drew1) | exact HB.out)⟩⟩
                            · rw [if_neg c42] at H
                              have c42b0 : (t330 == (wrap64 (6 * x5_1))) = false := beq_eq_false_iff_ne.mpr c42
                              have c42b1 : (t330 != (wrap64 (6 * x5_1))) = true := bne_iff_ne.mpr c42
                              (first | rw [c42b0] | (simp only [i64_w, i32_w]; rw [c42b0]) | skip)
                              have H' := Aside0.mk H
                              clear H
                              obtain ⟨Ao48, co48, eo48⟩ := Kd.R_slice HO_3.out
                              subst eo48
                              obtain ⟨Ao49, co49, eo49⟩ := Kd.R_slice HO_4.out
                              subst eo49
                              go_wp2_with (first | ((with_reducible refine gate_callee (f := 20) rfl ?_); refine goesL_ (some 87) rfl rfl Try.func20 (by kernel_rfl) rfl #[.slice Ao48 x3_1.length co48, .slice Ao49 x4_3.length co49] rfl (by (try simp only [List.map_toArray, List.map_cons, List.map_nil]); first | done | rfl | (simp only [List.length_drop, List.length_take]; rfl)) ?_; (with_reducible refine (tableaulaw00_SameRects.calls k4 _ _ x3_1 _ _ x4_3 true _ ?side1 ?side2 ?side3 ?side4 A39.out).mono ?_); (case side1 => repeat (first | exact (Kd.R_reads' HO_3.out).2.2 | (with_reducible refine Kd.C_alloc ?_ _) | (with_reducible refine Kd.C_drewN ?_ _) | (with_reducible refine Kd.C_drew ?_))); (case side2 => exact (Kd.R_reads' HO_3.out).2.1); (case side3 => repeat (first | exact (Kd.R_reads' HO_4.out).2.2 | (with_reducible refine Kd.C_alloc ?_ _) | (with_reducible refine Kd.C_drewN ?_ _) | (with_reducible refine Kd.C_drew ?_))); (case side4 => exact (Kd.R_reads' HO_4.out).2.1); rintro e w' ⟨rfl, ⟨nd, rfl⟩⟩; refine ⟨_, rfl, ?_⟩) | (go_at_call 21; (with_reducible refine (region_Area.calls k4 _ _ x3_1 t330 _ ?side1 ?side2 A41.out).mono ?_); (case side1 => repeat (first | exact (Kd.R_reads' HO_3.out).2.2 | (with_reducible refine Kd.C_alloc ?_ _) | (with_reducible refine Kd.C_drewN ?_ _) | (with_reducible refine Kd.C_drew ?_))); (case side2 => exact (Kd.R_reads' HO_3.out).2.1); rintro e w50 ⟨rfl, hb⟩; have n0_ := Aside0.mk (Kd.R_below (by (with_reducible repeat (first | apply Kd.R_alloc | apply Kd.R_drewN | apply Kd.R_drew)); exact HO_3.out) hb); have n1_ := Aside0.mk (Kd.R_below (by (with_reducible repeat (first | apply Kd.R_alloc | apply Kd.R_drewN | apply Kd.R_drew)); exact HO_4.out) hb); have n2_ := Aside0.mk (below_step (by repeat (first | (with_reducible first | exact HB.out | apply below_alloc | apply pw_below_drewN | apply below_drew1) | exact HB.out)) hb); clear HO_3; clear HO_4; clear HB; have HO_3 := n0_; have HO_4 := n1_; have HB := n2_; clear n0_ n1_ n2_; (try clear hb); (try clear hb2); (try clear hk); (try clear hi)))
                              go_meet
                              case rel => exact ⟨_, (true), (by first | rfl | (simp; done) | (simp [*]; done)), H', ⟨by have := HK1.out; have := HJ1.out; have := HK3.out; have := HK4.out; first | omega | exact Nat.le_refl _⟩, ⟨by (with_reducible repeat (first | apply Kd.R_alloc | apply Kd.R_drewN | apply Kd.R_drew)); exact Kd.R_mono HO_3.out (fun _ hk => trivial)⟩, ⟨by repeat (first | (with_reducible first | exact HB.out | apply below_alloc | apply pw_below_drewN | apply below_drew1) | exact HB.out)⟩⟩
                          · replace c40 := Bool.eq_false_iff.mpr c40
                            subst c40
                            have H1 : (tableaulaw08_RegionGrids.j4 k4 l0 x3_1 true) = some r := by rw [if_neg (show ¬ (false = true) by decide)] at H; exact H
                            clear H
                            have H := H1
                            clear H1
                            have H' := Aside0.mk H
                            clear H
                            obtain ⟨Ao51, co51, eo51⟩ := Kd.R_slice HO_3.out
                            subst eo51
                            obtain ⟨Ao52, co52, eo52⟩ := Kd.R_slice HO_4.out
                            subst eo52
                            go_wp2_with (first | ((with_reducible refine gate_callee (f := 20) rfl ?_); refine goesL_ (some 87) rfl rfl Try.func20 (by kernel_rfl) rfl #[.slice Ao51 x3_1.length co51, .slice Ao52 x4_3.length co52] rfl (by (try simp only [List.map_toArray, List.map_cons, List.map_nil]); first | done | rfl | (simp only [List.length_drop, List.length_take]; rfl)) ?_; (with_reducible refine (tableaulaw00_SameRects.calls k4 _ _ x3_1 _ _ x4_3 false _ ?side1 ?side2 ?side3 ?side4 A39.out).mono ?_); (case side1 => repeat (first | exact (Kd.R_reads' HO_3.out).2.2 | (with_reducible refine Kd.C_alloc ?_ _) | (with_reducible refine Kd.C_drewN ?_ _) | (with_reducible refine Kd.C_drew ?_))); (case side2 => exact (Kd.R_reads' HO_3.out).2.1); (case side3 => repeat (first | exact (Kd.R_reads' HO_4.out).2.2 | (with_reducible refine Kd.C_alloc ?_ _) | (with_reducible refine Kd.C_drewN ?_ _) | (with_reducible refine Kd.C_drew ?_))); (case side4 => exact (Kd.R_reads' HO_4.out).2.1); rintro e w' ⟨rfl, ⟨nd, rfl⟩⟩; refine ⟨_, rfl, ?_⟩))
                            go_meet
                            case rel => exact ⟨_, (true), (by first | rfl | (simp; done) | (simp [*]; done)), H', ⟨by have := HK1.out; have := HJ1.out; have := HK3.out; have := HK4.out; first | omega | exact Nat.le_refl _⟩, ⟨by (with_reducible repeat (first | apply Kd.R_alloc | apply Kd.R_drewN | apply Kd.R_drew)); exact Kd.R_mono HO_3.out (fun _ hk => trivial)⟩, ⟨by repeat (first | (with_reducible first | exact HB.out | apply below_alloc | apply pw_below_drewN | apply below_drew1) | exact HB.out)⟩⟩
                        case rest =>
                          clear HC38
                          try clear c1
                          try clear q1
                          try clear c2
                          try clear p2
                          try clear c3
                          try clear c3b0
                          try clear p3
                          try clear q3
                          try clear hx3
                          try clear c4
                          try clear c5
                          try clear c5b0
                          try clear c6
                          try clear c6b0
                          try clear p6
                          try clear q7
                          try clear c8
                          try clear c16
                          try clear c16b0
                          try clear c17
                          try clear c17b0
                          try clear c18
                          try clear c18b0
                          try clear c19
                          try clear q19
                          try clear c20
                          try clear c27
                          try clear c27b0
                          try clear c28
                          try clear c28b0
                          try clear c29
                          try clear c29b0
                          try clear c31
                          try clear c31b0
                          try clear c31b1
                          try clear c31b2
                          try clear p31
                          try clear q31
                          try clear hx31
                          try clear p32
                          try clear q32
                          try clear hx32
                          try clear c35
                          try clear c35b0
                          try clear c35b1
                          try clear c35b2
                          try clear c40
                          try clear c42
                          try clear c42b0
                          try clear c42b1
                          try clear hx312_0
                          try clear hx319_0
                          try clear hx326_0
                          try clear p2
                          try clear p3
                          try clear p312
                          try clear p319
                          try clear p326
                          try clear p6
                          try clear q1
                          try clear q19
                          try clear q3
                          try clear q312
                          try clear q319
                          try clear q326
                          try clear q7
                          obtain ⟨kq, x100_37, rfl, HA, HJ37, HO_3, HB⟩ := hcut
                          cases kq with
                          | zero => exact absurd HA.out (by simp [tableaulaw08_RegionGrids.j4])
                          | succ kj37 =>
                            have H := HA.out
                            clear HA
                            simp only [tableaulaw08_RegionGrids.j4] at H
                            by_cases c53 : x100_37 = true
                            · subst c53
                              have H1 : (some false) = some r := by rw [if_pos rfl] at H; exact H
                              clear H
                              have H := H1
                              clear H1
                              exact absurd H (by rw [HT.out]; simp)
                            · replace c53 := Bool.eq_false_iff.mpr c53
                              subst c53
                              have H1 : (tableaulaw08_RegionGrids.l3 kj37 l0 x3_1 0) = some r := by rw [if_neg (show ¬ (false = true) by decide)] at H; exact H
                              clear H
                              have H := H1
                              clear H1
                              have H' := Aside0.mk H
                              clear H
                              go_wp2
                              go_loopg [3, 10] kj37 (fun kq v3 v10 w' => ∃ (x3_6 : List (S23)) (x10_6 : Int), v10 = .int .i64 x10_6 ∧ Aside0 (tableaulaw08_RegionGrids.l3 kq l0 x3_6 x10_6 = some r) ∧ Aside0 (kq ≤ kj37) ∧ Aside0 (Kd.R k23 23 w' w.heap.size (fun _ => True) v3 x3_6) ∧ Aside0 (Below w.heap.size w w'))
                              case atStart => exact ⟨(x3_1), (0), (by first | rfl | (simp; done) | (simp [*]; done)), H', ⟨Nat.le_refl _⟩, ⟨by (with_reducible repeat (first | apply Kd.R_alloc | apply Kd.R_drewN | apply Kd.R_drew)); exact HO_3.out⟩, ⟨by repeat (first | (with_reducible first | exact HB.out | apply below_alloc | apply pw_below_drewN | apply below_drew1) | exact HB.out)⟩⟩
                              case round =>
                                clear H'
                                try clear c1
                                try clear q1
                                try clear c2
                                try clear p2
                                try clear c3
                                try clear c3b0
                                try clear p3
                                try clear q3
                                try clear hx3
                                try clear c4
                                try clear c5
                                try clear c5b0
                                try clear c6
                                try clear c6b0
                                try clear p6
                                try clear q7
                                try clear c8
                                try clear c16
                                try clear c16b0
                                try clear c17
                                try clear c17b0
                                try clear c18
                                try clear c18b0
                                try clear c19
                                try clear q19
                                try clear c20
                                try clear c27
                                try clear c27b0
                                try clear c28
                                try clear c28b0
                                try clear c29
                                try clear c29b0
                                try clear c31
                                try clear c31b0
                                try clear c31b1
                                try clear c31b2
                                try clear p31
                                try clear q31
                                try clear hx31
                                try clear p32
                                try clear q32
                                try clear hx32
                                try clear c35
                                try clear c35b0
                                try clear c35b1
                                try clear c35b2
                                try clear c40
                                try clear c42
                                try clear c42b0
                                try clear c42b1
                                try clear c53
                                try clear hx312_0
                                try clear hx319_0
                                try clear hx326_0
                                try clear p2
                                try clear p3
                                try clear p31
                                try clear p312
                                try clear p319
                                try clear p32
                                try clear p326
                                try clear p6
                                try clear q1
                                try clear q19
                                try clear q3
                                try clear q31
                                try clear q312
                                try clear q319
                                try clear q32
                                try clear q326
                                try clear q7
                                obtain ⟨x3_6, x10_6, rfl, HA, HK6, HO_3, HB⟩ := hrel
                                cases gk with
                                | zero => exact absurd HA.out (by simp [tableaulaw08_RegionGrids.l3])
                                | succ k6 =>
                                  have H := HA.out
                                  clear HA
                                  simp only [tableaulaw08_RegionGrids.l3] at H
                                  by_cases c54 : x10_6 < (l0.length : Int)
                                  · rw [if_pos c54] at H
                                    have c54b0 : decide (x10_6 < (l0.length : Int)) = true := decide_eq_true c54
                                    clear c54
                                    by_cases c55 : x10_6 < 36
                                    · rw [if_pos c55] at H
                                      have c55b0 : decide (x10_6 < 36) = true := decide_eq_true c55
                                      clear c55
                                      obtain ⟨y332, hy332⟩ : ∃ y_ : List (S23), y_ = (([(⟨wrap64 (3 * (Int.tmod x10_6 6)), wrap64 (2 * (wrap64 (Int.tdiv x10_6 6))), 3, 2⟩ : S23)] : List (S23))) := ⟨_, rfl⟩
                                      replace H : ((region_Subtract.f x3_6 y332).bind fun t335 => (tableaulaw08_RegionGrids.l3 k6 l0 t335 (wrap64 (x10_6 + 1)))) = some r := by first | (rw [hy332]; with_reducible exact H) | (have H2_ := (Option.bind_some _ _).symm.trans H; rw [hy332]; with_reducible exact H2_) | (have H2_ := (Option.bind_some _ _).symm.trans H; with_reducible exact H2_) | with_reducible exact H | (rw [hy332]; exact H) | exact H
                                      have Ny332 := Aside0.mk hy332
                                      clear hy332
                                      replace H := Option.bind_eq_some_iff.mp H
                                      obtain ⟨t335, A560, H⟩ := H
                                      replace H : (tableaulaw08_RegionGrids.l3 k6 l0 t335 (wrap64 (x10_6 + 1))) = some r := H
                                      have A56 := Aside0.mk A560
                                      clear A560
                                      have H' := Aside0.mk H
                                      clear H
                                      go_wp2_with (first | ((with_reducible refine gate_dst (N := 119) rfl ?_); refine Kd.R_lit k23 _ 23 ?hg (N := 119) ?hd (xs := ([(⟨wrap64 (3 * (Int.tmod x10_6 6)), wrap64 (2 * (wrap64 (Int.tdiv x10_6 6))), 3, 2⟩ : S23)] : List (S23))) (inner := [.int .i64 (wrap64 (3 * (Int.tmod x10_6 6))), .int .i64 (wrap64 (2 * (wrap64 (Int.tdiv x10_6 6)))), .int .i64 3, .int .i64 2]) (ok := fun _ => True) (okp := fun _ => True) ?hr ?hp (fun _ hk => hk) trivial (Below.refl _ _) (Nat.le_refl _) (by simp) ?_; (case hd => rfl); (case hg => rfl); (case hr => first | (go_simp; done) | (go_simp; rfl)); (case hp => exact (Reps.c4 (show Kd.M k23 _ _ _ (⟨wrap64 (3 * (Int.tmod x10_6 6)), wrap64 (2 * (wrap64 (Int.tdiv x10_6 6))), 3, 2⟩ : S23) [.int .i64 (wrap64 (3 * (Int.tmod x10_6 6))), .int .i64 (wrap64 (2 * (wrap64 (Int.tdiv x10_6 6)))), .int .i64 3, .int .i64 2] from (k23_mkM _ _ _ (⟨wrap64 (3 * (Int.tmod x10_6 6)), wrap64 (2 * (wrap64 (Int.tdiv x10_6 6))), 3, 2⟩ : S23) )) (Reps.none _ _))); intro v333 w57 ho58 hb hg_ hnew_; clear hg_ hnew_; (first | rw [← Ny332.out] at ho58 | (simp only [Int.reduceToNat] at ho58; rw [← Ny332.out] at ho58)); have n0_ := Aside0.mk (Kd.R_elder' (by (with_reducible repeat (first | apply Kd.R_alloc | apply Kd.R_drewN | apply Kd.R_drew)); exact HO_3.out) (Kd.R_base ho58) hb); have n1_ := Aside0.mk (Kd.R_lower (Kd.R_new' ho58 (Kd.R_lt (by (with_reducible repeat (first | apply Kd.R_alloc | apply Kd.R_drewN | apply Kd.R_drew)); exact HO_3.out))) (below_size (by repeat (first | (with_reducible first | exact HB.out | apply below_alloc | apply pw_below_drewN | apply below_drew1) | exact HB.out)))); have n2_ := Aside0.mk (below_step (by repeat (first | (with_reducible first | exact HB.out | apply below_alloc | apply pw_below_drewN | apply below_drew1) | exact HB.out)) hb); clear HO_3; clear HB; have HO_3 := n0_; have HO334 := n1_; have HB := n2_; clear n0_ n1_ n2_; clear hb ho58; obtain ⟨Ao59, co59, eo59⟩ := Kd.R_slice HO_3.out; subst eo59; obtain ⟨Ao60, co60, eo60⟩ := Kd.R_slice HO334.out; subst eo60) | ((with_reducible refine gate_callee (f := 22) rfl ?_); refine goesL_ (some 120) rfl rfl Try.func22 (by kernel_rfl) rfl #[.slice Ao59 x3_6.length co59, .slice Ao60 y332.length co60] rfl (by (try simp only [List.map_toArray, List.map_cons, List.map_nil]); first | done | rfl | (simp only [List.length_drop, List.length_take]; rfl)) ?_; (with_reducible refine (region_Subtract.calls _ _ x3_6 _ _ y332 t335 _ ?side1 ?side2 ?side3 ?side4 A56.out).mono ?_); (case side1 => repeat (first | exact (Kd.R_reads' HO_3.out).2.2 | (with_reducible refine Kd.C_alloc ?_ _) | (with_reducible refine Kd.C_drewN ?_ _) | (with_reducible refine Kd.C_drew ?_))); (case side2 => exact (Kd.R_reads' HO_3.out).2.1); (case side3 => repeat (first | exact (Kd.R_reads' HO334.out).2.2 | (with_reducible refine Kd.C_alloc ?_ _) | (with_reducible refine Kd.C_drewN ?_ _) | (with_reducible refine Kd.C_drew ?_))); (case side4 => exact (Kd.R_reads' HO334.out).2.1); rintro e w61 ⟨v336, rfl, ho0, hb⟩; refine ⟨_, rfl, ?_⟩; have n0_ := Aside0.mk (Kd.R_elder' (by (with_reducible repeat (first | apply Kd.R_alloc | apply Kd.R_drewN | apply Kd.R_drew)); exact HO_3.out) (Kd.R_base ho0) hb); have n1_ := Aside0.mk (Kd.R_elder' (by (with_reducible repeat (first | apply Kd.R_alloc | apply Kd.R_drewN | apply Kd.R_drew)); exact HO334.out) (Kd.R_base ho0) hb); have n2_ := Aside0.mk (Kd.R_lower (Kd.R_new' (Kd.R_new' ho0 (Kd.R_lt (by (with_reducible repeat (first | apply Kd.R_alloc | apply Kd.R_drewN | apply Kd.R_drew)); exact HO_3.out))) (Kd.R_lt (by (with_reducible repeat (first | apply Kd.R_alloc | apply Kd.R_drewN | apply Kd.R_drew)); exact HO334.out))) (below_size (by repeat (first | (with_reducible first | exact HB.out | apply below_alloc | apply pw_below_drewN | apply below_drew1) | exact HB.out)))); have n3_ := Aside0.mk (below_step (by repeat (first | (with_reducible first | exact HB.out | apply below_alloc | apply pw_below_drewN | apply below_drew1) | exact HB.out)) hb); clear HO_3; clear HO334; clear HB; have HO_3 := n0_; have HO334 := n1_; have HO337 := n2_; have HB := n3_; clear n0_ n1_ n2_ n3_; (try clear hb); (try clear hb2); (try clear hk); (try clear hi); (try clear ho0)))
                                      go_roundg k6
                                      case measure => have := HK1.out; have := HJ1.out; have := HK3.out; have := HK4.out; have := HJ37.out; have := HK6.out; omega
                                      case rel => exact ⟨(t335), (wrap64 (x10_6 + 1)), (by first | rfl | (simp; done) | (simp [*]; done)), H', ⟨by have := HK1.out; have := HJ1.out; have := HK3.out; have := HK4.out; have := HJ37.out; have := HK6.out; omega⟩, ⟨by (with_reducible repeat (first | apply Kd.R_alloc | apply Kd.R_drewN | apply Kd.R_drew)); exact Kd.R_mono HO337.out (fun _ hk => trivial)⟩, ⟨by repeat (first | (with_reducible first | exact HB.out | apply below_alloc | apply pw_below_drewN | apply below_drew1) | exact HB.out)⟩⟩
                                    · rw [if_neg c55] at H
                                      have c55b0 : decide (x10_6 < 36) = false := decide_eq_false c55
                                      clear c55
                                      by_cases c62 : (x3_6.length : Int) = 0
                                      · rw [if_pos c62] at H
                                        have c62b0 : ((x3_6.length : Int) == 0) = true := beq_iff_eq.mpr c62
                                        have c62b1 : ((x3_6.length : Int) != 0) = false := bne_eq_false_iff_eq.mpr c62
                                        clear c62
                                        replace H := Option.bind_eq_some_iff.mp H
                                        obtain ⟨t338, A630, H⟩ := H
                                        replace H : (some t338) = some r := H
                                        have A63 := Aside0.mk A630
                                        clear A630
                                        obtain rfl := Option.some.inj H
                                        obtain ⟨Ao64, co64, eo64⟩ := Kd.R_slice HO_3.out
                                        subst eo64
                                        go_wp2_with (first | (go_at_call 17; (with_reducible refine (tableaulaw08_awake.calls k6  t338 _ A63.out).mono ?_); rintro e w65 ⟨rfl, hb⟩; have n0_ := Aside0.mk (Kd.R_below (by (with_reducible repeat (first | apply Kd.R_alloc | apply Kd.R_drewN | apply Kd.R_drew)); exact HO_3.out) hb); have n1_ := Aside0.mk (below_step (by repeat (first | (with_reducible first | exact HB.out | apply below_alloc | apply pw_below_drewN | apply below_drew1) | exact HB.out)) hb); clear HO_3; clear HB; have HO_3 := n0_; have HB := n1_; clear n0_ n1_; (try clear hb); (try clear hb2); (try clear hk); (try clear hi)))
                                        go_ret
                                        exact ⟨by first | rfl | (simp [errW_none, errW_some] <;> rfl) | (simp only [← hji15]; first | rfl | (simp [errW_none, errW_some] <;> rfl)) | (simp [*, errW_none, errW_some] <;> rfl), by repeat (first | (with_reducible first | exact HB.out | apply below_alloc | apply pw_below_drewN | apply below_drew1) | exact HB.out)⟩
                                      · rw [if_neg c62] at H
                                        have c62b0 : ((x3_6.length : Int) == 0) = false := beq_eq_false_iff_ne.mpr c62
                                        have c62b1 : ((x3_6.length : Int) != 0) = true := bne_iff_ne.mpr c62
                                        have c62b2 : ¬ (x3_6 = []) := fun h_ => c62 (by rw [h_]; rfl)
                                        exact absurd H (by rw [HT.out]; simp)
                                  · rw [if_neg c54] at H
                                    have c54b0 : decide (x10_6 < (l0.length : Int)) = false := decide_eq_false c54
                                    clear c54
                                    by_cases c66 : (x3_6.length : Int) = 0
                                    · rw [if_pos c66] at H
                                      have c66b0 : ((x3_6.length : Int) == 0) = true := beq_iff_eq.mpr c66
                                      have c66b1 : ((x3_6.length : Int) != 0) = false := bne_eq_false_iff_eq.mpr c66
                                      clear c66
                                      replace H := Option.bind_eq_some_iff.mp H
                                      obtain ⟨t339, A670, H⟩ := H
                                      replace H : (some t339) = some r := H
                                      have A67 := Aside0.mk A670
                                      clear A670
                                      obtain rfl := Option.some.inj H
                                      obtain ⟨Ao68, co68, eo68⟩ := Kd.R_slice HO_3.out
                                      subst eo68
                                      go_wp2_with (first | (go_at_call 17; (with_reducible refine (tableaulaw08_awake.calls k6  t339 _ A67.out).mono ?_); rintro e w69 ⟨rfl, hb⟩; have n0_ := Aside0.mk (Kd.R_below (by (with_reducible repeat (first | apply Kd.R_alloc | apply Kd.R_drewN | apply Kd.R_drew)); exact HO_3.out) hb); have n1_ := Aside0.mk (below_step (by repeat (first | (with_reducible first | exact HB.out | apply below_alloc | apply pw_below_drewN | apply below_drew1) | exact HB.out)) hb); clear HO_3; clear HB; have HO_3 := n0_; have HB := n1_; clear n0_ n1_; (try clear hb); (try clear hb2); (try clear hk); (try clear hi)))
                                      go_ret
                                      exact ⟨by first | rfl | (simp [errW_none, errW_some] <;> rfl) | (simp only [← hji15]; first | rfl | (simp [errW_none, errW_some] <;> rfl)) | (simp [*, errW_none, errW_some] <;> rfl), by repeat (first | (with_reducible first | exact HB.out | apply below_alloc | apply pw_below_drewN | apply below_drew1) | exact HB.out)⟩
                                    · rw [if_neg c66] at H
                                      have c66b0 : ((x3_6.length : Int) == 0) = false := beq_eq_false_iff_ne.mpr c66
                                      have c66b1 : ((x3_6.length : Int) != 0) = true := bne_iff_ne.mpr c66
                                      have c66b2 : ¬ (x3_6 = []) := fun h_ => c66 (by rw [h_]; rfl)
                                      exact absurd H (by rw [HT.out]; simp)

end Go.Proofs.Ytogcokfildbodaa.PA
