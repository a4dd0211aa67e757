-- Printed for this claim by a program over the kit's print.
import Derived.Test.YtogcokfildbodaaPMx0
import Derived.Test.YtogcokfildbodaaPMx1
import Derived.Test.YtogcokfildbodaaPMx2
import Derived.Test.YtogcokfildbodaaPMG
namespace Go.Proofs.Ytogcokfildbodaa.PM
open Go.RowKit Go.Proofs.YtogcokfildbodaaW.PrintWords Go.Proofs.YtogcokfildbodaaW.PrintLast Go.Proofs.YtogcokfildbodaaW.PrintMore
attribute [local go_sem] max2_int min2_int max_two min_two max_three min_three max_four min_four   -- for this text's walks alone
set_option linter.unusedVariables false
set_option linter.unusedSimpArgs false

attribute [local go_sem high] eqA23
/-! ### region_Area: function 21 -/
def region_Area.l0 : Nat → Int → List (S23) → Int → Int → Option (Int)
  | 0, _, _, _, _ => none
  | k + 1, x3, x8, x9, x10 => if x10 < x9 then (if 0 ≤ x10 then (if x10 < (x8.length : Int) then (region_Area.l0 k (wrap64 (x3 + (wrap64 (((rd_T23 x8 x10).f2) * ((rd_T23 x8 x10).f3))))) x8 x9 (wrap64 (x10 + 1))) else (none)) else (none)) else (some x3)
def region_Area.f (k : Nat) (l0 : List (S23)) : Option (Int) := (region_Check.f l0).bind fun t101 => (if t101 = true then (region_Area.l0 k 0 l0 (l0.length : Int) 0) else (some 0))
theorem region_Area.mono_l : ∀ k, (∀ y0 y1 y2 y3, LeO (region_Area.l0 k y0 y1 y2 y3) (region_Area.l0 (k + 1) y0 y1 y2 y3))
  | 0 => fun _ _ _ _ r h => by simp [region_Area.l0] at h
  | k + 1 => by
    have ih0 := region_Area.mono_l k
    · intro y0 y1 y2 y3
      unfold region_Area.l0
      repeat' first
      | (with_reducible exact ih0 _ _ _ _)
      | (with_reducible exact LeO.refl _)
      | (with_reducible exact LeO.none _)
      | (with_reducible refine LeO.ite ?_ ?_)
      | (with_reducible refine LeO.bind ?_ (fun _ => ?_))
      | exact ih0 _ _ _ _
      | exact LeO.none _
      | refine LeO.ite ?_ ?_
      | refine LeO.bind ?_ (fun _ => ?_)
theorem region_Area.mono : ∀ a0 k, LeO (region_Area.f k a0) (region_Area.f (k + 1) a0) := by
  intro a0 k
  have ih0 := region_Area.mono_l k
  unfold region_Area.f
  repeat' first
      | (with_reducible exact ih0 _ _ _ _)
      | (with_reducible exact LeO.refl _)
      | (with_reducible exact LeO.none _)
      | (with_reducible refine LeO.ite ?_ ?_)
      | (with_reducible refine LeO.bind ?_ (fun _ => ?_))
      | exact ih0 _ _ _ _
      | exact LeO.none _
      | refine LeO.ite ?_ ?_
      | refine LeO.bind ?_ (fun _ => ?_)
set_option maxHeartbeats 8000000 in
set_option maxRecDepth 100000 in
theorem region_Area.calls (k : Nat) (A0 : Option Addr) (c0 : Nat) (l0 : List (S23)) (r : Int) (w : World) (hr0 : Kd.C k23 w A0 l0.length l0) (hc0 : l0.length ≤ c0) (h : region_Area.f k l0 = some r) :
    Calls Try.prog 21 #[.slice A0 l0.length c0] w fun e w' => e = .returned (.int .i64 r) ∧ Below w.heap.size w w' := by
  have hu23 := Try.underlying23
  have HR0 := Aside0.mk hr0
  have HC0 := Aside0.mk hc0
  clear hr0 hc0
  have HB := Aside0.mk (Below.refl w.heap.size w)
  have H : ((region_Check.f l0).bind fun t101 => (if t101 = true then (region_Area.l0 k 0 l0 (l0.length : Int) 0) else (some 0))) = some r := h
  clear h
  replace H := Option.bind_eq_some_iff.mp H
  obtain ⟨t101, A20, H⟩ := H
  replace H : (if t101 = true then (region_Area.l0 k 0 l0 (l0.length : Int) 0) else (some 0)) = some r := H
  have A2 := Aside0.mk A20
  clear A20
  by_cases c3 : t101 = true
  · subst c3
    have H1 : (region_Area.l0 k 0 l0 (l0.length : Int) 0) = some r := by rw [if_pos rfl] at H; exact H
    clear H
    have H := H1
    clear H1
    have H' := Aside0.mk H
    clear H
    go_enter Try.func21, Try.ntmps21
    go_wp2_with (first | ((with_reducible refine gate_callee (f := 16) rfl ?_); refine goesL_ (some 7) rfl rfl Try.func16 (by kernel_rfl) rfl #[.slice A0 l0.length c0] rfl (by (try simp only [List.map_toArray, List.map_cons, List.map_nil]); first | done | rfl | (simp only [List.length_drop, List.length_take]; rfl)) ?_; (with_reducible refine (region_Check.calls _ _ l0 true _ ?side1 ?side2 A2.out).mono ?_); (case side1 => repeat (first | exact HR0.out | (with_reducible refine Kd.C_alloc ?_ _) | (with_reducible refine Kd.C_drewN ?_ _) | (with_reducible refine Kd.C_drew ?_))); (case side2 => exact HC0.out); rintro e w4 ⟨rfl, hb⟩; refine ⟨_, rfl, ?_⟩; have n0_ := Aside0.mk (below_step (by repeat (first | (with_reducible first | exact HB.out | apply below_alloc | apply pw_below_drewN | apply below_drew1) | exact HB.out)) hb); clear HB; have HB := n0_; clear n0_; (try clear hb); (try clear hb2); (try clear hk); (try clear hi)))
    go_loopg [3, 10] k (fun kq v3 v10 w' => ∃ (x3_1 : Int) (x10_1 : Int), v3 = .int .i64 x3_1 ∧ v10 = .int .i64 x10_1 ∧ Aside0 (region_Area.l0 kq x3_1 l0 (l0.length : Int) x10_1 = some r) ∧ Aside0 (kq ≤ k) ∧ Aside0 (Below w.heap.size w w'))
    case atStart => exact ⟨(0), (0), (by first | rfl | (simp; done) | (simp [*]; done)), (by first | rfl | (simp; done) | (simp [*]; done)), H', ⟨Nat.le_refl _⟩, ⟨by repeat (first | (with_reducible first | exact HB.out | apply below_alloc | apply pw_below_drewN | apply below_drew1) | exact HB.out)⟩⟩
    case round =>
      clear H'
      try clear c1
      try clear c2
      try clear p2
      try clear c3
      obtain ⟨x3_1, x10_1, rfl, rfl, HA, HK1, HB⟩ := hrel
      cases gk with
      | zero => exact absurd HA.out (by simp [region_Area.l0])
      | succ k1 =>
        have H := HA.out
        clear HA
        simp only [region_Area.l0] at H
        by_cases c5 : x10_1 < (l0.length : Int)
        · rw [if_pos c5] at H
          have c5b0 : decide (x10_1 < (l0.length : Int)) = true := decide_eq_true c5
          clear c5
          by_cases c6 : 0 ≤ x10_1
          · rw [if_pos c6] at H
            have c6b0 : decide (0 ≤ x10_1) = true := decide_eq_true c6
            clear c6
            by_cases c7 : x10_1 < (l0.length : Int)
            · rw [if_pos c7] at H
              have c7b0 : decide (x10_1 < (l0.length : Int)) = true := decide_eq_true c7
              clear c7
              have H' := Aside0.mk H
              clear H
              have p102 : 0 ≤ (x10_1 : Int) := of_decide_eq_true (by first | (with_reducible assumption) | assumption)
              have q102 : x10_1 < (l0.length : Int) := of_decide_eq_true (by first | (with_reducible assumption) | assumption)
              obtain ⟨ad102, e102, hx102_0, hx102_1, hx102_2, hx102_3⟩ := at_T23 HR0.out x10_1 p102 q102
              cases e102
              replace hx102_0 := (HB.out.cell (World.block_lt_of_cell? w _ hx102_0)).trans hx102_0
              replace hx102_1 := (HB.out.cell (World.block_lt_of_cell? w _ hx102_1)).trans hx102_1
              replace hx102_2 := (HB.out.cell (World.block_lt_of_cell? w _ hx102_2)).trans hx102_2
              replace hx102_3 := (HB.out.cell (World.block_lt_of_cell? w _ hx102_3)).trans hx102_3
              replace p102 := eq_true p102
              replace q102 := eq_true q102
              go_wp2_with (first | ((with_reducible refine gate_dst (N := 5) rfl ?_); refine box_event ?hg (N := 5) ?hd (cs := #[.int .i64 0, .int .i64 0, .int .i64 0, .int .i64 0]) (t := 23) ?hr ?_; (case hd => rfl); (case hg => rfl); (case hr => first | (go_simp; done) | (go_simp; rfl)); intro gb103 hg w8 hbox hb; have n0_ := Aside0.mk (below_step (by repeat (first | (with_reducible first | exact HB.out | apply below_alloc | apply pw_below_drewN | apply below_drew1) | exact HB.out)) hb); have n1_ := Aside0.mk (hbox); have n2_ := Aside0.mk ((by rw [hg]; exact (below_size (by repeat (first | (with_reducible first | exact HB.out | apply below_alloc | apply pw_below_drewN | apply below_drew1) | exact HB.out))) : w.heap.size ≤ gb103)); have n3_ := Aside0.mk ((by rw [hg]; exact (below_size (by repeat (first | (with_reducible first | exact HB.out | apply below_alloc | apply pw_below_drewN | apply below_drew1) | exact HB.out))) : w.heap.size ≤ gb103)); clear HB; have HB := n0_; have BK103 := n1_; have GW103 := n2_; have GE103 := n3_; clear n0_ n1_ n2_ n3_; clear hb hbox hg; have hcz9_0 : w8.cell? ⟨gb103, 0, none⟩ = some (.int .i64 0) := (blk_cell BK103.out 0).trans rfl; have hcz9_1 : w8.cell? ⟨gb103, 1, none⟩ = some (.int .i64 0) := (blk_cell BK103.out 1).trans rfl; have hcz9_2 : w8.cell? ⟨gb103, 2, none⟩ = some (.int .i64 0) := (blk_cell BK103.out 2).trans rfl; have hcz9_3 : w8.cell? ⟨gb103, 3, none⟩ = some (.int .i64 0) := (blk_cell BK103.out 3).trans rfl; have hfz9_0 := blk_frozen BK103.out 0; have hfz9_1 := blk_frozen BK103.out 1; have hfz9_2 := blk_frozen BK103.out 2; have hfz9_3 := blk_frozen BK103.out 3))
              go_roundg k1
              case measure => have := HK1.out; omega
              case rel => exact ⟨(wrap64 (x3_1 + (wrap64 (((rd_T23 l0 x10_1).f2) * ((rd_T23 l0 x10_1).f3))))), (wrap64 (x10_1 + 1)), (by first | rfl | (simp; done) | (simp [*]; done)), (by first | rfl | (simp; done) | (simp [*]; done)), H', ⟨by have := HK1.out; omega⟩, ⟨by repeat (first | (with_reducible first | exact HB.out | apply below_alloc | apply pw_below_drewN | apply below_drew1 | refine below_set ?_ GE103.out) | exact HB.out)⟩⟩
            · rw [if_neg c7] at H
              exact absurd H (by simp)
          · rw [if_neg c6] at H
            exact absurd H (by simp)
        · rw [if_neg c5] at H
          have c5b0 : decide (x10_1 < (l0.length : Int)) = false := decide_eq_false c5
          clear c5
          obtain rfl := Option.some.inj H
          go_wp2
          go_ret
          exact ⟨by first | rfl | (simp [errW_none, errW_some] <;> rfl) | (simp [*, errW_none, errW_some] <;> rfl), by repeat (first | (with_reducible first | exact HB.out | apply below_alloc | apply pw_below_drewN | apply below_drew1) | exact HB.out)⟩
  · replace c3 := Bool.eq_false_iff.mpr c3
    subst c3
    have H1 : (some 0) = some r := by rw [if_neg (show ¬ (false = true) by decide)] at H; exact H
    clear H
    have H := H1
    clear H1
    obtain rfl := Option.some.inj H
    go_enter Try.func21, Try.ntmps21
    go_wp2_with (first | ((with_reducible refine gate_callee (f := 16) rfl ?_); refine goesL_ (some 7) rfl rfl Try.func16 (by kernel_rfl) rfl #[.slice A0 l0.length c0] rfl (by (try simp only [List.map_toArray, List.map_cons, List.map_nil]); first | done | rfl | (simp only [List.length_drop, List.length_take]; rfl)) ?_; (with_reducible refine (region_Check.calls _ _ l0 false _ ?side1 ?side2 A2.out).mono ?_); (case side1 => repeat (first | exact HR0.out | (with_reducible refine Kd.C_alloc ?_ _) | (with_reducible refine Kd.C_drewN ?_ _) | (with_reducible refine Kd.C_drew ?_))); (case side2 => exact HC0.out); rintro e w10 ⟨rfl, hb⟩; refine ⟨_, rfl, ?_⟩; have n0_ := Aside0.mk (below_step (by repeat (first | (with_reducible first | exact HB.out | apply below_alloc | apply pw_below_drewN | apply below_drew1) | exact HB.out)) hb); clear HB; have HB := n0_; clear n0_; (try clear hb); (try clear hb2); (try clear hk); (try clear hi)))
    go_ret
    exact ⟨by first | rfl | (simp [errW_none, errW_some] <;> rfl) | (simp [*, errW_none, errW_some] <;> rfl), by repeat (first | (with_reducible first | exact HB.out | apply below_alloc | apply pw_below_drewN | apply below_drew1) | exact HB.out)⟩

/-! ### tableaulaw08_awake: function 17 -/
def tableaulaw08_awake.f (k : Nat)  : Option (Bool) := (region_Union.f (([(⟨0, 0, 2, 2⟩ : S23)] : List (S23))) (([(⟨2, 0, 2, 2⟩ : S23)] : List (S23)))).bind fun t110 => (if (t110.length : Int) = 1 then (if 0 < (t110.length : Int) then (if (((rd_T23 t110 0).f0) == 0 && (((rd_T23 t110 0).f1) == 0 && (((rd_T23 t110 0).f2) == 4 && (((rd_T23 t110 0).f3) == 2)))) = true then ((region_Has.f t110 3 1).bind fun t114 => (if t114 = true then ((region_Area.f k t110).bind fun t115 => (some (t115 == 8))) else (some false))) else (some false)) else (none)) else (some false))
theorem tableaulaw08_awake.mono : ∀ k, LeO (tableaulaw08_awake.f k ) (tableaulaw08_awake.f (k + 1) ) := by
  intro  k
  unfold tableaulaw08_awake.f
  repeat' first
      | (with_reducible exact region_Area.mono _ _)
      | (with_reducible exact LeO.refl _)
      | (with_reducible exact LeO.none _)
      | (with_reducible refine LeO.ite ?_ ?_)
      | (with_reducible refine LeO.bind ?_ (fun _ => ?_))
      | exact region_Area.mono _ _
      | exact LeO.none _
      | refine LeO.ite ?_ ?_
      | refine LeO.bind ?_ (fun _ => ?_)
set_option maxHeartbeats 8000000 in
set_option maxRecDepth 100000 in
theorem tableaulaw08_awake.calls (k : Nat)  (r : Bool) (w : World) (h : tableaulaw08_awake.f k  = some r) :
    Calls Try.prog 17 #[] w fun e w' => e = .returned (.bool r) ∧ Below w.heap.size w w' := by
  have hu23 := Try.underlying23
  have HB := Aside0.mk (Below.refl w.heap.size w)
  have H : ((region_Union.f (([(⟨0, 0, 2, 2⟩ : S23)] : List (S23))) (([(⟨2, 0, 2, 2⟩ : S23)] : List (S23)))).bind fun t110 => (if (t110.length : Int) = 1 then (if 0 < (t110.length : Int) then (if (((rd_T23 t110 0).f0) == 0 && (((rd_T23 t110 0).f1) == 0 && (((rd_T23 t110 0).f2) == 4 && (((rd_T23 t110 0).f3) == 2)))) = true then ((region_Has.f t110 3 1).bind fun t114 => (if t114 = true then ((region_Area.f k t110).bind fun t115 => (some (t115 == 8))) else (some false))) else (some false)) else (none)) else (some false))) = some r := h
  clear h
  obtain ⟨y104, hy104⟩ : ∃ y_ : List (S23), y_ = (([(⟨0, 0, 2, 2⟩ : S23)] : List (S23))) := ⟨_, rfl⟩
  replace H : ((region_Union.f y104 (([(⟨2, 0, 2, 2⟩ : S23)] : List (S23)))).bind fun t110 => (if (t110.length : Int) = 1 then (if 0 < (t110.length : Int) then (if (((rd_T23 t110 0).f0) == 0 && (((rd_T23 t110 0).f1) == 0 && (((rd_T23 t110 0).f2) == 4 && (((rd_T23 t110 0).f3) == 2)))) = true then ((region_Has.f t110 3 1).bind fun t114 => (if t114 = true then ((region_Area.f k t110).bind fun t115 => (some (t115 == 8))) else (some false))) else (some false)) else (none)) else (some false))) = some r := by first | (rw [hy104]; with_reducible exact H) | (have H2_ := (Option.bind_some _ _).symm.trans H; rw [hy104]; with_reducible exact H2_) | (have H2_ := (Option.bind_some _ _).symm.trans H; with_reducible exact H2_) | with_reducible exact H | (rw [hy104]; exact H) | exact H
  have Ny104 := Aside0.mk hy104
  clear hy104
  obtain ⟨y107, hy107⟩ : ∃ y_ : List (S23), y_ = (([(⟨2, 0, 2, 2⟩ : S23)] : List (S23))) := ⟨_, rfl⟩
  replace H : ((region_Union.f y104 y107).bind fun t110 => (if (t110.length : Int) = 1 then (if 0 < (t110.length : Int) then (if (((rd_T23 t110 0).f0) == 0 && (((rd_T23 t110 0).f1) == 0 && (((rd_T23 t110 0).f2) == 4 && (((rd_T23 t110 0).f3) == 2)))) = true then ((region_Has.f t110 3 1).bind fun t114 => (if t114 = true then ((region_Area.f k t110).bind fun t115 => (some (t115 == 8))) else (some false))) else (some false)) else (none)) else (some false))) = some r := by first | (rw [hy107]; with_reducible exact H) | (have H2_ := (Option.bind_some _ _).symm.trans H; rw [hy107]; with_reducible exact H2_) | (have H2_ := (Option.bind_some _ _).symm.trans H; with_reducible exact H2_) | with_reducible exact H | (rw [hy107]; exact H) | exact H
  have Ny107 := Aside0.mk hy107
  clear hy107
  replace H := Option.bind_eq_some_iff.mp H
  obtain ⟨t110, A10, H⟩ := H
  replace H : (if (t110.length : Int) = 1 then (if 0 < (t110.length : Int) then (if (((rd_T23 t110 0).f0) == 0 && (((rd_T23 t110 0).f1) == 0 && (((rd_T23 t110 0).f2) == 4 && (((rd_T23 t110 0).f3) == 2)))) = true then ((region_Has.f t110 3 1).bind fun t114 => (if t114 = true then ((region_Area.f k t110).bind fun t115 => (some (t115 == 8))) else (some false))) else (some false)) else (none)) else (some false)) = some r := H
  have A1 := Aside0.mk A10
  clear A10
  by_cases c2 : (t110.length : Int) = 1
  · rw [if_pos c2] at H
    have c2b0 : ((t110.length : Int) == 1) = true := beq_iff_eq.mpr c2
    have c2b1 : ((t110.length : Int) != 1) = false := bne_eq_false_iff_eq.mpr c2
    clear c2
    by_cases c3 : 0 < (t110.length : Int)
    · rw [if_pos c3] at H
      have c3b0 : decide (0 < (t110.length : Int)) = true := decide_eq_true c3
      have c3b1 : decide (0 < t110.length) = true := decide_eq_true (by omega)
      clear c3
      by_cases c4 : (((rd_T23 t110 0).f0) == 0 && (((rd_T23 t110 0).f1) == 0 && (((rd_T23 t110 0).f2) == 4 && (((rd_T23 t110 0).f3) == 2)))) = true
      · rw [if_pos c4] at H
        have c4b0 : (((rd_T23 t110 0).f0) == 0 && (((rd_T23 t110 0).f1) == 0 && (((rd_T23 t110 0).f2) == 4 && (((rd_T23 t110 0).f3) == 2)))) = true := c4
        (try (have c4b1 : decide (((rd_T23 t110 0).f0) = 0 && (((rd_T23 t110 0).f1) == 0 && (((rd_T23 t110 0).f2) == 4 && (((rd_T23 t110 0).f3) == 2)))) = true := by simpa using c4))
        (try (have c4b2 : (((rd_T23 t110 0).f0) == 0 && (((rd_T23 t110 0).f1) == 0 && (((rd_T23 t110 0).f2) == 4 && (((rd_T23 t110 0).f3) == 2)))) = true := by simpa using c4))
        clear c4
        replace H := Option.bind_eq_some_iff.mp H
        obtain ⟨t114, A50, H⟩ := H
        replace H : (if t114 = true then ((region_Area.f k t110).bind fun t115 => (some (t115 == 8))) else (some false)) = some r := H
        have A5 := Aside0.mk A50
        clear A50
        by_cases c6 : t114 = true
        · subst c6
          have H1 : ((region_Area.f k t110).bind fun t115 => (some (t115 == 8))) = some r := by rw [if_pos rfl] at H; exact H
          clear H
          have H := H1
          clear H1
          replace H := Option.bind_eq_some_iff.mp H
          obtain ⟨t115, A70, H⟩ := H
          replace H : (some (t115 == 8)) = some r := H
          have A7 := Aside0.mk A70
          clear A70
          obtain rfl := Option.some.inj H
          go_enter Try.func17, Try.ntmps17
          go_wp2_with (first | ((with_reducible refine gate_dst (N := 3) rfl ?_); refine Kd.R_lit k23 _ 23 ?hg (N := 3) ?hd (xs := ([(⟨0, 0, 2, 2⟩ : S23)] : List (S23))) (inner := [.int .i64 0, .int .i64 0, .int .i64 2, .int .i64 2]) (ok := fun _ => True) (okp := fun _ => True) ?hr ?hp (fun _ hk => hk) trivial (Below.refl _ _) (Nat.le_refl _) (by simp) ?_; (case hd => rfl); (case hg => rfl); (case hr => first | (go_simp; done) | (go_simp; rfl)); (case hp => exact (Reps.c4 (show Kd.M k23 _ _ _ (⟨0, 0, 2, 2⟩ : S23) [.int .i64 0, .int .i64 0, .int .i64 2, .int .i64 2] from (k23_mkM _ _ _ (⟨0, 0, 2, 2⟩ : S23) )) (Reps.none _ _))); intro v105 w8 ho9 hb hg_ hnew_; clear hg_ hnew_; (first | rw [← Ny104.out] at ho9 | (simp only [Int.reduceToNat] at ho9; rw [← Ny104.out] at ho9)); have n0_ := Aside0.mk (Kd.R_lower ho9 (below_size (by repeat (first | (with_reducible first | exact HB.out | apply below_alloc | apply pw_below_drewN | apply below_drew1) | exact HB.out)))); have n1_ := Aside0.mk (below_step (by repeat (first | (with_reducible first | exact HB.out | apply below_alloc | apply pw_below_drewN | apply below_drew1) | exact HB.out)) hb); clear HB; have HO106 := n0_; have HB := n1_; clear n0_ n1_; clear hb ho9) | ((with_reducible refine gate_dst (N := 5) rfl ?_); refine Kd.R_lit k23 _ 23 ?hg (N := 5) ?hd (xs := ([(⟨2, 0, 2, 2⟩ : S23)] : List (S23))) (inner := [.int .i64 2, .int .i64 0, .int .i64 2, .int .i64 2]) (ok := fun _ => True) (okp := fun _ => True) ?hr ?hp (fun _ hk => hk) trivial (Below.refl _ _) (Nat.le_refl _) (by simp) ?_; (case hd => rfl); (case hg => rfl); (case hr => first | (go_simp; done) | (go_simp; rfl)); (case hp => exact (Reps.c4 (show Kd.M k23 _ _ _ (⟨2, 0, 2, 2⟩ : S23) [.int .i64 2, .int .i64 0, .int .i64 2, .int .i64 2] from (k23_mkM _ _ _ (⟨2, 0, 2, 2⟩ : S23) )) (Reps.none _ _))); intro v108 w10 ho11 hb hg_ hnew_; clear hg_ hnew_; (first | rw [← Ny107.out] at ho11 | (simp only [Int.reduceToNat] at ho11; rw [← Ny107.out] at ho11)); have n0_ := Aside0.mk (Kd.R_elder' (by (with_reducible repeat (first | apply Kd.R_alloc | apply Kd.R_drewN | apply Kd.R_drew)); exact HO106.out) (Kd.R_base ho11) hb); have n1_ := Aside0.mk (Kd.R_lower (Kd.R_new' ho11 (Kd.R_lt (by (with_reducible repeat (first | apply Kd.R_alloc | apply Kd.R_drewN | apply Kd.R_drew)); exact HO106.out))) (below_size (by repeat (first | (with_reducible first | exact HB.out | apply below_alloc | apply pw_below_drewN | apply below_drew1) | exact HB.out)))); have n2_ := Aside0.mk (below_step (by repeat (first | (with_reducible first | exact HB.out | apply below_alloc | apply pw_below_drewN | apply below_drew1) | exact HB.out)) hb); clear HO106; clear HB; have HO106 := n0_; have HO109 := n1_; have HB := n2_; clear n0_ n1_ n2_; clear hb ho11; obtain ⟨Ao12, co12, eo12⟩ := Kd.R_slice HO106.out; subst eo12; obtain ⟨Ao13, co13, eo13⟩ := Kd.R_slice HO109.out; subst eo13) | ((with_reducible refine gate_callee (f := 18) rfl ?_); refine goesL_ (some 6) rfl rfl Try.func18 (by kernel_rfl) rfl #[.slice Ao12 y104.length co12, .slice Ao13 y107.length co13] rfl (by (try simp only [List.map_toArray, List.map_cons, List.map_nil]); first | done | rfl | (simp only [List.length_drop, List.length_take]; rfl)) ?_; (with_reducible refine (region_Union.calls _ _ y104 _ _ y107 t110 _ ?side1 ?side2 ?side3 ?side4 A1.out).mono ?_); (case side1 => repeat (first | exact (Kd.R_reads' HO106.out).2.2 | (with_reducible refine Kd.C_alloc ?_ _) | (with_reducible refine Kd.C_drewN ?_ _) | (with_reducible refine Kd.C_drew ?_))); (case side2 => exact (Kd.R_reads' HO106.out).2.1); (case side3 => repeat (first | exact (Kd.R_reads' HO109.out).2.2 | (with_reducible refine Kd.C_alloc ?_ _) | (with_reducible refine Kd.C_drewN ?_ _) | (with_reducible refine Kd.C_drew ?_))); (case side4 => exact (Kd.R_reads' HO109.out).2.1); rintro e w14 ⟨v111, rfl, ho0, hb⟩; refine ⟨_, rfl, ?_⟩; have n0_ := Aside0.mk (Kd.R_elder' (by (with_reducible repeat (first | apply Kd.R_alloc | apply Kd.R_drewN | apply Kd.R_drew)); exact HO106.out) (Kd.R_base ho0) hb); have n1_ := Aside0.mk (Kd.R_elder' (by (with_reducible repeat (first | apply Kd.R_alloc | apply Kd.R_drewN | apply Kd.R_drew)); exact HO109.out) (Kd.R_base ho0) hb); have n2_ := Aside0.mk (Kd.R_lower (Kd.R_new' (Kd.R_new' ho0 (Kd.R_lt (by (with_reducible repeat (first | apply Kd.R_alloc | apply Kd.R_drewN | apply Kd.R_drew)); exact HO106.out))) (Kd.R_lt (by (with_reducible repeat (first | apply Kd.R_alloc | apply Kd.R_drewN | apply Kd.R_drew)); exact HO109.out))) (below_size (by repeat (first | (with_reducible first | exact HB.out | apply below_alloc | apply pw_below_drewN | apply below_drew1) | exact HB.out)))); have n3_ := Aside0.mk (below_step (by repeat (first | (with_reducible first | exact HB.out | apply below_alloc | apply pw_below_drewN | apply below_drew1) | exact HB.out)) hb); clear HO106; clear HO109; clear HB; have HO106 := n0_; have HO109 := n1_; have HO112 := n2_; have HB := n3_; clear n0_ n1_ n2_ n3_; (try clear hb); (try clear hb2); (try clear hk); (try clear hi); (try clear ho0); obtain ⟨Ao15, co15, eo15⟩ := Kd.R_slice HO112.out; subst eo15; have p113 : 0 ≤ (0 : Int) := (by omega); have q113 : 0 < (t110.length : Int) := of_decide_eq_true (by first | (with_reducible assumption) | assumption); obtain ⟨ad113, e113, hx113_0, hx113_1, hx113_2, hx113_3⟩ := at_T23 (Kd.R_reads' HO112.out).2.2 0 p113 q113; cases e113; have qi113 : (0 < t110.length) = True := eq_true (by omega); (try rw [show ((0 : Int)).toNat = 0 from rfl] at hx113_0); (try rw [show 0 * 4 = 0 from rfl] at hx113_0); (try rw [Addr.add_zero'] at hx113_0); (try rw [show ((0 : Int)).toNat = 0 from rfl] at hx113_1); (try rw [show 0 * 4 = 0 from rfl] at hx113_1); (try rw [Addr.add_zero'] at hx113_1); (try rw [show ((0 : Int)).toNat = 0 from rfl] at hx113_2); (try rw [show 0 * 4 = 0 from rfl] at hx113_2); (try rw [Addr.add_zero'] at hx113_2); (try rw [show ((0 : Int)).toNat = 0 from rfl] at hx113_3); (try rw [show 0 * 4 = 0 from rfl] at hx113_3); (try rw [Addr.add_zero'] at hx113_3); replace p113 := eq_true p113; replace q113 := eq_true q113) | (go_at_call 19; (with_reducible refine (region_Has.calls _ _ t110 3 1 true _ ?side1 ?side2 A5.out).mono ?_); (case side1 => repeat (first | exact (Kd.R_reads' HO112.out).2.2 | (with_reducible refine Kd.C_alloc ?_ _) | (with_reducible refine Kd.C_drewN ?_ _) | (with_reducible refine Kd.C_drew ?_))); (case side2 => exact (Kd.R_reads' HO112.out).2.1); rintro e w16 ⟨rfl, hb⟩; have n0_ := Aside0.mk (Kd.R_below (by (with_reducible repeat (first | apply Kd.R_alloc | apply Kd.R_drewN | apply Kd.R_drew)); exact HO106.out) hb); have n1_ := Aside0.mk (Kd.R_below (by (with_reducible repeat (first | apply Kd.R_alloc | apply Kd.R_drewN | apply Kd.R_drew)); exact HO109.out) hb); have n2_ := Aside0.mk (Kd.R_below (by (with_reducible repeat (first | apply Kd.R_alloc | apply Kd.R_drewN | apply Kd.R_drew)); exact HO112.out) hb); have n3_ := Aside0.mk (below_step (by repeat (first | (with_reducible first | exact HB.out | apply below_alloc | apply pw_below_drewN | apply below_drew1) | exact HB.out)) hb); clear HO106; clear HO109; clear HO112; clear HB; have HO106 := n0_; have HO109 := n1_; have HO112 := n2_; have HB := n3_; clear n0_ n1_ n2_ n3_; (try clear hb); (try clear hb2); (try clear hk); (try clear hi)) | (go_at_call 21; (with_reducible refine (region_Area.calls k _ _ t110 t115 _ ?side1 ?side2 A7.out).mono ?_); (case side1 => repeat (first | exact (Kd.R_reads' HO112.out).2.2 | (with_reducible refine Kd.C_alloc ?_ _) | (with_reducible refine Kd.C_drewN ?_ _) | (with_reducible refine Kd.C_drew ?_))); (case side2 => exact (Kd.R_reads' HO112.out).2.1); rintro e w17 ⟨rfl, hb⟩; have n0_ := Aside0.mk (Kd.R_below (by (with_reducible repeat (first | apply Kd.R_alloc | apply Kd.R_drewN | apply Kd.R_drew)); exact HO106.out) hb); have n1_ := Aside0.mk (Kd.R_below (by (with_reducible repeat (first | apply Kd.R_alloc | apply Kd.R_drewN | apply Kd.R_drew)); exact HO109.out) hb); have n2_ := Aside0.mk (Kd.R_below (by (with_reducible repeat (first | apply Kd.R_alloc | apply Kd.R_drewN | apply Kd.R_drew)); exact HO112.out) hb); have n3_ := Aside0.mk (below_step (by repeat (first | (with_reducible first | exact HB.out | apply below_alloc | apply pw_below_drewN | apply below_drew1) | exact HB.out)) hb); clear HO106; clear HO109; clear HO112; clear HB; have HO106 := n0_; have HO109 := n1_; have HO112 := n2_; have HB := n3_; clear n0_ n1_ n2_ n3_; (try clear hb); (try clear hb2); (try clear hk); (try clear hi)))
          go_ret
          exact ⟨by first | rfl | (simp [errW_none, errW_some] <;> rfl) | (simp [*, errW_none, errW_some] <;> rfl), by repeat (first | (with_reducible first | exact HB.out | apply below_alloc | apply pw_below_drewN | apply below_drew1) | exact HB.out)⟩
        · replace c6 := Bool.eq_false_iff.mpr c6
          subst c6
          have H1 : (some false) = some r := by rw [if_neg (show ¬ (false = true) by decide)] at H; exact H
          clear H
          have H := H1
          clear H1
          obtain rfl := Option.some.inj H
          go_enter Try.func17, Try.ntmps17
          go_wp2_with (first | ((with_reducible refine gate_dst (N := 3) rfl ?_); refine Kd.R_lit k23 _ 23 ?hg (N := 3) ?hd (xs := ([(⟨0, 0, 2, 2⟩ : S23)] : List (S23))) (inner := [.int .i64 0, .int .i64 0, .int .i64 2, .int .i64 2]) (ok := fun _ => True) (okp := fun _ => True) ?hr ?hp (fun _ hk => hk) trivial (Below.refl _ _) (Nat.le_refl _) (by simp) ?_; (case hd => rfl); (case hg => rfl); (case hr => first | (go_simp; done) | (go_simp; rfl)); (case hp => exact (Reps.c4 (show Kd.M k23 _ _ _ (⟨0, 0, 2, 2⟩ : S23) [.int .i64 0, .int .i64 0, .int .i64 2, .int .i64 2] from (k23_mkM _ _ _ (⟨0, 0, 2, 2⟩ : S23) )) (Reps.none _ _))); intro v105 w18 ho19 hb hg_ hnew_; clear hg_ hnew_; (first | rw [← Ny104.out] at ho19 | (simp only [Int.reduceToNat] at ho19; rw [← Ny104.out] at ho19)); have n0_ := Aside0.mk (Kd.R_lower ho19 (below_size (by repeat (first | (with_reducible first | exact HB.out | apply below_alloc | apply pw_below_drewN | apply below_drew1) | exact HB.out)))); have n1_ := Aside0.mk (below_step (by repeat (first | (with_reducible first | exact HB.out | apply below_alloc | apply pw_below_drewN | apply below_drew1) | exact HB.out)) hb); clear HB; have HO106 := n0_; have HB := n1_; clear n0_ n1_; clear hb ho19) | ((with_reducible refine gate_dst (N := 5) rfl ?_); refine Kd.R_lit k23 _ 23 ?hg (N := 5) ?hd (xs := ([(⟨2, 0, 2, 2⟩ : S23)] : List (S23))) (inner := [.int .i64 2, .int .i64 0, .int .i64 2, .int .i64 2]) (ok := fun _ => True) (okp := fun _ => True) ?hr ?hp (fun _ hk => hk) trivial (Below.refl _ _) (Nat.le_refl _) (by simp) ?_; (case hd => rfl); (case hg => rfl); (case hr => first | (go_simp; done) | (go_simp; rfl)); (case hp => exact (Reps.c4 (show Kd.M k23 _ _ _ (⟨2, 0, 2, 2⟩ : S23) [.int .i64 2, .int .i64 0, .int .i64 2, .int .i64 2] from (k23_mkM _ _ _ (⟨2, 0, 2, 2⟩ : S23) )) (Reps.none _ _))); intro v108 w20 ho21 hb hg_ hnew_; clear hg_ hnew_; (first | rw [← Ny107.out] at ho21 | (simp only [Int.reduceToNat] at ho21; rw [← Ny107.out] at ho21)); have n0_ := Aside0.mk (Kd.R_elder' (by (with_reducible repeat (first | apply Kd.R_alloc | apply Kd.R_drewN | apply Kd.R_drew)); exact HO106.out) (Kd.R_base ho21) hb); have n1_ := Aside0.mk (Kd.R_lower (Kd.R_new' ho21 (Kd.R_lt (by (with_reducible repeat (first | apply Kd.R_alloc | apply Kd.R_drewN | apply Kd.R_drew)); exact HO106.out))) (below_size (by repeat (first | (with_reducible first | exact HB.out | apply below_alloc | apply pw_below_drewN | apply below_drew1) | exact HB.out)))); have n2_ := Aside0.mk (below_step (by repeat (first | (with_reducible first | exact HB.out | apply below_alloc | apply pw_below_drewN | apply below_drew1) | exact HB.out)) hb); clear HO106; clear HB; have HO106 := n0_; have HO109 := n1_; have HB := n2_; clear n0_ n1_ n2_; clear hb ho21; obtain ⟨Ao22, co22, eo22⟩ := Kd.R_slice HO106.out; subst eo22; obtain ⟨Ao23, co23, eo23⟩ := Kd.R_slice HO109.out; subst eo23) | ((with_reducible refine gate_callee (f := 18) rfl ?_); refine goesL_ (some 6) rfl rfl Try.func18 (by kernel_rfl) rfl #[.slice Ao22 y104.length co22, .slice Ao23 y107.length co23] rfl (by (try simp only [List.map_toArray, List.map_cons, List.map_nil]); first | done | rfl | (simp only [List.length_drop, List.length_take]; rfl)) ?_; (with_reducible refine (region_Union.calls _ _ y104 _ _ y107 t110 _ ?side1 ?side2 ?side3 ?side4 A1.out).mono ?_); (case side1 => repeat (first | exact (Kd.R_reads' HO106.out).2.2 | (with_reducible refine Kd.C_alloc ?_ _) | (with_reducible refine Kd.C_drewN ?_ _) | (with_reducible refine Kd.C_drew ?_))); (case side2 => exact (Kd.R_reads' HO106.out).2.1); (case side3 => repeat (first | exact (Kd.R_reads' HO109.out).2.2 | (with_reducible refine Kd.C_alloc ?_ _) | (with_reducible refine Kd.C_drewN ?_ _) | (with_reducible refine Kd.C_drew ?_))); (case side4 => exact (Kd.R_reads' HO109.out).2.1); rintro e w24 ⟨v111, rfl, ho0, hb⟩; refine ⟨_, rfl, ?_⟩; have n0_ := Aside0.mk (Kd.R_elder' (by (with_reducible repeat (first | apply Kd.R_alloc | apply Kd.R_drewN | apply Kd.R_drew)); exact HO106.out) (Kd.R_base ho0) hb); have n1_ := Aside0.mk (Kd.R_elder' (by (with_reducible repeat (first | apply Kd.R_alloc | apply Kd.R_drewN | apply Kd.R_drew)); exact HO109.out) (Kd.R_base ho0) hb); have n2_ := Aside0.mk (Kd.R_lower (Kd.R_new' (Kd.R_new' ho0 (Kd.R_lt (by (with_reducible repeat (first | apply Kd.R_alloc | apply Kd.R_drewN | apply Kd.R_drew)); exact HO106.out))) (Kd.R_lt (by (with_reducible repeat (first | apply Kd.R_alloc | apply Kd.R_drewN | apply Kd.R_drew)); exact HO109.out))) (below_size (by repeat (first | (with_reducible first | exact HB.out | apply below_alloc | apply pw_below_drewN | apply below_drew1) | exact HB.out)))); have n3_ := Aside0.mk (below_step (by repeat (first | (with_reducible first | exact HB.out | apply below_alloc | apply pw_below_drewN | apply below_drew1) | exact HB.out)) hb); clear HO106; clear HO109; clear HB; have HO106 := n0_; have HO109 := n1_; have HO112 := n2_; have HB := n3_; clear n0_ n1_ n2_ n3_; (try clear hb); (try clear hb2); (try clear hk); (try clear hi); (try clear ho0); obtain ⟨Ao25, co25, eo25⟩ := Kd.R_slice HO112.out; subst eo25; have p113 : 0 ≤ (0 : Int) := (by omega); have q113 : 0 < (t110.length : Int) := of_decide_eq_true (by first | (with_reducible assumption) | assumption); obtain ⟨ad113, e113, hx113_0, hx113_1, hx113_2, hx113_3⟩ := at_T23 (Kd.R_reads' HO112.out).2.2 0 p113 q113; cases e113; have qi113 : (0 < t110.length) = True := eq_true (by omega); (try rw [show ((0 : Int)).toNat = 0 from rfl] at hx113_0); (try rw [show 0 * 4 = 0 from rfl] at hx113_0); (try rw [Addr.add_zero'] at hx113_0); (try rw [show ((0 : Int)).toNat = 0 from rfl] at hx113_1); (try rw [show 0 * 4 = 0 from rfl] at hx113_1); (try rw [Addr.add_zero'] at hx113_1); (try rw [show ((0 : Int)).toNat = 0 from rfl] at hx113_2); (try rw [show 0 * 4 = 0 from rfl] at hx113_2); (try rw [Addr.add_zero'] at hx113_2); (try rw [show ((0 : Int)).toNat = 0 from rfl] at hx113_3); (try rw [show 0 * 4 = 0 from rfl] at hx113_3); (try rw [Addr.add_zero'] at hx113_3); replace p113 := eq_true p113; replace q113 := eq_true q113) | (go_at_call 19; (with_reducible refine (region_Has.calls _ _ t110 3 1 false _ ?side1 ?side2 A5.out).mono ?_); (case side1 => repeat (first | exact (Kd.R_reads' HO112.out).2.2 | (with_reducible refine Kd.C_alloc ?_ _) | (with_reducible refine Kd.C_drewN ?_ _) | (with_reducible refine Kd.C_drew ?_))); (case side2 => exact (Kd.R_reads' HO112.out).2.1); rintro e w26 ⟨rfl, hb⟩; have n0_ := Aside0.mk (Kd.R_below (by (with_reducible repeat (first | apply Kd.R_alloc | apply Kd.R_drewN | apply Kd.R_drew)); exact HO106.out) hb); have n1_ := Aside0.mk (Kd.R_below (by (with_reducible repeat (first | apply Kd.R_alloc | apply Kd.R_drewN | apply Kd.R_drew)); exact HO109.out) hb); have n2_ := Aside0.mk (Kd.R_below (by (with_reducible repeat (first | apply Kd.R_alloc | apply Kd.R_drewN | apply Kd.R_drew)); exact HO112.out) hb); have n3_ := Aside0.mk (below_step (by repeat (first | (with_reducible first | exact HB.out | apply below_alloc | apply pw_below_drewN | apply below_drew1) | exact HB.out)) hb); clear HO106; clear HO109; clear HO112; clear HB; have HO106 := n0_; have HO109 := n1_; have HO112 := n2_; have HB := n3_; clear n0_ n1_ n2_ n3_; (try clear hb); (try clear hb2); (try clear hk); (try clear hi)))
          go_ret
          exact ⟨by first | rfl | (simp [errW_none, errW_some] <;> rfl) | (simp [*, errW_none, errW_some] <;> rfl), by repeat (first | (with_reducible first | exact HB.out | apply below_alloc | apply pw_below_drewN | apply below_drew1) | exact HB.out)⟩
      · rw [if_neg c4] at H
        have c4b0 : (((rd_T23 t110 0).f0) == 0 && (((rd_T23 t110 0).f1) == 0 && (((rd_T23 t110 0).f2) == 4 && (((rd_T23 t110 0).f3) == 2)))) = false := by simpa using c4
        (try (have c4b1 : decide (((rd_T23 t110 0).f0) = 0 && (((rd_T23 t110 0).f1) == 0 && (((rd_T23 t110 0).f2) == 4 && (((rd_T23 t110 0).f3) == 2)))) = false := by simpa using c4))
        (try (have c4b2 : (((rd_T23 t110 0).f0) == 0 && (((rd_T23 t110 0).f1) == 0 && (((rd_T23 t110 0).f2) == 4 && (((rd_T23 t110 0).f3) == 2)))) = false := by simpa using c4))
        (try (have c4b3 : ¬ (((rd_T23 t110 0).f0) = 0 && (((rd_T23 t110 0).f1) == 0 && (((rd_T23 t110 0).f2) == 4 && (((rd_T23 t110 0).f3) == 2)))) := by simpa using c4))
        clear c4
        obtain rfl := Option.some.inj H
        go_enter Try.func17, Try.ntmps17
        go_wp2_with (first | ((with_reducible refine gate_dst (N := 3) rfl ?_); refine Kd.R_lit k23 _ 23 ?hg (N := 3) ?hd (xs := ([(⟨0, 0, 2, 2⟩ : S23)] : List (S23))) (inner := [.int .i64 0, .int .i64 0, .int .i64 2, .int .i64 2]) (ok := fun _ => True) (okp := fun _ => True) ?hr ?hp (fun _ hk => hk) trivial (Below.refl _ _) (Nat.le_refl _) (by simp) ?_; (case hd => rfl); (case hg => rfl); (case hr => first | (go_simp; done) | (go_simp; rfl)); (case hp => exact (Reps.c4 (show Kd.M k23 _ _ _ (⟨0, 0, 2, 2⟩ : S23) [.int .i64 0, .int .i64 0, .int .i64 2, .int .i64 2] from (k23_mkM _ _ _ (⟨0, 0, 2, 2⟩ : S23) )) (Reps.none _ _))); intro v105 w27 ho28 hb hg_ hnew_; clear hg_ hnew_; (first | rw [← Ny104.out] at ho28 | (simp only [Int.reduceToNat] at ho28; rw [← Ny104.out] at ho28)); have n0_ := Aside0.mk (Kd.R_lower ho28 (below_size (by repeat (first | (with_reducible first | exact HB.out | apply below_alloc | apply pw_below_drewN | apply below_drew1) | exact HB.out)))); have n1_ := Aside0.mk (below_step (by repeat (first | (with_reducible first | exact HB.out | apply below_alloc | apply pw_below_drewN | apply below_drew1) | exact HB.out)) hb); clear HB; have HO106 := n0_; have HB := n1_; clear n0_ n1_; clear hb ho28) | ((with_reducible refine gate_dst (N := 5) rfl ?_); refine Kd.R_lit k23 _ 23 ?hg (N := 5) ?hd (xs := ([(⟨2, 0, 2, 2⟩ : S23)] : List (S23))) (inner := [.int .i64 2, .int .i64 0, .int .i64 2, .int .i64 2]) (ok := fun _ => True) (okp := fun _ => True) ?hr ?hp (fun _ hk => hk) trivial (Below.refl _ _) (Nat.le_refl _) (by simp) ?_; (case hd => rfl); (case hg => rfl); (case hr => first | (go_simp; done) | (go_simp; rfl)); (case hp => exact (Reps.c4 (show Kd.M k23 _ _ _ (⟨2, 0, 2, 2⟩ : S23) [.int .i64 2, .int .i64 0, .int .i64 2, .int .i64 2] from (k23_mkM _ _ _ (⟨2, 0, 2, 2⟩ : S23) )) (Reps.none _ _))); intro v108 w29 ho30 hb hg_ hnew_; clear hg_ hnew_; (first | rw [← Ny107.out] at ho30 | (simp only [Int.reduceToNat] at ho30; rw [← Ny107.out] at ho30)); have n0_ := Aside0.mk (Kd.R_elder' (by (with_reducible repeat (first | apply Kd.R_alloc | apply Kd.R_drewN | apply Kd.R_drew)); exact HO106.out) (Kd.R_base ho30) hb); have n1_ := Aside0.mk (Kd.R_lower (Kd.R_new' ho30 (Kd.R_lt (by (with_reducible repeat (first | apply Kd.R_alloc | apply Kd.R_drewN | apply Kd.R_drew)); exact HO106.out))) (below_size (by repeat (first | (with_reducible first | exact HB.out | apply below_alloc | apply pw_below_drewN | apply below_drew1) | exact HB.out)))); have n2_ := Aside0.mk (below_step (by repeat (first | (with_reducible first | exact HB.out | apply below_alloc | apply pw_below_drewN | apply below_drew1) | exact HB.out)) hb); clear HO106; clear HB; have HO106 := n0_; have HO109 := n1_; have HB := n2_; clear n0_ n1_ n2_; clear hb ho30; obtain ⟨Ao31, co31, eo31⟩ := Kd.R_slice HO106.out; subst eo31; obtain ⟨Ao32, co32, eo32⟩ := Kd.R_slice HO109.out; subst eo32) | ((with_reducible refine gate_callee (f := 18) rfl ?_); refine goesL_ (some 6) rfl rfl Try.func18 (by kernel_rfl) rfl #[.slice Ao31 y104.length co31, .slice Ao32 y107.length co32] rfl (by (try simp only [List.map_toArray, List.map_cons, List.map_nil]); first | done | rfl | (simp only [List.length_drop, List.length_take]; rfl)) ?_; (with_reducible refine (region_Union.calls _ _ y104 _ _ y107 t110 _ ?side1 ?side2 ?side3 ?side4 A1.out).mono ?_); (case side1 => repeat (first | exact (Kd.R_reads' HO106.out).2.2 | (with_reducible refine Kd.C_alloc ?_ _) | (with_reducible refine Kd.C_drewN ?_ _) | (with_reducible refine Kd.C_drew ?_))); (case side2 => exact (Kd.R_reads' HO106.out).2.1); (case side3 => repeat (first | exact (Kd.R_reads' HO109.out).2.2 | (with_reducible refine Kd.C_alloc ?_ _) | (with_reducible refine Kd.C_drewN ?_ _) | (with_reducible refine Kd.C_drew ?_))); (case side4 => exact (Kd.R_reads' HO109.out).2.1); rintro e w33 ⟨v111, rfl, ho0, hb⟩; refine ⟨_, rfl, ?_⟩; have n0_ := Aside0.mk (Kd.R_elder' (by (with_reducible repeat (first | apply Kd.R_alloc | apply Kd.R_drewN | apply Kd.R_drew)); exact HO106.out) (Kd.R_base ho0) hb); have n1_ := Aside0.mk (Kd.R_elder' (by (with_reducible repeat (first | apply Kd.R_alloc | apply Kd.R_drewN | apply Kd.R_drew)); exact HO109.out) (Kd.R_base ho0) hb); have n2_ := Aside0.mk (Kd.R_lower (Kd.R_new' (Kd.R_new' ho0 (Kd.R_lt (by (with_reducible repeat (first | apply Kd.R_alloc | apply Kd.R_drewN | apply Kd.R_drew)); exact HO106.out))) (Kd.R_lt (by (with_reducible repeat (first | apply Kd.R_alloc | apply Kd.R_drewN | apply Kd.R_drew)); exact HO109.out))) (below_size (by repeat (first | (with_reducible first | exact HB.out | apply below_alloc | apply pw_below_drewN | apply below_drew1) | exact HB.out)))); have n3_ := Aside0.mk (below_step (by repeat (first | (with_reducible first | exact HB.out | apply below_alloc | apply pw_below_drewN | apply below_drew1) | exact HB.out)) hb); clear HO106; clear HO109; clear HB; have HO106 := n0_; have HO109 := n1_; have HO112 := n2_; have HB := n3_; clear n0_ n1_ n2_ n3_; (try clear hb); (try clear hb2); (try clear hk); (try clear hi); (try clear ho0); obtain ⟨Ao34, co34, eo34⟩ := Kd.R_slice HO112.out; subst eo34; have p113 : 0 ≤ (0 : Int) := (by omega); have q113 : 0 < (t110.length : Int) := of_decide_eq_true (by first | (with_reducible assumption) | assumption); obtain ⟨ad113, e113, hx113_0, hx113_1, hx113_2, hx113_3⟩ := at_T23 (Kd.R_reads' HO112.out).2.2 0 p113 q113; cases e113; have qi113 : (0 < t110.length) = True := eq_true (by omega); (try rw [show ((0 : Int)).toNat = 0 from rfl] at hx113_0); (try rw [show 0 * 4 = 0 from rfl] at hx113_0); (try rw [Addr.add_zero'] at hx113_0); (try rw [show ((0 : Int)).toNat = 0 from rfl] at hx113_1); (try rw [show 0 * 4 = 0 from rfl] at hx113_1); (try rw [Addr.add_zero'] at hx113_1); (try rw [show ((0 : Int)).toNat = 0 from rfl] at hx113_2); (try rw [show 0 * 4 = 0 from rfl] at hx113_2); (try rw [Addr.add_zero'] at hx113_2); (try rw [show ((0 : Int)).toNat = 0 from rfl] at hx113_3); (try rw [show 0 * 4 = 0 from rfl] at hx113_3); (try rw [Addr.add_zero'] at hx113_3); replace p113 := eq_true p113; replace q113 := eq_true q113))
        go_ret
        exact ⟨by first | rfl | (simp [errW_none, errW_some] <;> rfl) | (simp [*, errW_none, errW_some] <;> rfl), by repeat (first | (with_reducible first | exact HB.out | apply below_alloc | apply pw_below_drewN | apply below_drew1) | exact HB.out)⟩
    · rw [if_neg c3] at H
      exact absurd H (by simp)
  · rw [if_neg c2] at H
    have c2b0 : ((t110.length : Int) == 1) = false := beq_eq_false_iff_ne.mpr c2
    have c2b1 : ((t110.length : Int) != 1) = true := bne_iff_ne.mpr c2
    obtain rfl := Option.some.inj H
    go_enter Try.func17, Try.ntmps17
    go_wp2_with (first | ((with_reducible refine gate_dst (N := 3) rfl ?_); refine Kd.R_lit k23 _ 23 ?hg (N := 3) ?hd (xs := ([(⟨0, 0, 2, 2⟩ : S23)] : List (S23))) (inner := [.int .i64 0, .int .i64 0, .int .i64 2, .int .i64 2]) (ok := fun _ => True) (okp := fun _ => True) ?hr ?hp (fun _ hk => hk) trivial (Below.refl _ _) (Nat.le_refl _) (by simp) ?_; (case hd => rfl); (case hg => rfl); (case hr => first | (go_simp; done) | (go_simp; rfl)); (case hp => exact (Reps.c4 (show Kd.M k23 _ _ _ (⟨0, 0, 2, 2⟩ : S23) [.int .i64 0, .int .i64 0, .int .i64 2, .int .i64 2] from (k23_mkM _ _ _ (⟨0, 0, 2, 2⟩ : S23) )) (Reps.none _ _))); intro v105 w35 ho36 hb hg_ hnew_; clear hg_ hnew_; (first | rw [← Ny104.out] at ho36 | (simp only [Int.reduceToNat] at ho36; rw [← Ny104.out] at ho36)); have n0_ := Aside0.mk (Kd.R_lower ho36 (below_size (by repeat (first | (with_reducible first | exact HB.out | apply below_alloc | apply pw_below_drewN | apply below_drew1) | exact HB.out)))); have n1_ := Aside0.mk (below_step (by repeat (first | (with_reducible first | exact HB.out | apply below_alloc | apply pw_below_drewN | apply below_drew1) | exact HB.out)) hb); clear HB; have HO106 := n0_; have HB := n1_; clear n0_ n1_; clear hb ho36) | ((with_reducible refine gate_dst (N := 5) rfl ?_); refine Kd.R_lit k23 _ 23 ?hg (N := 5) ?hd (xs := ([(⟨2, 0, 2, 2⟩ : S23)] : List (S23))) (inner := [.int .i64 2, .int .i64 0, .int .i64 2, .int .i64 2]) (ok := fun _ => True) (okp := fun _ => True) ?hr ?hp (fun _ hk => hk) trivial (Below.refl _ _) (Nat.le_refl _) (by simp) ?_; (case hd => rfl); (case hg => rfl); (case hr => first | (go_simp; done) | (go_simp; rfl)); (case hp => exact (Reps.c4 (show Kd.M k23 _ _ _ (⟨2, 0, 2, 2⟩ : S23) [.int .i64 2, .int .i64 0, .int .i64 2, .int .i64 2] from (k23_mkM _ _ _ (⟨2, 0, 2, 2⟩ : S23) )) (Reps.none _ _))); intro v108 w37 ho38 hb hg_ hnew_; clear hg_ hnew_; (first | rw [← Ny107.out] at ho38 | (simp only [Int.reduceToNat] at ho38; rw [← Ny107.out] at ho38)); have n0_ := Aside0.mk (Kd.R_elder' (by (with_reducible repeat (first | apply Kd.R_alloc | apply Kd.R_drewN | apply Kd.R_drew)); exact HO106.out) (Kd.R_base ho38) hb); have n1_ := Aside0.mk (Kd.R_lower (Kd.R_new' ho38 (Kd.R_lt (by (with_reducible repeat (first | apply Kd.R_alloc | apply Kd.R_drewN | apply Kd.R_drew)); exact HO106.out))) (below_size (by repeat (first | (with_reducible first | exact HB.out | apply below_alloc | apply pw_below_drewN | apply below_drew1) | exact HB.out)))); have n2_ := Aside0.mk (below_step (by repeat (first | (with_reducible first | exact HB.out | apply below_alloc | apply pw_below_drewN | apply below_drew1) | exact HB.out)) hb); clear HO106; clear HB; have HO106 := n0_; have HO109 := n1_; have HB := n2_; clear n0_ n1_ n2_; clear hb ho38; obtain ⟨Ao39, co39, eo39⟩ := Kd.R_slice HO106.out; subst eo39; obtain ⟨Ao40, co40, eo40⟩ := Kd.R_slice HO109.out; subst eo40) | ((with_reducible refine gate_callee (f := 18) rfl ?_); refine goesL_ (some 6) rfl rfl Try.func18 (by kernel_rfl) rfl #[.slice Ao39 y104.length co39, .slice Ao40 y107.length co40] rfl (by (try simp only [List.map_toArray, List.map_cons, List.map_nil]); first | done | rfl | (simp only [List.length_drop, List.length_take]; rfl)) ?_; (with_reducible refine (region_Union.calls _ _ y104 _ _ y107 t110 _ ?side1 ?side2 ?side3 ?side4 A1.out).mono ?_); (case side1 => repeat (first | exact (Kd.R_reads' HO106.out).2.2 | (with_reducible refine Kd.C_alloc ?_ _) | (with_reducible refine Kd.C_drewN ?_ _) | (with_reducible refine Kd.C_drew ?_))); (case side2 => exact (Kd.R_reads' HO106.out).2.1); (case side3 => repeat (first | exact (Kd.R_reads' HO109.out).2.2 | (with_reducible refine Kd.C_alloc ?_ _) | (with_reducible refine Kd.C_drewN ?_ _) | (with_reducible refine Kd.C_drew ?_))); (case side4 => exact (Kd.R_reads' HO109.out).2.1); rintro e w41 ⟨v111, rfl, ho0, hb⟩; refine ⟨_, rfl, ?_⟩; have n0_ := Aside0.mk (Kd.R_elder' (by (with_reducible repeat (first | apply Kd.R_alloc | apply Kd.R_drewN | apply Kd.R_drew)); exact HO106.out) (Kd.R_base ho0) hb); have n1_ := Aside0.mk (Kd.R_elder' (by (with_reducible repeat (first | apply Kd.R_alloc | apply Kd.R_drewN | apply Kd.R_drew)); exact HO109.out) (Kd.R_base ho0) hb); have n2_ := Aside0.mk (Kd.R_lower (Kd.R_new' (Kd.R_new' ho0 (Kd.R_lt (by (with_reducible repeat (first | apply Kd.R_alloc | apply Kd.R_drewN | apply Kd.R_drew)); exact HO106.out))) (Kd.R_lt (by (with_reducible repeat (first | apply Kd.R_alloc | apply Kd.R_drewN | apply Kd.R_drew)); exact HO109.out))) (below_size (by repeat (first | (with_reducible first | exact HB.out | apply below_alloc | apply pw_below_drewN | apply below_drew1) | exact HB.out)))); have n3_ := Aside0.mk (below_step (by repeat (first | (with_reducible first | exact HB.out | apply below_alloc | apply pw_below_drewN | apply below_drew1) | exact HB.out)) hb); clear HO106; clear HO109; clear HB; have HO106 := n0_; have HO109 := n1_; have HO112 := n2_; have HB := n3_; clear n0_ n1_ n2_ n3_; (try clear hb); (try clear hb2); (try clear hk); (try clear hi); (try clear ho0); obtain ⟨Ao42, co42, eo42⟩ := Kd.R_slice HO112.out; subst eo42))
    go_ret
    exact ⟨by first | rfl | (simp [errW_none, errW_some] <;> rfl) | (simp [*, errW_none, errW_some] <;> rfl), by repeat (first | (with_reducible first | exact HB.out | apply below_alloc | apply pw_below_drewN | apply below_drew1) | exact HB.out)⟩

/-! ### tableauref08_Check: function 35 -/
def tableauref08_Check.l0 : Nat → List (S23) → Int → Option (Bool)
  | 0, _, _ => none
  | k + 1, x0, x3 => if x3 < (x0.length : Int) then (if 0 ≤ x3 then ((tableauref07_Check.f ((rd_T23 x0 x3).f0) ((rd_T23 x0 x3).f1) ((rd_T23 x0 x3).f2) ((rd_T23 x0 x3).f3)).bind fun t132 => (if t132 = true then (tableauref08_Check.l0 k x0 (wrap64 (x3 + 1))) else (some false))) else (none)) else ((tableauref08_make1.f x0 ([] : List (S23)) 0).bind fun t133 => ((tableauref08_Same.f k x0 t133).bind fun t136 => (some t136)))
def tableauref08_Check.f (k : Nat) (l0 : List (S23)) : Option (Bool) := tableauref08_Check.l0 k l0 0
theorem tableauref08_Check.mono_l : ∀ k, (∀ y0 y1, LeO (tableauref08_Check.l0 k y0 y1) (tableauref08_Check.l0 (k + 1) y0 y1))
  | 0 => fun _ _ r h => by simp [tableauref08_Check.l0] at h
  | k + 1 => by
    have ih0 := tableauref08_Check.mono_l k
    · intro y0 y1
      unfold tableauref08_Check.l0
      repeat' first
      | (with_reducible exact ih0 _ _)
      | (with_reducible exact tableauref08_Same.mono _ _ _)
      | (with_reducible exact LeO.refl _)
      | (with_reducible exact LeO.none _)
      | (with_reducible refine LeO.ite ?_ ?_)
      | (with_reducible refine LeO.bind ?_ (fun _ => ?_))
      | exact ih0 _ _
      | exact tableauref08_Same.mono _ _ _
      | exact LeO.none _
      | refine LeO.ite ?_ ?_
      | refine LeO.bind ?_ (fun _ => ?_)
theorem tableauref08_Check.mono : ∀ a0 k, LeO (tableauref08_Check.f k a0) (tableauref08_Check.f (k + 1) a0) := by
  intro a0 k
  have ih0 := tableauref08_Check.mono_l k
  unfold tableauref08_Check.f
  repeat' first
      | (with_reducible exact ih0 _ _)
      | (with_reducible exact tableauref08_Same.mono _ _ _)
      | (with_reducible exact LeO.refl _)
      | (with_reducible exact LeO.none _)
      | (with_reducible refine LeO.ite ?_ ?_)
      | (with_reducible refine LeO.bind ?_ (fun _ => ?_))
      | exact ih0 _ _
      | exact tableauref08_Same.mono _ _ _
      | exact LeO.none _
      | refine LeO.ite ?_ ?_
      | refine LeO.bind ?_ (fun _ => ?_)
set_option maxHeartbeats 8000000 in
set_option maxRecDepth 100000 in
theorem tableauref08_Check.calls (k : Nat) (A0 : Option Addr) (c0 : Nat) (l0 : List (S23)) (r : Bool) (w : World) (hr0 : Kd.C k23 w A0 l0.length l0) (hc0 : l0.length ≤ c0) (h : tableauref08_Check.f k l0 = some r) :
    Calls Try.prog 35 #[.slice A0 l0.length c0] w fun e w' => e = .returned (.bool r) ∧ Below w.heap.size w w' := by
  have hu23 := Try.underlying23
  have HR0 := Aside0.mk hr0
  have HC0 := Aside0.mk hc0
  clear hr0 hc0
  have HB := Aside0.mk (Below.refl w.heap.size w)
  have H : (tableauref08_Check.l0 k l0 0) = some r := h
  clear h
  have H' := Aside0.mk H
  clear H
  go_enter Try.func35, Try.ntmps35
  go_wp2
  go_loopg [3] k (fun kq v3 w' => ∃ (x3_1 : Int), v3 = .int .i64 x3_1 ∧ Aside0 (tableauref08_Check.l0 kq l0 x3_1 = some r) ∧ Aside0 (kq ≤ k) ∧ Aside0 (Below w.heap.size w w'))
  case atStart => exact ⟨(0), (by first | rfl | (simp; done) | (simp [*]; done)), H', ⟨Nat.le_refl _⟩, ⟨by repeat (first | (with_reducible first | exact HB.out | apply below_alloc | apply pw_below_drewN | apply below_drew1) | exact HB.out)⟩⟩
  case round =>
    clear H'
    obtain ⟨x3_1, rfl, HA, HK1, HB⟩ := hrel
    cases gk with
    | zero => exact absurd HA.out (by simp [tableauref08_Check.l0])
    | succ k1 =>
      have H := HA.out
      clear HA
      simp only [tableauref08_Check.l0] at H
      by_cases c2 : x3_1 < (l0.length : Int)
      · rw [if_pos c2] at H
        have c2b0 : decide (x3_1 < (l0.length : Int)) = true := decide_eq_true c2
        clear c2
        by_cases c3 : 0 ≤ x3_1
        · rw [if_pos c3] at H
          have c3b0 : decide (0 ≤ x3_1) = true := decide_eq_true c3
          clear c3
          replace H := Option.bind_eq_some_iff.mp H
          obtain ⟨t132, A40, H⟩ := H
          replace H : (if t132 = true then (tableauref08_Check.l0 k1 l0 (wrap64 (x3_1 + 1))) else (some false)) = some r := H
          have A4 := Aside0.mk A40
          clear A40
          by_cases c5 : t132 = true
          · subst c5
            have H1 : (tableauref08_Check.l0 k1 l0 (wrap64 (x3_1 + 1))) = some r := by rw [if_pos rfl] at H; exact H
            clear H
            have H := H1
            clear H1
            have H' := Aside0.mk H
            clear H
            have p131 : 0 ≤ (x3_1 : Int) := of_decide_eq_true (by first | (with_reducible assumption) | assumption)
            have q131 : x3_1 < (l0.length : Int) := of_decide_eq_true (by first | (with_reducible assumption) | assumption)
            obtain ⟨ad131, e131, hx131_0, hx131_1, hx131_2, hx131_3⟩ := at_T23 HR0.out x3_1 p131 q131
            cases e131
            replace hx131_0 := (HB.out.cell (World.block_lt_of_cell? w _ hx131_0)).trans hx131_0
            replace hx131_1 := (HB.out.cell (World.block_lt_of_cell? w _ hx131_1)).trans hx131_1
            replace hx131_2 := (HB.out.cell (World.block_lt_of_cell? w _ hx131_2)).trans hx131_2
            replace hx131_3 := (HB.out.cell (World.block_lt_of_cell? w _ hx131_3)).trans hx131_3
            replace p131 := eq_true p131
            replace q131 := eq_true q131
            go_wp2_with (first | ((with_reducible refine gate_callee (f := 27) rfl ?_); refine goesL_ (some 14) rfl rfl Try.func27 (by kernel_rfl) rfl #[.agg #[.int .i64 ((rd_T23 l0 x3_1).f0), .int .i64 ((rd_T23 l0 x3_1).f1), .int .i64 ((rd_T23 l0 x3_1).f2), .int .i64 ((rd_T23 l0 x3_1).f3)]] rfl (by (try simp only [List.map_toArray, List.map_cons, List.map_nil]); first | done | rfl | (simp only [List.length_drop, List.length_take]; rfl)) ?_; (with_reducible refine (tableauref07_Check.calls ((rd_T23 l0 x3_1).f0) ((rd_T23 l0 x3_1).f1) ((rd_T23 l0 x3_1).f2) ((rd_T23 l0 x3_1).f3) true _ A4.out).mono ?_); rintro e w6 ⟨rfl, hb⟩; refine ⟨_, rfl, ?_⟩; have n0_ := Aside0.mk (below_step (by repeat (first | (with_reducible first | exact HB.out | apply below_alloc | apply pw_below_drewN | apply below_drew1) | exact HB.out)) hb); clear HB; have HB := n0_; clear n0_; (try clear hb); (try clear hb2); (try clear hk); (try clear hi)))
            go_roundg k1
            case measure => have := HK1.out; omega
            case rel => exact ⟨(wrap64 (x3_1 + 1)), (by first | rfl | (simp; done) | (simp [*]; done)), H', ⟨by have := HK1.out; omega⟩, ⟨by repeat (first | (with_reducible first | exact HB.out | apply below_alloc | apply pw_below_drewN | apply below_drew1) | exact HB.out)⟩⟩
          · replace c5 := Bool.eq_false_iff.mpr c5
            subst c5
            have H1 : (some false) = some r := by rw [if_neg (show ¬ (false = true) by decide)] at H; exact H
            clear H
            have H := H1
            clear H1
            obtain rfl := Option.some.inj H
            have p131 : 0 ≤ (x3_1 : Int) := of_decide_eq_true (by first | (with_reducible assumption) | assumption)
            have q131 : x3_1 < (l0.length : Int) := of_decide_eq_true (by first | (with_reducible assumption) | assumption)
            obtain ⟨ad131, e131, hx131_0, hx131_1, hx131_2, hx131_3⟩ := at_T23 HR0.out x3_1 p131 q131
            cases e131
            replace hx131_0 := (HB.out.cell (World.block_lt_of_cell? w _ hx131_0)).trans hx131_0
            replace hx131_1 := (HB.out.cell (World.block_lt_of_cell? w _ hx131_1)).trans hx131_1
            replace hx131_2 := (HB.out.cell (World.block_lt_of_cell? w _ hx131_2)).trans hx131_2
            replace hx131_3 := (HB.out.cell (World.block_lt_of_cell? w _ hx131_3)).trans hx131_3
            replace p131 := eq_true p131
            replace q131 := eq_true q131
            go_wp2_with (first | ((with_reducible refine gate_callee (f := 27) rfl ?_); refine goesL_ (some 14) rfl rfl Try.func27 (by kernel_rfl) rfl #[.agg #[.int .i64 ((rd_T23 l0 x3_1).f0), .int .i64 ((rd_T23 l0 x3_1).f1), .int .i64 ((rd_T23 l0 x3_1).f2), .int .i64 ((rd_T23 l0 x3_1).f3)]] rfl (by (try simp only [List.map_toArray, List.map_cons, List.map_nil]); first | done | rfl | (simp only [List.length_drop, List.length_take]; rfl)) ?_; (with_reducible refine (tableauref07_Check.calls ((rd_T23 l0 x3_1).f0) ((rd_T23 l0 x3_1).f1) ((rd_T23 l0 x3_1).f2) ((rd_T23 l0 x3_1).f3) false _ A4.out).mono ?_); rintro e w7 ⟨rfl, hb⟩; refine ⟨_, rfl, ?_⟩; have n0_ := Aside0.mk (below_step (by repeat (first | (with_reducible first | exact HB.out | apply below_alloc | apply pw_below_drewN | apply below_drew1) | exact HB.out)) hb); clear HB; have HB := n0_; clear n0_; (try clear hb); (try clear hb2); (try clear hk); (try clear hi)))
            go_ret
            exact ⟨by first | rfl | (simp [errW_none, errW_some] <;> rfl) | (simp [*, errW_none, errW_some] <;> rfl), by repeat (first | (with_reducible first | exact HB.out | apply below_alloc | apply pw_below_drewN | apply below_drew1) | exact HB.out)⟩
        · rw [if_neg c3] at H
          exact absurd H (by simp)
      · rw [if_neg c2] at H
        have c2b0 : decide (x3_1 < (l0.length : Int)) = false := decide_eq_false c2
        clear c2
        replace H := Option.bind_eq_some_iff.mp H
        obtain ⟨t133, A80, H⟩ := H
        replace H : ((tableauref08_Same.f k1 l0 t133).bind fun t136 => (some t136)) = some r := H
        have A8 := Aside0.mk A80
        clear A80
        replace H := Option.bind_eq_some_iff.mp H
        obtain ⟨t136, A90, H⟩ := H
        replace H : (some t136) = some r := H
        have A9 := Aside0.mk A90
        clear A90
        obtain rfl := Option.some.inj H
        go_wp2_with (first | ((with_reducible refine gate_callee (f := 69) rfl ?_); refine goesL_ (some 18) rfl rfl Try.func69 (by kernel_rfl) rfl #[.slice A0 l0.length c0, .slice none 0 0, .int .i64 0] rfl (by (try simp only [List.map_toArray, List.map_cons, List.map_nil]); first | done | rfl | (simp only [List.length_drop, List.length_take]; rfl)) ?_; (refine (tableauref08_make1.calls _ _ l0 _ _ ([] : List (S23)) 0 t133 _ ?side1 ?side2 ?side3 ?side4 A8.out).mono ?_); (case side1 => repeat (first | exact (Kd.C_below HR0.out HB.out) | (with_reducible refine Kd.C_alloc ?_ _) | (with_reducible refine Kd.C_drewN ?_ _) | (with_reducible refine Kd.C_drew ?_))); (case side2 => exact HC0.out); (case side3 => exact Kd.C_nil _ _); (case side4 => exact Nat.le_refl _); rintro e w10 ⟨v134, rfl, ho0, hb⟩; refine ⟨_, rfl, ?_⟩; have n0_ := Aside0.mk (Kd.R_lower ho0 (below_size (by repeat (first | (with_reducible first | exact HB.out | apply below_alloc | apply pw_below_drewN | apply below_drew1) | exact HB.out)))); have n1_ := Aside0.mk (below_step (by repeat (first | (with_reducible first | exact HB.out | apply below_alloc | apply pw_below_drewN | apply below_drew1) | exact HB.out)) hb); clear HB; have HO135 := n0_; have HB := n1_; clear n0_ n1_; (try clear hb); (try clear hb2); (try clear hk); (try clear hi); (try clear ho0); obtain ⟨Ao11, co11, eo11⟩ := Kd.R_slice HO135.out; subst eo11) | ((with_reducible refine gate_callee (f := 68) rfl ?_); refine goesL_ (some 19) rfl rfl Try.func68 (by kernel_rfl) rfl #[.slice A0 l0.length c0, .slice Ao11 t133.length co11] rfl (by (try simp only [List.map_toArray, List.map_cons, List.map_nil]); first | done | rfl | (simp only [List.length_drop, List.length_take]; rfl)) ?_; (with_reducible refine (tableauref08_Same.calls k1 _ _ l0 _ _ t133 t136 _ ?side1 ?side2 ?side3 ?side4 A9.out).mono ?_); (case side1 => repeat (first | exact (Kd.C_below HR0.out HB.out) | (with_reducible refine Kd.C_alloc ?_ _) | (with_reducible refine Kd.C_drewN ?_ _) | (with_reducible refine Kd.C_drew ?_))); (case side2 => exact HC0.out); (case side3 => repeat (first | exact (Kd.R_reads' HO135.out).2.2 | (with_reducible refine Kd.C_alloc ?_ _) | (with_reducible refine Kd.C_drewN ?_ _) | (with_reducible refine Kd.C_drew ?_))); (case side4 => exact (Kd.R_reads' HO135.out).2.1); rintro e w' ⟨rfl, ⟨nd, rfl⟩⟩; refine ⟨_, rfl, ?_⟩))
        go_ret
        exact ⟨by first | rfl | (simp [errW_none, errW_some] <;> rfl) | (simp [*, errW_none, errW_some] <;> rfl), by repeat (first | (with_reducible first | exact HB.out | apply below_alloc | apply pw_below_drewN | apply below_drew1) | exact HB.out)⟩

/-! ### tableauref08_Make: function 37 -/
def tableauref08_Make.f (k : Nat) (l0 : List (S23)) (l1 : List (S23)) (a2 : Int) : Option ((List (S23))) := (tableauref08_Check.f k l0).bind fun t137 => (if t137 = true then ((tableauref08_Check.f k l1).bind fun t138 => (if t138 = true then ((tableauref08_make1.f l0 l1 a2).bind fun t139 => (some t139)) else (some ([] : List (S23))))) else (some ([] : List (S23))))
theorem tableauref08_Make.mono : ∀ a0 a1 a2 k, LeO (tableauref08_Make.f k a0 a1 a2) (tableauref08_Make.f (k + 1) a0 a1 a2) := by
  intro a0 a1 a2 k
  unfold tableauref08_Make.f
  repeat' first
      | (with_reducible exact tableauref08_Check.mono _ _)
      | (with_reducible exact LeO.refl _)
      | (with_reducible exact LeO.none _)
      | (with_reducible refine LeO.ite ?_ ?_)
      | (with_reducible refine LeO.bind ?_ (fun _ => ?_))
      | exact tableauref08_Check.mono _ _
      | exact LeO.none _
      | refine LeO.ite ?_ ?_
      | refine LeO.bind ?_ (fun _ => ?_)
set_option maxHeartbeats 8000000 in
set_option maxRecDepth 100000 in
theorem tableauref08_Make.calls (k : Nat) (A0 : Option Addr) (c0 : Nat) (l0 : List (S23)) (A1 : Option Addr) (c1 : Nat) (l1 : List (S23)) (a2 : Int) (r : List (S23)) (w : World) (hr0 : Kd.C k23 w A0 l0.length l0) (hc0 : l0.length ≤ c0) (hr1 : Kd.C k23 w A1 l1.length l1) (hc1 : l1.length ≤ c1) (h : tableauref08_Make.f k l0 l1 a2 = some r) :
    Calls Try.prog 37 #[.slice A0 l0.length c0, .slice A1 l1.length c1, .int .i64 a2] w fun e w' => ∃ v0_ : Value, e = .returned (v0_) ∧ Kd.R k23 23 w' w.heap.size (fun _ => True) v0_ r ∧ Below w.heap.size w w' := by
  have HR0 := Aside0.mk hr0
  have HC0 := Aside0.mk hc0
  clear hr0 hc0
  have HR1 := Aside0.mk hr1
  have HC1 := Aside0.mk hc1
  clear hr1 hc1
  have HB := Aside0.mk (Below.refl w.heap.size w)
  have H : ((tableauref08_Check.f k l0).bind fun t137 => (if t137 = true then ((tableauref08_Check.f k l1).bind fun t138 => (if t138 = true then ((tableauref08_make1.f l0 l1 a2).bind fun t139 => (some t139)) else (some ([] : List (S23))))) else (some ([] : List (S23))))) = some r := h
  clear h
  replace H := Option.bind_eq_some_iff.mp H
  obtain ⟨t137, A40, H⟩ := H
  replace H : (if t137 = true then ((tableauref08_Check.f k l1).bind fun t138 => (if t138 = true then ((tableauref08_make1.f l0 l1 a2).bind fun t139 => (some t139)) else (some ([] : List (S23))))) else (some ([] : List (S23)))) = some r := H
  have A4 := Aside0.mk A40
  clear A40
  by_cases c5 : t137 = true
  · subst c5
    have H1 : ((tableauref08_Check.f k l1).bind fun t138 => (if t138 = true then ((tableauref08_make1.f l0 l1 a2).bind fun t139 => (some t139)) else (some ([] : List (S23))))) = some r := by rw [if_pos rfl] at H; exact H
    clear H
    have H := H1
    clear H1
    replace H := Option.bind_eq_some_iff.mp H
    obtain ⟨t138, A60, H⟩ := H
    replace H : (if t138 = true then ((tableauref08_make1.f l0 l1 a2).bind fun t139 => (some t139)) else (some ([] : List (S23)))) = some r := H
    have A6 := Aside0.mk A60
    clear A60
    by_cases c7 : t138 = true
    · subst c7
      have H1 : ((tableauref08_make1.f l0 l1 a2).bind fun t139 => (some t139)) = some r := by rw [if_pos rfl] at H; exact H
      clear H
      have H := H1
      clear H1
      replace H := Option.bind_eq_some_iff.mp H
      obtain ⟨t139, A80, H⟩ := H
      replace H : (some t139) = some r := H
      have A8 := Aside0.mk A80
      clear A80
      obtain rfl := Option.some.inj H
      go_enter Try.func37, Try.ntmps37
      go_wp2_with (first | ((with_reducible refine gate_callee (f := 35) rfl ?_); refine goesL_ (some 8) rfl rfl Try.func35 (by kernel_rfl) rfl #[.slice A0 l0.length c0] rfl (by (try simp only [List.map_toArray, List.map_cons, List.map_nil]); first | done | rfl | (simp only [List.length_drop, List.length_take]; rfl)) ?_; (with_reducible refine (tableauref08_Check.calls k _ _ l0 true _ ?side1 ?side2 A4.out).mono ?_); (case side1 => repeat (first | exact HR0.out | (with_reducible refine Kd.C_alloc ?_ _) | (with_reducible refine Kd.C_drewN ?_ _) | (with_reducible refine Kd.C_drew ?_))); (case side2 => exact HC0.out); rintro e w9 ⟨rfl, hb⟩; refine ⟨_, rfl, ?_⟩; have n0_ := Aside0.mk (below_step (by repeat (first | (with_reducible first | exact HB.out | apply below_alloc | apply pw_below_drewN | apply below_drew1) | exact HB.out)) hb); clear HB; have HB := n0_; clear n0_; (try clear hb); (try clear hb2); (try clear hk); (try clear hi)) | (go_at_call 35; (with_reducible refine (tableauref08_Check.calls k _ _ l1 true _ ?side1 ?side2 A6.out).mono ?_); (case side1 => repeat (first | exact (Kd.C_below HR1.out HB.out) | (with_reducible refine Kd.C_alloc ?_ _) | (with_reducible refine Kd.C_drewN ?_ _) | (with_reducible refine Kd.C_drew ?_))); (case side2 => exact HC1.out); rintro e w10 ⟨rfl, hb⟩; have n0_ := Aside0.mk (below_step (by repeat (first | (with_reducible first | exact HB.out | apply below_alloc | apply pw_below_drewN | apply below_drew1) | exact HB.out)) hb); clear HB; have HB := n0_; clear n0_; (try clear hb); (try clear hb2); (try clear hk); (try clear hi)) | ((with_reducible refine gate_callee (f := 69) rfl ?_); refine goesL_ (some 18) rfl rfl Try.func69 (by kernel_rfl) rfl #[.slice A0 l0.length c0, .slice A1 l1.length c1, .int .i64 a2] rfl (by (try simp only [List.map_toArray, List.map_cons, List.map_nil]); first | done | rfl | (simp only [List.length_drop, List.length_take]; rfl)) ?_; (with_reducible refine (tableauref08_make1.calls _ _ l0 _ _ l1 a2 t139 _ ?side1 ?side2 ?side3 ?side4 A8.out).mono ?_); (case side1 => repeat (first | exact (Kd.C_below HR0.out HB.out) | (with_reducible refine Kd.C_alloc ?_ _) | (with_reducible refine Kd.C_drewN ?_ _) | (with_reducible refine Kd.C_drew ?_))); (case side2 => exact HC0.out); (case side3 => repeat (first | exact (Kd.C_below HR1.out HB.out) | (with_reducible refine Kd.C_alloc ?_ _) | (with_reducible refine Kd.C_drewN ?_ _) | (with_reducible refine Kd.C_drew ?_))); (case side4 => exact HC1.out); rintro e w11 ⟨v140, rfl, ho0, hb⟩; refine ⟨_, rfl, ?_⟩; have n0_ := Aside0.mk (Kd.R_lower ho0 (below_size (by repeat (first | (with_reducible first | exact HB.out | apply below_alloc | apply pw_below_drewN | apply below_drew1) | exact HB.out)))); have n1_ := Aside0.mk (below_step (by repeat (first | (with_reducible first | exact HB.out | apply below_alloc | apply pw_below_drewN | apply below_drew1) | exact HB.out)) hb); clear HB; have HO141 := n0_; have HB := n1_; clear n0_ n1_; (try clear hb); (try clear hb2); (try clear hk); (try clear hi); (try clear ho0)))
      go_ret
      exact ⟨_, by first | rfl | (simp [errW_none, errW_some] <;> rfl) | (simp [*, errW_none, errW_some] <;> rfl), by (with_reducible repeat (first | apply Kd.R_alloc | apply Kd.R_drewN | apply Kd.R_drew)); exact HO141.out, by repeat (first | (with_reducible first | exact HB.out | apply below_alloc | apply pw_below_drewN | apply below_drew1) | exact HB.out)⟩
    · replace c7 := Bool.eq_false_iff.mpr c7
      subst c7
      have H1 : (some ([] : List (S23))) = some r := by rw [if_neg (show ¬ (false = true) by decide)] at H; exact H
      clear H
      have H := H1
      clear H1
      obtain rfl := Option.some.inj H
      go_enter Try.func37, Try.ntmps37
      go_wp2_with (first | ((with_reducible refine gate_callee (f := 35) rfl ?_); refine goesL_ (some 8) rfl rfl Try.func35 (by kernel_rfl) rfl #[.slice A0 l0.length c0] rfl (by (try simp only [List.map_toArray, List.map_cons, List.map_nil]); first | done | rfl | (simp only [List.length_drop, List.length_take]; rfl)) ?_; (with_reducible refine (tableauref08_Check.calls k _ _ l0 true _ ?side1 ?side2 A4.out).mono ?_); (case side1 => repeat (first | exact HR0.out | (with_reducible refine Kd.C_alloc ?_ _) | (with_reducible refine Kd.C_drewN ?_ _) | (with_reducible refine Kd.C_drew ?_))); (case side2 => exact HC0.out); rintro e w12 ⟨rfl, hb⟩; refine ⟨_, rfl, ?_⟩; have n0_ := Aside0.mk (below_step (by repeat (first | (with_reducible first | exact HB.out | apply below_alloc | apply pw_below_drewN | apply below_drew1) | exact HB.out)) hb); clear HB; have HB := n0_; clear n0_; (try clear hb); (try clear hb2); (try clear hk); (try clear hi)) | (go_at_call 35; (with_reducible refine (tableauref08_Check.calls k _ _ l1 false _ ?side1 ?side2 A6.out).mono ?_); (case side1 => repeat (first | exact (Kd.C_below HR1.out HB.out) | (with_reducible refine Kd.C_alloc ?_ _) | (with_reducible refine Kd.C_drewN ?_ _) | (with_reducible refine Kd.C_drew ?_))); (case side2 => exact HC1.out); rintro e w13 ⟨rfl, hb⟩; have n0_ := Aside0.mk (below_step (by repeat (first | (with_reducible first | exact HB.out | apply below_alloc | apply pw_below_drewN | apply below_drew1) | exact HB.out)) hb); clear HB; have HB := n0_; clear n0_; (try clear hb); (try clear hb2); (try clear hk); (try clear hi)))
      go_ret
      exact ⟨_, by first | rfl | (simp [errW_none, errW_some] <;> rfl) | (simp [*, errW_none, errW_some] <;> rfl), by first | exact Kd.R_nil _ _ _ _ _ | exact Kd.N_nil _ _ _ _ _ | exact Kd.V_nil _ _ _ _ _ | exact Kd.Q_nil _ _ _ _ _ | exact Kd.S_nil _ _ _ _ _, by repeat (first | (with_reducible first | exact HB.out | apply below_alloc | apply pw_below_drewN | apply below_drew1) | exact HB.out)⟩
  · replace c5 := Bool.eq_false_iff.mpr c5
    subst c5
    have H1 : (some ([] : List (S23))) = some r := by rw [if_neg (show ¬ (false = true) by decide)] at H; exact H
    clear H
    have H := H1
    clear H1
    obtain rfl := Option.some.inj H
    go_enter Try.func37, Try.ntmps37
    go_wp2_with (first | ((with_reducible refine gate_callee (f := 35) rfl ?_); refine goesL_ (some 8) rfl rfl Try.func35 (by kernel_rfl) rfl #[.slice A0 l0.length c0] rfl (by (try simp only [List.map_toArray, List.map_cons, List.map_nil]); first | done | rfl | (simp only [List.length_drop, List.length_take]; rfl)) ?_; (with_reducible refine (tableauref08_Check.calls k _ _ l0 false _ ?side1 ?side2 A4.out).mono ?_); (case side1 => repeat (first | exact HR0.out | (with_reducible refine Kd.C_alloc ?_ _) | (with_reducible refine Kd.C_drewN ?_ _) | (with_reducible refine Kd.C_drew ?_))); (case side2 => exact HC0.out); rintro e w14 ⟨rfl, hb⟩; refine ⟨_, rfl, ?_⟩; have n0_ := Aside0.mk (below_step (by repeat (first | (with_reducible first | exact HB.out | apply below_alloc | apply pw_below_drewN | apply below_drew1) | exact HB.out)) hb); clear HB; have HB := n0_; clear n0_; (try clear hb); (try clear hb2); (try clear hk); (try clear hi)))
    go_ret
    exact ⟨_, by first | rfl | (simp [errW_none, errW_some] <;> rfl) | (simp [*, errW_none, errW_some] <;> rfl), by first | exact Kd.R_nil _ _ _ _ _ | exact Kd.N_nil _ _ _ _ _ | exact Kd.V_nil _ _ _ _ _ | exact Kd.Q_nil _ _ _ _ _ | exact Kd.S_nil _ _ _ _ _, by repeat (first | (with_reducible first | exact HB.out | apply below_alloc | apply pw_below_drewN | apply below_drew1) | exact HB.out)⟩

/-! ### tableaulaw08_made: function 23 -/
mutual
def tableaulaw08_made.l0 : Nat → List (S23) → List (S23) → Int → Option ((List (S23)))
  | 0, _, _, _ => none
  | k + 1, x0, x3, x4 => if x4 < (x0.length : Int) then (tableaulaw08_made.j1 k x0 x3 x4 (decide (x4 < 7))) else (tableaulaw08_made.j1 k x0 x3 x4 false)
def tableaulaw08_made.j1 : Nat → List (S23) → List (S23) → Int → Bool → Option ((List (S23)))
  | 0, _, _, _, _ => none
  | k + 1, x0, x3, x4, x13 => if x13 = true then (if (Int.tmod x4 3) = 2 then (if 0 ≤ x4 then (if x4 < (x0.length : Int) then ((tableauref08_Of.f k ((rd_T23 x0 x4).f0) ((rd_T23 x0 x4).f1) ((rd_T23 x0 x4).f2) ((rd_T23 x0 x4).f3)).bind fun t163 => ((tableauref08_Make.f k x3 t163 1).bind fun t166 => (tableaulaw08_made.l0 k x0 t166 (wrap64 (x4 + 1))))) else (none)) else (none)) else (if 0 ≤ x4 then (if x4 < (x0.length : Int) then ((tableauref08_Of.f k ((rd_T23 x0 x4).f0) ((rd_T23 x0 x4).f1) ((rd_T23 x0 x4).f2) ((rd_T23 x0 x4).f3)).bind fun t170 => ((tableauref08_Make.f k x3 t170 0).bind fun t173 => (tableaulaw08_made.l0 k x0 t173 (wrap64 (x4 + 1))))) else (none)) else (none))) else (some x3)
end
def tableaulaw08_made.f (k : Nat) (l0 : List (S23)) : Option ((List (S23))) := tableaulaw08_made.l0 k l0 ([] : List (S23)) 0
theorem tableaulaw08_made.mono_l : ∀ k, (∀ y0 y1 y2, LeO (tableaulaw08_made.l0 k y0 y1 y2) (tableaulaw08_made.l0 (k + 1) y0 y1 y2)) ∧ (∀ y0 y1 y2 y3, LeO (tableaulaw08_made.j1 k y0 y1 y2 y3) (tableaulaw08_made.j1 (k + 1) y0 y1 y2 y3))
  | 0 => ⟨fun _ _ _ r h => by simp [tableaulaw08_made.l0] at h, fun _ _ _ _ r h => by simp [tableaulaw08_made.j1] at h⟩
  | k + 1 => by
    obtain ⟨ih0, ih1⟩ := tableaulaw08_made.mono_l k
    refine ⟨?_, ?_⟩
    · intro y0 y1 y2
      unfold tableaulaw08_made.l0
      repeat' first
      | (with_reducible exact ih0 _ _ _)
      | (with_reducible exact ih1 _ _ _ _)
      | (with_reducible exact tableauref08_Make.mono _ _ _ _)
      | (with_reducible exact tableauref08_Of.mono _ _ _ _ _)
      | (with_reducible exact LeO.refl _)
      | (with_reducible exact LeO.none _)
      | (with_reducible refine LeO.ite ?_ ?_)
      | (with_reducible refine LeO.bind ?_ (fun _ => ?_))
      | exact ih0 _ _ _
      | exact ih1 _ _ _ _
      | exact tableauref08_Make.mono _ _ _ _
      | exact tableauref08_Of.mono _ _ _ _ _
      | exact LeO.none _
      | refine LeO.ite ?_ ?_
      | refine LeO.bind ?_ (fun _ => ?_)
    · intro y0 y1 y2 y3
      unfold tableaulaw08_made.j1
      repeat' first
      | (with_reducible exact ih0 _ _ _)
      | (with_reducible exact ih1 _ _ _ _)
      | (with_reducible exact tableauref08_Make.mono _ _ _ _)
      | (with_reducible exact tableauref08_Of.mono _ _ _ _ _)
      | (with_reducible exact LeO.refl _)
      | (with_reducible exact LeO.none _)
      | (with_reducible refine LeO.ite ?_ ?_)
      | (with_reducible refine LeO.bind ?_ (fun _ => ?_))
      | exact ih0 _ _ _
      | exact ih1 _ _ _ _
      | exact tableauref08_Make.mono _ _ _ _
      | exact tableauref08_Of.mono _ _ _ _ _
      | exact LeO.none _
      | refine LeO.ite ?_ ?_
      | refine LeO.bind ?_ (fun _ => ?_)
theorem tableaulaw08_made.mono : ∀ a0 k, LeO (tableaulaw08_made.f k a0) (tableaulaw08_made.f (k + 1) a0) := by
  intro a0 k
  obtain ⟨ih0, ih1⟩ := tableaulaw08_made.mono_l k
  unfold tableaulaw08_made.f
  repeat' first
      | (with_reducible exact ih0 _ _ _)
      | (with_reducible exact ih1 _ _ _ _)
      | (with_reducible exact tableauref08_Make.mono _ _ _ _)
      | (with_reducible exact tableauref08_Of.mono _ _ _ _ _)
      | (with_reducible exact LeO.refl _)
      | (with_reducible exact LeO.none _)
      | (with_reducible refine LeO.ite ?_ ?_)
      | (with_reducible refine LeO.bind ?_ (fun _ => ?_))
      | exact ih0 _ _ _
      | exact ih1 _ _ _ _
      | exact tableauref08_Make.mono _ _ _ _
      | exact tableauref08_Of.mono _ _ _ _ _
      | exact LeO.none _
      | refine LeO.ite ?_ ?_
      | refine LeO.bind ?_ (fun _ => ?_)
set_option maxHeartbeats 8000000 in
set_option maxRecDepth 100000 in
theorem tableaulaw08_made.calls (k : Nat) (A0 : Option Addr) (c0 : Nat) (l0 : List (S23)) (r : List (S23)) (w : World) (hr0 : Kd.C k23 w A0 l0.length l0) (hc0 : l0.length ≤ c0) (h : tableaulaw08_made.f k l0 = some r) :
    Calls Try.prog 23 #[.slice A0 l0.length c0] w fun e w' => ∃ v0_ : Value, e = .returned (v0_) ∧ Kd.R k23 23 w' w.heap.size (fun _ => True) v0_ r ∧ Below w.heap.size w w' := by
  have hu23 := Try.underlying23
  have HR0 := Aside0.mk hr0
  have HC0 := Aside0.mk hc0
  clear hr0 hc0
  have HB := Aside0.mk (Below.refl w.heap.size w)
  have H : (tableaulaw08_made.l0 k l0 ([] : List (S23)) 0) = some r := h
  clear h
  have H' := Aside0.mk H
  clear H
  go_enter Try.func23, Try.ntmps23
  go_wp2
  go_loopg [3, 4] k (fun kq v3 v4 w' => ∃ (x3_1 : List (S23)) (x4_1 : Int), v4 = .int .i64 x4_1 ∧ Aside0 (tableaulaw08_made.l0 kq l0 x3_1 x4_1 = some r) ∧ Aside0 (kq ≤ k) ∧ Aside0 (Kd.R k23 23 w' w.heap.size (fun _ => True) v3 x3_1) ∧ Aside0 (Below w.heap.size w w'))
  case atStart => exact ⟨(([] : List (S23))), (0), (by first | rfl | (simp; done) | (simp [*]; done)), H', ⟨Nat.le_refl _⟩, ⟨by first | exact Kd.R_nil _ _ _ _ _ | exact Kd.N_nil _ _ _ _ _ | exact Kd.V_nil _ _ _ _ _ | exact Kd.Q_nil _ _ _ _ _ | exact Kd.S_nil _ _ _ _ _⟩, ⟨by repeat (first | (with_reducible first | exact HB.out | apply below_alloc | apply pw_below_drewN | apply below_drew1) | exact HB.out)⟩⟩
  case round =>
    clear H'
    obtain ⟨x3_1, x4_1, rfl, HA, HK1, HO_3, HB⟩ := hrel
    cases gk with
    | zero => exact absurd HA.out (by simp [tableaulaw08_made.l0])
    | succ k1 =>
      have H := HA.out
      clear HA
      simp only [tableaulaw08_made.l0] at H
      have HC2 := Aside0.mk H
      clear H
      go_upto_region 3 with (fail)
      go_cut [13] (fun v13 wc => ∃ (kq : Nat) (x13_1 : Bool), v13 = .bool x13_1 ∧ Aside0 (tableaulaw08_made.j1 kq l0 x3_1 x4_1 x13_1 = some r) ∧ Aside0 (kq ≤ k1) ∧ Aside0 (Kd.R k23 23 wc w.heap.size (fun _ => True) u3 x3_1) ∧ Aside0 (Below w.heap.size w wc))
      case first =>
        have H := HC2.out
        clear HC2
        by_cases c3 : x4_1 < (l0.length : Int)
        · rw [if_pos c3] at H
          have c3b0 : decide (x4_1 < (l0.length : Int)) = true := decide_eq_true c3
          clear c3
          (first | rw [c3b0] | (simp only [i64_w, i32_w]; rw [c3b0]) | skip)
          have H' := Aside0.mk H
          clear H
          go_wp2
          go_meet
          case rel => exact ⟨_, (decide (x4_1 < 7)), (by first | rfl | (simp; done) | (simp [*]; done)), H', ⟨by have := HK1.out; first | omega | exact Nat.le_refl _⟩, ⟨by (with_reducible repeat (first | apply Kd.R_alloc | apply Kd.R_drewN | apply Kd.R_drew)); exact HO_3.out⟩, ⟨by repeat (first | (with_reducible first | exact HB.out | apply below_alloc | apply pw_below_drewN | apply below_drew1) | exact HB.out)⟩⟩
        · rw [if_neg c3] at H
          have c3b0 : decide (x4_1 < (l0.length : Int)) = false := decide_eq_false c3
          clear c3
          (first | rw [c3b0] | (simp only [i64_w, i32_w]; rw [c3b0]) | skip)
          have H' := Aside0.mk H
          clear H
          go_wp2
          go_meet
          case rel => exact ⟨_, (false), (by first | rfl | (simp; done) | (simp [*]; done)), H', ⟨by have := HK1.out; first | omega | exact Nat.le_refl _⟩, ⟨by (with_reducible repeat (first | apply Kd.R_alloc | apply Kd.R_drewN | apply Kd.R_drew)); exact HO_3.out⟩, ⟨by repeat (first | (with_reducible first | exact HB.out | apply below_alloc | apply pw_below_drewN | apply below_drew1) | exact HB.out)⟩⟩
      case rest =>
        clear HC2
        try clear c2
        try clear p2
        try clear c3
        try clear c3b0
        obtain ⟨kq, x13_1, rfl, HA, HJ1, HO_3, HB⟩ := hcut
        cases kq with
        | zero => exact absurd HA.out (by simp [tableaulaw08_made.j1])
        | succ kj1 =>
          have H := HA.out
          clear HA
          simp only [tableaulaw08_made.j1] at H
          by_cases c4 : x13_1 = true
          · subst c4
            have H1 : (if (Int.tmod x4_1 3) = 2 then (if 0 ≤ x4_1 then (if x4_1 < (l0.length : Int) then ((tableauref08_Of.f kj1 ((rd_T23 l0 x4_1).f0) ((rd_T23 l0 x4_1).f1) ((rd_T23 l0 x4_1).f2) ((rd_T23 l0 x4_1).f3)).bind fun t163 => ((tableauref08_Make.f kj1 x3_1 t163 1).bind fun t166 => (tableaulaw08_made.l0 kj1 l0 t166 (wrap64 (x4_1 + 1))))) else (none)) else (none)) else (if 0 ≤ x4_1 then (if x4_1 < (l0.length : Int) then ((tableauref08_Of.f kj1 ((rd_T23 l0 x4_1).f0) ((rd_T23 l0 x4_1).f1) ((rd_T23 l0 x4_1).f2) ((rd_T23 l0 x4_1).f3)).bind fun t170 => ((tableauref08_Make.f kj1 x3_1 t170 0).bind fun t173 => (tableaulaw08_made.l0 kj1 l0 t173 (wrap64 (x4_1 + 1))))) else (none)) else (none))) = some r := by rw [if_pos rfl] at H; exact H
            clear H
            have H := H1
            clear H1
            by_cases c5 : (Int.tmod x4_1 3) = 2
            · rw [if_pos c5] at H
              have c5b0 : ((Int.tmod x4_1 3) == 2) = true := beq_iff_eq.mpr c5
              have c5b1 : ((Int.tmod x4_1 3) != 2) = false := bne_eq_false_iff_eq.mpr c5
              clear c5
              by_cases c6 : 0 ≤ x4_1
              · rw [if_pos c6] at H
                have c6b0 : decide (0 ≤ x4_1) = true := decide_eq_true c6
                clear c6
                by_cases c7 : x4_1 < (l0.length : Int)
                · rw [if_pos c7] at H
                  have c7b0 : decide (x4_1 < (l0.length : Int)) = true := decide_eq_true c7
                  clear c7
                  replace H := Option.bind_eq_some_iff.mp H
                  obtain ⟨t163, A80, H⟩ := H
                  replace H : ((tableauref08_Make.f kj1 x3_1 t163 1).bind fun t166 => (tableaulaw08_made.l0 kj1 l0 t166 (wrap64 (x4_1 + 1)))) = some r := H
                  have A8 := Aside0.mk A80
                  clear A80
                  replace H := Option.bind_eq_some_iff.mp H
                  obtain ⟨t166, A90, H⟩ := H
                  replace H : (tableaulaw08_made.l0 kj1 l0 t166 (wrap64 (x4_1 + 1))) = some r := H
                  have A9 := Aside0.mk A90
                  clear A90
                  have H' := Aside0.mk H
                  clear H
                  have p162 : 0 ≤ (x4_1 : Int) := of_decide_eq_true (by first | (with_reducible assumption) | assumption)
                  have q162 : x4_1 < (l0.length : Int) := of_decide_eq_true (by first | (with_reducible assumption) | assumption)
                  obtain ⟨ad162, e162, hx162_0, hx162_1, hx162_2, hx162_3⟩ := at_T23 HR0.out x4_1 p162 q162
                  cases e162
                  replace hx162_0 := (HB.out.cell (World.block_lt_of_cell? w _ hx162_0)).trans hx162_0
                  replace hx162_1 := (HB.out.cell (World.block_lt_of_cell? w _ hx162_1)).trans hx162_1
                  replace hx162_2 := (HB.out.cell (World.block_lt_of_cell? w _ hx162_2)).trans hx162_2
                  replace hx162_3 := (HB.out.cell (World.block_lt_of_cell? w _ hx162_3)).trans hx162_3
                  replace p162 := eq_true p162
                  replace q162 := eq_true q162
                  go_wp2_with (first | ((with_reducible refine gate_callee (f := 49) rfl ?_); refine goesL_ (some 24) rfl rfl Try.func49 (by kernel_rfl) rfl #[.agg #[.int .i64 ((rd_T23 l0 x4_1).f0), .int .i64 ((rd_T23 l0 x4_1).f1), .int .i64 ((rd_T23 l0 x4_1).f2), .int .i64 ((rd_T23 l0 x4_1).f3)]] rfl (by (try simp only [List.map_toArray, List.map_cons, List.map_nil]); first | done | rfl | (simp only [List.length_drop, List.length_take]; rfl)) ?_; (with_reducible refine (tableauref08_Of.calls kj1 ((rd_T23 l0 x4_1).f0) ((rd_T23 l0 x4_1).f1) ((rd_T23 l0 x4_1).f2) ((rd_T23 l0 x4_1).f3) t163 _ A8.out).mono ?_); rintro e w10 ⟨v164, rfl, ho0, hb⟩; refine ⟨_, rfl, ?_⟩; have n0_ := Aside0.mk (Kd.R_elder' (by (with_reducible repeat (first | apply Kd.R_alloc | apply Kd.R_drewN | apply Kd.R_drew)); exact HO_3.out) (Kd.R_base ho0) hb); have n1_ := Aside0.mk (Kd.R_lower (Kd.R_new' ho0 (Kd.R_lt (by (with_reducible repeat (first | apply Kd.R_alloc | apply Kd.R_drewN | apply Kd.R_drew)); exact HO_3.out))) (below_size (by repeat (first | (with_reducible first | exact HB.out | apply below_alloc | apply pw_below_drewN | apply below_drew1) | exact HB.out)))); have n2_ := Aside0.mk (below_step (by repeat (first | (with_reducible first | exact HB.out | apply below_alloc | apply pw_below_drewN | apply below_drew1) | exact HB.out)) hb); clear HO_3; clear HB; have HO_3 := n0_; have HO165 := n1_; have HB := n2_; clear n0_ n1_ n2_; (try clear hb); (try clear hb2); (try clear hk); (try clear hi); (try clear ho0); obtain ⟨Ao11, co11, eo11⟩ := Kd.R_slice HO_3.out; subst eo11; obtain ⟨Ao12, co12, eo12⟩ := Kd.R_slice HO165.out; subst eo12) | ((with_reducible refine gate_callee (f := 37) rfl ?_); refine goesL_ (some 26) rfl rfl Try.func37 (by kernel_rfl) rfl #[.slice Ao11 x3_1.length co11, .slice Ao12 t163.length co12, .int .i64 1] rfl (by (try simp only [List.map_toArray, List.map_cons, List.map_nil]); first | done | rfl | (simp only [List.length_drop, List.length_take]; rfl)) ?_; (with_reducible refine (tableauref08_Make.calls kj1 _ _ x3_1 _ _ t163 1 t166 _ ?side1 ?side2 ?side3 ?side4 A9.out).mono ?_); (case side1 => repeat (first | exact (Kd.R_reads' HO_3.out).2.2 | (with_reducible refine Kd.C_alloc ?_ _) | (with_reducible refine Kd.C_drewN ?_ _) | (with_reducible refine Kd.C_drew ?_))); (case side2 => exact (Kd.R_reads' HO_3.out).2.1); (case side3 => repeat (first | exact (Kd.R_reads' HO165.out).2.2 | (with_reducible refine Kd.C_alloc ?_ _) | (with_reducible refine Kd.C_drewN ?_ _) | (with_reducible refine Kd.C_drew ?_))); (case side4 => exact (Kd.R_reads' HO165.out).2.1); rintro e w13 ⟨v167, rfl, ho0, hb⟩; refine ⟨_, rfl, ?_⟩; have n0_ := Aside0.mk (Kd.R_elder' (by (with_reducible repeat (first | apply Kd.R_alloc | apply Kd.R_drewN | apply Kd.R_drew)); exact HO_3.out) (Kd.R_base ho0) hb); have n1_ := Aside0.mk (Kd.R_elder' (by (with_reducible repeat (first | apply Kd.R_alloc | apply Kd.R_drewN | apply Kd.R_drew)); exact HO165.out) (Kd.R_base ho0) hb); have n2_ := Aside0.mk (Kd.R_lower (Kd.R_new' (Kd.R_new' ho0 (Kd.R_lt (by (with_reducible repeat (first | apply Kd.R_alloc | apply Kd.R_drewN | apply Kd.R_drew)); exact HO_3.out))) (Kd.R_lt (by (with_reducible repeat (first | apply Kd.R_alloc | apply Kd.R_drewN | apply Kd.R_drew)); exact HO165.out))) (below_size (by repeat (first | (with_reducible first | exact HB.out | apply below_alloc | apply pw_below_drewN | apply below_drew1) | exact HB.out)))); have n3_ := Aside0.mk (below_step (by repeat (first | (with_reducible first | exact HB.out | apply below_alloc | apply pw_below_drewN | apply below_drew1) | exact HB.out)) hb); clear HO_3; clear HO165; clear HB; have HO_3 := n0_; have HO165 := n1_; have HO168 := n2_; have HB := n3_; clear n0_ n1_ n2_ n3_; (try clear hb); (try clear hb2); (try clear hk); (try clear hi); (try clear ho0)))
                  go_roundg kj1
                  case measure => have := HK1.out; have := HJ1.out; omega
                  case rel => exact ⟨(t166), (wrap64 (x4_1 + 1)), (by first | rfl | (simp; done) | (simp [*]; done)), H', ⟨by have := HK1.out; have := HJ1.out; omega⟩, ⟨by (with_reducible repeat (first | apply Kd.R_alloc | apply Kd.R_drewN | apply Kd.R_drew)); exact Kd.R_mono HO168.out (fun _ hk => trivial)⟩, ⟨by repeat (first | (with_reducible first | exact HB.out | apply below_alloc | apply pw_below_drewN | apply below_drew1) | exact HB.out)⟩⟩
                · rw [if_neg c7] at H
                  exact absurd H (by simp)
              · rw [if_neg c6] at H
                exact absurd H (by simp)
            · rw [if_neg c5] at H
              have c5b0 : ((Int.tmod x4_1 3) == 2) = false := beq_eq_false_iff_ne.mpr c5
              have c5b1 : ((Int.tmod x4_1 3) != 2) = true := bne_iff_ne.mpr c5
              by_cases c14 : 0 ≤ x4_1
              · rw [if_pos c14] at H
                have c14b0 : decide (0 ≤ x4_1) = true := decide_eq_true c14
                clear c14
                by_cases c15 : x4_1 < (l0.length : Int)
                · rw [if_pos c15] at H
                  have c15b0 : decide (x4_1 < (l0.length : Int)) = true := decide_eq_true c15
                  clear c15
                  replace H := Option.bind_eq_some_iff.mp H
                  obtain ⟨t170, A160, H⟩ := H
                  replace H : ((tableauref08_Make.f kj1 x3_1 t170 0).bind fun t173 => (tableaulaw08_made.l0 kj1 l0 t173 (wrap64 (x4_1 + 1)))) = some r := H
                  have A16 := Aside0.mk A160
                  clear A160
                  replace H := Option.bind_eq_some_iff.mp H
                  obtain ⟨t173, A170, H⟩ := H
                  replace H : (tableaulaw08_made.l0 kj1 l0 t173 (wrap64 (x4_1 + 1))) = some r := H
                  have A17 := Aside0.mk A170
                  clear A170
                  have H' := Aside0.mk H
                  clear H
                  have p169 : 0 ≤ (x4_1 : Int) := of_decide_eq_true (by first | (with_reducible assumption) | assumption)
                  have q169 : x4_1 < (l0.length : Int) := of_decide_eq_true (by first | (with_reducible assumption) | assumption)
                  obtain ⟨ad169, e169, hx169_0, hx169_1, hx169_2, hx169_3⟩ := at_T23 HR0.out x4_1 p169 q169
                  cases e169
                  replace hx169_0 := (HB.out.cell (World.block_lt_of_cell? w _ hx169_0)).trans hx169_0
                  replace hx169_1 := (HB.out.cell (World.block_lt_of_cell? w _ hx169_1)).trans hx169_1
                  replace hx169_2 := (HB.out.cell (World.block_lt_of_cell? w _ hx169_2)).trans hx169_2
                  replace hx169_3 := (HB.out.cell (World.block_lt_of_cell? w _ hx169_3)).trans hx169_3
                  replace p169 := eq_true p169
                  replace q169 := eq_true q169
                  go_wp2_with (first | ((with_reducible refine gate_callee (f := 49) rfl ?_); refine goesL_ (some 24) rfl rfl Try.func49 (by kernel_rfl) rfl #[.agg #[.int .i64 ((rd_T23 l0 x4_1).f0), .int .i64 ((rd_T23 l0 x4_1).f1), .int .i64 ((rd_T23 l0 x4_1).f2), .int .i64 ((rd_T23 l0 x4_1).f3)]] rfl (by (try simp only [List.map_toArray, List.map_cons, List.map_nil]); first | done | rfl | (simp only [List.length_drop, List.length_take]; rfl)) ?_; (with_reducible refine (tableauref08_Of.calls kj1 ((rd_T23 l0 x4_1).f0) ((rd_T23 l0 x4_1).f1) ((rd_T23 l0 x4_1).f2) ((rd_T23 l0 x4_1).f3) t170 _ A16.out).mono ?_); rintro e w18 ⟨v171, rfl, ho0, hb⟩; refine ⟨_, rfl, ?_⟩; have n0_ := Aside0.mk (Kd.R_elder' (by (with_reducible repeat (first | apply Kd.R_alloc | apply Kd.R_drewN | apply Kd.R_drew)); exact HO_3.out) (Kd.R_base ho0) hb); have n1_ := Aside0.mk (Kd.R_lower (Kd.R_new' ho0 (Kd.R_lt (by (with_reducible repeat (first | apply Kd.R_alloc | apply Kd.R_drewN | apply Kd.R_drew)); exact HO_3.out))) (below_size (by repeat (first | (with_reducible first | exact HB.out | apply below_alloc | apply pw_below_drewN | apply below_drew1) | exact HB.out)))); have n2_ := Aside0.mk (below_step (by repeat (first | (with_reducible first | exact HB.out | apply below_alloc | apply pw_below_drewN | apply below_drew1) | exact HB.out)) hb); clear HO_3; clear HB; have HO_3 := n0_; have HO172 := n1_; have HB := n2_; clear n0_ n1_ n2_; (try clear hb); (try clear hb2); (try clear hk); (try clear hi); (try clear ho0); obtain ⟨Ao19, co19, eo19⟩ := Kd.R_slice HO_3.out; subst eo19; obtain ⟨Ao20, co20, eo20⟩ := Kd.R_slice HO172.out; subst eo20) | ((with_reducible refine gate_callee (f := 37) rfl ?_); refine goesL_ (some 26) rfl rfl Try.func37 (by kernel_rfl) rfl #[.slice Ao19 x3_1.length co19, .slice Ao20 t170.length co20, .int .i64 0] rfl (by (try simp only [List.map_toArray, List.map_cons, List.map_nil]); first | done | rfl | (simp only [List.length_drop, List.length_take]; rfl)) ?_; (with_reducible refine (tableauref08_Make.calls kj1 _ _ x3_1 _ _ t170 0 t173 _ ?side1 ?side2 ?side3 ?side4 A17.out).mono ?_); (case side1 => repeat (first | exact (Kd.R_reads' HO_3.out).2.2 | (with_reducible refine Kd.C_alloc ?_ _) | (with_reducible refine Kd.C_drewN ?_ _) | (with_reducible refine Kd.C_drew ?_))); (case side2 => exact (Kd.R_reads' HO_3.out).2.1); (case side3 => repeat (first | exact (Kd.R_reads' HO172.out).2.2 | (with_reducible refine Kd.C_alloc ?_ _) | (with_reducible refine Kd.C_drewN ?_ _) | (with_reducible refine Kd.C_drew ?_))); (case side4 => exact (Kd.R_reads' HO172.out).2.1); rintro e w21 ⟨v174, rfl, ho0, hb⟩; refine ⟨_, rfl, ?_⟩; have n0_ := Aside0.mk (Kd.R_elder' (by (with_reducible repeat (first | apply Kd.R_alloc | apply Kd.R_drewN | apply Kd.R_drew)); exact HO_3.out) (Kd.R_base ho0) hb); have n1_ := Aside0.mk (Kd.R_elder' (by (with_reducible repeat (first | apply Kd.R_alloc | apply Kd.R_drewN | apply Kd.R_drew)); exact HO172.out) (Kd.R_base ho0) hb); have n2_ := Aside0.mk (Kd.R_lower (Kd.R_new' (Kd.R_new' ho0 (Kd.R_lt (by (with_reducible repeat (first | apply Kd.R_alloc | apply Kd.R_drewN | apply Kd.R_drew)); exact HO_3.out))) (Kd.R_lt (by (with_reducible repeat (first | apply Kd.R_alloc | apply Kd.R_drewN | apply Kd.R_drew)); exact HO172.out))) (below_size (by repeat (first | (with_reducible first | exact HB.out | apply below_alloc | apply pw_below_drewN | apply below_drew1) | exact HB.out)))); have n3_ := Aside0.mk (below_step (by repeat (first | (with_reducible first | exact HB.out | apply below_alloc | apply pw_below_drewN | apply below_drew1) | exact HB.out)) hb); clear HO_3; clear HO172; clear HB; have HO_3 := n0_; have HO172 := n1_; have HO175 := n2_; have HB := n3_; clear n0_ n1_ n2_ n3_; (try clear hb); (try clear hb2); (try clear hk); (try clear hi); (try clear ho0)))
                  go_roundg kj1
                  case measure => have := HK1.out; have := HJ1.out; omega
                  case rel => exact ⟨(t173), (wrap64 (x4_1 + 1)), (by first | rfl | (simp; done) | (simp [*]; done)), H', ⟨by have := HK1.out; have := HJ1.out; omega⟩, ⟨by (with_reducible repeat (first | apply Kd.R_alloc | apply Kd.R_drewN | apply Kd.R_drew)); exact Kd.R_mono HO175.out (fun _ hk => trivial)⟩, ⟨by repeat (first | (with_reducible first | exact HB.out | apply below_alloc | apply pw_below_drewN | apply below_drew1) | exact HB.out)⟩⟩
                · rw [if_neg c15] at H
                  exact absurd H (by simp)
              · rw [if_neg c14] at H
                exact absurd H (by simp)
          · replace c4 := Bool.eq_false_iff.mpr c4
            subst c4
            have H1 : (some x3_1) = some r := by rw [if_neg (show ¬ (false = true) by decide)] at H; exact H
            clear H
            have H := H1
            clear H1
            obtain rfl := Option.some.inj H
            go_wp2
            go_ret
            exact ⟨_, by first | rfl | (simp [errW_none, errW_some] <;> rfl) | (simp [*, errW_none, errW_some] <;> rfl), by (with_reducible repeat (first | apply Kd.R_alloc | apply Kd.R_drewN | apply Kd.R_drew)); exact HO_3.out, by repeat (first | (with_reducible first | exact HB.out | apply below_alloc | apply pw_below_drewN | apply below_drew1) | exact HB.out)⟩

/-! ### tableauref08_Shift: function 38 -/
mutual
def tableauref08_Shift.j0 : Nat → List (S23) → Int → Int → Bool → Option ((List (S23)))
  | 0, _, _, _, _ => none
  | k + 1, x0, x1, x2, x30 => if x30 = true then (some ([] : List (S23))) else (tableauref08_Shift.l0 k x0 x1 x2 ([] : List (S23)) 0)
def tableauref08_Shift.l0 : Nat → List (S23) → Int → Int → List (S23) → Int → Option ((List (S23)))
  | 0, _, _, _, _, _ => none
  | k + 1, x0, x1, x2, x7, x8 => if x8 < (x0.length : Int) then (if 0 ≤ x8 then ((tableauref07_Shift.f ((rd_T23 x0 x8).f0) ((rd_T23 x0 x8).f1) ((rd_T23 x0 x8).f2) ((rd_T23 x0 x8).f3) x1 x2).bind fun bt223 => ((tableauref07_Bound.f k bt223.1 bt223.2.1 bt223.2.2.1 bt223.2.2.2).bind fun bt227 => ((tableauref07_Empty.f bt227.1 bt227.2.1 bt227.2.2.1 bt227.2.2.2).bind fun t232 => (if t232 = true then (tableauref08_Shift.l0 k x0 x1 x2 x7 (wrap64 (x8 + 1))) else (if x7.length < 4398046511104 then (tableauref08_Shift.l0 k x0 x1 x2 (x7 ++ [(⟨bt227.1, bt227.2.1, bt227.2.2.1, bt227.2.2.2⟩ : S23)]) (wrap64 (x8 + 1))) else (none)))))) else (none)) else ((tableauref08_make1.f x7 ([] : List (S23)) 0).bind fun t219 => (some t219))
end
def tableauref08_Shift.f (k : Nat) (l0 : List (S23)) (a1 : Int) (a2 : Int) : Option ((List (S23))) := (tableauref08_Check.f k l0).bind fun t218 => (if t218 = true then (if (mx (mx (mx a1 (wrap64 (-a1))) a2) (wrap64 (-a2))) > 16777216 then (tableauref08_Shift.j0 k l0 a1 a2 true) else (if a1 = (-9223372036854775808) then (tableauref08_Shift.j0 k l0 a1 a2 true) else (tableauref08_Shift.j0 k l0 a1 a2 (a2 == (-9223372036854775808))))) else (tableauref08_Shift.j0 k l0 a1 a2 true))
theorem tableauref08_Shift.mono_l : ∀ k, (∀ y0 y1 y2 y3, LeO (tableauref08_Shift.j0 k y0 y1 y2 y3) (tableauref08_Shift.j0 (k + 1) y0 y1 y2 y3)) ∧ (∀ y0 y1 y2 y3 y4, LeO (tableauref08_Shift.l0 k y0 y1 y2 y3 y4) (tableauref08_Shift.l0 (k + 1) y0 y1 y2 y3 y4))
  | 0 => ⟨fun _ _ _ _ r h => by simp [tableauref08_Shift.j0] at h, fun _ _ _ _ _ r h => by simp [tableauref08_Shift.l0] at h⟩
  | k + 1 => by
    obtain ⟨ih0, ih1⟩ := tableauref08_Shift.mono_l k
    refine ⟨?_, ?_⟩
    · intro y0 y1 y2 y3
      unfold tableauref08_Shift.j0
      repeat' first
      | (with_reducible exact ih0 _ _ _ _)
      | (with_reducible exact ih1 _ _ _ _ _)
      | (with_reducible exact tableauref07_Bound.mono _ _ _ _ _)
      | (with_reducible exact tableauref08_Check.mono _ _)
      | (with_reducible exact LeO.refl _)
      | (with_reducible exact LeO.none _)
      | (with_reducible refine LeO.ite ?_ ?_)
      | (with_reducible refine LeO.bind ?_ (fun _ => ?_))
      | exact ih0 _ _ _ _
      | exact ih1 _ _ _ _ _
      | exact tableauref07_Bound.mono _ _ _ _ _
      | exact tableauref08_Check.mono _ _
      | exact LeO.none _
      | refine LeO.ite ?_ ?_
      | refine LeO.bind ?_ (fun _ => ?_)
    · intro y0 y1 y2 y3 y4
      unfold tableauref08_Shift.l0
      repeat' first
      | (with_reducible exact ih0 _ _ _ _)
      | (with_reducible exact ih1 _ _ _ _ _)
      | (with_reducible exact tableauref07_Bound.mono _ _ _ _ _)
      | (with_reducible exact tableauref08_Check.mono _ _)
      | (with_reducible exact LeO.refl _)
      | (with_reducible exact LeO.none _)
      | (with_reducible refine LeO.ite ?_ ?_)
      | (with_reducible refine LeO.bind ?_ (fun _ => ?_))
      | exact ih0 _ _ _ _
      | exact ih1 _ _ _ _ _
      | exact tableauref07_Bound.mono _ _ _ _ _
      | exact tableauref08_Check.mono _ _
      | exact LeO.none _
      | refine LeO.ite ?_ ?_
      | refine LeO.bind ?_ (fun _ => ?_)
theorem tableauref08_Shift.mono : ∀ a0 a1 a2 k, LeO (tableauref08_Shift.f k a0 a1 a2) (tableauref08_Shift.f (k + 1) a0 a1 a2) := by
  intro a0 a1 a2 k
  obtain ⟨ih0, ih1⟩ := tableauref08_Shift.mono_l k
  unfold tableauref08_Shift.f
  repeat' first
      | (with_reducible exact ih0 _ _ _ _)
      | (with_reducible exact ih1 _ _ _ _ _)
      | (with_reducible exact tableauref07_Bound.mono _ _ _ _ _)
      | (with_reducible exact tableauref08_Check.mono _ _)
      | (with_reducible exact LeO.refl _)
      | (with_reducible exact LeO.none _)
      | (with_reducible refine LeO.ite ?_ ?_)
      | (with_reducible refine LeO.bind ?_ (fun _ => ?_))
      | exact ih0 _ _ _ _
      | exact ih1 _ _ _ _ _
      | exact tableauref07_Bound.mono _ _ _ _ _
      | exact tableauref08_Check.mono _ _
      | exact LeO.none _
      | refine LeO.ite ?_ ?_
      | refine LeO.bind ?_ (fun _ => ?_)
set_option maxHeartbeats 8000000 in
set_option maxRecDepth 100000 in
theorem tableauref08_Shift.calls (k : Nat) (A0 : Option Addr) (c0 : Nat) (l0 : List (S23)) (a1 : Int) (a2 : Int) (r : List (S23)) (w : World) (hr0 : Kd.C k23 w A0 l0.length l0) (hc0 : l0.length ≤ c0) (h : tableauref08_Shift.f k l0 a1 a2 = some r) :
    Calls Try.prog 38 #[.slice A0 l0.length c0, .int .i64 a1, .int .i64 a2] w fun e w' => ∃ v0_ : Value, e = .returned (v0_) ∧ Kd.R k23 23 w' w.heap.size (fun _ => True) v0_ r ∧ Below w.heap.size w w' := by
  have hu23 := Try.underlying23
  have HR0 := Aside0.mk hr0
  have HC0 := Aside0.mk hc0
  clear hr0 hc0
  have HB := Aside0.mk (Below.refl w.heap.size w)
  have H : ((tableauref08_Check.f k l0).bind fun t218 => (if t218 = true then (if (mx (mx (mx a1 (wrap64 (-a1))) a2) (wrap64 (-a2))) > 16777216 then (tableauref08_Shift.j0 k l0 a1 a2 true) else (if a1 = (-9223372036854775808) then (tableauref08_Shift.j0 k l0 a1 a2 true) else (tableauref08_Shift.j0 k l0 a1 a2 (a2 == (-9223372036854775808))))) else (tableauref08_Shift.j0 k l0 a1 a2 true))) = some r := h
  clear h
  have HC4 := Aside0.mk H
  clear H
  go_enter Try.func38, Try.ntmps38
  go_upto_region 1 with (fail)
  go_cut [30] (fun v30 wc => ∃ (kq : Nat) (x30_3 : Bool), v30 = .bool x30_3 ∧ Aside0 (tableauref08_Shift.j0 kq l0 a1 a2 x30_3 = some r) ∧ Aside0 (kq ≤ k) ∧ Aside0 (Below w.heap.size w wc))
  case first =>
    have H := HC4.out
    clear HC4
    replace H := Option.bind_eq_some_iff.mp H
    obtain ⟨t218, A50, H⟩ := H
    replace H : (if t218 = true then (if (mx (mx (mx a1 (wrap64 (-a1))) a2) (wrap64 (-a2))) > 16777216 then (tableauref08_Shift.j0 k l0 a1 a2 true) else (if a1 = (-9223372036854775808) then (tableauref08_Shift.j0 k l0 a1 a2 true) else (tableauref08_Shift.j0 k l0 a1 a2 (a2 == (-9223372036854775808))))) else (tableauref08_Shift.j0 k l0 a1 a2 true)) = some r := H
    have A5 := Aside0.mk A50
    clear A50
    by_cases c6 : t218 = true
    · subst c6
      have H1 : (if (mx (mx (mx a1 (wrap64 (-a1))) a2) (wrap64 (-a2))) > 16777216 then (tableauref08_Shift.j0 k l0 a1 a2 true) else (if a1 = (-9223372036854775808) then (tableauref08_Shift.j0 k l0 a1 a2 true) else (tableauref08_Shift.j0 k l0 a1 a2 (a2 == (-9223372036854775808))))) = some r := by rw [if_pos rfl] at H; exact H
      clear H
      have H := H1
      clear H1
      obtain ⟨ji7, hji7⟩ : ∃ j_ : Int, (mx a1 (wrap64 (-a1))) = j_ := ⟨_, rfl⟩
      replace H : (if (mx (mx (ji7) a2) (wrap64 (-a2))) > 16777216 then (tableauref08_Shift.j0 k l0 a1 a2 true) else (if a1 = (-9223372036854775808) then (tableauref08_Shift.j0 k l0 a1 a2 true) else (tableauref08_Shift.j0 k l0 a1 a2 (a2 == (-9223372036854775808))))) = some r := by first | (rw [hji7] at H; exact H) | (simp only [hji7] at H ⊢; exact H)
      (try rw [hji7] at A5)
      have hji7_ : (if a1 < (wrap64 (-a1)) then (wrap64 (-a1)) else a1) = ji7 := hji7
      obtain ⟨ji8, hji8⟩ : ∃ j_ : Int, (mx (ji7) a2) = j_ := ⟨_, rfl⟩
      replace H : (if (mx (ji8) (wrap64 (-a2))) > 16777216 then (tableauref08_Shift.j0 k l0 a1 a2 true) else (if a1 = (-9223372036854775808) then (tableauref08_Shift.j0 k l0 a1 a2 true) else (tableauref08_Shift.j0 k l0 a1 a2 (a2 == (-9223372036854775808))))) = some r := by first | (rw [hji8] at H; exact H) | (simp only [hji8] at H ⊢; exact H)
      (try rw [hji8] at A5)
      have hji8_ : (if (ji7) < a2 then a2 else (ji7)) = ji8 := hji8
      obtain ⟨ji9, hji9⟩ : ∃ j_ : Int, (mx (ji8) (wrap64 (-a2))) = j_ := ⟨_, rfl⟩
      replace H : (if (ji9) > 16777216 then (tableauref08_Shift.j0 k l0 a1 a2 true) else (if a1 = (-9223372036854775808) then (tableauref08_Shift.j0 k l0 a1 a2 true) else (tableauref08_Shift.j0 k l0 a1 a2 (a2 == (-9223372036854775808))))) = some r := by first | (rw [hji9] at H; exact H) | (simp only [hji9] at H ⊢; exact H)
      (try rw [hji9] at A5)
      have hji9_ : (if (ji8) < (wrap64 (-a2)) then (wrap64 (-a2)) else (ji8)) = ji9 := hji9
      by_cases c10 : (ji9) > 16777216
      · rw [if_pos c10] at H
        have c10b0 : decide (16777216 < (ji9)) = true := decide_eq_true c10
        clear c10
        (first | rw [c10b0] | (simp only [i64_w, i32_w]; rw [c10b0]) | skip)
        have H' := Aside0.mk H
        clear H
        go_wp2_with (first | ((with_reducible refine gate_callee (f := 35) rfl ?_); refine goesL_ (some 11) rfl rfl Try.func35 (by kernel_rfl) rfl #[.slice A0 l0.length c0] rfl (by (try simp only [List.map_toArray, List.map_cons, List.map_nil]); first | done | rfl | (simp only [List.length_drop, List.length_take]; rfl)) ?_; (with_reducible refine (tableauref08_Check.calls k _ _ l0 true _ ?side1 ?side2 A5.out).mono ?_); (case side1 => repeat (first | exact (Kd.C_below HR0.out HB.out) | (with_reducible refine Kd.C_alloc ?_ _) | (with_reducible refine Kd.C_drewN ?_ _) | (with_reducible refine Kd.C_drew ?_))); (case side2 => exact HC0.out); rintro e w11 ⟨rfl, hb⟩; refine ⟨_, rfl, ?_⟩; have n0_ := Aside0.mk (below_step (by repeat (first | (with_reducible first | exact HB.out | apply below_alloc | apply pw_below_drewN | apply below_drew1) | exact HB.out)) hb); clear HB; have HB := n0_; clear n0_; (try clear hb); (try clear hb2); (try clear hk); (try clear hi)))
        go_meet
        case rel => exact ⟨_, (true), (by first | rfl | (simp; done) | (simp [*]; done)), H', ⟨by first | omega | exact Nat.le_refl _⟩, ⟨by repeat (first | (with_reducible first | exact HB.out | apply below_alloc | apply pw_below_drewN | apply below_drew1) | exact HB.out)⟩⟩
      · rw [if_neg c10] at H
        have c10b0 : decide (16777216 < (ji9)) = false := decide_eq_false c10
        clear c10
        (first | rw [c10b0] | (simp only [i64_w, i32_w]; rw [c10b0]) | skip)
        by_cases c12 : a1 = (-9223372036854775808)
        · rw [if_pos c12] at H
          have c12b0 : (a1 == (-9223372036854775808)) = true := beq_iff_eq.mpr c12
          have c12b1 : (a1 != (-9223372036854775808)) = false := bne_eq_false_iff_eq.mpr c12
          clear c12
          have H' := Aside0.mk H
          clear H
          go_wp2_with (first | ((with_reducible refine gate_callee (f := 35) rfl ?_); refine goesL_ (some 11) rfl rfl Try.func35 (by kernel_rfl) rfl #[.slice A0 l0.length c0] rfl (by (try simp only [List.map_toArray, List.map_cons, List.map_nil]); first | done | rfl | (simp only [List.length_drop, List.length_take]; rfl)) ?_; (with_reducible refine (tableauref08_Check.calls k _ _ l0 true _ ?side1 ?side2 A5.out).mono ?_); (case side1 => repeat (first | exact (Kd.C_below HR0.out HB.out) | (with_reducible refine Kd.C_alloc ?_ _) | (with_reducible refine Kd.C_drewN ?_ _) | (with_reducible refine Kd.C_drew ?_))); (case side2 => exact HC0.out); rintro e w13 ⟨rfl, hb⟩; refine ⟨_, rfl, ?_⟩; have n0_ := Aside0.mk (below_step (by repeat (first | (with_reducible first | exact HB.out | apply below_alloc | apply pw_below_drewN | apply below_drew1) | exact HB.out)) hb); clear HB; have HB := n0_; clear n0_; (try clear hb); (try clear hb2); (try clear hk); (try clear hi)))
          go_meet
          case rel => exact ⟨_, (true), (by first | rfl | (simp; done) | (simp [*]; done)), H', ⟨by first | omega | exact Nat.le_refl _⟩, ⟨by repeat (first | (with_reducible first | exact HB.out | apply below_alloc | apply pw_below_drewN | apply below_drew1) | exact HB.out)⟩⟩
        · rw [if_neg c12] at H
          have c12b0 : (a1 == (-9223372036854775808)) = false := beq_eq_false_iff_ne.mpr c12
          have c12b1 : (a1 != (-9223372036854775808)) = true := bne_iff_ne.mpr c12
          have H' := Aside0.mk H
          clear H
          go_wp2_with (first | ((with_reducible refine gate_callee (f := 35) rfl ?_); refine goesL_ (some 11) rfl rfl Try.func35 (by kernel_rfl) rfl #[.slice A0 l0.length c0] rfl (by (try simp only [List.map_toArray, List.map_cons, List.map_nil]); first | done | rfl | (simp only [List.length_drop, List.length_take]; rfl)) ?_; (with_reducible refine (tableauref08_Check.calls k _ _ l0 true _ ?side1 ?side2 A5.out).mono ?_); (case side1 => repeat (first | exact (Kd.C_below HR0.out HB.out) | (with_reducible refine Kd.C_alloc ?_ _) | (with_reducible refine Kd.C_drewN ?_ _) | (with_reducible refine Kd.C_drew ?_))); (case side2 => exact HC0.out); rintro e w14 ⟨rfl, hb⟩; refine ⟨_, rfl, ?_⟩; have n0_ := Aside0.mk (below_step (by repeat (first | (with_reducible first | exact HB.out | apply below_alloc | apply pw_below_drewN | apply below_drew1) | exact HB.out)) hb); clear HB; have HB := n0_; clear n0_; (try clear hb); (try clear hb2); (try clear hk); (try clear hi)))
          go_meet
          case rel => exact ⟨_, ((a2 == (-9223372036854775808))), (by first | rfl | (simp; done) | (simp [*]; done)), H', ⟨by first | omega | exact Nat.le_refl _⟩, ⟨by repeat (first | (with_reducible first | exact HB.out | apply below_alloc | apply pw_below_drewN | apply below_drew1) | exact HB.out)⟩⟩
    · replace c6 := Bool.eq_false_iff.mpr c6
      subst c6
      have H1 : (tableauref08_Shift.j0 k l0 a1 a2 true) = some r := by rw [if_neg (show ¬ (false = true) by decide)] at H; exact H
      clear H
      have H := H1
      clear H1
      have H' := Aside0.mk H
      clear H
      go_wp2_with (first | ((with_reducible refine gate_callee (f := 35) rfl ?_); refine goesL_ (some 11) rfl rfl Try.func35 (by kernel_rfl) rfl #[.slice A0 l0.length c0] rfl (by (try simp only [List.map_toArray, List.map_cons, List.map_nil]); first | done | rfl | (simp only [List.length_drop, List.length_take]; rfl)) ?_; (with_reducible refine (tableauref08_Check.calls k _ _ l0 false _ ?side1 ?side2 A5.out).mono ?_); (case side1 => repeat (first | exact (Kd.C_below HR0.out HB.out) | (with_reducible refine Kd.C_alloc ?_ _) | (with_reducible refine Kd.C_drewN ?_ _) | (with_reducible refine Kd.C_drew ?_))); (case side2 => exact HC0.out); rintro e w15 ⟨rfl, hb⟩; refine ⟨_, rfl, ?_⟩; have n0_ := Aside0.mk (below_step (by repeat (first | (with_reducible first | exact HB.out | apply below_alloc | apply pw_below_drewN | apply below_drew1) | exact HB.out)) hb); clear HB; have HB := n0_; clear n0_; (try clear hb); (try clear hb2); (try clear hk); (try clear hi)))
      go_meet
      case rel => exact ⟨_, (true), (by first | rfl | (simp; done) | (simp [*]; done)), H', ⟨by first | omega | exact Nat.le_refl _⟩, ⟨by repeat (first | (with_reducible first | exact HB.out | apply below_alloc | apply pw_below_drewN | apply below_drew1) | exact HB.out)⟩⟩
  case rest =>
    clear HC4
    try clear c1
    try clear p2
    try clear c3
    try clear c6
    try clear p6
    try clear c10
    try clear c10b0
    try clear c12
    try clear c12b0
    try clear c12b1
    obtain ⟨kq, x30_3, rfl, HA, HJ3, HB⟩ := hcut
    cases kq with
    | zero => exact absurd HA.out (by simp [tableauref08_Shift.j0])
    | succ kj3 =>
      have H := HA.out
      clear HA
      simp only [tableauref08_Shift.j0] at H
      by_cases c16 : x30_3 = true
      · subst c16
        have H1 : (some ([] : List (S23))) = some r := by rw [if_pos rfl] at H; exact H
        clear H
        have H := H1
        clear H1
        obtain rfl := Option.some.inj H
        go_wp2
        go_ret
        exact ⟨_, by first | rfl | (simp [errW_none, errW_some] <;> rfl) | (simp [*, errW_none, errW_some] <;> rfl), by first | exact Kd.R_nil _ _ _ _ _ | exact Kd.N_nil _ _ _ _ _ | exact Kd.V_nil _ _ _ _ _ | exact Kd.Q_nil _ _ _ _ _ | exact Kd.S_nil _ _ _ _ _, by repeat (first | (with_reducible first | exact HB.out | apply below_alloc | apply pw_below_drewN | apply below_drew1) | exact HB.out)⟩
      · replace c16 := Bool.eq_false_iff.mpr c16
        subst c16
        have H1 : (tableauref08_Shift.l0 kj3 l0 a1 a2 ([] : List (S23)) 0) = some r := by rw [if_neg (show ¬ (false = true) by decide)] at H; exact H
        clear H
        have H := H1
        clear H1
        have H' := Aside0.mk H
        clear H
        go_wp2
        go_loopg [7, 8] kj3 (fun kq v7 v8 w' => ∃ (x7_2 : List (S23)) (x8_2 : Int), v8 = .int .i64 x8_2 ∧ Aside0 (tableauref08_Shift.l0 kq l0 a1 a2 x7_2 x8_2 = some r) ∧ Aside0 (kq ≤ kj3) ∧ Aside0 (Kd.R k23 23 w' w.heap.size (fun _ => True) v7 x7_2) ∧ Aside0 (Below w.heap.size w w'))
        case atStart => exact ⟨(([] : List (S23))), (0), (by first | rfl | (simp; done) | (simp [*]; done)), H', ⟨Nat.le_refl _⟩, ⟨by first | exact Kd.R_nil _ _ _ _ _ | exact Kd.N_nil _ _ _ _ _ | exact Kd.V_nil _ _ _ _ _ | exact Kd.Q_nil _ _ _ _ _ | exact Kd.S_nil _ _ _ _ _⟩, ⟨by repeat (first | (with_reducible first | exact HB.out | apply below_alloc | apply pw_below_drewN | apply below_drew1) | exact HB.out)⟩⟩
        case round =>
          clear H'
          try clear c1
          try clear p2
          try clear c3
          try clear c6
          try clear p6
          try clear c10
          try clear c10b0
          try clear c12
          try clear c12b0
          try clear c12b1
          try clear c16
          try clear p2
          try clear p6
          obtain ⟨x7_2, x8_2, rfl, HA, HK2, HO_7, HB⟩ := hrel
          cases gk with
          | zero => exact absurd HA.out (by simp [tableauref08_Shift.l0])
          | succ k2 =>
            have H := HA.out
            clear HA
            simp only [tableauref08_Shift.l0] at H
            by_cases c17 : x8_2 < (l0.length : Int)
            · rw [if_pos c17] at H
              have c17b0 : decide (x8_2 < (l0.length : Int)) = true := decide_eq_true c17
              clear c17
              by_cases c18 : 0 ≤ x8_2
              · rw [if_pos c18] at H
                have c18b0 : decide (0 ≤ x8_2) = true := decide_eq_true c18
                clear c18
                replace H := Option.bind_eq_some_iff.mp H
                obtain ⟨⟨t223, t224, t225, t226⟩, A190, H⟩ := H
                replace H : ((tableauref07_Bound.f k2 t223 t224 t225 t226).bind fun bt227 => ((tableauref07_Empty.f bt227.1 bt227.2.1 bt227.2.2.1 bt227.2.2.2).bind fun t232 => (if t232 = true then (tableauref08_Shift.l0 k2 l0 a1 a2 x7_2 (wrap64 (x8_2 + 1))) else (if x7_2.length < 4398046511104 then (tableauref08_Shift.l0 k2 l0 a1 a2 (x7_2 ++ [(⟨bt227.1, bt227.2.1, bt227.2.2.1, bt227.2.2.2⟩ : S23)]) (wrap64 (x8_2 + 1))) else (none))))) = some r := H
                have A19 := Aside0.mk A190
                clear A190
                replace H := Option.bind_eq_some_iff.mp H
                obtain ⟨⟨t227, t228, t229, t230⟩, A200, H⟩ := H
                replace H : ((tableauref07_Empty.f t227 t228 t229 t230).bind fun t232 => (if t232 = true then (tableauref08_Shift.l0 k2 l0 a1 a2 x7_2 (wrap64 (x8_2 + 1))) else (if x7_2.length < 4398046511104 then (tableauref08_Shift.l0 k2 l0 a1 a2 (x7_2 ++ [(⟨t227, t228, t229, t230⟩ : S23)]) (wrap64 (x8_2 + 1))) else (none)))) = some r := H
                have A20 := Aside0.mk A200
                clear A200
                replace H := Option.bind_eq_some_iff.mp H
                obtain ⟨t232, A210, H⟩ := H
                replace H : (if t232 = true then (tableauref08_Shift.l0 k2 l0 a1 a2 x7_2 (wrap64 (x8_2 + 1))) else (if x7_2.length < 4398046511104 then (tableauref08_Shift.l0 k2 l0 a1 a2 (x7_2 ++ [(⟨t227, t228, t229, t230⟩ : S23)]) (wrap64 (x8_2 + 1))) else (none))) = some r := H
                have A21 := Aside0.mk A210
                clear A210
                by_cases c22 : t232 = true
                · subst c22
                  have H1 : (tableauref08_Shift.l0 k2 l0 a1 a2 x7_2 (wrap64 (x8_2 + 1))) = some r := by rw [if_pos rfl] at H; exact H
                  clear H
                  have H := H1
                  clear H1
                  have H' := Aside0.mk H
                  clear H
                  have p222 : 0 ≤ (x8_2 : Int) := of_decide_eq_true (by first | (with_reducible assumption) | assumption)
                  have q222 : x8_2 < (l0.length : Int) := of_decide_eq_true (by first | (with_reducible assumption) | assumption)
                  obtain ⟨ad222, e222, hx222_0, hx222_1, hx222_2, hx222_3⟩ := at_T23 HR0.out x8_2 p222 q222
                  cases e222
                  replace hx222_0 := (HB.out.cell (World.block_lt_of_cell? w _ hx222_0)).trans hx222_0
                  replace hx222_1 := (HB.out.cell (World.block_lt_of_cell? w _ hx222_1)).trans hx222_1
                  replace hx222_2 := (HB.out.cell (World.block_lt_of_cell? w _ hx222_2)).trans hx222_2
                  replace hx222_3 := (HB.out.cell (World.block_lt_of_cell? w _ hx222_3)).trans hx222_3
                  replace p222 := eq_true p222
                  replace q222 := eq_true q222
                  go_wp2_with (first | ((with_reducible refine gate_callee (f := 71) rfl ?_); refine goesL_ (some 43) rfl rfl Try.func71 (by kernel_rfl) rfl #[.agg #[.int .i64 ((rd_T23 l0 x8_2).f0), .int .i64 ((rd_T23 l0 x8_2).f1), .int .i64 ((rd_T23 l0 x8_2).f2), .int .i64 ((rd_T23 l0 x8_2).f3)], .int .i64 a1, .int .i64 a2] rfl (by (try simp only [List.map_toArray, List.map_cons, List.map_nil]); first | done | rfl | (simp only [List.length_drop, List.length_take]; rfl)) ?_; (with_reducible refine (tableauref07_Shift.calls ((rd_T23 l0 x8_2).f0) ((rd_T23 l0 x8_2).f1) ((rd_T23 l0 x8_2).f2) ((rd_T23 l0 x8_2).f3) a1 a2 t223 t224 t225 t226 _ A19.out).mono ?_); rintro e w23 ⟨rfl, hb⟩; refine ⟨_, rfl, ?_⟩; have n0_ := Aside0.mk (Kd.R_below (by (with_reducible repeat (first | apply Kd.R_alloc | apply Kd.R_drewN | apply Kd.R_drew)); exact HO_7.out) hb); have n1_ := Aside0.mk (below_step (by repeat (first | (with_reducible first | exact HB.out | apply below_alloc | apply pw_below_drewN | apply below_drew1) | exact HB.out)) hb); clear HO_7; clear HB; have HO_7 := n0_; have HB := n1_; clear n0_ n1_; (try clear hb); (try clear hb2); (try clear hk); (try clear hi)) | ((with_reducible refine gate_callee (f := 70) rfl ?_); refine goesL_ (some 44) rfl rfl Try.func70 (by kernel_rfl) rfl #[.agg #[.int .i64 t223, .int .i64 t224, .int .i64 t225, .int .i64 t226]] rfl (by (try simp only [List.map_toArray, List.map_cons, List.map_nil]); first | done | rfl | (simp only [List.length_drop, List.length_take]; rfl)) ?_; (with_reducible refine (tableauref07_Bound.calls k2 t223 t224 t225 t226 t227 t228 t229 t230 _ A20.out).mono ?_); rintro e w24 ⟨rfl, hb⟩; refine ⟨_, rfl, ?_⟩; have n0_ := Aside0.mk (Kd.R_below (by (with_reducible repeat (first | apply Kd.R_alloc | apply Kd.R_drewN | apply Kd.R_drew)); exact HO_7.out) hb); have n1_ := Aside0.mk (below_step (by repeat (first | (with_reducible first | exact HB.out | apply below_alloc | apply pw_below_drewN | apply below_drew1) | exact HB.out)) hb); clear HO_7; clear HB; have HO_7 := n0_; have HB := n1_; clear n0_ n1_; (try clear hb); (try clear hb2); (try clear hk); (try clear hi)) | ((with_reducible refine gate_dst (N := 9) rfl ?_); (try (refine gate_guard (by rfl) ?_; dsimp only)); refine box_event ?hg (N := 9) ?hd (cs := #[.int .i64 0, .int .i64 0, .int .i64 0, .int .i64 0]) (t := 23) ?hr ?_; (case hd => rfl); (case hg => rfl); (case hr => first | (go_simp; done) | (go_simp; rfl)); intro gb231 hg w25 hbox hb; have n0_ := Aside0.mk (Kd.R_below (Kd.R_elderB (by (with_reducible repeat (first | apply Kd.R_alloc | apply Kd.R_drewN | apply Kd.R_drew)); exact HO_7.out) gb231 (Nat.le_of_eq hg.symm)) hb); have n1_ := Aside0.mk (below_step (by repeat (first | (with_reducible first | exact HB.out | apply below_alloc | apply pw_below_drewN | apply below_drew1) | exact HB.out)) hb); have n2_ := Aside0.mk (hbox); have n3_ := Aside0.mk ((by rw [hg]; exact (below_size (by repeat (first | (with_reducible first | exact HB.out | apply below_alloc | apply pw_below_drewN | apply below_drew1) | exact HB.out))) : w.heap.size ≤ gb231)); have n4_ := Aside0.mk ((by rw [hg]; exact (below_size (by repeat (first | (with_reducible first | exact HB.out | apply below_alloc | apply pw_below_drewN | apply below_drew1) | exact HB.out))) : w.heap.size ≤ gb231)); clear HO_7; clear HB; have HO_7 := n0_; have HB := n1_; have BK231 := n2_; have GW231 := n3_; have GE231 := n4_; clear n0_ n1_ n2_ n3_ n4_; clear hb hbox hg; have hcz26_0 : w25.cell? ⟨gb231, 0, none⟩ = some (.int .i64 0) := (blk_cell BK231.out 0).trans rfl; have hcz26_1 : w25.cell? ⟨gb231, 1, none⟩ = some (.int .i64 0) := (blk_cell BK231.out 1).trans rfl; have hcz26_2 : w25.cell? ⟨gb231, 2, none⟩ = some (.int .i64 0) := (blk_cell BK231.out 2).trans rfl; have hcz26_3 : w25.cell? ⟨gb231, 3, none⟩ = some (.int .i64 0) := (blk_cell BK231.out 3).trans rfl; have hfz26_0 := blk_frozen BK231.out 0; have hfz26_1 := blk_frozen BK231.out 1; have hfz26_2 := blk_frozen BK231.out 2; have hfz26_3 := blk_frozen BK231.out 3) | ((with_reducible refine gate_callee (f := 58) rfl ?_); refine goesL_ (some 46) rfl rfl Try.func58 (by kernel_rfl) rfl #[.agg #[.int .i64 t227, .int .i64 t228, .int .i64 t229, .int .i64 t230]] rfl (by (try simp only [List.map_toArray, List.map_cons, List.map_nil]); first | done | rfl | (simp only [List.length_drop, List.length_take]; rfl)) ?_; (with_reducible refine (tableauref07_Empty.calls t227 t228 t229 t230 true _ A21.out).mono ?_); rintro e w27 ⟨rfl, hb⟩; refine ⟨_, rfl, ?_⟩; have n0_ := Aside0.mk (Kd.R_below (by (with_reducible repeat (first | apply Kd.R_alloc | apply Kd.R_drewN | apply Kd.R_drew)); exact (Kd.R_mono (Kd.R_far (p := ⟨gb231, 3, none⟩) (Kd.R_far (p := ⟨gb231, 2, none⟩) (Kd.R_far (p := ⟨gb231, 1, none⟩) (Kd.R_far (p := ⟨gb231, 0, none⟩) (Kd.R_mono HO_7.out (fun k_ hk => (⟨hk, hk.2⟩ : _ ∧ k_ ≠ gb231))) (fun _ hk => hk.2) (.int .i64 t227)) (fun _ hk => hk.2) (.int .i64 t228)) (fun _ hk => hk.2) (.int .i64 t229)) (fun _ hk => hk.2) (.int .i64 t230)) (fun _ h_ => h_.1))) hb); have n1_ := Aside0.mk (blk_below (g := gb231) (o := .cells #[.int .i64 t227, .int .i64 t228, .int .i64 t229, .int .i64 t230] 23 (0, 0)) (by (with_reducible repeat (first | refine blk_drewN ?_ _ | refine blk_drew ?_ | refine blk_alloc ?_ _)); refine blk_put (cs := #[.int .i64 t227, .int .i64 t228, .int .i64 t229, .int .i64 0]) ?_ 3 _ rfl; (with_reducible repeat (first | refine blk_drewN ?_ _ | refine blk_drew ?_ | refine blk_alloc ?_ _)); refine blk_put (cs := #[.int .i64 t227, .int .i64 t228, .int .i64 0, .int .i64 0]) ?_ 2 _ rfl; (with_reducible repeat (first | refine blk_drewN ?_ _ | refine blk_drew ?_ | refine blk_alloc ?_ _)); refine blk_put (cs := #[.int .i64 t227, .int .i64 0, .int .i64 0, .int .i64 0]) ?_ 1 _ rfl; (with_reducible repeat (first | refine blk_drewN ?_ _ | refine blk_drew ?_ | refine blk_alloc ?_ _)); refine blk_put (cs := #[.int .i64 0, .int .i64 0, .int .i64 0, .int .i64 0]) ?_ 0 _ rfl; (with_reducible repeat (first | refine blk_drewN ?_ _ | refine blk_drew ?_ | refine blk_alloc ?_ _)); exact BK231.out) hb); have n2_ := Aside0.mk (below_step (by repeat (first | (with_reducible first | exact HB.out | apply below_alloc | apply pw_below_drewN | apply below_drew1 | refine below_set ?_ GE231.out) | exact HB.out)) hb); clear HO_7; clear BK231; clear HB; have HO_7 := n0_; have BK231 := n1_; have HB := n2_; clear n0_ n1_ n2_; (try clear hb); (try clear hb2); (try clear hk); (try clear hi)))
                  go_roundg k2
                  case measure => have := HJ3.out; have := HK2.out; omega
                  case rel => exact ⟨(x7_2), (wrap64 (x8_2 + 1)), (by first | rfl | (simp; done) | (simp [*]; done)), H', ⟨by have := HJ3.out; have := HK2.out; omega⟩, ⟨by (with_reducible repeat (first | apply Kd.R_alloc | apply Kd.R_drewN | apply Kd.R_drew)); exact Kd.R_mono HO_7.out (fun _ hk => trivial)⟩, ⟨by repeat (first | (with_reducible first | exact HB.out | apply below_alloc | apply pw_below_drewN | apply below_drew1 | refine below_set ?_ GE231.out) | exact HB.out)⟩⟩
                · replace c22 := Bool.eq_false_iff.mpr c22
                  subst c22
                  have H1 : (if x7_2.length < 4398046511104 then (tableauref08_Shift.l0 k2 l0 a1 a2 (x7_2 ++ [(⟨t227, t228, t229, t230⟩ : S23)]) (wrap64 (x8_2 + 1))) else (none)) = some r := by rw [if_neg (show ¬ (false = true) by decide)] at H; exact H
                  clear H
                  have H := H1
                  clear H1
                  by_cases c28 : x7_2.length < 4398046511104
                  · rw [if_pos c28] at H
                    have LMc28 := Aside0.mk c28
                    clear c28
                    obtain ⟨y233, hy233⟩ : ∃ y_ : List (S23), y_ = (x7_2 ++ [(⟨t227, t228, t229, t230⟩ : S23)]) := ⟨_, rfl⟩
                    replace H : (tableauref08_Shift.l0 k2 l0 a1 a2 y233 (wrap64 (x8_2 + 1))) = some r := by first | (rw [hy233]; with_reducible exact H) | (have H2_ := (Option.bind_some _ _).symm.trans H; rw [hy233]; with_reducible exact H2_) | (have H2_ := (Option.bind_some _ _).symm.trans H; with_reducible exact H2_) | with_reducible exact H | (rw [hy233]; exact H) | exact H
                    have Ny233 := Aside0.mk hy233
                    clear hy233
                    have H' := Aside0.mk H
                    clear H
                    have p222 : 0 ≤ (x8_2 : Int) := of_decide_eq_true (by first | (with_reducible assumption) | assumption)
                    have q222 : x8_2 < (l0.length : Int) := of_decide_eq_true (by first | (with_reducible assumption) | assumption)
                    obtain ⟨ad222, e222, hx222_0, hx222_1, hx222_2, hx222_3⟩ := at_T23 HR0.out x8_2 p222 q222
                    cases e222
                    replace hx222_0 := (HB.out.cell (World.block_lt_of_cell? w _ hx222_0)).trans hx222_0
                    replace hx222_1 := (HB.out.cell (World.block_lt_of_cell? w _ hx222_1)).trans hx222_1
                    replace hx222_2 := (HB.out.cell (World.block_lt_of_cell? w _ hx222_2)).trans hx222_2
                    replace hx222_3 := (HB.out.cell (World.block_lt_of_cell? w _ hx222_3)).trans hx222_3
                    replace p222 := eq_true p222
                    replace q222 := eq_true q222
                    go_wp2_with (first | ((with_reducible refine gate_callee (f := 71) rfl ?_); refine goesL_ (some 43) rfl rfl Try.func71 (by kernel_rfl) rfl #[.agg #[.int .i64 ((rd_T23 l0 x8_2).f0), .int .i64 ((rd_T23 l0 x8_2).f1), .int .i64 ((rd_T23 l0 x8_2).f2), .int .i64 ((rd_T23 l0 x8_2).f3)], .int .i64 a1, .int .i64 a2] rfl (by (try simp only [List.map_toArray, List.map_cons, List.map_nil]); first | done | rfl | (simp only [List.length_drop, List.length_take]; rfl)) ?_; (with_reducible refine (tableauref07_Shift.calls ((rd_T23 l0 x8_2).f0) ((rd_T23 l0 x8_2).f1) ((rd_T23 l0 x8_2).f2) ((rd_T23 l0 x8_2).f3) a1 a2 t223 t224 t225 t226 _ A19.out).mono ?_); rintro e w29 ⟨rfl, hb⟩; refine ⟨_, rfl, ?_⟩; have n0_ := Aside0.mk (Kd.R_below (by (with_reducible repeat (first | apply Kd.R_alloc | apply Kd.R_drewN | apply Kd.R_drew)); exact HO_7.out) hb); have n1_ := Aside0.mk (below_step (by repeat (first | (with_reducible first | exact HB.out | apply below_alloc | apply pw_below_drewN | apply below_drew1) | exact HB.out)) hb); clear HO_7; clear HB; have HO_7 := n0_; have HB := n1_; clear n0_ n1_; (try clear hb); (try clear hb2); (try clear hk); (try clear hi)) | ((with_reducible refine gate_callee (f := 70) rfl ?_); refine goesL_ (some 44) rfl rfl Try.func70 (by kernel_rfl) rfl #[.agg #[.int .i64 t223, .int .i64 t224, .int .i64 t225, .int .i64 t226]] rfl (by (try simp only [List.map_toArray, List.map_cons, List.map_nil]); first | done | rfl | (simp only [List.length_drop, List.length_take]; rfl)) ?_; (with_reducible refine (tableauref07_Bound.calls k2 t223 t224 t225 t226 t227 t228 t229 t230 _ A20.out).mono ?_); rintro e w30 ⟨rfl, hb⟩; refine ⟨_, rfl, ?_⟩; have n0_ := Aside0.mk (Kd.R_below (by (with_reducible repeat (first | apply Kd.R_alloc | apply Kd.R_drewN | apply Kd.R_drew)); exact HO_7.out) hb); have n1_ := Aside0.mk (below_step (by repeat (first | (with_reducible first | exact HB.out | apply below_alloc | apply pw_below_drewN | apply below_drew1) | exact HB.out)) hb); clear HO_7; clear HB; have HO_7 := n0_; have HB := n1_; clear n0_ n1_; (try clear hb); (try clear hb2); (try clear hk); (try clear hi)) | ((with_reducible refine gate_dst (N := 9) rfl ?_); (try (refine gate_guard (by rfl) ?_; dsimp only)); refine box_event ?hg (N := 9) ?hd (cs := #[.int .i64 0, .int .i64 0, .int .i64 0, .int .i64 0]) (t := 23) ?hr ?_; (case hd => rfl); (case hg => rfl); (case hr => first | (go_simp; done) | (go_simp; rfl)); intro gb231 hg w31 hbox hb; have n0_ := Aside0.mk (Kd.R_below (Kd.R_elderB (by (with_reducible repeat (first | apply Kd.R_alloc | apply Kd.R_drewN | apply Kd.R_drew)); exact HO_7.out) gb231 (Nat.le_of_eq hg.symm)) hb); have n1_ := Aside0.mk (below_step (by repeat (first | (with_reducible first | exact HB.out | apply below_alloc | apply pw_below_drewN | apply below_drew1) | exact HB.out)) hb); have n2_ := Aside0.mk (hbox); have n3_ := Aside0.mk ((by rw [hg]; exact (below_size (by repeat (first | (with_reducible first | exact HB.out | apply below_alloc | apply pw_below_drewN | apply below_drew1) | exact HB.out))) : w.heap.size ≤ gb231)); have n4_ := Aside0.mk ((by rw [hg]; exact (below_size (by repeat (first | (with_reducible first | exact HB.out | apply below_alloc | apply pw_below_drewN | apply below_drew1) | exact HB.out))) : w.heap.size ≤ gb231)); clear HO_7; clear HB; have HO_7 := n0_; have HB := n1_; have BK231 := n2_; have GW231 := n3_; have GE231 := n4_; clear n0_ n1_ n2_ n3_ n4_; clear hb hbox hg; have hcz32_0 : w31.cell? ⟨gb231, 0, none⟩ = some (.int .i64 0) := (blk_cell BK231.out 0).trans rfl; have hcz32_1 : w31.cell? ⟨gb231, 1, none⟩ = some (.int .i64 0) := (blk_cell BK231.out 1).trans rfl; have hcz32_2 : w31.cell? ⟨gb231, 2, none⟩ = some (.int .i64 0) := (blk_cell BK231.out 2).trans rfl; have hcz32_3 : w31.cell? ⟨gb231, 3, none⟩ = some (.int .i64 0) := (blk_cell BK231.out 3).trans rfl; have hfz32_0 := blk_frozen BK231.out 0; have hfz32_1 := blk_frozen BK231.out 1; have hfz32_2 := blk_frozen BK231.out 2; have hfz32_3 := blk_frozen BK231.out 3) | ((with_reducible refine gate_callee (f := 58) rfl ?_); refine goesL_ (some 46) rfl rfl Try.func58 (by kernel_rfl) rfl #[.agg #[.int .i64 t227, .int .i64 t228, .int .i64 t229, .int .i64 t230]] rfl (by (try simp only [List.map_toArray, List.map_cons, List.map_nil]); first | done | rfl | (simp only [List.length_drop, List.length_take]; rfl)) ?_; (with_reducible refine (tableauref07_Empty.calls t227 t228 t229 t230 false _ A21.out).mono ?_); rintro e w33 ⟨rfl, hb⟩; refine ⟨_, rfl, ?_⟩; have n0_ := Aside0.mk (Kd.R_below (by (with_reducible repeat (first | apply Kd.R_alloc | apply Kd.R_drewN | apply Kd.R_drew)); exact (Kd.R_mono (Kd.R_far (p := ⟨gb231, 3, none⟩) (Kd.R_far (p := ⟨gb231, 2, none⟩) (Kd.R_far (p := ⟨gb231, 1, none⟩) (Kd.R_far (p := ⟨gb231, 0, none⟩) (Kd.R_mono HO_7.out (fun k_ hk => (⟨hk, hk.2⟩ : _ ∧ k_ ≠ gb231))) (fun _ hk => hk.2) (.int .i64 t227)) (fun _ hk => hk.2) (.int .i64 t228)) (fun _ hk => hk.2) (.int .i64 t229)) (fun _ hk => hk.2) (.int .i64 t230)) (fun _ h_ => h_.1))) hb); have n1_ := Aside0.mk (blk_below (g := gb231) (o := .cells #[.int .i64 t227, .int .i64 t228, .int .i64 t229, .int .i64 t230] 23 (0, 0)) (by (with_reducible repeat (first | refine blk_drewN ?_ _ | refine blk_drew ?_ | refine blk_alloc ?_ _)); refine blk_put (cs := #[.int .i64 t227, .int .i64 t228, .int .i64 t229, .int .i64 0]) ?_ 3 _ rfl; (with_reducible repeat (first | refine blk_drewN ?_ _ | refine blk_drew ?_ | refine blk_alloc ?_ _)); refine blk_put (cs := #[.int .i64 t227, .int .i64 t228, .int .i64 0, .int .i64 0]) ?_ 2 _ rfl; (with_reducible repeat (first | refine blk_drewN ?_ _ | refine blk_drew ?_ | refine blk_alloc ?_ _)); refine blk_put (cs := #[.int .i64 t227, .int .i64 0, .int .i64 0, .int .i64 0]) ?_ 1 _ rfl; (with_reducible repeat (first | refine blk_drewN ?_ _ | refine blk_drew ?_ | refine blk_alloc ?_ _)); refine blk_put (cs := #[.int .i64 0, .int .i64 0, .int .i64 0, .int .i64 0]) ?_ 0 _ rfl; (with_reducible repeat (first | refine blk_drewN ?_ _ | refine blk_drew ?_ | refine blk_alloc ?_ _)); exact BK231.out) hb); have n2_ := Aside0.mk (below_step (by repeat (first | (with_reducible first | exact HB.out | apply below_alloc | apply pw_below_drewN | apply below_drew1 | refine below_set ?_ GE231.out) | exact HB.out)) hb); clear HO_7; clear BK231; clear HB; have HO_7 := n0_; have BK231 := n1_; have HB := n2_; clear n0_ n1_ n2_; (try clear hb); (try clear hb2); (try clear hk); (try clear hi); have hcz34_0 : w33.cell? ⟨gb231, 0, none⟩ = some (.int .i64 t227) := (blk_cell BK231.out 0).trans rfl; have hcz34_1 : w33.cell? ⟨gb231, 1, none⟩ = some (.int .i64 t228) := (blk_cell BK231.out 1).trans rfl; have hcz34_2 : w33.cell? ⟨gb231, 2, none⟩ = some (.int .i64 t229) := (blk_cell BK231.out 2).trans rfl; have hcz34_3 : w33.cell? ⟨gb231, 3, none⟩ = some (.int .i64 t230) := (blk_cell BK231.out 3).trans rfl; have hfz34_0 := blk_frozen BK231.out 0; have hfz34_1 := blk_frozen BK231.out 1; have hfz34_2 := blk_frozen BK231.out 2; have hfz34_3 := blk_frozen BK231.out 3) | ((with_reducible refine gate_builtin (b := .append) (xs := #[.tmp 48, .tmp 50]) rfl ?_); (try (refine gate_guard (by rfl) ?_; dsimp only)); at_builtin; refine Kd.R_append k23 (w0 := w) w.heap.size rfl (.tmp 48) (.tmp 50) 25 23 (.agg #[(.int .i64 0), (.int .i64 0), (.int .i64 0), (.int .i64 0)]) 32 rfl Try.underlying25 info23 rfl (by decide) (by omega) u7 x7_2 (⟨t227, t228, t229, t230⟩ : S23) [.int .i64 t227, .int .i64 t228, .int .i64 t229, .int .i64 t230] (fun k_ => k_ ≠ gb231) (fun _ => False) rfl rfl ?aP (fun _ hk => hk.elim) ?aF ?aO ?aB ?aS ?aL ?_; (case aP => exact k23_mkM _ _ _ (⟨t227, t228, t229, t230⟩ : S23)); (case aB => exact (by repeat (first | (with_reducible first | exact HB.out | apply below_alloc | apply pw_below_drewN | apply below_drew1 | refine below_set ?_ GE231.out) | exact HB.out))); (case aF => exact (fun k_ hk => Kd.freshB (g := gb231) (o := .cells #[.int .i64 t227, .int .i64 t228, .int .i64 t229, .int .i64 t230] 23 (0, 0)) (by (with_reducible repeat (first | refine blk_drewN ?_ _ | refine blk_drew ?_ | refine blk_alloc ?_ _)); exact BK231.out) k_ hk)); (case aO => exact (by (with_reducible repeat (first | apply Kd.R_alloc | apply Kd.R_drewN | apply Kd.R_drew)); exact Kd.R_mono HO_7.out (fun _ hk => hk.2))); (case aS => exact (below_size (by repeat (first | (with_reducible first | exact HB.out | apply below_alloc | apply pw_below_drewN | apply below_drew1 | refine below_set ?_ GE231.out) | exact HB.out)))); (case aL => have := LMc28.out; omega); intro v234 w35 ho hb hg hat; rw [← Ny233.out] at ho; have n0_ := Aside0.mk (blk_grown (g := gb231) (o := .cells #[.int .i64 t227, .int .i64 t228, .int .i64 t229, .int .i64 t230] 23 (0, 0)) (by (with_reducible repeat (first | refine blk_drewN ?_ _ | refine blk_drew ?_ | refine blk_alloc ?_ _)); exact BK231.out) hg (Kd.R_away HO_7.out (fun _ hk => hk.2))); have n1_ := Aside0.mk (hb); have n2_ := Aside0.mk (ho); clear BK231; clear HB; clear HO_7; have BK231 := n0_; have HB := n1_; have HO235 := n2_; clear n0_ n1_ n2_; clear ho hb hg hat))
                    go_roundg k2
                    case measure => have := HJ3.out; have := HK2.out; omega
                    case rel => exact ⟨(y233), (wrap64 (x8_2 + 1)), (by first | rfl | (simp; done) | (simp [*]; done)), H', ⟨by have := HJ3.out; have := HK2.out; omega⟩, ⟨by (with_reducible repeat (first | apply Kd.R_alloc | apply Kd.R_drewN | apply Kd.R_drew)); exact Kd.R_mono HO235.out (fun _ hk => trivial)⟩, ⟨by repeat (first | (with_reducible first | exact HB.out | apply below_alloc | apply pw_below_drewN | apply below_drew1 | refine below_set ?_ GE231.out) | exact HB.out)⟩⟩
                  · rw [if_neg c28] at H
                    exact absurd H (by simp)
              · rw [if_neg c18] at H
                exact absurd H (by simp)
            · rw [if_neg c17] at H
              have c17b0 : decide (x8_2 < (l0.length : Int)) = false := decide_eq_false c17
              clear c17
              replace H := Option.bind_eq_some_iff.mp H
              obtain ⟨t219, A360, H⟩ := H
              replace H : (some t219) = some r := H
              have A36 := Aside0.mk A360
              clear A360
              obtain rfl := Option.some.inj H
              obtain ⟨Ao37, co37, eo37⟩ := Kd.R_slice HO_7.out
              subst eo37
              go_wp2_with (first | ((with_reducible refine gate_callee (f := 69) rfl ?_); refine goesL_ (some 53) rfl rfl Try.func69 (by kernel_rfl) rfl #[.slice Ao37 x7_2.length co37, .slice none 0 0, .int .i64 0] rfl (by (try simp only [List.map_toArray, List.map_cons, List.map_nil]); first | done | rfl | (simp only [List.length_drop, List.length_take]; rfl)) ?_; (refine (tableauref08_make1.calls _ _ x7_2 _ _ ([] : List (S23)) 0 t219 _ ?side1 ?side2 ?side3 ?side4 A36.out).mono ?_); (case side1 => repeat (first | exact (Kd.R_reads' HO_7.out).2.2 | (with_reducible refine Kd.C_alloc ?_ _) | (with_reducible refine Kd.C_drewN ?_ _) | (with_reducible refine Kd.C_drew ?_))); (case side2 => exact (Kd.R_reads' HO_7.out).2.1); (case side3 => exact Kd.C_nil _ _); (case side4 => exact Nat.le_refl _); rintro e w38 ⟨v220, rfl, ho0, hb⟩; refine ⟨_, rfl, ?_⟩; have n0_ := Aside0.mk (Kd.R_elder' (by (with_reducible repeat (first | apply Kd.R_alloc | apply Kd.R_drewN | apply Kd.R_drew)); exact HO_7.out) (Kd.R_base ho0) hb); have n1_ := Aside0.mk (Kd.R_lower (Kd.R_new' ho0 (Kd.R_lt (by (with_reducible repeat (first | apply Kd.R_alloc | apply Kd.R_drewN | apply Kd.R_drew)); exact HO_7.out))) (below_size (by repeat (first | (with_reducible first | exact HB.out | apply below_alloc | apply pw_below_drewN | apply below_drew1) | exact HB.out)))); have n2_ := Aside0.mk (below_step (by repeat (first | (with_reducible first | exact HB.out | apply below_alloc | apply pw_below_drewN | apply below_drew1) | exact HB.out)) hb); clear HO_7; clear HB; have HO_7 := n0_; have HO221 := n1_; have HB := n2_; clear n0_ n1_ n2_; (try clear hb); (try clear hb2); (try clear hk); (try clear hi); (try clear ho0)))
              go_ret
              exact ⟨_, by first | rfl | (simp [errW_none, errW_some] <;> rfl) | (simp [*, errW_none, errW_some] <;> rfl), by (with_reducible repeat (first | apply Kd.R_alloc | apply Kd.R_drewN | apply Kd.R_drew)); exact Kd.R_mono HO221.out (fun _ hk => trivial), by repeat (first | (with_reducible first | exact HB.out | apply below_alloc | apply pw_below_drewN | apply below_drew1) | exact HB.out)⟩

/-! ### region_Cover: function 39 -/
def region_Cover.l0 : Nat → List (S23) → Int → Int → Int → Int → Int → Int → Option (Int × Int × Int × Int)
  | 0, _, _, _, _, _, _, _ => none
  | k + 1, x8, x9, x10, x238000, x238001, x238002, x238003 => if x10 < x9 then (if 0 ≤ x10 then (if x10 < (x8.length : Int) then ((rect_Cover.f x238000 x238001 x238002 x238003 ((rd_T23 x8 x10).f0) ((rd_T23 x8 x10).f1) ((rd_T23 x8 x10).f2) ((rd_T23 x8 x10).f3)).bind fun bt241 => (region_Cover.l0 k x8 x9 (wrap64 (x10 + 1)) bt241.1 bt241.2.1 bt241.2.2.1 bt241.2.2.2)) else (none)) else (none)) else (some (x238000, x238001, x238002, x238003))
def region_Cover.f (k : Nat) (l0 : List (S23)) : Option (Int × Int × Int × Int) := (region_Check.f l0).bind fun t238 => (if t238 = true then (region_Cover.l0 k l0 (l0.length : Int) 0 0 0 0 0) else (some (0, 0, 0, 0)))
theorem region_Cover.mono_l : ∀ k, (∀ y0 y1 y2 y3 y4 y5 y6, LeO (region_Cover.l0 k y0 y1 y2 y3 y4 y5 y6) (region_Cover.l0 (k + 1) y0 y1 y2 y3 y4 y5 y6))
  | 0 => fun _ _ _ _ _ _ _ r h => by simp [region_Cover.l0] at h
  | k + 1 => by
    have ih0 := region_Cover.mono_l k
    · intro y0 y1 y2 y3 y4 y5 y6
      unfold region_Cover.l0
      repeat' first
      | (with_reducible exact ih0 _ _ _ _ _ _ _)
      | (with_reducible exact LeO.refl _)
      | (with_reducible exact LeO.none _)
      | (with_reducible refine LeO.ite ?_ ?_)
      | (with_reducible refine LeO.bind ?_ (fun _ => ?_))
      | exact ih0 _ _ _ _ _ _ _
      | exact LeO.none _
      | refine LeO.ite ?_ ?_
      | refine LeO.bind ?_ (fun _ => ?_)
theorem region_Cover.mono : ∀ a0 k, LeO (region_Cover.f k a0) (region_Cover.f (k + 1) a0) := by
  intro a0 k
  have ih0 := region_Cover.mono_l k
  unfold region_Cover.f
  repeat' first
      | (with_reducible exact ih0 _ _ _ _ _ _ _)
      | (with_reducible exact LeO.refl _)
      | (with_reducible exact LeO.none _)
      | (with_reducible refine LeO.ite ?_ ?_)
      | (with_reducible refine LeO.bind ?_ (fun _ => ?_))
      | exact ih0 _ _ _ _ _ _ _
      | exact LeO.none _
      | refine LeO.ite ?_ ?_
      | refine LeO.bind ?_ (fun _ => ?_)
set_option maxHeartbeats 8000000 in
set_option maxRecDepth 100000 in
theorem region_Cover.calls (k : Nat) (A0 : Option Addr) (c0 : Nat) (l0 : List (S23)) (r1 : Int) (r2 : Int) (r3 : Int) (r4 : Int) (w : World) (hr0 : Kd.C k23 w A0 l0.length l0) (hc0 : l0.length ≤ c0) (h : region_Cover.f k l0 = some (r1, r2, r3, r4)) :
    Calls Try.prog 39 #[.slice A0 l0.length c0] w fun e w' => e = .returned (.agg #[.int .i64 r1, .int .i64 r2, .int .i64 r3, .int .i64 r4]) ∧ Below w.heap.size w w' := by
  have hu23 := Try.underlying23
  have HR0 := Aside0.mk hr0
  have HC0 := Aside0.mk hc0
  clear hr0 hc0
  have HB := Aside0.mk (Below.refl w.heap.size w)
  have H : ((region_Check.f l0).bind fun t238 => (if t238 = true then (region_Cover.l0 k l0 (l0.length : Int) 0 0 0 0 0) else (some (0, 0, 0, 0)))) = some (r1, r2, r3, r4) := h
  clear h
  replace H := Option.bind_eq_some_iff.mp H
  obtain ⟨t238, A20, H⟩ := H
  replace H : (if t238 = true then (region_Cover.l0 k l0 (l0.length : Int) 0 0 0 0 0) else (some (0, 0, 0, 0))) = some (r1, r2, r3, r4) := H
  have A2 := Aside0.mk A20
  clear A20
  by_cases c3 : t238 = true
  · subst c3
    have H1 : (region_Cover.l0 k l0 (l0.length : Int) 0 0 0 0 0) = some (r1, r2, r3, r4) := by rw [if_pos rfl] at H; exact H
    clear H
    have H := H1
    clear H1
    have H' := Aside0.mk H
    clear H
    go_enter Try.func39, Try.ntmps39
    go_wp2_with (first | ((with_reducible refine gate_dst (N := 2) rfl ?_); refine box_event ?hg (N := 2) ?hd (cs := #[.int .i64 0, .int .i64 0, .int .i64 0, .int .i64 0]) (t := 23) ?hr ?_; (case hd => rfl); (case hg => rfl); (case hr => first | (go_simp; done) | (go_simp; rfl)); intro gb236 hg w4 hbox hb; have n0_ := Aside0.mk (below_step (by repeat (first | (with_reducible first | exact HB.out | apply below_alloc | apply pw_below_drewN | apply below_drew1) | exact HB.out)) hb); have n1_ := Aside0.mk (hbox); have n2_ := Aside0.mk ((by rw [hg]; exact (below_size (by repeat (first | (with_reducible first | exact HB.out | apply below_alloc | apply pw_below_drewN | apply below_drew1) | exact HB.out))) : w.heap.size ≤ gb236)); have n3_ := Aside0.mk ((by rw [hg]; exact (below_size (by repeat (first | (with_reducible first | exact HB.out | apply below_alloc | apply pw_below_drewN | apply below_drew1) | exact HB.out))) : w.heap.size ≤ gb236)); clear HB; have HB := n0_; have BK236 := n1_; have GW236 := n2_; have GE236 := n3_; clear n0_ n1_ n2_ n3_; clear hb hbox hg) | ((with_reducible refine gate_dst (N := 3) rfl ?_); refine box_event ?hg (N := 3) ?hd (cs := #[.int .i64 0, .int .i64 0, .int .i64 0, .int .i64 0]) (t := 23) ?hr ?_; (case hd => rfl); (case hg => rfl); (case hr => first | (go_simp; done) | (go_simp; rfl)); intro gb237 hg w5 hbox hb; have n0_ := Aside0.mk (blk_below (g := gb236) (o := .cells #[.int .i64 0, .int .i64 0, .int .i64 0, .int .i64 0] 23 (0, 0)) (by (with_reducible repeat (first | refine blk_drewN ?_ _ | refine blk_drew ?_ | refine blk_alloc ?_ _)); exact BK236.out) hb); have n1_ := Aside0.mk (below_step (by repeat (first | (with_reducible first | exact HB.out | apply below_alloc | apply pw_below_drewN | apply below_drew1 | refine below_set ?_ GE236.out) | exact HB.out)) hb); have n2_ := Aside0.mk (hbox); have n3_ := Aside0.mk ((by rw [hg]; exact (below_size (by repeat (first | (with_reducible first | exact HB.out | apply below_alloc | apply pw_below_drewN | apply below_drew1 | refine below_set ?_ GE236.out) | exact HB.out))) : w.heap.size ≤ gb237)); have n4_ := Aside0.mk ((by rw [hg]; exact (below_size (by repeat (first | (with_reducible first | exact HB.out | apply below_alloc | apply pw_below_drewN | apply below_drew1 | refine below_set ?_ GE236.out) | exact HB.out))) : w.heap.size ≤ gb237)); have n5_ := Aside0.mk ((by rw [hg]; exact Nat.ne_of_lt (blk_lt (g := gb236) (o := .cells #[.int .i64 0, .int .i64 0, .int .i64 0, .int .i64 0] 23 (0, 0)) (by (with_reducible repeat (first | refine blk_drewN ?_ _ | refine blk_drew ?_ | refine blk_alloc ?_ _)); exact BK236.out)) : gb236 ≠ gb237)); have n6_ := Aside0.mk ((by rw [hg]; exact Nat.ne_of_gt (blk_lt (g := gb236) (o := .cells #[.int .i64 0, .int .i64 0, .int .i64 0, .int .i64 0] 23 (0, 0)) (by (with_reducible repeat (first | refine blk_drewN ?_ _ | refine blk_drew ?_ | refine blk_alloc ?_ _)); exact BK236.out)) : gb237 ≠ gb236)); clear BK236; clear HB; have BK236 := n0_; have HB := n1_; have BK237 := n2_; have GW237 := n3_; have GE237 := n4_; have NB236_237 := n5_; have NB237_236 := n6_; clear n0_ n1_ n2_ n3_ n4_ n5_ n6_; clear hb hbox hg) | ((with_reducible refine gate_callee (f := 16) rfl ?_); refine goesL_ (some 7) rfl rfl Try.func16 (by kernel_rfl) rfl #[.slice A0 l0.length c0] rfl (by (try simp only [List.map_toArray, List.map_cons, List.map_nil]); first | done | rfl | (simp only [List.length_drop, List.length_take]; rfl)) ?_; (with_reducible refine (region_Check.calls _ _ l0 true _ ?side1 ?side2 A2.out).mono ?_); (case side1 => repeat (first | exact (Kd.C_below HR0.out HB.out) | (with_reducible refine Kd.C_alloc ?_ _) | (with_reducible refine Kd.C_drewN ?_ _) | (with_reducible refine Kd.C_drew ?_))); (case side2 => exact HC0.out); rintro e w6 ⟨rfl, hb⟩; refine ⟨_, rfl, ?_⟩; have n0_ := Aside0.mk (blk_below (g := gb236) (o := .cells #[.int .i64 0, .int .i64 0, .int .i64 0, .int .i64 0] 23 (0, 0)) (by (with_reducible repeat (first | refine blk_drewN ?_ _ | refine blk_drew ?_ | refine blk_alloc ?_ _)); exact BK236.out) hb); have n1_ := Aside0.mk (blk_below (g := gb237) (o := .cells #[.int .i64 0, .int .i64 0, .int .i64 0, .int .i64 0] 23 (0, 0)) (by (with_reducible repeat (first | refine blk_drewN ?_ _ | refine blk_drew ?_ | refine blk_alloc ?_ _)); exact BK237.out) hb); have n2_ := Aside0.mk (below_step (by repeat (first | (with_reducible first | exact HB.out | apply below_alloc | apply pw_below_drewN | apply below_drew1 | refine below_set ?_ GE236.out | refine below_set ?_ GE237.out) | exact HB.out)) hb); clear BK236; clear BK237; clear HB; have BK236 := n0_; have BK237 := n1_; have HB := n2_; clear n0_ n1_ n2_; (try clear hb); (try clear hb2); (try clear hk); (try clear hi)))
    go_loopg [10] k (fun kq v10 w' => ∃ (x10_1 : Int) (x238000_1 : Int) (x238001_1 : Int) (x238002_1 : Int) (x238003_1 : Int), v10 = .int .i64 x10_1 ∧ Aside0 (region_Cover.l0 kq l0 (l0.length : Int) x10_1 x238000_1 x238001_1 x238002_1 x238003_1 = some (r1, r2, r3, r4)) ∧ Aside0 (kq ≤ k) ∧ Aside0 (w'.heap[gb236]? = some (.cells #[.int .i64 0, .int .i64 0, .int .i64 0, .int .i64 0] 23 (0, 0))) ∧ Aside0 (w'.heap[gb237]? = some (.cells #[.int .i64 x238000_1, .int .i64 x238001_1, .int .i64 x238002_1, .int .i64 x238003_1] 23 (0, 0))) ∧ Aside0 (Below w.heap.size w w'))
    case atStart => exact ⟨(0), (0), (0), (0), (0), (by first | rfl | (simp; done) | (simp [*]; done)), H', ⟨Nat.le_refl _⟩, ⟨by (with_reducible repeat (first | refine blk_drewN ?_ _ | refine blk_drew ?_ | refine blk_alloc ?_ _)); exact BK236.out⟩, ⟨by (with_reducible repeat (first | refine blk_drewN ?_ _ | refine blk_drew ?_ | refine blk_alloc ?_ _)); exact BK237.out⟩, ⟨by repeat (first | (with_reducible first | exact HB.out | apply below_alloc | apply pw_below_drewN | apply below_drew1 | refine below_set ?_ GE236.out | refine below_set ?_ GE237.out) | exact HB.out)⟩⟩
    case round =>
      clear H'
      try clear c1
      try clear p2
      try clear c3
      obtain ⟨x10_1, x238000_1, x238001_1, x238002_1, x238003_1, rfl, HA, HK1, BK236, BK237, HB⟩ := hrel
      cases gk with
      | zero => exact absurd HA.out (by simp [region_Cover.l0])
      | succ k1 =>
        have H := HA.out
        clear HA
        simp only [region_Cover.l0] at H
        by_cases c7 : x10_1 < (l0.length : Int)
        · rw [if_pos c7] at H
          have c7b0 : decide (x10_1 < (l0.length : Int)) = true := decide_eq_true c7
          clear c7
          by_cases c8 : 0 ≤ x10_1
          · rw [if_pos c8] at H
            have c8b0 : decide (0 ≤ x10_1) = true := decide_eq_true c8
            clear c8
            by_cases c9 : x10_1 < (l0.length : Int)
            · rw [if_pos c9] at H
              have c9b0 : decide (x10_1 < (l0.length : Int)) = true := decide_eq_true c9
              clear c9
              replace H := Option.bind_eq_some_iff.mp H
              obtain ⟨⟨t241, t242, t243, t244⟩, A100, H⟩ := H
              replace H : (region_Cover.l0 k1 l0 (l0.length : Int) (wrap64 (x10_1 + 1)) t241 t242 t243 t244) = some (r1, r2, r3, r4) := H
              have A10 := Aside0.mk A100
              clear A100
              have H' := Aside0.mk H
              clear H
              have p239 : 0 ≤ (x10_1 : Int) := of_decide_eq_true (by first | (with_reducible assumption) | assumption)
              have q239 : x10_1 < (l0.length : Int) := of_decide_eq_true (by first | (with_reducible assumption) | assumption)
              obtain ⟨ad239, e239, hx239_0, hx239_1, hx239_2, hx239_3⟩ := at_T23 HR0.out x10_1 p239 q239
              cases e239
              replace hx239_0 := (HB.out.cell (World.block_lt_of_cell? w _ hx239_0)).trans hx239_0
              replace hx239_1 := (HB.out.cell (World.block_lt_of_cell? w _ hx239_1)).trans hx239_1
              replace hx239_2 := (HB.out.cell (World.block_lt_of_cell? w _ hx239_2)).trans hx239_2
              replace hx239_3 := (HB.out.cell (World.block_lt_of_cell? w _ hx239_3)).trans hx239_3
              replace p239 := eq_true p239
              replace q239 := eq_true q239
              go_wp2_with (first | ((with_reducible refine gate_dst (N := 5) rfl ?_); refine box_event ?hg (N := 5) ?hd (cs := #[.int .i64 0, .int .i64 0, .int .i64 0, .int .i64 0]) (t := 23) ?hr ?_; (case hd => rfl); (case hg => rfl); (case hr => first | (go_simp; done) | (go_simp; rfl)); intro gb240 hg w11 hbox hb; have n0_ := Aside0.mk (blk_below (g := gb236) (o := .cells #[.int .i64 0, .int .i64 0, .int .i64 0, .int .i64 0] 23 (0, 0)) (by (with_reducible repeat (first | refine blk_drewN ?_ _ | refine blk_drew ?_ | refine blk_alloc ?_ _)); exact BK236.out) hb); have n1_ := Aside0.mk (blk_below (g := gb237) (o := .cells #[.int .i64 x238000_1, .int .i64 x238001_1, .int .i64 x238002_1, .int .i64 x238003_1] 23 (0, 0)) (by (with_reducible repeat (first | refine blk_drewN ?_ _ | refine blk_drew ?_ | refine blk_alloc ?_ _)); exact BK237.out) hb); have n2_ := Aside0.mk (below_step (by repeat (first | (with_reducible first | exact HB.out | apply below_alloc | apply pw_below_drewN | apply below_drew1 | refine below_set ?_ GE236.out | refine below_set ?_ GE237.out) | exact HB.out)) hb); have n3_ := Aside0.mk (hbox); have n4_ := Aside0.mk ((by rw [hg]; exact (below_size (by repeat (first | (with_reducible first | exact HB.out | apply below_alloc | apply pw_below_drewN | apply below_drew1 | refine below_set ?_ GE236.out | refine below_set ?_ GE237.out) | exact HB.out))) : w.heap.size ≤ gb240)); have n5_ := Aside0.mk ((by rw [hg]; exact (below_size (by repeat (first | (with_reducible first | exact HB.out | apply below_alloc | apply pw_below_drewN | apply below_drew1 | refine below_set ?_ GE236.out | refine below_set ?_ GE237.out) | exact HB.out))) : w.heap.size ≤ gb240)); have n6_ := Aside0.mk ((by rw [hg]; exact Nat.ne_of_lt (blk_lt (g := gb236) (o := .cells #[.int .i64 0, .int .i64 0, .int .i64 0, .int .i64 0] 23 (0, 0)) (by (with_reducible repeat (first | refine blk_drewN ?_ _ | refine blk_drew ?_ | refine blk_alloc ?_ _)); exact BK236.out)) : gb236 ≠ gb240)); have n7_ := Aside0.mk ((by rw [hg]; exact Nat.ne_of_gt (blk_lt (g := gb236) (o := .cells #[.int .i64 0, .int .i64 0, .int .i64 0, .int .i64 0] 23 (0, 0)) (by (with_reducible repeat (first | refine blk_drewN ?_ _ | refine blk_drew ?_ | refine blk_alloc ?_ _)); exact BK236.out)) : gb240 ≠ gb236)); have n8_ := Aside0.mk ((by rw [hg]; exact Nat.ne_of_lt (blk_lt (g := gb237) (o := .cells #[.int .i64 x238000_1, .int .i64 x238001_1, .int .i64 x238002_1, .int .i64 x238003_1] 23 (0, 0)) (by (with_reducible repeat (first | refine blk_drewN ?_ _ | refine blk_drew ?_ | refine blk_alloc ?_ _)); exact BK237.out)) : gb237 ≠ gb240)); have n9_ := Aside0.mk ((by rw [hg]; exact Nat.ne_of_gt (blk_lt (g := gb237) (o := .cells #[.int .i64 x238000_1, .int .i64 x238001_1, .int .i64 x238002_1, .int .i64 x238003_1] 23 (0, 0)) (by (with_reducible repeat (first | refine blk_drewN ?_ _ | refine blk_drew ?_ | refine blk_alloc ?_ _)); exact BK237.out)) : gb240 ≠ gb237)); clear BK236; clear BK237; clear HB; have BK236 := n0_; have BK237 := n1_; have HB := n2_; have BK240 := n3_; have GW240 := n4_; have GE240 := n5_; have NB236_240 := n6_; have NB240_236 := n7_; have NB237_240 := n8_; have NB240_237 := n9_; clear n0_ n1_ n2_ n3_ n4_ n5_ n6_ n7_ n8_ n9_; clear hb hbox hg; have hnb12 := NB240_236.out; have hnc12 := NB236_240.out; have hnb13 := NB240_237.out; have hnc13 := NB237_240.out; have hcz14_0 : w11.cell? ⟨gb240, 0, none⟩ = some (.int .i64 0) := (blk_cell BK240.out 0).trans rfl; have hcz14_1 : w11.cell? ⟨gb240, 1, none⟩ = some (.int .i64 0) := (blk_cell BK240.out 1).trans rfl; have hcz14_2 : w11.cell? ⟨gb240, 2, none⟩ = some (.int .i64 0) := (blk_cell BK240.out 2).trans rfl; have hcz14_3 : w11.cell? ⟨gb240, 3, none⟩ = some (.int .i64 0) := (blk_cell BK240.out 3).trans rfl; have hfz14_0 := blk_frozen BK240.out 0; have hfz14_1 := blk_frozen BK240.out 1; have hfz14_2 := blk_frozen BK240.out 2; have hfz14_3 := blk_frozen BK240.out 3; have hnb15 := NB237_236.out; have hnc15 := NB236_237.out; have hcz16_0 : w11.cell? ⟨gb237, 0, none⟩ = some (.int .i64 x238000_1) := (blk_cell BK237.out 0).trans rfl; have hcz16_1 : w11.cell? ⟨gb237, 1, none⟩ = some (.int .i64 x238001_1) := (blk_cell BK237.out 1).trans rfl; have hcz16_2 : w11.cell? ⟨gb237, 2, none⟩ = some (.int .i64 x238002_1) := (blk_cell BK237.out 2).trans rfl; have hcz16_3 : w11.cell? ⟨gb237, 3, none⟩ = some (.int .i64 x238003_1) := (blk_cell BK237.out 3).trans rfl; have hfz16_0 := blk_frozen BK237.out 0; have hfz16_1 := blk_frozen BK237.out 1; have hfz16_2 := blk_frozen BK237.out 2; have hfz16_3 := blk_frozen BK237.out 3) | ((with_reducible refine gate_callee (f := 72) rfl ?_); refine goesL_ (some 16) rfl rfl Try.func72 (by kernel_rfl) rfl #[.agg #[.int .i64 x238000_1, .int .i64 x238001_1, .int .i64 x238002_1, .int .i64 x238003_1], .agg #[.int .i64 ((rd_T23 l0 x10_1).f0), .int .i64 ((rd_T23 l0 x10_1).f1), .int .i64 ((rd_T23 l0 x10_1).f2), .int .i64 ((rd_T23 l0 x10_1).f3)]] rfl (by (try simp only [List.map_toArray, List.map_cons, List.map_nil]); first | done | rfl | (simp only [List.length_drop, List.length_take]; rfl)) ?_; (with_reducible refine (rect_Cover.calls x238000_1 x238001_1 x238002_1 x238003_1 ((rd_T23 l0 x10_1).f0) ((rd_T23 l0 x10_1).f1) ((rd_T23 l0 x10_1).f2) ((rd_T23 l0 x10_1).f3) t241 t242 t243 t244 _ A10.out).mono ?_); rintro e w17 ⟨rfl, hb⟩; refine ⟨_, rfl, ?_⟩; have n0_ := Aside0.mk (blk_below (g := gb236) (o := .cells #[.int .i64 0, .int .i64 0, .int .i64 0, .int .i64 0] 23 (0, 0)) (by (with_reducible repeat (first | refine blk_drewN ?_ _ | refine blk_drew ?_ | refine blk_alloc ?_ _)); refine blk_far ?_ NB236_240.out _; (with_reducible repeat (first | refine blk_drewN ?_ _ | refine blk_drew ?_ | refine blk_alloc ?_ _)); refine blk_far ?_ NB236_240.out _; (with_reducible repeat (first | refine blk_drewN ?_ _ | refine blk_drew ?_ | refine blk_alloc ?_ _)); refine blk_far ?_ NB236_240.out _; (with_reducible repeat (first | refine blk_drewN ?_ _ | refine blk_drew ?_ | refine blk_alloc ?_ _)); refine blk_far ?_ NB236_240.out _; (with_reducible repeat (first | refine blk_drewN ?_ _ | refine blk_drew ?_ | refine blk_alloc ?_ _)); exact BK236.out) hb); have n1_ := Aside0.mk (blk_below (g := gb237) (o := .cells #[.int .i64 x238000_1, .int .i64 x238001_1, .int .i64 x238002_1, .int .i64 x238003_1] 23 (0, 0)) (by (with_reducible repeat (first | refine blk_drewN ?_ _ | refine blk_drew ?_ | refine blk_alloc ?_ _)); refine blk_far ?_ NB237_240.out _; (with_reducible repeat (first | refine blk_drewN ?_ _ | refine blk_drew ?_ | refine blk_alloc ?_ _)); refine blk_far ?_ NB237_240.out _; (with_reducible repeat (first | refine blk_drewN ?_ _ | refine blk_drew ?_ | refine blk_alloc ?_ _)); refine blk_far ?_ NB237_240.out _; (with_reducible repeat (first | refine blk_drewN ?_ _ | refine blk_drew ?_ | refine blk_alloc ?_ _)); refine blk_far ?_ NB237_240.out _; (with_reducible repeat (first | refine blk_drewN ?_ _ | refine blk_drew ?_ | refine blk_alloc ?_ _)); exact BK237.out) hb); have n2_ := Aside0.mk (blk_below (g := gb240) (o := .cells #[.int .i64 ((rd_T23 l0 x10_1).f0), .int .i64 ((rd_T23 l0 x10_1).f1), .int .i64 ((rd_T23 l0 x10_1).f2), .int .i64 ((rd_T23 l0 x10_1).f3)] 23 (0, 0)) (by (with_reducible repeat (first | refine blk_drewN ?_ _ | refine blk_drew ?_ | refine blk_alloc ?_ _)); refine blk_put (cs := #[.int .i64 ((rd_T23 l0 x10_1).f0), .int .i64 ((rd_T23 l0 x10_1).f1), .int .i64 ((rd_T23 l0 x10_1).f2), .int .i64 0]) ?_ 3 _ rfl; (with_reducible repeat (first | refine blk_drewN ?_ _ | refine blk_drew ?_ | refine blk_alloc ?_ _)); refine blk_put (cs := #[.int .i64 ((rd_T23 l0 x10_1).f0), .int .i64 ((rd_T23 l0 x10_1).f1), .int .i64 0, .int .i64 0]) ?_ 2 _ rfl; (with_reducible repeat (first | refine blk_drewN ?_ _ | refine blk_drew ?_ | refine blk_alloc ?_ _)); refine blk_put (cs := #[.int .i64 ((rd_T23 l0 x10_1).f0), .int .i64 0, .int .i64 0, .int .i64 0]) ?_ 1 _ rfl; (with_reducible repeat (first | refine blk_drewN ?_ _ | refine blk_drew ?_ | refine blk_alloc ?_ _)); refine blk_put (cs := #[.int .i64 0, .int .i64 0, .int .i64 0, .int .i64 0]) ?_ 0 _ rfl; (with_reducible repeat (first | refine blk_drewN ?_ _ | refine blk_drew ?_ | refine blk_alloc ?_ _)); exact BK240.out) hb); have n3_ := Aside0.mk (below_step (by repeat (first | (with_reducible first | exact HB.out | apply below_alloc | apply pw_below_drewN | apply below_drew1 | refine below_set ?_ GE236.out | refine below_set ?_ GE237.out | refine below_set ?_ GE240.out) | exact HB.out)) hb); clear BK236; clear BK237; clear BK240; clear HB; have BK236 := n0_; have BK237 := n1_; have BK240 := n2_; have HB := n3_; clear n0_ n1_ n2_ n3_; (try clear hb); (try clear hb2); (try clear hk); (try clear hi); have hcz18_0 : w17.cell? ⟨gb237, 0, none⟩ = some (.int .i64 x238000_1) := (blk_cell BK237.out 0).trans rfl; have hcz18_1 : w17.cell? ⟨gb237, 1, none⟩ = some (.int .i64 x238001_1) := (blk_cell BK237.out 1).trans rfl; have hcz18_2 : w17.cell? ⟨gb237, 2, none⟩ = some (.int .i64 x238002_1) := (blk_cell BK237.out 2).trans rfl; have hcz18_3 : w17.cell? ⟨gb237, 3, none⟩ = some (.int .i64 x238003_1) := (blk_cell BK237.out 3).trans rfl; have hfz18_0 := blk_frozen BK237.out 0; have hfz18_1 := blk_frozen BK237.out 1; have hfz18_2 := blk_frozen BK237.out 2; have hfz18_3 := blk_frozen BK237.out 3))
              go_roundg k1
              case measure => have := HK1.out; omega
              case rel => exact ⟨(wrap64 (x10_1 + 1)), (t241), (t242), (t243), (t244), (by first | rfl | (simp; done) | (simp [*]; done)), H', ⟨by have := HK1.out; omega⟩, ⟨by (with_reducible repeat (first | refine blk_drewN ?_ _ | refine blk_drew ?_ | refine blk_alloc ?_ _)); refine blk_far ?_ NB236_237.out _; (with_reducible repeat (first | refine blk_drewN ?_ _ | refine blk_drew ?_ | refine blk_alloc ?_ _)); refine blk_far ?_ NB236_237.out _; (with_reducible repeat (first | refine blk_drewN ?_ _ | refine blk_drew ?_ | refine blk_alloc ?_ _)); refine blk_far ?_ NB236_237.out _; (with_reducible repeat (first | refine blk_drewN ?_ _ | refine blk_drew ?_ | refine blk_alloc ?_ _)); refine blk_far ?_ NB236_237.out _; (with_reducible repeat (first | refine blk_drewN ?_ _ | refine blk_drew ?_ | refine blk_alloc ?_ _)); exact BK236.out⟩, ⟨by (with_reducible repeat (first | refine blk_drewN ?_ _ | refine blk_drew ?_ | refine blk_alloc ?_ _)); refine blk_put (cs := #[.int .i64 t241, .int .i64 t242, .int .i64 t243, .int .i64 x238003_1]) ?_ 3 _ rfl; (with_reducible repeat (first | refine blk_drewN ?_ _ | refine blk_drew ?_ | refine blk_alloc ?_ _)); refine blk_put (cs := #[.int .i64 t241, .int .i64 t242, .int .i64 x238002_1, .int .i64 x238003_1]) ?_ 2 _ rfl; (with_reducible repeat (first | refine blk_drewN ?_ _ | refine blk_drew ?_ | refine blk_alloc ?_ _)); refine blk_put (cs := #[.int .i64 t241, .int .i64 x238001_1, .int .i64 x238002_1, .int .i64 x238003_1]) ?_ 1 _ rfl; (with_reducible repeat (first | refine blk_drewN ?_ _ | refine blk_drew ?_ | refine blk_alloc ?_ _)); refine blk_put (cs := #[.int .i64 x238000_1, .int .i64 x238001_1, .int .i64 x238002_1, .int .i64 x238003_1]) ?_ 0 _ rfl; (with_reducible repeat (first | refine blk_drewN ?_ _ | refine blk_drew ?_ | refine blk_alloc ?_ _)); exact BK237.out⟩, ⟨by repeat (first | (with_reducible first | exact HB.out | apply below_alloc | apply pw_below_drewN | apply below_drew1 | refine below_set ?_ GE236.out | refine below_set ?_ GE237.out | refine below_set ?_ GE240.out) | exact HB.out)⟩⟩
            · rw [if_neg c9] at H
              exact absurd H (by simp)
          · rw [if_neg c8] at H
            exact absurd H (by simp)
        · rw [if_neg c7] at H
          have c7b0 : decide (x10_1 < (l0.length : Int)) = false := decide_eq_false c7
          clear c7
          simp only [Option.some.injEq, Prod.mk.injEq] at H
          obtain ⟨rfl, rfl, rfl, rfl⟩ := H
          have hnb19 := NB237_236.out
          have hnc19 := NB236_237.out
          have hcz20_0 : wr.cell? ⟨gb237, 0, none⟩ = some (.int .i64 x238000_1) := (blk_cell BK237.out 0).trans rfl
          have hcz20_1 : wr.cell? ⟨gb237, 1, none⟩ = some (.int .i64 x238001_1) := (blk_cell BK237.out 1).trans rfl
          have hcz20_2 : wr.cell? ⟨gb237, 2, none⟩ = some (.int .i64 x238002_1) := (blk_cell BK237.out 2).trans rfl
          have hcz20_3 : wr.cell? ⟨gb237, 3, none⟩ = some (.int .i64 x238003_1) := (blk_cell BK237.out 3).trans rfl
          have hfz20_0 := blk_frozen BK237.out 0
          have hfz20_1 := blk_frozen BK237.out 1
          have hfz20_2 := blk_frozen BK237.out 2
          have hfz20_3 := blk_frozen BK237.out 3
          have hcz21_0 : wr.cell? ⟨gb236, 0, none⟩ = some (.int .i64 0) := (blk_cell BK236.out 0).trans rfl
          have hcz21_1 : wr.cell? ⟨gb236, 1, none⟩ = some (.int .i64 0) := (blk_cell BK236.out 1).trans rfl
          have hcz21_2 : wr.cell? ⟨gb236, 2, none⟩ = some (.int .i64 0) := (blk_cell BK236.out 2).trans rfl
          have hcz21_3 : wr.cell? ⟨gb236, 3, none⟩ = some (.int .i64 0) := (blk_cell BK236.out 3).trans rfl
          have hfz21_0 := blk_frozen BK236.out 0
          have hfz21_1 := blk_frozen BK236.out 1
          have hfz21_2 := blk_frozen BK236.out 2
          have hfz21_3 := blk_frozen BK236.out 3
          go_wp2
          refine bodyPost_ret (results_cell_row rfl _ _ gb236 23 #[.int .i64 x238000_1, .int .i64 x238001_1, .int .i64 x238002_1, .int .i64 x238003_1] (0, 0) _ rfl (by (with_reducible repeat (first | refine blk_drewN ?_ _ | refine blk_drew ?_ | refine blk_alloc ?_ _)); refine blk_put (cs := #[.int .i64 x238000_1, .int .i64 x238001_1, .int .i64 x238002_1, .int .i64 0]) ?_ 3 _ rfl; (with_reducible repeat (first | refine blk_drewN ?_ _ | refine blk_drew ?_ | refine blk_alloc ?_ _)); refine blk_put (cs := #[.int .i64 x238000_1, .int .i64 x238001_1, .int .i64 0, .int .i64 0]) ?_ 2 _ rfl; (with_reducible repeat (first | refine blk_drewN ?_ _ | refine blk_drew ?_ | refine blk_alloc ?_ _)); refine blk_put (cs := #[.int .i64 x238000_1, .int .i64 0, .int .i64 0, .int .i64 0]) ?_ 1 _ rfl; (with_reducible repeat (first | refine blk_drewN ?_ _ | refine blk_drew ?_ | refine blk_alloc ?_ _)); refine blk_put (cs := #[.int .i64 0, .int .i64 0, .int .i64 0, .int .i64 0]) ?_ 0 _ rfl; (with_reducible repeat (first | refine blk_drewN ?_ _ | refine blk_drew ?_ | refine blk_alloc ?_ _)); exact BK236.out) Try.underlying23 rfl (by kernel_rfl)) rfl ?_
          exact ⟨by first | rfl | (simp [errW_none, errW_some] <;> rfl) | (simp [*, errW_none, errW_some] <;> rfl), by repeat (first | (with_reducible first | exact HB.out | apply below_alloc | apply pw_below_drewN | apply below_drew1 | refine below_set ?_ GE236.out | refine below_set ?_ GE237.out) | exact HB.out)⟩
  · replace c3 := Bool.eq_false_iff.mpr c3
    subst c3
    have H1 : (some (0, 0, 0, 0)) = some (r1, r2, r3, r4) := by rw [if_neg (show ¬ (false = true) by decide)] at H; exact H
    clear H
    have H := H1
    clear H1
    simp only [Option.some.injEq, Prod.mk.injEq] at H
    obtain ⟨rfl, rfl, rfl, rfl⟩ := H
    go_enter Try.func39, Try.ntmps39
    go_wp2_with (first | ((with_reducible refine gate_dst (N := 2) rfl ?_); refine box_event ?hg (N := 2) ?hd (cs := #[.int .i64 0, .int .i64 0, .int .i64 0, .int .i64 0]) (t := 23) ?hr ?_; (case hd => rfl); (case hg => rfl); (case hr => first | (go_simp; done) | (go_simp; rfl)); intro gb236 hg w22 hbox hb; have n0_ := Aside0.mk (below_step (by repeat (first | (with_reducible first | exact HB.out | apply below_alloc | apply pw_below_drewN | apply below_drew1) | exact HB.out)) hb); have n1_ := Aside0.mk (hbox); have n2_ := Aside0.mk ((by rw [hg]; exact (below_size (by repeat (first | (with_reducible first | exact HB.out | apply below_alloc | apply pw_below_drewN | apply below_drew1) | exact HB.out))) : w.heap.size ≤ gb236)); have n3_ := Aside0.mk ((by rw [hg]; exact (below_size (by repeat (first | (with_reducible first | exact HB.out | apply below_alloc | apply pw_below_drewN | apply below_drew1) | exact HB.out))) : w.heap.size ≤ gb236)); clear HB; have HB := n0_; have BK236 := n1_; have GW236 := n2_; have GE236 := n3_; clear n0_ n1_ n2_ n3_; clear hb hbox hg) | ((with_reducible refine gate_dst (N := 3) rfl ?_); refine box_event ?hg (N := 3) ?hd (cs := #[.int .i64 0, .int .i64 0, .int .i64 0, .int .i64 0]) (t := 23) ?hr ?_; (case hd => rfl); (case hg => rfl); (case hr => first | (go_simp; done) | (go_simp; rfl)); intro gb237 hg w23 hbox hb; have n0_ := Aside0.mk (blk_below (g := gb236) (o := .cells #[.int .i64 0, .int .i64 0, .int .i64 0, .int .i64 0] 23 (0, 0)) (by (with_reducible repeat (first | refine blk_drewN ?_ _ | refine blk_drew ?_ | refine blk_alloc ?_ _)); exact BK236.out) hb); have n1_ := Aside0.mk (below_step (by repeat (first | (with_reducible first | exact HB.out | apply below_alloc | apply pw_below_drewN | apply below_drew1 | refine below_set ?_ GE236.out) | exact HB.out)) hb); have n2_ := Aside0.mk (hbox); have n3_ := Aside0.mk ((by rw [hg]; exact (below_size (by repeat (first | (with_reducible first | exact HB.out | apply below_alloc | apply pw_below_drewN | apply below_drew1 | refine below_set ?_ GE236.out) | exact HB.out))) : w.heap.size ≤ gb237)); have n4_ := Aside0.mk ((by rw [hg]; exact (below_size (by repeat (first | (with_reducible first | exact HB.out | apply below_alloc | apply pw_below_drewN | apply below_drew1 | refine below_set ?_ GE236.out) | exact HB.out))) : w.heap.size ≤ gb237)); have n5_ := Aside0.mk ((by rw [hg]; exact Nat.ne_of_lt (blk_lt (g := gb236) (o := .cells #[.int .i64 0, .int .i64 0, .int .i64 0, .int .i64 0] 23 (0, 0)) (by (with_reducible repeat (first | refine blk_drewN ?_ _ | refine blk_drew ?_ | refine blk_alloc ?_ _)); exact BK236.out)) : gb236 ≠ gb237)); have n6_ := Aside0.mk ((by rw [hg]; exact Nat.ne_of_gt (blk_lt (g := gb236) (o := .cells #[.int .i64 0, .int .i64 0, .int .i64 0, .int .i64 0] 23 (0, 0)) (by (with_reducible repeat (first | refine blk_drewN ?_ _ | refine blk_drew ?_ | refine blk_alloc ?_ _)); exact BK236.out)) : gb237 ≠ gb236)); clear BK236; clear HB; have BK236 := n0_; have HB := n1_; have BK237 := n2_; have GW237 := n3_; have GE237 := n4_; have NB236_237 := n5_; have NB237_236 := n6_; clear n0_ n1_ n2_ n3_ n4_ n5_ n6_; clear hb hbox hg) | ((with_reducible refine gate_callee (f := 16) rfl ?_); refine goesL_ (some 7) rfl rfl Try.func16 (by kernel_rfl) rfl #[.slice A0 l0.length c0] rfl (by (try simp only [List.map_toArray, List.map_cons, List.map_nil]); first | done | rfl | (simp only [List.length_drop, List.length_take]; rfl)) ?_; (with_reducible refine (region_Check.calls _ _ l0 false _ ?side1 ?side2 A2.out).mono ?_); (case side1 => repeat (first | exact (Kd.C_below HR0.out HB.out) | (with_reducible refine Kd.C_alloc ?_ _) | (with_reducible refine Kd.C_drewN ?_ _) | (with_reducible refine Kd.C_drew ?_))); (case side2 => exact HC0.out); rintro e w24 ⟨rfl, hb⟩; refine ⟨_, rfl, ?_⟩; have n0_ := Aside0.mk (blk_below (g := gb236) (o := .cells #[.int .i64 0, .int .i64 0, .int .i64 0, .int .i64 0] 23 (0, 0)) (by (with_reducible repeat (first | refine blk_drewN ?_ _ | refine blk_drew ?_ | refine blk_alloc ?_ _)); exact BK236.out) hb); have n1_ := Aside0.mk (blk_below (g := gb237) (o := .cells #[.int .i64 0, .int .i64 0, .int .i64 0, .int .i64 0] 23 (0, 0)) (by (with_reducible repeat (first | refine blk_drewN ?_ _ | refine blk_drew ?_ | refine blk_alloc ?_ _)); exact BK237.out) hb); have n2_ := Aside0.mk (below_step (by repeat (first | (with_reducible first | exact HB.out | apply below_alloc | apply pw_below_drewN | apply below_drew1 | refine below_set ?_ GE236.out | refine below_set ?_ GE237.out) | exact HB.out)) hb); clear BK236; clear BK237; clear HB; have BK236 := n0_; have BK237 := n1_; have HB := n2_; clear n0_ n1_ n2_; (try clear hb); (try clear hb2); (try clear hk); (try clear hi); have hnb25 := NB237_236.out; have hnc25 := NB236_237.out; have hcz26_0 : w24.cell? ⟨gb237, 0, none⟩ = some (.int .i64 0) := (blk_cell BK237.out 0).trans rfl; have hcz26_1 : w24.cell? ⟨gb237, 1, none⟩ = some (.int .i64 0) := (blk_cell BK237.out 1).trans rfl; have hcz26_2 : w24.cell? ⟨gb237, 2, none⟩ = some (.int .i64 0) := (blk_cell BK237.out 2).trans rfl; have hcz26_3 : w24.cell? ⟨gb237, 3, none⟩ = some (.int .i64 0) := (blk_cell BK237.out 3).trans rfl; have hfz26_0 := blk_frozen BK237.out 0; have hfz26_1 := blk_frozen BK237.out 1; have hfz26_2 := blk_frozen BK237.out 2; have hfz26_3 := blk_frozen BK237.out 3; have hcz27_0 : w24.cell? ⟨gb236, 0, none⟩ = some (.int .i64 0) := (blk_cell BK236.out 0).trans rfl; have hcz27_1 : w24.cell? ⟨gb236, 1, none⟩ = some (.int .i64 0) := (blk_cell BK236.out 1).trans rfl; have hcz27_2 : w24.cell? ⟨gb236, 2, none⟩ = some (.int .i64 0) := (blk_cell BK236.out 2).trans rfl; have hcz27_3 : w24.cell? ⟨gb236, 3, none⟩ = some (.int .i64 0) := (blk_cell BK236.out 3).trans rfl; have hfz27_0 := blk_frozen BK236.out 0; have hfz27_1 := blk_frozen BK236.out 1; have hfz27_2 := blk_frozen BK236.out 2; have hfz27_3 := blk_frozen BK236.out 3))
    refine bodyPost_ret (results_cell_row rfl _ _ gb236 23 #[.int .i64 0, .int .i64 0, .int .i64 0, .int .i64 0] (0, 0) _ rfl (by (with_reducible repeat (first | refine blk_drewN ?_ _ | refine blk_drew ?_ | refine blk_alloc ?_ _)); refine blk_put (cs := #[.int .i64 0, .int .i64 0, .int .i64 0, .int .i64 0]) ?_ 3 _ rfl; (with_reducible repeat (first | refine blk_drewN ?_ _ | refine blk_drew ?_ | refine blk_alloc ?_ _)); refine blk_put (cs := #[.int .i64 0, .int .i64 0, .int .i64 0, .int .i64 0]) ?_ 2 _ rfl; (with_reducible repeat (first | refine blk_drewN ?_ _ | refine blk_drew ?_ | refine blk_alloc ?_ _)); refine blk_put (cs := #[.int .i64 0, .int .i64 0, .int .i64 0, .int .i64 0]) ?_ 1 _ rfl; (with_reducible repeat (first | refine blk_drewN ?_ _ | refine blk_drew ?_ | refine blk_alloc ?_ _)); refine blk_put (cs := #[.int .i64 0, .int .i64 0, .int .i64 0, .int .i64 0]) ?_ 0 _ rfl; (with_reducible repeat (first | refine blk_drewN ?_ _ | refine blk_drew ?_ | refine blk_alloc ?_ _)); exact BK236.out) Try.underlying23 rfl (by kernel_rfl)) rfl ?_
    exact ⟨by first | rfl | (simp [errW_none, errW_some] <;> rfl) | (simp [*, errW_none, errW_some] <;> rfl), by repeat (first | (with_reducible first | exact HB.out | apply below_alloc | apply pw_below_drewN | apply below_drew1 | refine below_set ?_ GE236.out | refine below_set ?_ GE237.out) | exact HB.out)⟩

/-! ### tableauref08_Cover: function 40 -/
def tableauref08_Cover.l0 : Nat → List (S23) → Int → Int → Int → Int → Int → Option (Int × Int × Int × Int)
  | 0, _, _, _, _, _, _ => none
  | k + 1, x0, x4, x258000, x258001, x258002, x258003 => if x4 < (x0.length : Int) then ((tableauref08_Check.f k x0).bind fun t258 => (if t258 = true then (if 0 ≤ x4 then ((tableauref07_Cover.f k x258000 x258001 x258002 x258003 ((rd_T23 x0 x4).f0) ((rd_T23 x0 x4).f1) ((rd_T23 x0 x4).f2) ((rd_T23 x0 x4).f3)).bind fun bt260 => (tableauref08_Cover.l0 k x0 (wrap64 (x4 + 1)) bt260.1 bt260.2.1 bt260.2.2.1 bt260.2.2.2)) else (none)) else (some (x258000, x258001, x258002, x258003)))) else (some (x258000, x258001, x258002, x258003))
def tableauref08_Cover.f (k : Nat) (l0 : List (S23)) : Option (Int × Int × Int × Int) := tableauref08_Cover.l0 k l0 0 0 0 0 0
theorem tableauref08_Cover.mono_l : ∀ k, (∀ y0 y1 y2 y3 y4 y5, LeO (tableauref08_Cover.l0 k y0 y1 y2 y3 y4 y5) (tableauref08_Cover.l0 (k + 1) y0 y1 y2 y3 y4 y5))
  | 0 => fun _ _ _ _ _ _ r h => by simp [tableauref08_Cover.l0] at h
  | k + 1 => by
    have ih0 := tableauref08_Cover.mono_l k
    · intro y0 y1 y2 y3 y4 y5
      unfold tableauref08_Cover.l0
      repeat' first
      | (with_reducible exact ih0 _ _ _ _ _ _)
      | (with_reducible exact tableauref07_Cover.mono _ _ _ _ _ _ _ _ _)
      | (with_reducible exact tableauref08_Check.mono _ _)
      | (with_reducible exact LeO.refl _)
      | (with_reducible exact LeO.none _)
      | (with_reducible refine LeO.ite ?_ ?_)
      | (with_reducible refine LeO.bind ?_ (fun _ => ?_))
      | exact ih0 _ _ _ _ _ _
      | exact tableauref07_Cover.mono _ _ _ _ _ _ _ _ _
      | exact tableauref08_Check.mono _ _
      | exact LeO.none _
      | refine LeO.ite ?_ ?_
      | refine LeO.bind ?_ (fun _ => ?_)
theorem tableauref08_Cover.mono : ∀ a0 k, LeO (tableauref08_Cover.f k a0) (tableauref08_Cover.f (k + 1) a0) := by
  intro a0 k
  have ih0 := tableauref08_Cover.mono_l k
  unfold tableauref08_Cover.f
  repeat' first
      | (with_reducible exact ih0 _ _ _ _ _ _)
      | (with_reducible exact tableauref07_Cover.mono _ _ _ _ _ _ _ _ _)
      | (with_reducible exact tableauref08_Check.mono _ _)
      | (with_reducible exact LeO.refl _)
      | (with_reducible exact LeO.none _)
      | (with_reducible refine LeO.ite ?_ ?_)
      | (with_reducible refine LeO.bind ?_ (fun _ => ?_))
      | exact ih0 _ _ _ _ _ _
      | exact tableauref07_Cover.mono _ _ _ _ _ _ _ _ _
      | exact tableauref08_Check.mono _ _
      | exact LeO.none _
      | refine LeO.ite ?_ ?_
      | refine LeO.bind ?_ (fun _ => ?_)
set_option maxHeartbeats 8000000 in
set_option maxRecDepth 100000 in
theorem tableauref08_Cover.calls (k : Nat) (A0 : Option Addr) (c0 : Nat) (l0 : List (S23)) (r1 : Int) (r2 : Int) (r3 : Int) (r4 : Int) (w : World) (hr0 : Kd.C k23 w A0 l0.length l0) (hc0 : l0.length ≤ c0) (h : tableauref08_Cover.f k l0 = some (r1, r2, r3, r4)) :
    Calls Try.prog 40 #[.slice A0 l0.length c0] w fun e w' => e = .returned (.agg #[.int .i64 r1, .int .i64 r2, .int .i64 r3, .int .i64 r4]) ∧ Below w.heap.size w w' := by
  have hu23 := Try.underlying23
  have HR0 := Aside0.mk hr0
  have HC0 := Aside0.mk hc0
  clear hr0 hc0
  have HB := Aside0.mk (Below.refl w.heap.size w)
  have H : (tableauref08_Cover.l0 k l0 0 0 0 0 0) = some (r1, r2, r3, r4) := h
  clear h
  have H' := Aside0.mk H
  clear H
  go_enter Try.func40, Try.ntmps40
  go_wp2_with (first | ((with_reducible refine gate_dst (N := 2) rfl ?_); refine box_event ?hg (N := 2) ?hd (cs := #[.int .i64 0, .int .i64 0, .int .i64 0, .int .i64 0]) (t := 23) ?hr ?_; (case hd => rfl); (case hg => rfl); (case hr => first | (go_simp; done) | (go_simp; rfl)); intro gb256 hg w2 hbox hb; have n0_ := Aside0.mk (below_step (by repeat (first | (with_reducible first | exact HB.out | apply below_alloc | apply pw_below_drewN | apply below_drew1) | exact HB.out)) hb); have n1_ := Aside0.mk (hbox); have n2_ := Aside0.mk ((by rw [hg]; exact (below_size (by repeat (first | (with_reducible first | exact HB.out | apply below_alloc | apply pw_below_drewN | apply below_drew1) | exact HB.out))) : w.heap.size ≤ gb256)); have n3_ := Aside0.mk ((by rw [hg]; exact (below_size (by repeat (first | (with_reducible first | exact HB.out | apply below_alloc | apply pw_below_drewN | apply below_drew1) | exact HB.out))) : w.heap.size ≤ gb256)); clear HB; have HB := n0_; have BK256 := n1_; have GW256 := n2_; have GE256 := n3_; clear n0_ n1_ n2_ n3_; clear hb hbox hg) | ((with_reducible refine gate_dst (N := 3) rfl ?_); refine box_event ?hg (N := 3) ?hd (cs := #[.int .i64 0, .int .i64 0, .int .i64 0, .int .i64 0]) (t := 23) ?hr ?_; (case hd => rfl); (case hg => rfl); (case hr => first | (go_simp; done) | (go_simp; rfl)); intro gb257 hg w3 hbox hb; have n0_ := Aside0.mk (blk_below (g := gb256) (o := .cells #[.int .i64 0, .int .i64 0, .int .i64 0, .int .i64 0] 23 (0, 0)) (by (with_reducible repeat (first | refine blk_drewN ?_ _ | refine blk_drew ?_ | refine blk_alloc ?_ _)); exact BK256.out) hb); have n1_ := Aside0.mk (below_step (by repeat (first | (with_reducible first | exact HB.out | apply below_alloc | apply pw_below_drewN | apply below_drew1 | refine below_set ?_ GE256.out) | exact HB.out)) hb); have n2_ := Aside0.mk (hbox); have n3_ := Aside0.mk ((by rw [hg]; exact (below_size (by repeat (first | (with_reducible first | exact HB.out | apply below_alloc | apply pw_below_drewN | apply below_drew1 | refine below_set ?_ GE256.out) | exact HB.out))) : w.heap.size ≤ gb257)); have n4_ := Aside0.mk ((by rw [hg]; exact (below_size (by repeat (first | (with_reducible first | exact HB.out | apply below_alloc | apply pw_below_drewN | apply below_drew1 | refine below_set ?_ GE256.out) | exact HB.out))) : w.heap.size ≤ gb257)); have n5_ := Aside0.mk ((by rw [hg]; exact Nat.ne_of_lt (blk_lt (g := gb256) (o := .cells #[.int .i64 0, .int .i64 0, .int .i64 0, .int .i64 0] 23 (0, 0)) (by (with_reducible repeat (first | refine blk_drewN ?_ _ | refine blk_drew ?_ | refine blk_alloc ?_ _)); exact BK256.out)) : gb256 ≠ gb257)); have n6_ := Aside0.mk ((by rw [hg]; exact Nat.ne_of_gt (blk_lt (g := gb256) (o := .cells #[.int .i64 0, .int .i64 0, .int .i64 0, .int .i64 0] 23 (0, 0)) (by (with_reducible repeat (first | refine blk_drewN ?_ _ | refine blk_drew ?_ | refine blk_alloc ?_ _)); exact BK256.out)) : gb257 ≠ gb256)); clear BK256; clear HB; have BK256 := n0_; have HB := n1_; have BK257 := n2_; have GW257 := n3_; have GE257 := n4_; have NB256_257 := n5_; have NB257_256 := n6_; clear n0_ n1_ n2_ n3_ n4_ n5_ n6_; clear hb hbox hg; have hnb4 := NB257_256.out; have hnc4 := NB256_257.out; have hcz5_0 : w3.cell? ⟨gb257, 0, none⟩ = some (.int .i64 0) := (blk_cell BK257.out 0).trans rfl; have hcz5_1 : w3.cell? ⟨gb257, 1, none⟩ = some (.int .i64 0) := (blk_cell BK257.out 1).trans rfl; have hcz5_2 : w3.cell? ⟨gb257, 2, none⟩ = some (.int .i64 0) := (blk_cell BK257.out 2).trans rfl; have hcz5_3 : w3.cell? ⟨gb257, 3, none⟩ = some (.int .i64 0) := (blk_cell BK257.out 3).trans rfl; have hfz5_0 := blk_frozen BK257.out 0; have hfz5_1 := blk_frozen BK257.out 1; have hfz5_2 := blk_frozen BK257.out 2; have hfz5_3 := blk_frozen BK257.out 3))
  go_loopg [4] k (fun kq v4 w' => ∃ (x4_1 : Int) (x258000_1 : Int) (x258001_1 : Int) (x258002_1 : Int) (x258003_1 : Int), v4 = .int .i64 x4_1 ∧ Aside0 (tableauref08_Cover.l0 kq l0 x4_1 x258000_1 x258001_1 x258002_1 x258003_1 = some (r1, r2, r3, r4)) ∧ Aside0 (kq ≤ k) ∧ Aside0 (w'.heap[gb256]? = some (.cells #[.int .i64 0, .int .i64 0, .int .i64 0, .int .i64 0] 23 (0, 0))) ∧ Aside0 (w'.heap[gb257]? = some (.cells #[.int .i64 x258000_1, .int .i64 x258001_1, .int .i64 x258002_1, .int .i64 x258003_1] 23 (0, 0))) ∧ Aside0 (Below w.heap.size w w'))
  case atStart => exact ⟨(0), (0), (0), (0), (0), (by first | rfl | (simp; done) | (simp [*]; done)), H', ⟨Nat.le_refl _⟩, ⟨by (with_reducible repeat (first | refine blk_drewN ?_ _ | refine blk_drew ?_ | refine blk_alloc ?_ _)); refine blk_far ?_ NB256_257.out _; (with_reducible repeat (first | refine blk_drewN ?_ _ | refine blk_drew ?_ | refine blk_alloc ?_ _)); refine blk_far ?_ NB256_257.out _; (with_reducible repeat (first | refine blk_drewN ?_ _ | refine blk_drew ?_ | refine blk_alloc ?_ _)); refine blk_far ?_ NB256_257.out _; (with_reducible repeat (first | refine blk_drewN ?_ _ | refine blk_drew ?_ | refine blk_alloc ?_ _)); refine blk_far ?_ NB256_257.out _; (with_reducible repeat (first | refine blk_drewN ?_ _ | refine blk_drew ?_ | refine blk_alloc ?_ _)); exact BK256.out⟩, ⟨by (with_reducible repeat (first | refine blk_drewN ?_ _ | refine blk_drew ?_ | refine blk_alloc ?_ _)); refine blk_put (cs := #[.int .i64 0, .int .i64 0, .int .i64 0, .int .i64 0]) ?_ 3 _ rfl; (with_reducible repeat (first | refine blk_drewN ?_ _ | refine blk_drew ?_ | refine blk_alloc ?_ _)); refine blk_put (cs := #[.int .i64 0, .int .i64 0, .int .i64 0, .int .i64 0]) ?_ 2 _ rfl; (with_reducible repeat (first | refine blk_drewN ?_ _ | refine blk_drew ?_ | refine blk_alloc ?_ _)); refine blk_put (cs := #[.int .i64 0, .int .i64 0, .int .i64 0, .int .i64 0]) ?_ 1 _ rfl; (with_reducible repeat (first | refine blk_drewN ?_ _ | refine blk_drew ?_ | refine blk_alloc ?_ _)); refine blk_put (cs := #[.int .i64 0, .int .i64 0, .int .i64 0, .int .i64 0]) ?_ 0 _ rfl; (with_reducible repeat (first | refine blk_drewN ?_ _ | refine blk_drew ?_ | refine blk_alloc ?_ _)); exact BK257.out⟩, ⟨by repeat (first | (with_reducible first | exact HB.out | apply below_alloc | apply pw_below_drewN | apply below_drew1 | refine below_set ?_ GE256.out | refine below_set ?_ GE257.out) | exact HB.out)⟩⟩
  case round =>
    clear H'
    try clear p2
    try clear c4
    try clear hcz5_0
    try clear hcz5_1
    try clear hcz5_2
    try clear hcz5_3
    try clear hfz5_0
    try clear hfz5_1
    try clear hfz5_2
    try clear hfz5_3
    obtain ⟨x4_1, x258000_1, x258001_1, x258002_1, x258003_1, rfl, HA, HK1, BK256, BK257, HB⟩ := hrel
    cases gk with
    | zero => exact absurd HA.out (by simp [tableauref08_Cover.l0])
    | succ k1 =>
      have H := HA.out
      clear HA
      simp only [tableauref08_Cover.l0] at H
      by_cases c6 : x4_1 < (l0.length : Int)
      · rw [if_pos c6] at H
        have c6b0 : decide (x4_1 < (l0.length : Int)) = true := decide_eq_true c6
        clear c6
        replace H := Option.bind_eq_some_iff.mp H
        obtain ⟨t258, A70, H⟩ := H
        replace H : (if t258 = true then (if 0 ≤ x4_1 then ((tableauref07_Cover.f k1 x258000_1 x258001_1 x258002_1 x258003_1 ((rd_T23 l0 x4_1).f0) ((rd_T23 l0 x4_1).f1) ((rd_T23 l0 x4_1).f2) ((rd_T23 l0 x4_1).f3)).bind fun bt260 => (tableauref08_Cover.l0 k1 l0 (wrap64 (x4_1 + 1)) bt260.1 bt260.2.1 bt260.2.2.1 bt260.2.2.2)) else (none)) else (some (x258000_1, x258001_1, x258002_1, x258003_1))) = some (r1, r2, r3, r4) := H
        have A7 := Aside0.mk A70
        clear A70
        by_cases c8 : t258 = true
        · subst c8
          have H1 : (if 0 ≤ x4_1 then ((tableauref07_Cover.f k1 x258000_1 x258001_1 x258002_1 x258003_1 ((rd_T23 l0 x4_1).f0) ((rd_T23 l0 x4_1).f1) ((rd_T23 l0 x4_1).f2) ((rd_T23 l0 x4_1).f3)).bind fun bt260 => (tableauref08_Cover.l0 k1 l0 (wrap64 (x4_1 + 1)) bt260.1 bt260.2.1 bt260.2.2.1 bt260.2.2.2)) else (none)) = some (r1, r2, r3, r4) := by rw [if_pos rfl] at H; exact H
          clear H
          have H := H1
          clear H1
          by_cases c9 : 0 ≤ x4_1
          · rw [if_pos c9] at H
            have c9b0 : decide (0 ≤ x4_1) = true := decide_eq_true c9
            clear c9
            replace H := Option.bind_eq_some_iff.mp H
            obtain ⟨⟨t260, t261, t262, t263⟩, A100, H⟩ := H
            replace H : (tableauref08_Cover.l0 k1 l0 (wrap64 (x4_1 + 1)) t260 t261 t262 t263) = some (r1, r2, r3, r4) := H
            have A10 := Aside0.mk A100
            clear A100
            have H' := Aside0.mk H
            clear H
            try go_wp2_with (first | (go_at_call 35; (with_reducible refine (tableauref08_Check.calls k1 _ _ l0 true _ ?side1 ?side2 A7.out).mono ?_); (case side1 => repeat (first | exact (Kd.C_below HR0.out HB.out) | (with_reducible refine Kd.C_alloc ?_ _) | (with_reducible refine Kd.C_drewN ?_ _) | (with_reducible refine Kd.C_drew ?_))); (case side2 => exact HC0.out); rintro e w11 ⟨rfl, hb⟩; have n0_ := Aside0.mk (blk_below (g := gb256) (o := .cells #[.int .i64 0, .int .i64 0, .int .i64 0, .int .i64 0] 23 (0, 0)) (by (with_reducible repeat (first | refine blk_drewN ?_ _ | refine blk_drew ?_ | refine blk_alloc ?_ _)); exact BK256.out) hb); have n1_ := Aside0.mk (blk_below (g := gb257) (o := .cells #[.int .i64 x258000_1, .int .i64 x258001_1, .int .i64 x258002_1, .int .i64 x258003_1] 23 (0, 0)) (by (with_reducible repeat (first | refine blk_drewN ?_ _ | refine blk_drew ?_ | refine blk_alloc ?_ _)); exact BK257.out) hb); have n2_ := Aside0.mk (below_step (by repeat (first | (with_reducible first | exact HB.out | apply below_alloc | apply pw_below_drewN | apply below_drew1 | refine below_set ?_ GE256.out | refine below_set ?_ GE257.out) | exact HB.out)) hb); clear BK256; clear BK257; clear HB; have BK256 := n0_; have BK257 := n1_; have HB := n2_; clear n0_ n1_ n2_; (try clear hb); (try clear hb2); (try clear hk); (try clear hi)))
            have n0_ := Aside0.mk (blk_drew BK256.out)
            have n1_ := Aside0.mk (blk_drew BK257.out)
            have n2_ := Aside0.mk (below_drew1 HB.out)
            clear BK256
            clear BK257
            clear HB
            have BK256 := n0_
            have BK257 := n1_
            have HB := n2_
            clear n0_ n1_ n2_
            have p259 : 0 ≤ (x4_1 : Int) := of_decide_eq_true (by first | (with_reducible assumption) | assumption)
            have q259 : x4_1 < (l0.length : Int) := of_decide_eq_true (by first | (with_reducible assumption) | assumption)
            obtain ⟨ad259, e259, hx259_0, hx259_1, hx259_2, hx259_3⟩ := at_T23 HR0.out x4_1 p259 q259
            have hw259_3 := hx259_3
            have hw259_2 := hx259_2
            have hw259_1 := hx259_1
            have hw259_0 := hx259_0
            cases e259
            replace hx259_0 := (HB.out.cell (World.block_lt_of_cell? w _ hx259_0)).trans hx259_0
            replace hx259_1 := (HB.out.cell (World.block_lt_of_cell? w _ hx259_1)).trans hx259_1
            replace hx259_2 := (HB.out.cell (World.block_lt_of_cell? w _ hx259_2)).trans hx259_2
            replace hx259_3 := (HB.out.cell (World.block_lt_of_cell? w _ hx259_3)).trans hx259_3
            replace p259 := eq_true p259
            replace q259 := eq_true q259
            refine start_ (n := 7) (S := fun w' => w'.cell? ⟨gb257, 0, none⟩ = some (.int .i64 x258000_1) ∧ w'.cell? ⟨gb257, 1, none⟩ = some (.int .i64 x258001_1) ∧ w'.cell? ⟨gb257, 2, none⟩ = some (.int .i64 x258002_1) ∧ w'.cell? ⟨gb257, 3, none⟩ = some (.int .i64 x258003_1) ∧ w'.cell? (ad259.add ((x4_1).toNat * 4)) = some (.int .i64 ((rd_T23 l0 x4_1).f0)) ∧ w'.cell? ⟨(ad259.add ((x4_1).toNat * 4)).block, (ad259.add ((x4_1).toNat * 4)).off + 1, none⟩ = some (.int .i64 ((rd_T23 l0 x4_1).f1)) ∧ w'.cell? ⟨(ad259.add ((x4_1).toNat * 4)).block, (ad259.add ((x4_1).toNat * 4)).off + 2, none⟩ = some (.int .i64 ((rd_T23 l0 x4_1).f2)) ∧ w'.cell? ⟨(ad259.add ((x4_1).toNat * 4)).block, (ad259.add ((x4_1).toNat * 4)).off + 3, none⟩ = some (.int .i64 ((rd_T23 l0 x4_1).f3))) (ds := [6]) #[false, false, false, false, false, false, false] (by kernel_rfl) rfl rfl ⟨(blk_cell BK257.out 0).trans rfl, (blk_cell BK257.out 1).trans rfl, (blk_cell BK257.out 2).trans rfl, (blk_cell BK257.out 3).trans rfl, ((HB.out.cell (World.block_lt_of_cell? w _ hw259_0)).trans hw259_0), ((HB.out.cell (World.block_lt_of_cell? w _ hw259_1)).trans hw259_1), ((HB.out.cell (World.block_lt_of_cell? w _ hw259_2)).trans hw259_2), ((HB.out.cell (World.block_lt_of_cell? w _ hw259_3)).trans hw259_3)⟩ (fun hHeld => ?_)
            generalize w11.drew = w12 at BK256 BK257 HB hx259_0 hx259_1 hx259_2 hx259_3 hHeld ⊢
            refine pure_ (i := 1) (N := some 17) (v := ?_) (a' := ?_) #[false, true, false, false, false, false, false] rfl rfl (by kernel_rfl) (fun _ _ _ h => h) (Or.inl ⟨by rfl, ?_⟩) ?_ ?_
            rotate_left
            · intro w'
              go_simp
              with_reducible rfl
            rotate_left
            · simp only [Act.put, List.setIfInBounds_toArray, List.set_cons_zero, List.set_cons_succ, i64_w, i32_w]
              rfl
            refine pure_ (i := 2) (N := some 18) (v := ?_) (a' := ?_) #[false, true, true, false, false, false, false] rfl rfl (by kernel_rfl) (fun _ _ _ h => h) (Or.inl ⟨by rfl, ?_⟩) ?_ ?_
            rotate_left
            · intro w'
              go_simp
              with_reducible rfl
            rotate_left
            · simp only [Act.put, List.setIfInBounds_toArray, List.set_cons_zero, List.set_cons_succ, i64_w, i32_w]
              rfl
            refine pure_ (i := 3) (N := some 19) (v := ?_) (a' := ?_) #[false, true, true, true, false, false, false] rfl rfl (by kernel_rfl) (fun _ _ _ h => h) (Or.inl ⟨by rfl, ?_⟩) ?_ ?_
            rotate_left
            · intro w'
              go_simp
              with_reducible rfl
            rotate_left
            · simp only [Act.put, List.setIfInBounds_toArray, List.set_cons_zero, List.set_cons_succ, i64_w, i32_w]
              rfl
            refine take_ (i := 0) (N := some 16) (v := ?_) (a' := ?_) #[true, true, true, true, false, false, false] rfl rfl (by kernel_rfl) (fun _ _ _ h => h) (Or.inl ⟨by rfl, ?_⟩) hHeld ?_ ?_
            rotate_left
            · rintro w' ⟨s0, s1, s2, s3, s4, s5, s6, s7⟩
              go_simp
              with_reducible rfl
            rotate_left
            · simp only [Act.put, List.setIfInBounds_toArray, List.set_cons_zero, List.set_cons_succ, i64_w, i32_w]
              rfl
            refine take_ (i := 4) (N := some 20) (v := ?_) (a' := ?_) #[true, true, true, true, true, false, false] rfl rfl (by kernel_rfl) (fun _ _ _ h => h) (Or.inl ⟨by rfl, ?_⟩) hHeld ?_ ?_
            rotate_left
            · rintro w' ⟨s0, s1, s2, s3, s4, s5, s6, s7⟩
              go_simp
              with_reducible rfl
            rotate_left
            · simp only [Act.put, List.setIfInBounds_toArray, List.set_cons_zero, List.set_cons_succ, i64_w, i32_w]
              rfl
            refine one_ (i := 5) (N := some 21) #[true, true, true, true, true, true, false] rfl rfl (by kernel_rfl) (by decide) (fun K hK => ?_)
            refine goes_ Try.func73 (by kernel_rfl) rfl #[.agg #[.int .i64 x258000_1, .int .i64 x258001_1, .int .i64 x258002_1, .int .i64 x258003_1], .agg #[.int .i64 ((rd_T23 l0 x4_1).f0), .int .i64 ((rd_T23 l0 x4_1).f1), .int .i64 ((rd_T23 l0 x4_1).f2), .int .i64 ((rd_T23 l0 x4_1).f3)]] (by rfl) rfl rfl (by (try simp only [List.map_toArray, List.map_cons, List.map_nil]); first | done | rfl | (simp only [List.length_drop, List.length_take]; rfl)) ?_
            with_reducible refine (tableauref07_Cover.calls k1 x258000_1 x258001_1 x258002_1 x258003_1 ((rd_T23 l0 x4_1).f0) ((rd_T23 l0 x4_1).f1) ((rd_T23 l0 x4_1).f2) ((rd_T23 l0 x4_1).f3) t260 t261 t262 t263 _ A10.out).mono ?_
            rintro e w13 ⟨rfl, hb⟩
            refine ⟨_, rfl, ?_⟩
            have n0_ := Aside0.mk (blk_below (g := gb256) (o := .cells #[.int .i64 0, .int .i64 0, .int .i64 0, .int .i64 0] 23 (0, 0)) (by (with_reducible repeat (first | refine blk_drewN ?_ _ | refine blk_drew ?_ | refine blk_alloc ?_ _)); exact BK256.out) hb)
            have n1_ := Aside0.mk (blk_below (g := gb257) (o := .cells #[.int .i64 x258000_1, .int .i64 x258001_1, .int .i64 x258002_1, .int .i64 x258003_1] 23 (0, 0)) (by (with_reducible repeat (first | refine blk_drewN ?_ _ | refine blk_drew ?_ | refine blk_alloc ?_ _)); exact BK257.out) hb)
            have n2_ := Aside0.mk (below_step (by repeat (first | (with_reducible first | exact HB.out | apply below_alloc | apply pw_below_drewN | apply below_drew1 | refine below_set ?_ GE256.out | refine below_set ?_ GE257.out) | exact HB.out)) hb)
            clear BK256
            clear BK257
            clear HB
            have BK256 := n0_
            have BK257 := n1_
            have HB := n2_
            clear n0_ n1_ n2_
            (try clear hb)
            (try clear hb2)
            (try clear hk)
            (try clear hi)
            refine hK.out _ _ ⟨(blk_cell BK257.out 0).trans rfl, (blk_cell BK257.out 1).trans rfl, (blk_cell BK257.out 2).trans rfl, (blk_cell BK257.out 3).trans rfl, ((HB.out.cell (World.block_lt_of_cell? w _ hw259_0)).trans hw259_0), ((HB.out.cell (World.block_lt_of_cell? w _ hw259_1)).trans hw259_1), ((HB.out.cell (World.block_lt_of_cell? w _ hw259_2)).trans hw259_2), ((HB.out.cell (World.block_lt_of_cell? w _ hw259_3)).trans hw259_3)⟩ (fun hHeld => ?_)
            clear hK K
            refine norm_ (a' := ?_) ?_ ?_
            rotate_left
            · show Act.put _ (some 21) _ = _
              simp only [Act.put, List.setIfInBounds_toArray, List.set_cons_zero, List.set_cons_succ, i64_w, i32_w]
              rfl
            refine last_ (i := 6) (N := none) #[true, true, true, true, true, true, true] rfl rfl (by kernel_rfl) (by decide) (fun K hK => ?_)
            have hs14 : w13.cell? ⟨gb257, 0, none⟩ = some (.int .i64 x258000_1) := (blk_cell BK257.out 0).trans rfl
            have hfs14 := blk_frozen BK257.out 0
            have hns14_0 := NB256_257.out
            have hms14_0 := NB257_256.out
            have hs15 : w13.cell? ⟨gb257, 1, none⟩ = some (.int .i64 x258001_1) := (blk_cell BK257.out 1).trans rfl
            have hfs15 := blk_frozen BK257.out 1
            have hns15_0 := NB256_257.out
            have hms15_0 := NB257_256.out
            have hs16 : w13.cell? ⟨gb257, 2, none⟩ = some (.int .i64 x258002_1) := (blk_cell BK257.out 2).trans rfl
            have hfs16 := blk_frozen BK257.out 2
            have hns16_0 := NB256_257.out
            have hms16_0 := NB257_256.out
            have hs17 : w13.cell? ⟨gb257, 3, none⟩ = some (.int .i64 x258003_1) := (blk_cell BK257.out 3).trans rfl
            have hfs17 := blk_frozen BK257.out 3
            have hns17_0 := NB256_257.out
            have hms17_0 := NB257_256.out
            refine skip_ (w1 := ?_) (by rfl) rfl ?_ ?_
            rotate_left
            · go_simp
              rfl
            refine hK.out _ _ ?_
            clear hK K
            refine done_ (by kernel_rfl) ?_
            try go_wp2
            go_roundg k1
            case measure => have := HK1.out; omega
            case rel => exact ⟨(wrap64 (x4_1 + 1)), (t260), (t261), (t262), (t263), (by first | rfl | (simp; done) | (simp [*]; done)), H', ⟨by have := HK1.out; omega⟩, ⟨by (with_reducible repeat (first | refine blk_drewN ?_ _ | refine blk_drew ?_ | refine blk_alloc ?_ _)); refine blk_far ?_ NB256_257.out _; (with_reducible repeat (first | refine blk_drewN ?_ _ | refine blk_drew ?_ | refine blk_alloc ?_ _)); refine blk_far ?_ NB256_257.out _; (with_reducible repeat (first | refine blk_drewN ?_ _ | refine blk_drew ?_ | refine blk_alloc ?_ _)); refine blk_far ?_ NB256_257.out _; (with_reducible repeat (first | refine blk_drewN ?_ _ | refine blk_drew ?_ | refine blk_alloc ?_ _)); refine blk_far ?_ NB256_257.out _; (with_reducible repeat (first | refine blk_drewN ?_ _ | refine blk_drew ?_ | refine blk_alloc ?_ _)); exact BK256.out⟩, ⟨by (with_reducible repeat (first | refine blk_drewN ?_ _ | refine blk_drew ?_ | refine blk_alloc ?_ _)); refine blk_put (cs := #[.int .i64 t260, .int .i64 t261, .int .i64 t262, .int .i64 x258003_1]) ?_ 3 _ rfl; (with_reducible repeat (first | refine blk_drewN ?_ _ | refine blk_drew ?_ | refine blk_alloc ?_ _)); refine blk_put (cs := #[.int .i64 t260, .int .i64 t261, .int .i64 x258002_1, .int .i64 x258003_1]) ?_ 2 _ rfl; (with_reducible repeat (first | refine blk_drewN ?_ _ | refine blk_drew ?_ | refine blk_alloc ?_ _)); refine blk_put (cs := #[.int .i64 t260, .int .i64 x258001_1, .int .i64 x258002_1, .int .i64 x258003_1]) ?_ 1 _ rfl; (with_reducible repeat (first | refine blk_drewN ?_ _ | refine blk_drew ?_ | refine blk_alloc ?_ _)); refine blk_put (cs := #[.int .i64 x258000_1, .int .i64 x258001_1, .int .i64 x258002_1, .int .i64 x258003_1]) ?_ 0 _ rfl; (with_reducible repeat (first | refine blk_drewN ?_ _ | refine blk_drew ?_ | refine blk_alloc ?_ _)); exact BK257.out⟩, ⟨by repeat (first | (with_reducible first | exact HB.out | apply below_alloc | apply pw_below_drewN | apply below_drew1 | refine below_set ?_ GE256.out | refine below_set ?_ GE257.out) | exact HB.out)⟩⟩
          · rw [if_neg c9] at H
            exact absurd H (by simp)
        · replace c8 := Bool.eq_false_iff.mpr c8
          subst c8
          have H1 : (some (x258000_1, x258001_1, x258002_1, x258003_1)) = some (r1, r2, r3, r4) := by rw [if_neg (show ¬ (false = true) by decide)] at H; exact H
          clear H
          have H := H1
          clear H1
          simp only [Option.some.injEq, Prod.mk.injEq] at H
          obtain ⟨rfl, rfl, rfl, rfl⟩ := H
          go_wp2_with (first | (go_at_call 35; (with_reducible refine (tableauref08_Check.calls k1 _ _ l0 false _ ?side1 ?side2 A7.out).mono ?_); (case side1 => repeat (first | exact (Kd.C_below HR0.out HB.out) | (with_reducible refine Kd.C_alloc ?_ _) | (with_reducible refine Kd.C_drewN ?_ _) | (with_reducible refine Kd.C_drew ?_))); (case side2 => exact HC0.out); rintro e w18 ⟨rfl, hb⟩; have n0_ := Aside0.mk (blk_below (g := gb256) (o := .cells #[.int .i64 0, .int .i64 0, .int .i64 0, .int .i64 0] 23 (0, 0)) (by (with_reducible repeat (first | refine blk_drewN ?_ _ | refine blk_drew ?_ | refine blk_alloc ?_ _)); exact BK256.out) hb); have n1_ := Aside0.mk (blk_below (g := gb257) (o := .cells #[.int .i64 x258000_1, .int .i64 x258001_1, .int .i64 x258002_1, .int .i64 x258003_1] 23 (0, 0)) (by (with_reducible repeat (first | refine blk_drewN ?_ _ | refine blk_drew ?_ | refine blk_alloc ?_ _)); exact BK257.out) hb); have n2_ := Aside0.mk (below_step (by repeat (first | (with_reducible first | exact HB.out | apply below_alloc | apply pw_below_drewN | apply below_drew1 | refine below_set ?_ GE256.out | refine below_set ?_ GE257.out) | exact HB.out)) hb); clear BK256; clear BK257; clear HB; have BK256 := n0_; have BK257 := n1_; have HB := n2_; clear n0_ n1_ n2_; (try clear hb); (try clear hb2); (try clear hk); (try clear hi); have hnb19 := NB257_256.out; have hnc19 := NB256_257.out; have hcz20_0 : w18.cell? ⟨gb257, 0, none⟩ = some (.int .i64 x258000_1) := (blk_cell BK257.out 0).trans rfl; have hcz20_1 : w18.cell? ⟨gb257, 1, none⟩ = some (.int .i64 x258001_1) := (blk_cell BK257.out 1).trans rfl; have hcz20_2 : w18.cell? ⟨gb257, 2, none⟩ = some (.int .i64 x258002_1) := (blk_cell BK257.out 2).trans rfl; have hcz20_3 : w18.cell? ⟨gb257, 3, none⟩ = some (.int .i64 x258003_1) := (blk_cell BK257.out 3).trans rfl; have hfz20_0 := blk_frozen BK257.out 0; have hfz20_1 := blk_frozen BK257.out 1; have hfz20_2 := blk_frozen BK257.out 2; have hfz20_3 := blk_frozen BK257.out 3; have hcz21_0 : w18.cell? ⟨gb256, 0, none⟩ = some (.int .i64 0) := (blk_cell BK256.out 0).trans rfl; have hcz21_1 : w18.cell? ⟨gb256, 1, none⟩ = some (.int .i64 0) := (blk_cell BK256.out 1).trans rfl; have hcz21_2 : w18.cell? ⟨gb256, 2, none⟩ = some (.int .i64 0) := (blk_cell BK256.out 2).trans rfl; have hcz21_3 : w18.cell? ⟨gb256, 3, none⟩ = some (.int .i64 0) := (blk_cell BK256.out 3).trans rfl; have hfz21_0 := blk_frozen BK256.out 0; have hfz21_1 := blk_frozen BK256.out 1; have hfz21_2 := blk_frozen BK256.out 2; have hfz21_3 := blk_frozen BK256.out 3))
          refine bodyPost_ret (results_cell_row rfl _ _ gb256 23 #[.int .i64 x258000_1, .int .i64 x258001_1, .int .i64 x258002_1, .int .i64 x258003_1] (0, 0) _ rfl (by (with_reducible repeat (first | refine blk_drewN ?_ _ | refine blk_drew ?_ | refine blk_alloc ?_ _)); refine blk_put (cs := #[.int .i64 x258000_1, .int .i64 x258001_1, .int .i64 x258002_1, .int .i64 0]) ?_ 3 _ rfl; (with_reducible repeat (first | refine blk_drewN ?_ _ | refine blk_drew ?_ | refine blk_alloc ?_ _)); refine blk_put (cs := #[.int .i64 x258000_1, .int .i64 x258001_1, .int .i64 0, .int .i64 0]) ?_ 2 _ rfl; (with_reducible repeat (first | refine blk_drewN ?_ _ | refine blk_drew ?_ | refine blk_alloc ?_ _)); refine blk_put (cs := #[.int .i64 x258000_1, .int .i64 0, .int .i64 0, .int .i64 0]) ?_ 1 _ rfl; (with_reducible repeat (first | refine blk_drewN ?_ _ | refine blk_drew ?_ | refine blk_alloc ?_ _)); refine blk_put (cs := #[.int .i64 0, .int .i64 0, .int .i64 0, .int .i64 0]) ?_ 0 _ rfl; (with_reducible repeat (first | refine blk_drewN ?_ _ | refine blk_drew ?_ | refine blk_alloc ?_ _)); exact BK256.out) Try.underlying23 rfl (by kernel_rfl)) rfl ?_
          exact ⟨by first | rfl | (simp [errW_none, errW_some] <;> rfl) | (simp [*, errW_none, errW_some] <;> rfl), by repeat (first | (with_reducible first | exact HB.out | apply below_alloc | apply pw_below_drewN | apply below_drew1 | refine below_set ?_ GE256.out | refine below_set ?_ GE257.out) | exact HB.out)⟩
      · rw [if_neg c6] at H
        have c6b0 : decide (x4_1 < (l0.length : Int)) = false := decide_eq_false c6
        clear c6
        simp only [Option.some.injEq, Prod.mk.injEq] at H
        obtain ⟨rfl, rfl, rfl, rfl⟩ := H
        have hnb22 := NB257_256.out
        have hnc22 := NB256_257.out
        have hcz23_0 : wr.cell? ⟨gb257, 0, none⟩ = some (.int .i64 x258000_1) := (blk_cell BK257.out 0).trans rfl
        have hcz23_1 : wr.cell? ⟨gb257, 1, none⟩ = some (.int .i64 x258001_1) := (blk_cell BK257.out 1).trans rfl
        have hcz23_2 : wr.cell? ⟨gb257, 2, none⟩ = some (.int .i64 x258002_1) := (blk_cell BK257.out 2).trans rfl
        have hcz23_3 : wr.cell? ⟨gb257, 3, none⟩ = some (.int .i64 x258003_1) := (blk_cell BK257.out 3).trans rfl
        have hfz23_0 := blk_frozen BK257.out 0
        have hfz23_1 := blk_frozen BK257.out 1
        have hfz23_2 := blk_frozen BK257.out 2
        have hfz23_3 := blk_frozen BK257.out 3
        have hcz24_0 : wr.cell? ⟨gb256, 0, none⟩ = some (.int .i64 0) := (blk_cell BK256.out 0).trans rfl
        have hcz24_1 : wr.cell? ⟨gb256, 1, none⟩ = some (.int .i64 0) := (blk_cell BK256.out 1).trans rfl
        have hcz24_2 : wr.cell? ⟨gb256, 2, none⟩ = some (.int .i64 0) := (blk_cell BK256.out 2).trans rfl
        have hcz24_3 : wr.cell? ⟨gb256, 3, none⟩ = some (.int .i64 0) := (blk_cell BK256.out 3).trans rfl
        have hfz24_0 := blk_frozen BK256.out 0
        have hfz24_1 := blk_frozen BK256.out 1
        have hfz24_2 := blk_frozen BK256.out 2
        have hfz24_3 := blk_frozen BK256.out 3
        go_wp2
        refine bodyPost_ret (results_cell_row rfl _ _ gb256 23 #[.int .i64 x258000_1, .int .i64 x258001_1, .int .i64 x258002_1, .int .i64 x258003_1] (0, 0) _ rfl (by (with_reducible repeat (first | refine blk_drewN ?_ _ | refine blk_drew ?_ | refine blk_alloc ?_ _)); refine blk_put (cs := #[.int .i64 x258000_1, .int .i64 x258001_1, .int .i64 x258002_1, .int .i64 0]) ?_ 3 _ rfl; (with_reducible repeat (first | refine blk_drewN ?_ _ | refine blk_drew ?_ | refine blk_alloc ?_ _)); refine blk_put (cs := #[.int .i64 x258000_1, .int .i64 x258001_1, .int .i64 0, .int .i64 0]) ?_ 2 _ rfl; (with_reducible repeat (first | refine blk_drewN ?_ _ | refine blk_drew ?_ | refine blk_alloc ?_ _)); refine blk_put (cs := #[.int .i64 x258000_1, .int .i64 0, .int .i64 0, .int .i64 0]) ?_ 1 _ rfl; (with_reducible repeat (first | refine blk_drewN ?_ _ | refine blk_drew ?_ | refine blk_alloc ?_ _)); refine blk_put (cs := #[.int .i64 0, .int .i64 0, .int .i64 0, .int .i64 0]) ?_ 0 _ rfl; (with_reducible repeat (first | refine blk_drewN ?_ _ | refine blk_drew ?_ | refine blk_alloc ?_ _)); exact BK256.out) Try.underlying23 rfl (by kernel_rfl)) rfl ?_
        exact ⟨by first | rfl | (simp [errW_none, errW_some] <;> rfl) | (simp [*, errW_none, errW_some] <;> rfl), by repeat (first | (with_reducible first | exact HB.out | apply below_alloc | apply pw_below_drewN | apply below_drew1 | refine below_set ?_ GE256.out | refine below_set ?_ GE257.out) | exact HB.out)⟩

/-! ### tableauref08_Area: function 41 -/
def tableauref08_Area.l0 : Nat → List (S23) → Int → Int → Option (Int)
  | 0, _, _, _ => none
  | k + 1, x0, x3, x4 => if x4 < (x0.length : Int) then ((tableauref08_Check.f k x0).bind fun t264 => (if t264 = true then (if 0 ≤ x4 then (tableauref08_Area.l0 k x0 (wrap64 (x3 + (wrap64 (((rd_T23 x0 x4).f2) * ((rd_T23 x0 x4).f3))))) (wrap64 (x4 + 1))) else (none)) else (some x3))) else (some x3)
def tableauref08_Area.f (k : Nat) (l0 : List (S23)) : Option (Int) := tableauref08_Area.l0 k l0 0 0
theorem tableauref08_Area.mono_l : ∀ k, (∀ y0 y1 y2, LeO (tableauref08_Area.l0 k y0 y1 y2) (tableauref08_Area.l0 (k + 1) y0 y1 y2))
  | 0 => fun _ _ _ r h => by simp [tableauref08_Area.l0] at h
  | k + 1 => by
    have ih0 := tableauref08_Area.mono_l k
    · intro y0 y1 y2
      unfold tableauref08_Area.l0
      repeat' first
      | (with_reducible exact ih0 _ _ _)
      | (with_reducible exact tableauref08_Check.mono _ _)
      | (with_reducible exact LeO.refl _)
      | (with_reducible exact LeO.none _)
      | (with_reducible refine LeO.ite ?_ ?_)
      | (with_reducible refine LeO.bind ?_ (fun _ => ?_))
      | exact ih0 _ _ _
      | exact tableauref08_Check.mono _ _
      | exact LeO.none _
      | refine LeO.ite ?_ ?_
      | refine LeO.bind ?_ (fun _ => ?_)
theorem tableauref08_Area.mono : ∀ a0 k, LeO (tableauref08_Area.f k a0) (tableauref08_Area.f (k + 1) a0) := by
  intro a0 k
  have ih0 := tableauref08_Area.mono_l k
  unfold tableauref08_Area.f
  repeat' first
      | (with_reducible exact ih0 _ _ _)
      | (with_reducible exact tableauref08_Check.mono _ _)
      | (with_reducible exact LeO.refl _)
      | (with_reducible exact LeO.none _)
      | (with_reducible refine LeO.ite ?_ ?_)
      | (with_reducible refine LeO.bind ?_ (fun _ => ?_))
      | exact ih0 _ _ _
      | exact tableauref08_Check.mono _ _
      | exact LeO.none _
      | refine LeO.ite ?_ ?_
      | refine LeO.bind ?_ (fun _ => ?_)
set_option maxHeartbeats 8000000 in
set_option maxRecDepth 100000 in
theorem tableauref08_Area.calls (k : Nat) (A0 : Option Addr) (c0 : Nat) (l0 : List (S23)) (r : Int) (w : World) (hr0 : Kd.C k23 w A0 l0.length l0) (hc0 : l0.length ≤ c0) (h : tableauref08_Area.f k l0 = some r) :
    Calls Try.prog 41 #[.slice A0 l0.length c0] w fun e w' => e = .returned (.int .i64 r) ∧ Below w.heap.size w w' := by
  have HR0 := Aside0.mk hr0
  have HC0 := Aside0.mk hc0
  clear hr0 hc0
  have HB := Aside0.mk (Below.refl w.heap.size w)
  have H : (tableauref08_Area.l0 k l0 0 0) = some r := h
  clear h
  have H' := Aside0.mk H
  clear H
  go_enter Try.func41, Try.ntmps41
  go_wp2
  repeat (go_quiet (fail); try go_wp2)
  go_loopg [3, 4] k (fun kq v3 v4 w' => ∃ (x3_1 : Int) (x4_1 : Int), v3 = .int .i64 x3_1 ∧ v4 = .int .i64 x4_1 ∧ Aside0 (tableauref08_Area.l0 kq l0 x3_1 x4_1 = some r) ∧ Aside0 (kq ≤ k) ∧ Aside0 (Below w.heap.size w w'))
  case atStart => exact ⟨(0), (0), (by first | rfl | (simp; done) | (simp [*]; done)), (by first | rfl | (simp; done) | (simp [*]; done)), H', ⟨Nat.le_refl _⟩, ⟨by repeat (first | (with_reducible first | exact HB.out | apply below_alloc | apply pw_below_drewN | apply below_drew1) | exact HB.out)⟩⟩
  case round =>
    clear H'
    obtain ⟨x3_1, x4_1, rfl, rfl, HA, HK1, HB⟩ := hrel
    cases gk with
    | zero => exact absurd HA.out (by simp [tableauref08_Area.l0])
    | succ k1 =>
      have H := HA.out
      clear HA
      simp only [tableauref08_Area.l0] at H
      by_cases c2 : x4_1 < (l0.length : Int)
      · rw [if_pos c2] at H
        have c2b0 : decide (x4_1 < (l0.length : Int)) = true := decide_eq_true c2
        clear c2
        replace H := Option.bind_eq_some_iff.mp H
        obtain ⟨t264, A30, H⟩ := H
        replace H : (if t264 = true then (if 0 ≤ x4_1 then (tableauref08_Area.l0 k1 l0 (wrap64 (x3_1 + (wrap64 (((rd_T23 l0 x4_1).f2) * ((rd_T23 l0 x4_1).f3))))) (wrap64 (x4_1 + 1))) else (none)) else (some x3_1)) = some r := H
        have A3 := Aside0.mk A30
        clear A30
        by_cases c4 : t264 = true
        · subst c4
          have H1 : (if 0 ≤ x4_1 then (tableauref08_Area.l0 k1 l0 (wrap64 (x3_1 + (wrap64 (((rd_T23 l0 x4_1).f2) * ((rd_T23 l0 x4_1).f3))))) (wrap64 (x4_1 + 1))) else (none)) = some r := by rw [if_pos rfl] at H; exact H
          clear H
          have H := H1
          clear H1
          by_cases c5 : 0 ≤ x4_1
          · rw [if_pos c5] at H
            have c5b0 : decide (0 ≤ x4_1) = true := decide_eq_true c5
            clear c5
            have H' := Aside0.mk H
            clear H
            go_wp2_with (first | (go_at_call 35; (with_reducible refine (tableauref08_Check.calls k1 _ _ l0 true _ ?side1 ?side2 A3.out).mono ?_); (case side1 => repeat (first | exact (Kd.C_below HR0.out HB.out) | (with_reducible refine Kd.C_alloc ?_ _) | (with_reducible refine Kd.C_drewN ?_ _) | (with_reducible refine Kd.C_drew ?_))); (case side2 => exact HC0.out); rintro e w6 ⟨rfl, hb⟩; have n0_ := Aside0.mk (below_step (by repeat (first | (with_reducible first | exact HB.out | apply below_alloc | apply pw_below_drewN | apply below_drew1) | exact HB.out)) hb); clear HB; have HB := n0_; clear n0_; (try clear hb); (try clear hb2); (try clear hk); (try clear hi); have p265 : 0 ≤ (x4_1 : Int) := of_decide_eq_true (by first | (with_reducible assumption) | assumption); have q265 : x4_1 < (l0.length : Int) := of_decide_eq_true (by first | (with_reducible assumption) | assumption); obtain ⟨ad265, e265, hx265_0, hx265_1, hx265_2, hx265_3⟩ := at_T23 HR0.out x4_1 p265 q265; cases e265; replace hx265_0 := (HB.out.cell (World.block_lt_of_cell? w _ hx265_0)).trans hx265_0; replace hx265_1 := (HB.out.cell (World.block_lt_of_cell? w _ hx265_1)).trans hx265_1; replace hx265_2 := (HB.out.cell (World.block_lt_of_cell? w _ hx265_2)).trans hx265_2; replace hx265_3 := (HB.out.cell (World.block_lt_of_cell? w _ hx265_3)).trans hx265_3; replace p265 := eq_true p265; replace q265 := eq_true q265; have p266 : 0 ≤ (x4_1 : Int) := of_decide_eq_true (by first | (with_reducible assumption) | assumption); have q266 : x4_1 < (l0.length : Int) := of_decide_eq_true (by first | (with_reducible assumption) | assumption); obtain ⟨ad266, e266, hx266_0, hx266_1, hx266_2, hx266_3⟩ := at_T23 HR0.out x4_1 p266 q266; obtain rfl : ad265 = ad266 := (by injection e266); replace hx266_0 := (HB.out.cell (World.block_lt_of_cell? w _ hx266_0)).trans hx266_0; replace hx266_1 := (HB.out.cell (World.block_lt_of_cell? w _ hx266_1)).trans hx266_1; replace hx266_2 := (HB.out.cell (World.block_lt_of_cell? w _ hx266_2)).trans hx266_2; replace hx266_3 := (HB.out.cell (World.block_lt_of_cell? w _ hx266_3)).trans hx266_3; replace p266 := eq_true p266; replace q266 := eq_true q266))
            repeat (go_quiet (first | (go_at_call 35; (with_reducible refine (tableauref08_Check.calls k1 _ _ l0 true _ ?side1 ?side2 A3.out).mono ?_); (case side1 => repeat (first | exact (Kd.C_below HR0.out HB.out) | (with_reducible refine Kd.C_alloc ?_ _) | (with_reducible refine Kd.C_drewN ?_ _) | (with_reducible refine Kd.C_drew ?_))); (case side2 => exact HC0.out); rintro e w6 ⟨rfl, hb⟩; have n0_ := Aside0.mk (below_step (by repeat (first | (with_reducible first | exact HB.out | apply below_alloc | apply pw_below_drewN | apply below_drew1) | exact HB.out)) hb); clear HB; have HB := n0_; clear n0_; (try clear hb); (try clear hb2); (try clear hk); (try clear hi); have p265 : 0 ≤ (x4_1 : Int) := of_decide_eq_true (by first | (with_reducible assumption) | assumption); have q265 : x4_1 < (l0.length : Int) := of_decide_eq_true (by first | (with_reducible assumption) | assumption); obtain ⟨ad265, e265, hx265_0, hx265_1, hx265_2, hx265_3⟩ := at_T23 HR0.out x4_1 p265 q265; cases e265; replace hx265_0 := (HB.out.cell (World.block_lt_of_cell? w _ hx265_0)).trans hx265_0; replace hx265_1 := (HB.out.cell (World.block_lt_of_cell? w _ hx265_1)).trans hx265_1; replace hx265_2 := (HB.out.cell (World.block_lt_of_cell? w _ hx265_2)).trans hx265_2; replace hx265_3 := (HB.out.cell (World.block_lt_of_cell? w _ hx265_3)).trans hx265_3; replace p265 := eq_true p265; replace q265 := eq_true q265; have p266 : 0 ≤ (x4_1 : Int) := of_decide_eq_true (by first | (with_reducible assumption) | assumption); have q266 : x4_1 < (l0.length : Int) := of_decide_eq_true (by first | (with_reducible assumption) | assumption); obtain ⟨ad266, e266, hx266_0, hx266_1, hx266_2, hx266_3⟩ := at_T23 HR0.out x4_1 p266 q266; obtain rfl : ad265 = ad266 := (by injection e266); replace hx266_0 := (HB.out.cell (World.block_lt_of_cell? w _ hx266_0)).trans hx266_0; replace hx266_1 := (HB.out.cell (World.block_lt_of_cell? w _ hx266_1)).trans hx266_1; replace hx266_2 := (HB.out.cell (World.block_lt_of_cell? w _ hx266_2)).trans hx266_2; replace hx266_3 := (HB.out.cell (World.block_lt_of_cell? w _ hx266_3)).trans hx266_3; replace p266 := eq_true p266; replace q266 := eq_true q266)); try go_wp2_with (first | (go_at_call 35; (with_reducible refine (tableauref08_Check.calls k1 _ _ l0 true _ ?side1 ?side2 A3.out).mono ?_); (case side1 => repeat (first | exact (Kd.C_below HR0.out HB.out) | (with_reducible refine Kd.C_alloc ?_ _) | (with_reducible refine Kd.C_drewN ?_ _) | (with_reducible refine Kd.C_drew ?_))); (case side2 => exact HC0.out); rintro e w6 ⟨rfl, hb⟩; have n0_ := Aside0.mk (below_step (by repeat (first | (with_reducible first | exact HB.out | apply below_alloc | apply pw_below_drewN | apply below_drew1) | exact HB.out)) hb); clear HB; have HB := n0_; clear n0_; (try clear hb); (try clear hb2); (try clear hk); (try clear hi); have p265 : 0 ≤ (x4_1 : Int) := of_decide_eq_true (by first | (with_reducible assumption) | assumption); have q265 : x4_1 < (l0.length : Int) := of_decide_eq_true (by first | (with_reducible assumption) | assumption); obtain ⟨ad265, e265, hx265_0, hx265_1, hx265_2, hx265_3⟩ := at_T23 HR0.out x4_1 p265 q265; cases e265; replace hx265_0 := (HB.out.cell (World.block_lt_of_cell? w _ hx265_0)).trans hx265_0; replace hx265_1 := (HB.out.cell (World.block_lt_of_cell? w _ hx265_1)).trans hx265_1; replace hx265_2 := (HB.out.cell (World.block_lt_of_cell? w _ hx265_2)).trans hx265_2; replace hx265_3 := (HB.out.cell (World.block_lt_of_cell? w _ hx265_3)).trans hx265_3; replace p265 := eq_true p265; replace q265 := eq_true q265; have p266 : 0 ≤ (x4_1 : Int) := of_decide_eq_true (by first | (with_reducible assumption) | assumption); have q266 : x4_1 < (l0.length : Int) := of_decide_eq_true (by first | (with_reducible assumption) | assumption); obtain ⟨ad266, e266, hx266_0, hx266_1, hx266_2, hx266_3⟩ := at_T23 HR0.out x4_1 p266 q266; obtain rfl : ad265 = ad266 := (by injection e266); replace hx266_0 := (HB.out.cell (World.block_lt_of_cell? w _ hx266_0)).trans hx266_0; replace hx266_1 := (HB.out.cell (World.block_lt_of_cell? w _ hx266_1)).trans hx266_1; replace hx266_2 := (HB.out.cell (World.block_lt_of_cell? w _ hx266_2)).trans hx266_2; replace hx266_3 := (HB.out.cell (World.block_lt_of_cell? w _ hx266_3)).trans hx266_3; replace p266 := eq_true p266; replace q266 := eq_true q266)))
            go_roundg k1
            case measure => have := HK1.out; omega
            case rel => exact ⟨(wrap64 (x3_1 + (wrap64 (((rd_T23 l0 x4_1).f2) * ((rd_T23 l0 x4_1).f3))))), (wrap64 (x4_1 + 1)), (by first | rfl | (simp; done) | (simp [*]; done)), (by first | rfl | (simp; done) | (simp [*]; done)), H', ⟨by have := HK1.out; omega⟩, ⟨by repeat (first | (with_reducible first | exact HB.out | apply below_alloc | apply pw_below_drewN | apply below_drew1) | exact HB.out)⟩⟩
          · rw [if_neg c5] at H
            exact absurd H (by simp)
        · replace c4 := Bool.eq_false_iff.mpr c4
          subst c4
          have H1 : (some x3_1) = some r := by rw [if_neg (show ¬ (false = true) by decide)] at H; exact H
          clear H
          have H := H1
          clear H1
          obtain rfl := Option.some.inj H
          go_wp2_with (first | (go_at_call 35; (with_reducible refine (tableauref08_Check.calls k1 _ _ l0 false _ ?side1 ?side2 A3.out).mono ?_); (case side1 => repeat (first | exact (Kd.C_below HR0.out HB.out) | (with_reducible refine Kd.C_alloc ?_ _) | (with_reducible refine Kd.C_drewN ?_ _) | (with_reducible refine Kd.C_drew ?_))); (case side2 => exact HC0.out); rintro e w7 ⟨rfl, hb⟩; have n0_ := Aside0.mk (below_step (by repeat (first | (with_reducible first | exact HB.out | apply below_alloc | apply pw_below_drewN | apply below_drew1) | exact HB.out)) hb); clear HB; have HB := n0_; clear n0_; (try clear hb); (try clear hb2); (try clear hk); (try clear hi)))
          repeat (go_quiet (first | (go_at_call 35; (with_reducible refine (tableauref08_Check.calls k1 _ _ l0 false _ ?side1 ?side2 A3.out).mono ?_); (case side1 => repeat (first | exact (Kd.C_below HR0.out HB.out) | (with_reducible refine Kd.C_alloc ?_ _) | (with_reducible refine Kd.C_drewN ?_ _) | (with_reducible refine Kd.C_drew ?_))); (case side2 => exact HC0.out); rintro e w7 ⟨rfl, hb⟩; have n0_ := Aside0.mk (below_step (by repeat (first | (with_reducible first | exact HB.out | apply below_alloc | apply pw_below_drewN | apply below_drew1) | exact HB.out)) hb); clear HB; have HB := n0_; clear n0_; (try clear hb); (try clear hb2); (try clear hk); (try clear hi))); try go_wp2_with (first | (go_at_call 35; (with_reducible refine (tableauref08_Check.calls k1 _ _ l0 false _ ?side1 ?side2 A3.out).mono ?_); (case side1 => repeat (first | exact (Kd.C_below HR0.out HB.out) | (with_reducible refine Kd.C_alloc ?_ _) | (with_reducible refine Kd.C_drewN ?_ _) | (with_reducible refine Kd.C_drew ?_))); (case side2 => exact HC0.out); rintro e w7 ⟨rfl, hb⟩; have n0_ := Aside0.mk (below_step (by repeat (first | (with_reducible first | exact HB.out | apply below_alloc | apply pw_below_drewN | apply below_drew1) | exact HB.out)) hb); clear HB; have HB := n0_; clear n0_; (try clear hb); (try clear hb2); (try clear hk); (try clear hi))))
          go_ret
          exact ⟨by first | rfl | (simp [errW_none, errW_some] <;> rfl) | (simp [*, errW_none, errW_some] <;> rfl), by repeat (first | (with_reducible first | exact HB.out | apply below_alloc | apply pw_below_drewN | apply below_drew1) | exact HB.out)⟩
      · rw [if_neg c2] at H
        have c2b0 : decide (x4_1 < (l0.length : Int)) = false := decide_eq_false c2
        clear c2
        obtain rfl := Option.some.inj H
        go_wp2
        repeat (go_quiet (fail); try go_wp2)
        go_ret
        exact ⟨by first | rfl | (simp [errW_none, errW_some] <;> rfl) | (simp [*, errW_none, errW_some] <;> rfl), by repeat (first | (with_reducible first | exact HB.out | apply below_alloc | apply pw_below_drewN | apply below_drew1) | exact HB.out)⟩

/-! ### region_Of: function 48 -/
def region_Of.f (a0_0 : Int) (a0_1 : Int) (a0_2 : Int) (a0_3 : Int) : Option ((List (S23))) := (rect_Bound.f a0_0 a0_1 a0_2 a0_3).bind fun bt322 => ((rect_Empty.f bt322.1 bt322.2.1 bt322.2.2.1 bt322.2.2.2).bind fun t326 => (if t326 = true then (some ([] : List (S23))) else (some (([(⟨bt322.1, bt322.2.1, bt322.2.2.1, bt322.2.2.2⟩ : S23)] : List (S23))))))
set_option maxHeartbeats 8000000 in
set_option maxRecDepth 100000 in
theorem region_Of.calls (a0_0 : Int) (a0_1 : Int) (a0_2 : Int) (a0_3 : Int) (r : List (S23)) (w : World) (h : region_Of.f a0_0 a0_1 a0_2 a0_3 = some r) :
    Calls Try.prog 48 #[.agg #[.int .i64 a0_0, .int .i64 a0_1, .int .i64 a0_2, .int .i64 a0_3]] w fun e w' => ∃ v0_ : Value, e = .returned (v0_) ∧ Kd.R k23 23 w' w.heap.size (fun _ => True) v0_ r ∧ Below w.heap.size w w' := by
  have hu23 := Try.underlying23
  have HB := Aside0.mk (Below.refl w.heap.size w)
  have H : ((rect_Bound.f a0_0 a0_1 a0_2 a0_3).bind fun bt322 => ((rect_Empty.f bt322.1 bt322.2.1 bt322.2.2.1 bt322.2.2.2).bind fun t326 => (if t326 = true then (some ([] : List (S23))) else (some (([(⟨bt322.1, bt322.2.1, bt322.2.2.1, bt322.2.2.2⟩ : S23)] : List (S23))))))) = some r := h
  clear h
  replace H := Option.bind_eq_some_iff.mp H
  obtain ⟨⟨t322, t323, t324, t325⟩, A20, H⟩ := H
  replace H : ((rect_Empty.f t322 t323 t324 t325).bind fun t326 => (if t326 = true then (some ([] : List (S23))) else (some (([(⟨t322, t323, t324, t325⟩ : S23)] : List (S23)))))) = some r := H
  have A2 := Aside0.mk A20
  clear A20
  replace H := Option.bind_eq_some_iff.mp H
  obtain ⟨t326, A30, H⟩ := H
  replace H : (if t326 = true then (some ([] : List (S23))) else (some (([(⟨t322, t323, t324, t325⟩ : S23)] : List (S23))))) = some r := H
  have A3 := Aside0.mk A30
  clear A30
  by_cases c4 : t326 = true
  · subst c4
    have H1 : (some ([] : List (S23))) = some r := by rw [if_pos rfl] at H; exact H
    clear H
    have H := H1
    clear H1
    obtain rfl := Option.some.inj H
    go_enter Try.func48, Try.ntmps48
    go_wp2_with (first | ((with_reducible refine gate_dst (N := 1) rfl ?_); refine box_event ?hg (N := 1) ?hd (cs := #[.int .i64 a0_0, .int .i64 a0_1, .int .i64 a0_2, .int .i64 a0_3]) (t := 23) ?hr ?_; (case hd => rfl); (case hg => rfl); (case hr => first | (go_simp; done) | (go_simp; rfl)); intro gb321 hg w5 hbox hb; have n0_ := Aside0.mk (below_step (by repeat (first | (with_reducible first | exact HB.out | apply below_alloc | apply pw_below_drewN | apply below_drew1) | exact HB.out)) hb); have n1_ := Aside0.mk (hbox); have n2_ := Aside0.mk ((by rw [hg]; exact (below_size (by repeat (first | (with_reducible first | exact HB.out | apply below_alloc | apply pw_below_drewN | apply below_drew1) | exact HB.out))) : w.heap.size ≤ gb321)); have n3_ := Aside0.mk ((by rw [hg]; exact (below_size (by repeat (first | (with_reducible first | exact HB.out | apply below_alloc | apply pw_below_drewN | apply below_drew1) | exact HB.out))) : w.heap.size ≤ gb321)); clear HB; have HB := n0_; have BK321 := n1_; have GW321 := n2_; have GE321 := n3_; clear n0_ n1_ n2_ n3_; clear hb hbox hg; have hcz6_0 : w5.cell? ⟨gb321, 0, none⟩ = some (.int .i64 a0_0) := (blk_cell BK321.out 0).trans rfl; have hcz6_1 : w5.cell? ⟨gb321, 1, none⟩ = some (.int .i64 a0_1) := (blk_cell BK321.out 1).trans rfl; have hcz6_2 : w5.cell? ⟨gb321, 2, none⟩ = some (.int .i64 a0_2) := (blk_cell BK321.out 2).trans rfl; have hcz6_3 : w5.cell? ⟨gb321, 3, none⟩ = some (.int .i64 a0_3) := (blk_cell BK321.out 3).trans rfl; have hfz6_0 := blk_frozen BK321.out 0; have hfz6_1 := blk_frozen BK321.out 1; have hfz6_2 := blk_frozen BK321.out 2; have hfz6_3 := blk_frozen BK321.out 3) | ((with_reducible refine gate_callee (f := 62) rfl ?_); refine goesL_ (some 4) rfl rfl Try.func62 (by kernel_rfl) rfl #[.agg #[.int .i64 a0_0, .int .i64 a0_1, .int .i64 a0_2, .int .i64 a0_3]] rfl (by (try simp only [List.map_toArray, List.map_cons, List.map_nil]); first | done | rfl | (simp only [List.length_drop, List.length_take]; rfl)) ?_; (with_reducible refine (rect_Bound.calls a0_0 a0_1 a0_2 a0_3 t322 t323 t324 t325 _ A2.out).mono ?_); rintro e w7 ⟨rfl, hb⟩; refine ⟨_, rfl, ?_⟩; have n0_ := Aside0.mk (blk_below (g := gb321) (o := .cells #[.int .i64 a0_0, .int .i64 a0_1, .int .i64 a0_2, .int .i64 a0_3] 23 (0, 0)) (by (with_reducible repeat (first | refine blk_drewN ?_ _ | refine blk_drew ?_ | refine blk_alloc ?_ _)); exact BK321.out) hb); have n1_ := Aside0.mk (below_step (by repeat (first | (with_reducible first | exact HB.out | apply below_alloc | apply pw_below_drewN | apply below_drew1 | refine below_set ?_ GE321.out) | exact HB.out)) hb); clear BK321; clear HB; have BK321 := n0_; have HB := n1_; clear n0_ n1_; (try clear hb); (try clear hb2); (try clear hk); (try clear hi); have hcz8_0 : w7.cell? ⟨gb321, 0, none⟩ = some (.int .i64 a0_0) := (blk_cell BK321.out 0).trans rfl; have hcz8_1 : w7.cell? ⟨gb321, 1, none⟩ = some (.int .i64 a0_1) := (blk_cell BK321.out 1).trans rfl; have hcz8_2 : w7.cell? ⟨gb321, 2, none⟩ = some (.int .i64 a0_2) := (blk_cell BK321.out 2).trans rfl; have hcz8_3 : w7.cell? ⟨gb321, 3, none⟩ = some (.int .i64 a0_3) := (blk_cell BK321.out 3).trans rfl; have hfz8_0 := blk_frozen BK321.out 0; have hfz8_1 := blk_frozen BK321.out 1; have hfz8_2 := blk_frozen BK321.out 2; have hfz8_3 := blk_frozen BK321.out 3) | ((with_reducible refine gate_callee (f := 64) rfl ?_); refine goesL_ (some 6) rfl rfl Try.func64 (by kernel_rfl) rfl #[.agg #[.int .i64 t322, .int .i64 t323, .int .i64 t324, .int .i64 t325]] rfl (by (try simp only [List.map_toArray, List.map_cons, List.map_nil]); first | done | rfl | (simp only [List.length_drop, List.length_take]; rfl)) ?_; (with_reducible refine (rect_Empty.calls t322 t323 t324 t325 true _ A3.out).mono ?_); rintro e w9 ⟨rfl, hb⟩; refine ⟨_, rfl, ?_⟩; have n0_ := Aside0.mk (blk_below (g := gb321) (o := .cells #[.int .i64 t322, .int .i64 t323, .int .i64 t324, .int .i64 t325] 23 (0, 0)) (by (with_reducible repeat (first | refine blk_drewN ?_ _ | refine blk_drew ?_ | refine blk_alloc ?_ _)); refine blk_put (cs := #[.int .i64 t322, .int .i64 t323, .int .i64 t324, .int .i64 a0_3]) ?_ 3 _ rfl; (with_reducible repeat (first | refine blk_drewN ?_ _ | refine blk_drew ?_ | refine blk_alloc ?_ _)); refine blk_put (cs := #[.int .i64 t322, .int .i64 t323, .int .i64 a0_2, .int .i64 a0_3]) ?_ 2 _ rfl; (with_reducible repeat (first | refine blk_drewN ?_ _ | refine blk_drew ?_ | refine blk_alloc ?_ _)); refine blk_put (cs := #[.int .i64 t322, .int .i64 a0_1, .int .i64 a0_2, .int .i64 a0_3]) ?_ 1 _ rfl; (with_reducible repeat (first | refine blk_drewN ?_ _ | refine blk_drew ?_ | refine blk_alloc ?_ _)); refine blk_put (cs := #[.int .i64 a0_0, .int .i64 a0_1, .int .i64 a0_2, .int .i64 a0_3]) ?_ 0 _ rfl; (with_reducible repeat (first | refine blk_drewN ?_ _ | refine blk_drew ?_ | refine blk_alloc ?_ _)); exact BK321.out) hb); have n1_ := Aside0.mk (below_step (by repeat (first | (with_reducible first | exact HB.out | apply below_alloc | apply pw_below_drewN | apply below_drew1 | refine below_set ?_ GE321.out) | exact HB.out)) hb); clear BK321; clear HB; have BK321 := n0_; have HB := n1_; clear n0_ n1_; (try clear hb); (try clear hb2); (try clear hk); (try clear hi)))
    go_ret
    exact ⟨_, by first | rfl | (simp [errW_none, errW_some] <;> rfl) | (simp [*, errW_none, errW_some] <;> rfl), by first | exact Kd.R_nil _ _ _ _ _ | exact Kd.N_nil _ _ _ _ _ | exact Kd.V_nil _ _ _ _ _ | exact Kd.Q_nil _ _ _ _ _ | exact Kd.S_nil _ _ _ _ _, by repeat (first | (with_reducible first | exact HB.out | apply below_alloc | apply pw_below_drewN | apply below_drew1 | refine below_set ?_ GE321.out) | exact HB.out)⟩
  · replace c4 := Bool.eq_false_iff.mpr c4
    subst c4
    have H1 : (some (([(⟨t322, t323, t324, t325⟩ : S23)] : List (S23)))) = some r := by rw [if_neg (show ¬ (false = true) by decide)] at H; exact H
    clear H
    have H := H1
    clear H1
    obtain ⟨y327, hy327⟩ : ∃ y_ : List (S23), y_ = (([(⟨t322, t323, t324, t325⟩ : S23)] : List (S23))) := ⟨_, rfl⟩
    replace H : (some y327) = some r := by first | (rw [hy327]; with_reducible exact H) | (have H2_ := (Option.bind_some _ _).symm.trans H; rw [hy327]; with_reducible exact H2_) | (have H2_ := (Option.bind_some _ _).symm.trans H; with_reducible exact H2_) | with_reducible exact H | (rw [hy327]; exact H) | exact H
    have Ny327 := Aside0.mk hy327
    clear hy327
    obtain rfl := Option.some.inj H
    go_enter Try.func48, Try.ntmps48
    go_wp2_with (first | ((with_reducible refine gate_dst (N := 1) rfl ?_); refine box_event ?hg (N := 1) ?hd (cs := #[.int .i64 a0_0, .int .i64 a0_1, .int .i64 a0_2, .int .i64 a0_3]) (t := 23) ?hr ?_; (case hd => rfl); (case hg => rfl); (case hr => first | (go_simp; done) | (go_simp; rfl)); intro gb321 hg w10 hbox hb; have n0_ := Aside0.mk (below_step (by repeat (first | (with_reducible first | exact HB.out | apply below_alloc | apply pw_below_drewN | apply below_drew1) | exact HB.out)) hb); have n1_ := Aside0.mk (hbox); have n2_ := Aside0.mk ((by rw [hg]; exact (below_size (by repeat (first | (with_reducible first | exact HB.out | apply below_alloc | apply pw_below_drewN | apply below_drew1) | exact HB.out))) : w.heap.size ≤ gb321)); have n3_ := Aside0.mk ((by rw [hg]; exact (below_size (by repeat (first | (with_reducible first | exact HB.out | apply below_alloc | apply pw_below_drewN | apply below_drew1) | exact HB.out))) : w.heap.size ≤ gb321)); clear HB; have HB := n0_; have BK321 := n1_; have GW321 := n2_; have GE321 := n3_; clear n0_ n1_ n2_ n3_; clear hb hbox hg; have hcz11_0 : w10.cell? ⟨gb321, 0, none⟩ = some (.int .i64 a0_0) := (blk_cell BK321.out 0).trans rfl; have hcz11_1 : w10.cell? ⟨gb321, 1, none⟩ = some (.int .i64 a0_1) := (blk_cell BK321.out 1).trans rfl; have hcz11_2 : w10.cell? ⟨gb321, 2, none⟩ = some (.int .i64 a0_2) := (blk_cell BK321.out 2).trans rfl; have hcz11_3 : w10.cell? ⟨gb321, 3, none⟩ = some (.int .i64 a0_3) := (blk_cell BK321.out 3).trans rfl; have hfz11_0 := blk_frozen BK321.out 0; have hfz11_1 := blk_frozen BK321.out 1; have hfz11_2 := blk_frozen BK321.out 2; have hfz11_3 := blk_frozen BK321.out 3) | ((with_reducible refine gate_callee (f := 62) rfl ?_); refine goesL_ (some 4) rfl rfl Try.func62 (by kernel_rfl) rfl #[.agg #[.int .i64 a0_0, .int .i64 a0_1, .int .i64 a0_2, .int .i64 a0_3]] rfl (by (try simp only [List.map_toArray, List.map_cons, List.map_nil]); first | done | rfl | (simp only [List.length_drop, List.length_take]; rfl)) ?_; (with_reducible refine (rect_Bound.calls a0_0 a0_1 a0_2 a0_3 t322 t323 t324 t325 _ A2.out).mono ?_); rintro e w12 ⟨rfl, hb⟩; refine ⟨_, rfl, ?_⟩; have n0_ := Aside0.mk (blk_below (g := gb321) (o := .cells #[.int .i64 a0_0, .int .i64 a0_1, .int .i64 a0_2, .int .i64 a0_3] 23 (0, 0)) (by (with_reducible repeat (first | refine blk_drewN ?_ _ | refine blk_drew ?_ | refine blk_alloc ?_ _)); exact BK321.out) hb); have n1_ := Aside0.mk (below_step (by repeat (first | (with_reducible first | exact HB.out | apply below_alloc | apply pw_below_drewN | apply below_drew1 | refine below_set ?_ GE321.out) | exact HB.out)) hb); clear BK321; clear HB; have BK321 := n0_; have HB := n1_; clear n0_ n1_; (try clear hb); (try clear hb2); (try clear hk); (try clear hi); have hcz13_0 : w12.cell? ⟨gb321, 0, none⟩ = some (.int .i64 a0_0) := (blk_cell BK321.out 0).trans rfl; have hcz13_1 : w12.cell? ⟨gb321, 1, none⟩ = some (.int .i64 a0_1) := (blk_cell BK321.out 1).trans rfl; have hcz13_2 : w12.cell? ⟨gb321, 2, none⟩ = some (.int .i64 a0_2) := (blk_cell BK321.out 2).trans rfl; have hcz13_3 : w12.cell? ⟨gb321, 3, none⟩ = some (.int .i64 a0_3) := (blk_cell BK321.out 3).trans rfl; have hfz13_0 := blk_frozen BK321.out 0; have hfz13_1 := blk_frozen BK321.out 1; have hfz13_2 := blk_frozen BK321.out 2; have hfz13_3 := blk_frozen BK321.out 3) | ((with_reducible refine gate_callee (f := 64) rfl ?_); refine goesL_ (some 6) rfl rfl Try.func64 (by kernel_rfl) rfl #[.agg #[.int .i64 t322, .int .i64 t323, .int .i64 t324, .int .i64 t325]] rfl (by (try simp only [List.map_toArray, List.map_cons, List.map_nil]); first | done | rfl | (simp only [List.length_drop, List.length_take]; rfl)) ?_; (with_reducible refine (rect_Empty.calls t322 t323 t324 t325 false _ A3.out).mono ?_); rintro e w14 ⟨rfl, hb⟩; refine ⟨_, rfl, ?_⟩; have n0_ := Aside0.mk (blk_below (g := gb321) (o := .cells #[.int .i64 t322, .int .i64 t323, .int .i64 t324, .int .i64 t325] 23 (0, 0)) (by (with_reducible repeat (first | refine blk_drewN ?_ _ | refine blk_drew ?_ | refine blk_alloc ?_ _)); refine blk_put (cs := #[.int .i64 t322, .int .i64 t323, .int .i64 t324, .int .i64 a0_3]) ?_ 3 _ rfl; (with_reducible repeat (first | refine blk_drewN ?_ _ | refine blk_drew ?_ | refine blk_alloc ?_ _)); refine blk_put (cs := #[.int .i64 t322, .int .i64 t323, .int .i64 a0_2, .int .i64 a0_3]) ?_ 2 _ rfl; (with_reducible repeat (first | refine blk_drewN ?_ _ | refine blk_drew ?_ | refine blk_alloc ?_ _)); refine blk_put (cs := #[.int .i64 t322, .int .i64 a0_1, .int .i64 a0_2, .int .i64 a0_3]) ?_ 1 _ rfl; (with_reducible repeat (first | refine blk_drewN ?_ _ | refine blk_drew ?_ | refine blk_alloc ?_ _)); refine blk_put (cs := #[.int .i64 a0_0, .int .i64 a0_1, .int .i64 a0_2, .int .i64 a0_3]) ?_ 0 _ rfl; (with_reducible repeat (first | refine blk_drewN ?_ _ | refine blk_drew ?_ | refine blk_alloc ?_ _)); exact BK321.out) hb); have n1_ := Aside0.mk (below_step (by repeat (first | (with_reducible first | exact HB.out | apply below_alloc | apply pw_below_drewN | apply below_drew1 | refine below_set ?_ GE321.out) | exact HB.out)) hb); clear BK321; clear HB; have BK321 := n0_; have HB := n1_; clear n0_ n1_; (try clear hb); (try clear hb2); (try clear hk); (try clear hi); have hcz15_0 : w14.cell? ⟨gb321, 0, none⟩ = some (.int .i64 t322) := (blk_cell BK321.out 0).trans rfl; have hcz15_1 : w14.cell? ⟨gb321, 1, none⟩ = some (.int .i64 t323) := (blk_cell BK321.out 1).trans rfl; have hcz15_2 : w14.cell? ⟨gb321, 2, none⟩ = some (.int .i64 t324) := (blk_cell BK321.out 2).trans rfl; have hcz15_3 : w14.cell? ⟨gb321, 3, none⟩ = some (.int .i64 t325) := (blk_cell BK321.out 3).trans rfl; have hfz15_0 := blk_frozen BK321.out 0; have hfz15_1 := blk_frozen BK321.out 1; have hfz15_2 := blk_frozen BK321.out 2; have hfz15_3 := blk_frozen BK321.out 3) | ((with_reducible refine gate_dst (N := 8) rfl ?_); refine Kd.R_lit k23 _ 23 ?hg (N := 8) ?hd (xs := ([(⟨t322, t323, t324, t325⟩ : S23)] : List (S23))) (inner := [.int .i64 t322, .int .i64 t323, .int .i64 t324, .int .i64 t325]) (ok := fun _ => True) (okp := fun _ => True) ?hr ?hp (fun _ hk => hk) trivial (Below.refl _ _) (Nat.le_refl _) (by simp) ?_; (case hd => rfl); (case hg => rfl); (case hr => first | (go_simp; done) | (go_simp; rfl)); (case hp => exact (Reps.c4 (show Kd.M k23 _ _ _ (⟨t322, t323, t324, t325⟩ : S23) [.int .i64 t322, .int .i64 t323, .int .i64 t324, .int .i64 t325] from (k23_mkM _ _ _ (⟨t322, t323, t324, t325⟩ : S23) )) (Reps.none _ _))); intro v328 w16 ho17 hb hg_ hnew_; clear hg_ hnew_; (first | rw [← Ny327.out] at ho17 | (simp only [Int.reduceToNat] at ho17; rw [← Ny327.out] at ho17)); have n0_ := Aside0.mk (Kd.R_lower (Kd.R_newB ho17 (g := gb321) (o := .cells #[.int .i64 t322, .int .i64 t323, .int .i64 t324, .int .i64 t325] 23 (0, 0)) (by (with_reducible repeat (first | refine blk_drewN ?_ _ | refine blk_drew ?_ | refine blk_alloc ?_ _)); exact BK321.out)) (below_size (by repeat (first | (with_reducible first | exact HB.out | apply below_alloc | apply pw_below_drewN | apply below_drew1 | refine below_set ?_ GE321.out) | exact HB.out)))); have n1_ := Aside0.mk (blk_below (g := gb321) (o := .cells #[.int .i64 t322, .int .i64 t323, .int .i64 t324, .int .i64 t325] 23 (0, 0)) (by (with_reducible repeat (first | refine blk_drewN ?_ _ | refine blk_drew ?_ | refine blk_alloc ?_ _)); exact BK321.out) hb); have n2_ := Aside0.mk (below_step (by repeat (first | (with_reducible first | exact HB.out | apply below_alloc | apply pw_below_drewN | apply below_drew1 | refine below_set ?_ GE321.out) | exact HB.out)) hb); clear BK321; clear HB; have HO329 := n0_; have BK321 := n1_; have HB := n2_; clear n0_ n1_ n2_; clear hb ho17))
    go_ret
    exact ⟨_, by first | rfl | (simp [errW_none, errW_some] <;> rfl) | (simp [*, errW_none, errW_some] <;> rfl), by (with_reducible repeat (first | apply Kd.R_alloc | apply Kd.R_drewN | apply Kd.R_drew)); exact Kd.R_mono HO329.out (fun _ hk => trivial), by repeat (first | (with_reducible first | exact HB.out | apply below_alloc | apply pw_below_drewN | apply below_drew1 | refine below_set ?_ GE321.out) | exact HB.out)⟩

end Go.Proofs.Ytogcokfildbodaa.PM
