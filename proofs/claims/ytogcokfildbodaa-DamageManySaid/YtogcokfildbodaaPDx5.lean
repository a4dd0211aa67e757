-- Printed for this claim by a program over the kit's print.
import Derived.Test.YtogcokfildbodaaPDx0
import Derived.Test.YtogcokfildbodaaPDx1
import Derived.Test.YtogcokfildbodaaPDx2
import Derived.Test.YtogcokfildbodaaPDx3
namespace Go.Proofs.Ytogcokfildbodaa.PD
open Go.RowKit Go.Proofs.YtogcokfildbodaaW.PrintWords Go.Proofs.YtogcokfildbodaaW.PrintLast Go.Proofs.YtogcokfildbodaaW.PrintMore
attribute [local go_sem] max2_int min2_int max_two min_two max_three min_three max_four min_four   -- for this text's walks alone
set_option linter.unusedVariables false
set_option linter.unusedSimpArgs false

attribute [local go_sem high] eqA23
/-! ### tableaulaw09_DamageMany: function 10 -/
def tableaulaw09_DamageMany.l0 : Nat → Int → List (S23) → Int → Option (Bool)
  | 0, _, _, _ => none
  | k + 1, x3, x4, x5 => if x5 < x3 then (if x4.length < 4398046511104 then (tableaulaw09_DamageMany.l0 k x3 (x4 ++ [(⟨wrap64 (2 * x5), 0, 1, 1⟩ : S23)]) (wrap64 (x5 + 1))) else (none)) else ((damage_Flat.f k x4).bind fun t228 => (if x3 ≤ 40 then ((tableaulaw00_SameRects.f k t228 x4).bind fun t231 => (if t231 = true then ((tableaulaw09_awake.f k).bind fun t232 => (some t232)) else (some false))) else (if (t228.length : Int) = (wrap64 (x3 - 40)) then (if 0 < (t228.length : Int) then (if (((rd_T23 t228 0).f0) == 0 && (((rd_T23 t228 0).f1) == 0 && (((rd_T23 t228 0).f2) == 81 && (((rd_T23 t228 0).f3) == 1)))) = true then ((tableaulaw09_awake.f k).bind fun t234 => (some t234)) else (some false)) else (none)) else (some false))))
def tableaulaw09_DamageMany.f (k : Nat) (a0 : Int) : Option (Bool) := (tableaulaw00_Place.f a0 60).bind fun t224 => (tableaulaw09_DamageMany.l0 k t224 ([] : List (S23)) 0)
theorem tableaulaw09_DamageMany.mono_l : ∀ k, (∀ y0 y1 y2, LeO (tableaulaw09_DamageMany.l0 k y0 y1 y2) (tableaulaw09_DamageMany.l0 (k + 1) y0 y1 y2))
  | 0 => fun _ _ _ r h => by simp [tableaulaw09_DamageMany.l0] at h
  | k + 1 => by
    have ih0 := tableaulaw09_DamageMany.mono_l k
    · intro y0 y1 y2
      unfold tableaulaw09_DamageMany.l0
      repeat' first
      | (with_reducible exact ih0 _ _ _)
      | (with_reducible exact damage_Flat.mono _ _)
      | (with_reducible exact tableaulaw00_SameRects.mono _ _ _)
      | (with_reducible exact tableaulaw09_awake.mono _)
      | (with_reducible exact LeO.refl _)
      | (with_reducible exact LeO.none _)
      | (with_reducible refine LeO.ite ?_ ?_)
      | (with_reducible refine LeO.bind ?_ (fun _ => ?_))
      | exact ih0 _ _ _
      | exact damage_Flat.mono _ _
      | exact tableaulaw00_SameRects.mono _ _ _
      | exact tableaulaw09_awake.mono _
      | exact LeO.none _
      | refine LeO.ite ?_ ?_
      | refine LeO.bind ?_ (fun _ => ?_)
theorem tableaulaw09_DamageMany.mono : ∀ a0 k, LeO (tableaulaw09_DamageMany.f k a0) (tableaulaw09_DamageMany.f (k + 1) a0) := by
  intro a0 k
  have ih0 := tableaulaw09_DamageMany.mono_l k
  unfold tableaulaw09_DamageMany.f
  repeat' first
      | (with_reducible exact ih0 _ _ _)
      | (with_reducible exact damage_Flat.mono _ _)
      | (with_reducible exact tableaulaw00_SameRects.mono _ _ _)
      | (with_reducible exact tableaulaw09_awake.mono _)
      | (with_reducible exact LeO.refl _)
      | (with_reducible exact LeO.none _)
      | (with_reducible refine LeO.ite ?_ ?_)
      | (with_reducible refine LeO.bind ?_ (fun _ => ?_))
      | exact ih0 _ _ _
      | exact damage_Flat.mono _ _
      | exact tableaulaw00_SameRects.mono _ _ _
      | exact tableaulaw09_awake.mono _
      | exact LeO.none _
      | refine LeO.ite ?_ ?_
      | refine LeO.bind ?_ (fun _ => ?_)
set_option maxHeartbeats 8000000 in
set_option maxRecDepth 100000 in
theorem tableaulaw09_DamageMany.calls (k : Nat) (a0 : Int) (r : Bool) (w : World) (h : tableaulaw09_DamageMany.f k a0 = some r) (hT : r = true) :
    Calls Try.prog 10 #[.int .i64 a0] w fun e w' => e = .returned (.bool r) ∧ Below w.heap.size w w' := by
  have HT := Aside0.mk hT
  clear hT
  have hu23 := Try.underlying23
  have HB := Aside0.mk (Below.refl w.heap.size w)
  have H : ((tableaulaw00_Place.f a0 60).bind fun t224 => (tableaulaw09_DamageMany.l0 k t224 ([] : List (S23)) 0)) = some r := h
  clear h
  replace H := Option.bind_eq_some_iff.mp H
  obtain ⟨t224, A20, H⟩ := H
  replace H : (tableaulaw09_DamageMany.l0 k t224 ([] : List (S23)) 0) = some r := H
  have A2 := Aside0.mk A20
  clear A20
  have H' := Aside0.mk H
  clear H
  go_enter Try.func10, Try.ntmps10
  go_wp2_with (first | ((with_reducible refine gate_callee (f := 24) rfl ?_); refine goesL_ (some 8) rfl rfl Try.func24 (by kernel_rfl) rfl #[.int .i64 a0, .int .i64 60] rfl (by (try simp only [List.map_toArray, List.map_cons, List.map_nil]); first | done | rfl | (simp only [List.length_drop, List.length_take]; rfl)) ?_; (with_reducible refine (tableaulaw00_Place.calls a0 60 t224 _ A2.out).mono ?_); rintro e w' ⟨rfl, ⟨nd, rfl⟩⟩; refine ⟨_, rfl, ?_⟩))
  go_loopg [4, 5] k (fun kq v4 v5 w' => ∃ (x4_1 : List (S23)) (x5_1 : Int), v5 = .int .i64 x5_1 ∧ Aside0 (tableaulaw09_DamageMany.l0 kq t224 x4_1 x5_1 = some r) ∧ Aside0 (kq ≤ k) ∧ Aside0 (Kd.R k23 23 w' w.heap.size (fun _ => True) v4 x4_1) ∧ Aside0 (Below w.heap.size w w'))
  case atStart => exact ⟨(([] : List (S23))), (0), (by first | rfl | (simp; done) | (simp [*]; done)), H', ⟨Nat.le_refl _⟩, ⟨by first | exact Kd.R_nil _ _ _ _ _ | exact Kd.N_nil _ _ _ _ _ | exact Kd.V_nil _ _ _ _ _ | exact Kd.Q_nil _ _ _ _ _ | exact Kd.S_nil _ _ _ _ _⟩, ⟨by repeat (first | (with_reducible first | exact HB.out | apply below_alloc | apply pw_below_drewN | apply below_drew1) | exact HB.out)⟩⟩
  case round =>
    clear H'
    try clear c1
    try clear c2
    try clear p2
    obtain ⟨x4_1, x5_1, rfl, HA, HK1, HO_4, HB⟩ := hrel
    cases gk with
    | zero => exact absurd HA.out (by simp [tableaulaw09_DamageMany.l0])
    | succ k1 =>
      have H := HA.out
      clear HA
      simp only [tableaulaw09_DamageMany.l0] at H
      by_cases c3 : x5_1 < t224
      · rw [if_pos c3] at H
        have c3b0 : decide (x5_1 < t224) = true := decide_eq_true c3
        clear c3
        by_cases c4 : x4_1.length < 4398046511104
        · rw [if_pos c4] at H
          have LMc4 := Aside0.mk c4
          clear c4
          obtain ⟨y225, hy225⟩ : ∃ y_ : List (S23), y_ = (x4_1 ++ [(⟨wrap64 (2 * x5_1), 0, 1, 1⟩ : S23)]) := ⟨_, rfl⟩
          replace H : (tableaulaw09_DamageMany.l0 k1 t224 y225 (wrap64 (x5_1 + 1))) = some r := by first | (rw [hy225]; with_reducible exact H) | (have H2_ := (Option.bind_some _ _).symm.trans H; rw [hy225]; with_reducible exact H2_) | (have H2_ := (Option.bind_some _ _).symm.trans H; with_reducible exact H2_) | with_reducible exact H | (rw [hy225]; exact H) | exact H
          have Ny225 := Aside0.mk hy225
          clear hy225
          have H' := Aside0.mk H
          clear H
          go_wp2_with (first | ((with_reducible refine gate_builtin (b := .append) (xs := #[.tmp 14, .tmp 18]) rfl ?_); at_builtin; refine Kd.R_append k23 (w0 := w) w.heap.size rfl (.tmp 14) (.tmp 18) 25 23 (.agg #[(.int .i64 0), (.int .i64 0), (.int .i64 0), (.int .i64 0)]) 32 rfl Try.underlying25 info23 rfl (by decide) (by omega) u4 x4_1 (⟨wrap64 (2 * x5_1), 0, 1, 1⟩ : S23) [.int .i64 (wrap64 (2 * x5_1)), .int .i64 0, .int .i64 1, .int .i64 1] (fun _ => True) (fun _ => False) rfl rfl ?aP (fun _ hk => hk.elim) ?aF ?aO ?aB ?aS ?aL ?_; (case aP => exact k23_mkM _ _ _ (⟨wrap64 (2 * x5_1), 0, 1, 1⟩ : S23)); (case aB => exact (by repeat (first | (with_reducible first | exact HB.out | apply below_alloc | apply pw_below_drewN | apply below_drew1) | exact HB.out))); (case aF => exact (fun _ _ => trivial)); (case aO => exact (by (with_reducible repeat (first | apply Kd.R_alloc | apply Kd.R_drewN | apply Kd.R_drew)); exact HO_4.out)); (case aS => exact (below_size (by repeat (first | (with_reducible first | exact HB.out | apply below_alloc | apply pw_below_drewN | apply below_drew1) | exact HB.out)))); (case aL => have := LMc4.out; omega); intro v226 w5 ho hb hg hat; rw [← Ny225.out] at ho; have n0_ := Aside0.mk (hb); have n1_ := Aside0.mk (ho); clear HB; clear HO_4; have HB := n0_; have HO227 := n1_; clear n0_ n1_; clear ho hb hg hat))
          go_roundg k1
          case measure => have := HK1.out; omega
          case rel => exact ⟨(y225), (wrap64 (x5_1 + 1)), (by first | rfl | (simp; done) | (simp [*]; done)), H', ⟨by have := HK1.out; omega⟩, ⟨by (with_reducible repeat (first | apply Kd.R_alloc | apply Kd.R_drewN | apply Kd.R_drew)); exact HO227.out⟩, ⟨by repeat (first | (with_reducible first | exact HB.out | apply below_alloc | apply pw_below_drewN | apply below_drew1) | exact HB.out)⟩⟩
        · rw [if_neg c4] at H
          exact absurd H (by simp)
      · rw [if_neg c3] at H
        have c3b0 : decide (x5_1 < t224) = false := decide_eq_false c3
        clear c3
        replace H := Option.bind_eq_some_iff.mp H
        obtain ⟨t228, A60, H⟩ := H
        replace H : (if t224 ≤ 40 then ((tableaulaw00_SameRects.f k1 t228 x4_1).bind fun t231 => (if t231 = true then ((tableaulaw09_awake.f k1).bind fun t232 => (some t232)) else (some false))) else (if (t228.length : Int) = (wrap64 (t224 - 40)) then (if 0 < (t228.length : Int) then (if (((rd_T23 t228 0).f0) == 0 && (((rd_T23 t228 0).f1) == 0 && (((rd_T23 t228 0).f2) == 81 && (((rd_T23 t228 0).f3) == 1)))) = true then ((tableaulaw09_awake.f k1).bind fun t234 => (some t234)) else (some false)) else (none)) else (some false))) = some r := H
        have A6 := Aside0.mk A60
        clear A60
        by_cases c7 : t224 ≤ 40
        · rw [if_pos c7] at H
          have c7b0 : decide (t224 ≤ 40) = true := decide_eq_true c7
          clear c7
          replace H := Option.bind_eq_some_iff.mp H
          obtain ⟨t231, A80, H⟩ := H
          replace H : (if t231 = true then ((tableaulaw09_awake.f k1).bind fun t232 => (some t232)) else (some false)) = some r := H
          have A8 := Aside0.mk A80
          clear A80
          by_cases c9 : t231 = true
          · subst c9
            have H1 : ((tableaulaw09_awake.f k1).bind fun t232 => (some t232)) = some r := by rw [if_pos rfl] at H; exact H
            clear H
            have H := H1
            clear H1
            replace H := Option.bind_eq_some_iff.mp H
            obtain ⟨t232, A100, H⟩ := H
            replace H : (some t232) = some r := H
            have A10 := Aside0.mk A100
            clear A100
            obtain rfl := Option.some.inj H
            obtain ⟨Ao11, co11, eo11⟩ := Kd.R_slice HO_4.out
            subst eo11
            go_wp2_with (first | ((with_reducible refine gate_callee (f := 34) rfl ?_); refine goesL_ (some 21) rfl rfl Try.func34 (by kernel_rfl) rfl #[.slice Ao11 x4_1.length co11] rfl (by (try simp only [List.map_toArray, List.map_cons, List.map_nil]); first | done | rfl | (simp only [List.length_drop, List.length_take]; rfl)) ?_; (with_reducible refine (damage_Flat.calls k1 _ _ x4_1 t228 _ ?side1 ?side2 A6.out).mono ?_); (case side1 => repeat (first | exact (Kd.R_reads' HO_4.out).2.2 | (with_reducible refine Kd.C_alloc ?_ _) | (with_reducible refine Kd.C_drewN ?_ _) | (with_reducible refine Kd.C_drew ?_))); (case side2 => exact (Kd.R_reads' HO_4.out).2.1); rintro e w12 ⟨v229, rfl, ho0, hb⟩; refine ⟨_, rfl, ?_⟩; have n0_ := Aside0.mk (Kd.R_below (by (with_reducible repeat (first | apply Kd.R_alloc | apply Kd.R_drewN | apply Kd.R_drew)); exact HO_4.out) hb); have n1_ := Aside0.mk (Kd.V_lower (Kd.V_mono (ok' := fun k_ => some k_ ≠ (.slice Ao11 x4_1.length co11 : Value).ownBlock) ho0 (fun k_ hk_ => (Kd.fresh' (Kd.R_lt (by (with_reducible repeat (first | apply Kd.R_alloc | apply Kd.R_drewN | apply Kd.R_drew)); exact HO_4.out)) k_ hk_))) (below_size (by repeat (first | (with_reducible first | exact HB.out | apply below_alloc | apply pw_below_drewN | apply below_drew1) | exact HB.out)))); have n2_ := Aside0.mk (below_step (by repeat (first | (with_reducible first | exact HB.out | apply below_alloc | apply pw_below_drewN | apply below_drew1) | exact HB.out)) hb); clear HO_4; clear HB; have HO_4 := n0_; have HO230 := n1_; have HB := n2_; clear n0_ n1_ n2_; (try clear hb); (try clear hb2); (try clear hk); (try clear hi); (try clear ho0); obtain ⟨Ao13, co13, eo13⟩ := Kd.V_slice HO230.out; subst eo13) | ((with_reducible refine gate_callee (f := 20) rfl ?_); refine goesL_ (some 26) rfl rfl Try.func20 (by kernel_rfl) rfl #[.slice Ao13 t228.length co13, .slice Ao11 x4_1.length co11] rfl (by (try simp only [List.map_toArray, List.map_cons, List.map_nil]); first | done | rfl | (simp only [List.length_drop, List.length_take]; rfl)) ?_; (with_reducible refine (tableaulaw00_SameRects.calls k1 _ _ t228 _ _ x4_1 true _ ?side1 ?side2 ?side3 ?side4 A8.out).mono ?_); (case side1 => repeat (first | exact (Kd.V_reads' HO230.out).2.2 | (with_reducible refine Kd.C_alloc ?_ _) | (with_reducible refine Kd.C_drewN ?_ _) | (with_reducible refine Kd.C_drew ?_))); (case side2 => exact (Kd.V_reads' HO230.out).2.1); (case side3 => repeat (first | exact (Kd.R_reads' HO_4.out).2.2 | (with_reducible refine Kd.C_alloc ?_ _) | (with_reducible refine Kd.C_drewN ?_ _) | (with_reducible refine Kd.C_drew ?_))); (case side4 => exact (Kd.R_reads' HO_4.out).2.1); rintro e w' ⟨rfl, ⟨nd, rfl⟩⟩; refine ⟨_, rfl, ?_⟩) | (go_at_call 30; (with_reducible refine (tableaulaw09_awake.calls k1  t232 _ A10.out).mono ?_); rintro e w14 ⟨rfl, hb⟩; have n0_ := Aside0.mk (Kd.R_below (by (with_reducible repeat (first | apply Kd.R_alloc | apply Kd.R_drewN | apply Kd.R_drew)); exact HO_4.out) hb); have n1_ := Aside0.mk (Kd.V_below (by (with_reducible repeat (first | apply Kd.V_alloc | apply Kd.V_drewN | apply Kd.V_drew)); exact HO230.out) hb); have n2_ := Aside0.mk (below_step (by repeat (first | (with_reducible first | exact HB.out | apply below_alloc | apply pw_below_drewN | apply below_drew1) | exact HB.out)) hb); clear HO_4; clear HO230; clear HB; have HO_4 := n0_; have HO230 := n1_; have HB := n2_; clear n0_ n1_ n2_; (try clear hb); (try clear hb2); (try clear hk); (try clear hi)))
            go_ret
            exact ⟨by first | rfl | (simp [errW_none, errW_some] <;> rfl) | (simp [*, errW_none, errW_some] <;> rfl), by repeat (first | (with_reducible first | exact HB.out | apply below_alloc | apply pw_below_drewN | apply below_drew1) | exact HB.out)⟩
          · replace c9 := Bool.eq_false_iff.mpr c9
            subst c9
            have H1 : (some false) = some r := by rw [if_neg (show ¬ (false = true) by decide)] at H; exact H
            clear H
            have H := H1
            clear H1
            exact absurd H (by rw [HT.out]; simp)
        · rw [if_neg c7] at H
          have c7b0 : decide (t224 ≤ 40) = false := decide_eq_false c7
          clear c7
          by_cases c15 : (t228.length : Int) = (wrap64 (t224 - 40))
          · rw [if_pos c15] at H
            have c15b0 : ((t228.length : Int) == (wrap64 (t224 - 40))) = true := beq_iff_eq.mpr c15
            have c15b1 : ((t228.length : Int) != (wrap64 (t224 - 40))) = false := bne_eq_false_iff_eq.mpr c15
            clear c15
            by_cases c16 : 0 < (t228.length : Int)
            · rw [if_pos c16] at H
              have c16b0 : decide (0 < (t228.length : Int)) = true := decide_eq_true c16
              have c16b1 : decide (0 < t228.length) = true := decide_eq_true (by omega)
              clear c16
              by_cases c17 : (((rd_T23 t228 0).f0) == 0 && (((rd_T23 t228 0).f1) == 0 && (((rd_T23 t228 0).f2) == 81 && (((rd_T23 t228 0).f3) == 1)))) = true
              · rw [if_pos c17] at H
                have c17b0 : (((rd_T23 t228 0).f0) == 0 && (((rd_T23 t228 0).f1) == 0 && (((rd_T23 t228 0).f2) == 81 && (((rd_T23 t228 0).f3) == 1)))) = true := c17
                (try (have c17b1 : decide (((rd_T23 t228 0).f0) = 0 && (((rd_T23 t228 0).f1) == 0 && (((rd_T23 t228 0).f2) == 81 && (((rd_T23 t228 0).f3) == 1)))) = true := by simpa using c17))
                (try (have c17b2 : (((rd_T23 t228 0).f0) == 0 && (((rd_T23 t228 0).f1) == 0 && (((rd_T23 t228 0).f2) == 81 && (((rd_T23 t228 0).f3) == 1)))) = true := by simpa using c17))
                clear c17
                replace H := Option.bind_eq_some_iff.mp H
                obtain ⟨t234, A180, H⟩ := H
                replace H : (some t234) = some r := H
                have A18 := Aside0.mk A180
                clear A180
                obtain rfl := Option.some.inj H
                obtain ⟨Ao19, co19, eo19⟩ := Kd.R_slice HO_4.out
                subst eo19
                go_wp2_with (first | ((with_reducible refine gate_callee (f := 34) rfl ?_); refine goesL_ (some 21) rfl rfl Try.func34 (by kernel_rfl) rfl #[.slice Ao19 x4_1.length co19] rfl (by (try simp only [List.map_toArray, List.map_cons, List.map_nil]); first | done | rfl | (simp only [List.length_drop, List.length_take]; rfl)) ?_; (with_reducible refine (damage_Flat.calls k1 _ _ x4_1 t228 _ ?side1 ?side2 A6.out).mono ?_); (case side1 => repeat (first | exact (Kd.R_reads' HO_4.out).2.2 | (with_reducible refine Kd.C_alloc ?_ _) | (with_reducible refine Kd.C_drewN ?_ _) | (with_reducible refine Kd.C_drew ?_))); (case side2 => exact (Kd.R_reads' HO_4.out).2.1); rintro e w20 ⟨v229, rfl, ho0, hb⟩; refine ⟨_, rfl, ?_⟩; have n0_ := Aside0.mk (Kd.R_below (by (with_reducible repeat (first | apply Kd.R_alloc | apply Kd.R_drewN | apply Kd.R_drew)); exact HO_4.out) hb); have n1_ := Aside0.mk (Kd.V_lower (Kd.V_mono (ok' := fun k_ => some k_ ≠ (.slice Ao19 x4_1.length co19 : Value).ownBlock) ho0 (fun k_ hk_ => (Kd.fresh' (Kd.R_lt (by (with_reducible repeat (first | apply Kd.R_alloc | apply Kd.R_drewN | apply Kd.R_drew)); exact HO_4.out)) k_ hk_))) (below_size (by repeat (first | (with_reducible first | exact HB.out | apply below_alloc | apply pw_below_drewN | apply below_drew1) | exact HB.out)))); have n2_ := Aside0.mk (below_step (by repeat (first | (with_reducible first | exact HB.out | apply below_alloc | apply pw_below_drewN | apply below_drew1) | exact HB.out)) hb); clear HO_4; clear HB; have HO_4 := n0_; have HO230 := n1_; have HB := n2_; clear n0_ n1_ n2_; (try clear hb); (try clear hb2); (try clear hk); (try clear hi); (try clear ho0); obtain ⟨Ao21, co21, eo21⟩ := Kd.V_slice HO230.out; subst eo21; have p233 : 0 ≤ (0 : Int) := (by omega); have q233 : 0 < (t228.length : Int) := of_decide_eq_true (by first | (with_reducible assumption) | assumption); obtain ⟨ad233, e233, hx233_0, hx233_1, hx233_2, hx233_3⟩ := at_T23 (Kd.V_reads' HO230.out).2.2 0 p233 q233; cases e233; have qi233 : (0 < t228.length) = True := eq_true (by omega); (try rw [show ((0 : Int)).toNat = 0 from rfl] at hx233_0); (try rw [show 0 * 4 = 0 from rfl] at hx233_0); (try rw [Addr.add_zero'] at hx233_0); (try rw [show ((0 : Int)).toNat = 0 from rfl] at hx233_1); (try rw [show 0 * 4 = 0 from rfl] at hx233_1); (try rw [Addr.add_zero'] at hx233_1); (try rw [show ((0 : Int)).toNat = 0 from rfl] at hx233_2); (try rw [show 0 * 4 = 0 from rfl] at hx233_2); (try rw [Addr.add_zero'] at hx233_2); (try rw [show ((0 : Int)).toNat = 0 from rfl] at hx233_3); (try rw [show 0 * 4 = 0 from rfl] at hx233_3); (try rw [Addr.add_zero'] at hx233_3); replace p233 := eq_true p233; replace q233 := eq_true q233) | (go_at_call 30; (with_reducible refine (tableaulaw09_awake.calls k1  t234 _ A18.out).mono ?_); rintro e w22 ⟨rfl, hb⟩; have n0_ := Aside0.mk (Kd.R_below (by (with_reducible repeat (first | apply Kd.R_alloc | apply Kd.R_drewN | apply Kd.R_drew)); exact HO_4.out) hb); have n1_ := Aside0.mk (Kd.V_below (by (with_reducible repeat (first | apply Kd.V_alloc | apply Kd.V_drewN | apply Kd.V_drew)); exact HO230.out) hb); have n2_ := Aside0.mk (below_step (by repeat (first | (with_reducible first | exact HB.out | apply below_alloc | apply pw_below_drewN | apply below_drew1) | exact HB.out)) hb); clear HO_4; clear HO230; clear HB; have HO_4 := n0_; have HO230 := n1_; have HB := n2_; clear n0_ n1_ n2_; (try clear hb); (try clear hb2); (try clear hk); (try clear hi)))
                go_ret
                exact ⟨by first | rfl | (simp [errW_none, errW_some] <;> rfl) | (simp [*, errW_none, errW_some] <;> rfl), by repeat (first | (with_reducible first | exact HB.out | apply below_alloc | apply pw_below_drewN | apply below_drew1) | exact HB.out)⟩
              · rw [if_neg c17] at H
                have c17b0 : (((rd_T23 t228 0).f0) == 0 && (((rd_T23 t228 0).f1) == 0 && (((rd_T23 t228 0).f2) == 81 && (((rd_T23 t228 0).f3) == 1)))) = false := by simpa using c17
                (try (have c17b1 : decide (((rd_T23 t228 0).f0) = 0 && (((rd_T23 t228 0).f1) == 0 && (((rd_T23 t228 0).f2) == 81 && (((rd_T23 t228 0).f3) == 1)))) = false := by simpa using c17))
                (try (have c17b2 : (((rd_T23 t228 0).f0) == 0 && (((rd_T23 t228 0).f1) == 0 && (((rd_T23 t228 0).f2) == 81 && (((rd_T23 t228 0).f3) == 1)))) = false := by simpa using c17))
                (try (have c17b3 : ¬ (((rd_T23 t228 0).f0) = 0 && (((rd_T23 t228 0).f1) == 0 && (((rd_T23 t228 0).f2) == 81 && (((rd_T23 t228 0).f3) == 1)))) := by simpa using c17))
                clear c17
                exact absurd H (by rw [HT.out]; simp)
            · rw [if_neg c16] at H
              exact absurd H (by simp)
          · rw [if_neg c15] at H
            have c15b0 : ((t228.length : Int) == (wrap64 (t224 - 40))) = false := beq_eq_false_iff_ne.mpr c15
            have c15b1 : ((t228.length : Int) != (wrap64 (t224 - 40))) = true := bne_iff_ne.mpr c15
            exact absurd H (by rw [HT.out]; simp)

/-- THE ONE PURE STATEMENT of tableaulaw09_DamageMany: yours. -/
def tableaulaw09_DamageMany.Pure : Prop := ∀ (a0 : Int), (Lit.int .i64 a0).wf = true → ∃ k, tableaulaw09_DamageMany.f k a0 = some true

end Go.Proofs.Ytogcokfildbodaa.PD
