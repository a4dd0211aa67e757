-- Printed for this claim by a program over the kit's print.
import Derived.Test.YtogcokfildbodaaPOx0
import Derived.Test.YtogcokfildbodaaPOx2
import Derived.Test.YtogcokfildbodaaPOx3
namespace Go.Proofs.Ytogcokfildbodaa.PO
open Go.RowKit Go.Proofs.YtogcokfildbodaaW.PrintWords Go.Proofs.YtogcokfildbodaaW.PrintLast Go.Proofs.YtogcokfildbodaaW.PrintMore
attribute [local go_sem] max2_int min2_int max_two min_two max_three min_three max_four min_four   -- for this text's walks alone
set_option linter.unusedVariables false
set_option linter.unusedSimpArgs false

/-! ### tableaulaw09_DamageOrders: function 11 -/
def tableaulaw09_DamageOrders.j0 : Nat → List (S23) → Int → Bool → Option (Bool)
  | 0, _, _, _ => none
  | k + 1, x0, x1, x15 => if x15 = true then ((tableaulaw09_awake.f k).bind fun t167 => (some t167)) else ((tableaulaw00_Place.f x1 (x0.length : Int)).bind fun t168 => (if 0 ≤ t168 then (if t168 ≤ (x0.length : Int) then ((some (x0.drop (t168 : Int).toNat : List (S23))).bind fun y169 => (if ([] : List (S23)).length + y169.length < 4398046511104 then ((some (([] : List (S23)) ++ y169 : List (S23))).bind fun y173 => ((some (x0.take (t168 : Int).toNat : List (S23))).bind fun y176 => (if y173.length + y176.length < 4398046511104 then ((damage_Flat.f k x0).bind fun t183 => ((damage_Flat.f k (y173 ++ y176)).bind fun t186 => ((tableaulaw00_SameRects.f k t183 t186).bind fun t189 => (if t189 = true then (if t168 < (x0.length : Int) then ((damage_Add.f k t183 ((rd_T23 x0 t168).f0) ((rd_T23 x0 t168).f1) ((rd_T23 x0 t168).f2) ((rd_T23 x0 t168).f3)).bind fun t191 => ((tableaulaw00_SameRects.f k t191 t183).bind fun t194 => (if t194 = true then ((damage_Flat.f k t183).bind fun t195 => ((tableaulaw00_SameRects.f k t195 t183).bind fun t198 => (if t198 = true then ((tableaulaw09_awake.f k).bind fun t199 => (some t199)) else (some false)))) else (some false)))) else (none)) else (some false))))) else (none)))) else (none))) else (none)) else (none)))
def tableaulaw09_DamageOrders.f (k : Nat) (l0 : List (S23)) (a1 : Int) : Option (Bool) := if (l0.length : Int) > 5 then (tableaulaw09_DamageOrders.j0 k l0 a1 true) else (tableaulaw09_DamageOrders.j0 k l0 a1 ((l0.length : Int) == 0))
theorem tableaulaw09_DamageOrders.mono_l : ∀ k, (∀ y0 y1 y2, LeO (tableaulaw09_DamageOrders.j0 k y0 y1 y2) (tableaulaw09_DamageOrders.j0 (k + 1) y0 y1 y2))
  | 0 => fun _ _ _ r h => by simp [tableaulaw09_DamageOrders.j0] at h
  | k + 1 => by
    have ih0 := tableaulaw09_DamageOrders.mono_l k
    · intro y0 y1 y2
      unfold tableaulaw09_DamageOrders.j0
      repeat' first
      | (with_reducible exact ih0 _ _ _)
      | (with_reducible exact damage_Add.mono _ _ _ _ _ _)
      | (with_reducible exact damage_Flat.mono _ _)
      | (with_reducible exact tableaulaw00_SameRects.mono _ _ _)
      | (with_reducible exact tableaulaw09_awake.mono _)
      | (with_reducible exact LeO.refl _)
      | (with_reducible exact LeO.none _)
      | (with_reducible refine LeO.ite ?_ ?_)
      | (with_reducible refine LeO.bind ?_ (fun _ => ?_))
      | exact ih0 _ _ _
      | exact damage_Add.mono _ _ _ _ _ _
      | exact damage_Flat.mono _ _
      | exact tableaulaw00_SameRects.mono _ _ _
      | exact tableaulaw09_awake.mono _
      | exact LeO.none _
      | refine LeO.ite ?_ ?_
      | refine LeO.bind ?_ (fun _ => ?_)
theorem tableaulaw09_DamageOrders.mono : ∀ a0 a1 k, LeO (tableaulaw09_DamageOrders.f k a0 a1) (tableaulaw09_DamageOrders.f (k + 1) a0 a1) := by
  intro a0 a1 k
  have ih0 := tableaulaw09_DamageOrders.mono_l k
  unfold tableaulaw09_DamageOrders.f
  repeat' first
      | (with_reducible exact ih0 _ _ _)
      | (with_reducible exact damage_Add.mono _ _ _ _ _ _)
      | (with_reducible exact damage_Flat.mono _ _)
      | (with_reducible exact tableaulaw00_SameRects.mono _ _ _)
      | (with_reducible exact tableaulaw09_awake.mono _)
      | (with_reducible exact LeO.refl _)
      | (with_reducible exact LeO.none _)
      | (with_reducible refine LeO.ite ?_ ?_)
      | (with_reducible refine LeO.bind ?_ (fun _ => ?_))
      | exact ih0 _ _ _
      | exact damage_Add.mono _ _ _ _ _ _
      | exact damage_Flat.mono _ _
      | exact tableaulaw00_SameRects.mono _ _ _
      | exact tableaulaw09_awake.mono _
      | exact LeO.none _
      | refine LeO.ite ?_ ?_
      | refine LeO.bind ?_ (fun _ => ?_)
def tableaulaw09_DamageOrders.T4 : Bool × List (List Nat × List Nat) := (true, [([], []), ([], []), ([0, 1], [0, 1]), ([2], [2]), ([], []), ([], []), ([4, 5], [4, 5]), ([3, 6, 3], [3, 6]), ([7, 7, 0, 1, 2, 3, 4, 5, 6, 7], [7])])
def tableaulaw09_DamageOrders.B4 : List Nat := [0, 0, 3, 7, 0, 0, 48, 127, 255]
theorem tableaulaw09_DamageOrders.tab4 : rtab .any (opsOf Try.f11 4) = tableaulaw09_DamageOrders.T4 := by kernel_rfl
theorem tableaulaw09_DamageOrders.bits4 : waitsOk tableaulaw09_DamageOrders.T4.2 tableaulaw09_DamageOrders.B4 = true := by kernel_rfl
set_option maxHeartbeats 8000000 in
set_option maxRecDepth 100000 in
theorem tableaulaw09_DamageOrders.calls (k : Nat) (A0 : Option Addr) (c0 : Nat) (l0 : List (S23)) (a1 : Int) (r : Bool) (w : World) (hr0 : Kd.C k23 w A0 l0.length l0) (hc0 : l0.length ≤ c0) (h : tableaulaw09_DamageOrders.f k l0 a1 = some r) (hT : r = true) :
    Calls Try.prog 11 #[.slice A0 l0.length c0, .int .i64 a1] w fun e w' => e = .returned (.bool r) ∧ Below w.heap.size w w' := by
  have HT := Aside0.mk hT
  clear hT
  have hu23 := Try.underlying23
  have HR0 := Aside0.mk hr0
  have HC0 := Aside0.mk hc0
  clear hr0 hc0
  have HB := Aside0.mk (Below.refl w.heap.size w)
  have H : (if (l0.length : Int) > 5 then (tableaulaw09_DamageOrders.j0 k l0 a1 true) else (tableaulaw09_DamageOrders.j0 k l0 a1 ((l0.length : Int) == 0))) = some r := h
  clear h
  have HC3 := Aside0.mk H
  clear H
  go_enter Try.func11, Try.ntmps11
  go_upto_region 1 with (fail)
  go_cut [15] (fun v15 wc => ∃ (kq : Nat) (x15_2 : Bool), v15 = .bool x15_2 ∧ Aside0 (tableaulaw09_DamageOrders.j0 kq l0 a1 x15_2 = some r) ∧ Aside0 (kq ≤ k) ∧ Aside0 (Below w.heap.size w wc))
  case first =>
    have H := HC3.out
    clear HC3
    by_cases c4 : (l0.length : Int) > 5
    · rw [if_pos c4] at H
      have c4b0 : decide (5 < (l0.length : Int)) = true := decide_eq_true c4
      have c4b1 : decide (5 < l0.length) = true := decide_eq_true (by omega)
      clear c4
      (first | rw [c4b0] | (simp only [i64_w, i32_w]; rw [c4b0]) | skip)
      have H' := Aside0.mk H
      clear H
      go_wp2
      go_meet
      case rel => exact ⟨_, (true), (by first | rfl | (simp; done) | (simp [*]; done)), H', ⟨by first | omega | exact Nat.le_refl _⟩, ⟨by repeat (first | (with_reducible first | exact HB.out | apply below_alloc | apply pw_below_drewN | apply below_drew1) | exact HB.out)⟩⟩
    · rw [if_neg c4] at H
      have c4b0 : decide (5 < (l0.length : Int)) = false := decide_eq_false c4
      have c4b1 : decide (5 < l0.length) = false := decide_eq_false (by omega)
      clear c4
      (first | rw [c4b0] | (simp only [i64_w, i32_w]; rw [c4b0]) | skip)
      have H' := Aside0.mk H
      clear H
      go_wp2
      go_meet
      case rel => exact ⟨_, (((l0.length : Int) == 0)), (by first | rfl | (simp; done) | (simp [*]; done)), H', ⟨by first | omega | exact Nat.le_refl _⟩, ⟨by repeat (first | (with_reducible first | exact HB.out | apply below_alloc | apply pw_below_drewN | apply below_drew1) | exact HB.out)⟩⟩
  case rest =>
    clear HC3
    try clear c1
    try clear p2
    try clear c4
    try clear c4b0
    try clear c4b1
    obtain ⟨kq, x15_2, rfl, HA, HJ2, HB⟩ := hcut
    cases kq with
    | zero => exact absurd HA.out (by simp [tableaulaw09_DamageOrders.j0])
    | succ kj2 =>
      have H := HA.out
      clear HA
      simp only [tableaulaw09_DamageOrders.j0] at H
      by_cases c5 : x15_2 = true
      · subst c5
        have H1 : ((tableaulaw09_awake.f kj2).bind fun t167 => (some t167)) = some r := by rw [if_pos rfl] at H; exact H
        clear H
        have H := H1
        clear H1
        replace H := Option.bind_eq_some_iff.mp H
        obtain ⟨t167, A60, H⟩ := H
        replace H : (some t167) = some r := H
        have A6 := Aside0.mk A60
        clear A60
        obtain rfl := Option.some.inj H
        go_wp2_with (first | ((with_reducible refine gate_callee (f := 30) rfl ?_); refine goesL_ (some 16) rfl rfl Try.func30 (by kernel_rfl) rfl #[] rfl (by (try simp only [List.map_toArray, List.map_cons, List.map_nil]); first | done | rfl | (simp only [List.length_drop, List.length_take]; rfl)) ?_; (with_reducible refine (tableaulaw09_awake.calls kj2  t167 _ A6.out).mono ?_); rintro e w7 ⟨rfl, hb⟩; refine ⟨_, rfl, ?_⟩; have n0_ := Aside0.mk (below_step (by repeat (first | (with_reducible first | exact HB.out | apply below_alloc | apply pw_below_drewN | apply below_drew1) | exact HB.out)) hb); clear HB; have HB := n0_; clear n0_; (try clear hb); (try clear hb2); (try clear hk); (try clear hi)))
        go_ret
        exact ⟨by first | rfl | (simp [errW_none, errW_some] <;> rfl) | (simp [*, errW_none, errW_some] <;> rfl), by repeat (first | (with_reducible first | exact HB.out | apply below_alloc | apply pw_below_drewN | apply below_drew1) | exact HB.out)⟩
      · replace c5 := Bool.eq_false_iff.mpr c5
        subst c5
        have H1 : ((tableaulaw00_Place.f a1 (l0.length : Int)).bind fun t168 => (if 0 ≤ t168 then (if t168 ≤ (l0.length : Int) then ((some (l0.drop (t168 : Int).toNat : List (S23))).bind fun y169 => (if ([] : List (S23)).length + y169.length < 4398046511104 then ((some (([] : List (S23)) ++ y169 : List (S23))).bind fun y173 => ((some (l0.take (t168 : Int).toNat : List (S23))).bind fun y176 => (if y173.length + y176.length < 4398046511104 then ((damage_Flat.f kj2 l0).bind fun t183 => ((damage_Flat.f kj2 (y173 ++ y176)).bind fun t186 => ((tableaulaw00_SameRects.f kj2 t183 t186).bind fun t189 => (if t189 = true then (if t168 < (l0.length : Int) then ((damage_Add.f kj2 t183 ((rd_T23 l0 t168).f0) ((rd_T23 l0 t168).f1) ((rd_T23 l0 t168).f2) ((rd_T23 l0 t168).f3)).bind fun t191 => ((tableaulaw00_SameRects.f kj2 t191 t183).bind fun t194 => (if t194 = true then ((damage_Flat.f kj2 t183).bind fun t195 => ((tableaulaw00_SameRects.f kj2 t195 t183).bind fun t198 => (if t198 = true then ((tableaulaw09_awake.f kj2).bind fun t199 => (some t199)) else (some false)))) else (some false)))) else (none)) else (some false))))) else (none)))) else (none))) else (none)) else (none))) = some r := by rw [if_neg (show ¬ (false = true) by decide)] at H; exact H
        clear H
        have H := H1
        clear H1
        replace H := Option.bind_eq_some_iff.mp H
        obtain ⟨t168, A80, H⟩ := H
        replace H : (if 0 ≤ t168 then (if t168 ≤ (l0.length : Int) then ((some (l0.drop (t168 : Int).toNat : List (S23))).bind fun y169 => (if ([] : List (S23)).length + y169.length < 4398046511104 then ((some (([] : List (S23)) ++ y169 : List (S23))).bind fun y173 => ((some (l0.take (t168 : Int).toNat : List (S23))).bind fun y176 => (if y173.length + y176.length < 4398046511104 then ((damage_Flat.f kj2 l0).bind fun t183 => ((damage_Flat.f kj2 (y173 ++ y176)).bind fun t186 => ((tableaulaw00_SameRects.f kj2 t183 t186).bind fun t189 => (if t189 = true then (if t168 < (l0.length : Int) then ((damage_Add.f kj2 t183 ((rd_T23 l0 t168).f0) ((rd_T23 l0 t168).f1) ((rd_T23 l0 t168).f2) ((rd_T23 l0 t168).f3)).bind fun t191 => ((tableaulaw00_SameRects.f kj2 t191 t183).bind fun t194 => (if t194 = true then ((damage_Flat.f kj2 t183).bind fun t195 => ((tableaulaw00_SameRects.f kj2 t195 t183).bind fun t198 => (if t198 = true then ((tableaulaw09_awake.f kj2).bind fun t199 => (some t199)) else (some false)))) else (some false)))) else (none)) else (some false))))) else (none)))) else (none))) else (none)) else (none)) = some r := H
        have A8 := Aside0.mk A80
        clear A80
        by_cases c9 : 0 ≤ t168
        · rw [if_pos c9] at H
          have c9b0 := eq_true c9
          have c9b1 : decide (0 ≤ t168) = true := decide_eq_true c9
          clear c9
          by_cases c10 : t168 ≤ (l0.length : Int)
          · rw [if_pos c10] at H
            have c10b0 := eq_true c10
            have c10b1 : decide (t168 ≤ (l0.length : Int)) = true := decide_eq_true c10
            clear c10
            obtain ⟨y169, hy169⟩ : ∃ y_ : List (S23), y_ = (l0.drop (t168 : Int).toNat) := ⟨_, rfl⟩
            replace H : (if ([] : List (S23)).length + y169.length < 4398046511104 then ((some (([] : List (S23)) ++ y169 : List (S23))).bind fun y173 => ((some (l0.take (t168 : Int).toNat : List (S23))).bind fun y176 => (if y173.length + y176.length < 4398046511104 then ((damage_Flat.f kj2 l0).bind fun t183 => ((damage_Flat.f kj2 (y173 ++ y176)).bind fun t186 => ((tableaulaw00_SameRects.f kj2 t183 t186).bind fun t189 => (if t189 = true then (if t168 < (l0.length : Int) then ((damage_Add.f kj2 t183 ((rd_T23 l0 t168).f0) ((rd_T23 l0 t168).f1) ((rd_T23 l0 t168).f2) ((rd_T23 l0 t168).f3)).bind fun t191 => ((tableaulaw00_SameRects.f kj2 t191 t183).bind fun t194 => (if t194 = true then ((damage_Flat.f kj2 t183).bind fun t195 => ((tableaulaw00_SameRects.f kj2 t195 t183).bind fun t198 => (if t198 = true then ((tableaulaw09_awake.f kj2).bind fun t199 => (some t199)) else (some false)))) else (some false)))) else (none)) else (some false))))) else (none)))) else (none)) = some r := by first | (rw [hy169]; with_reducible exact H) | (have H2_ := (Option.bind_some _ _).symm.trans H; rw [hy169]; with_reducible exact H2_) | (have H2_ := (Option.bind_some _ _).symm.trans H; with_reducible exact H2_) | with_reducible exact H | (rw [hy169]; exact H) | exact H
            have Ny169 := Aside0.mk hy169
            clear hy169
            by_cases c11 : ([] : List (S23)).length + y169.length < 4398046511104
            · rw [if_pos c11] at H
              have LMc11 := Aside0.mk c11
              clear c11
              obtain ⟨y173, hy173⟩ : ∃ y_ : List (S23), y_ = (([] : List (S23)) ++ y169) := ⟨_, rfl⟩
              replace H : ((some (l0.take (t168 : Int).toNat : List (S23))).bind fun y176 => (if y173.length + y176.length < 4398046511104 then ((damage_Flat.f kj2 l0).bind fun t183 => ((damage_Flat.f kj2 (y173 ++ y176)).bind fun t186 => ((tableaulaw00_SameRects.f kj2 t183 t186).bind fun t189 => (if t189 = true then (if t168 < (l0.length : Int) then ((damage_Add.f kj2 t183 ((rd_T23 l0 t168).f0) ((rd_T23 l0 t168).f1) ((rd_T23 l0 t168).f2) ((rd_T23 l0 t168).f3)).bind fun t191 => ((tableaulaw00_SameRects.f kj2 t191 t183).bind fun t194 => (if t194 = true then ((damage_Flat.f kj2 t183).bind fun t195 => ((tableaulaw00_SameRects.f kj2 t195 t183).bind fun t198 => (if t198 = true then ((tableaulaw09_awake.f kj2).bind fun t199 => (some t199)) else (some false)))) else (some false)))) else (none)) else (some false))))) else (none))) = some r := by first | (rw [hy173]; with_reducible exact H) | (have H2_ := (Option.bind_some _ _).symm.trans H; rw [hy173]; with_reducible exact H2_) | (have H2_ := (Option.bind_some _ _).symm.trans H; with_reducible exact H2_) | with_reducible exact H | (rw [hy173]; exact H) | exact H
              have Ny173 := Aside0.mk hy173
              clear hy173
              have c12b0 := eq_true (of_decide_eq_true (by first | (with_reducible assumption) | assumption) : 0 ≤ t168)
              have c13b0 := eq_true (of_decide_eq_true (by first | (with_reducible assumption) | assumption) : t168 ≤ (l0.length : Int))
              obtain ⟨y176, hy176⟩ : ∃ y_ : List (S23), y_ = (l0.take (t168 : Int).toNat) := ⟨_, rfl⟩
              replace H : (if y173.length + y176.length < 4398046511104 then ((damage_Flat.f kj2 l0).bind fun t183 => ((damage_Flat.f kj2 (y173 ++ y176)).bind fun t186 => ((tableaulaw00_SameRects.f kj2 t183 t186).bind fun t189 => (if t189 = true then (if t168 < (l0.length : Int) then ((damage_Add.f kj2 t183 ((rd_T23 l0 t168).f0) ((rd_T23 l0 t168).f1) ((rd_T23 l0 t168).f2) ((rd_T23 l0 t168).f3)).bind fun t191 => ((tableaulaw00_SameRects.f kj2 t191 t183).bind fun t194 => (if t194 = true then ((damage_Flat.f kj2 t183).bind fun t195 => ((tableaulaw00_SameRects.f kj2 t195 t183).bind fun t198 => (if t198 = true then ((tableaulaw09_awake.f kj2).bind fun t199 => (some t199)) else (some false)))) else (some false)))) else (none)) else (some false))))) else (none)) = some r := by first | (rw [hy176]; with_reducible exact H) | (have H2_ := (Option.bind_some _ _).symm.trans H; rw [hy176]; with_reducible exact H2_) | (have H2_ := (Option.bind_some _ _).symm.trans H; with_reducible exact H2_) | with_reducible exact H | (rw [hy176]; exact H) | exact H
              have Ny176 := Aside0.mk hy176
              clear hy176
              by_cases c14 : y173.length + y176.length < 4398046511104
              · rw [if_pos c14] at H
                have LMc14 := Aside0.mk c14
                clear c14
                obtain ⟨y180, hy180⟩ : ∃ y_ : List (S23), y_ = (y173 ++ y176) := ⟨_, rfl⟩
                replace H : ((damage_Flat.f kj2 l0).bind fun t183 => ((damage_Flat.f kj2 y180).bind fun t186 => ((tableaulaw00_SameRects.f kj2 t183 t186).bind fun t189 => (if t189 = true then (if t168 < (l0.length : Int) then ((damage_Add.f kj2 t183 ((rd_T23 l0 t168).f0) ((rd_T23 l0 t168).f1) ((rd_T23 l0 t168).f2) ((rd_T23 l0 t168).f3)).bind fun t191 => ((tableaulaw00_SameRects.f kj2 t191 t183).bind fun t194 => (if t194 = true then ((damage_Flat.f kj2 t183).bind fun t195 => ((tableaulaw00_SameRects.f kj2 t195 t183).bind fun t198 => (if t198 = true then ((tableaulaw09_awake.f kj2).bind fun t199 => (some t199)) else (some false)))) else (some false)))) else (none)) else (some false))))) = some r := by first | (rw [hy180]; with_reducible exact H) | (have H2_ := (Option.bind_some _ _).symm.trans H; rw [hy180]; with_reducible exact H2_) | (have H2_ := (Option.bind_some _ _).symm.trans H; with_reducible exact H2_) | with_reducible exact H | (rw [hy180]; exact H) | exact H
                have Ny180 := Aside0.mk hy180
                clear hy180
                replace H := Option.bind_eq_some_iff.mp H
                obtain ⟨t183, A150, H⟩ := H
                replace H : ((damage_Flat.f kj2 y180).bind fun t186 => ((tableaulaw00_SameRects.f kj2 t183 t186).bind fun t189 => (if t189 = true then (if t168 < (l0.length : Int) then ((damage_Add.f kj2 t183 ((rd_T23 l0 t168).f0) ((rd_T23 l0 t168).f1) ((rd_T23 l0 t168).f2) ((rd_T23 l0 t168).f3)).bind fun t191 => ((tableaulaw00_SameRects.f kj2 t191 t183).bind fun t194 => (if t194 = true then ((damage_Flat.f kj2 t183).bind fun t195 => ((tableaulaw00_SameRects.f kj2 t195 t183).bind fun t198 => (if t198 = true then ((tableaulaw09_awake.f kj2).bind fun t199 => (some t199)) else (some false)))) else (some false)))) else (none)) else (some false)))) = some r := H
                have A15 := Aside0.mk A150
                clear A150
                replace H := Option.bind_eq_some_iff.mp H
                obtain ⟨t186, A160, H⟩ := H
                replace H : ((tableaulaw00_SameRects.f kj2 t183 t186).bind fun t189 => (if t189 = true then (if t168 < (l0.length : Int) then ((damage_Add.f kj2 t183 ((rd_T23 l0 t168).f0) ((rd_T23 l0 t168).f1) ((rd_T23 l0 t168).f2) ((rd_T23 l0 t168).f3)).bind fun t191 => ((tableaulaw00_SameRects.f kj2 t191 t183).bind fun t194 => (if t194 = true then ((damage_Flat.f kj2 t183).bind fun t195 => ((tableaulaw00_SameRects.f kj2 t195 t183).bind fun t198 => (if t198 = true then ((tableaulaw09_awake.f kj2).bind fun t199 => (some t199)) else (some false)))) else (some false)))) else (none)) else (some false))) = some r := H
                have A16 := Aside0.mk A160
                clear A160
                replace H := Option.bind_eq_some_iff.mp H
                obtain ⟨t189, A170, H⟩ := H
                replace H : (if t189 = true then (if t168 < (l0.length : Int) then ((damage_Add.f kj2 t183 ((rd_T23 l0 t168).f0) ((rd_T23 l0 t168).f1) ((rd_T23 l0 t168).f2) ((rd_T23 l0 t168).f3)).bind fun t191 => ((tableaulaw00_SameRects.f kj2 t191 t183).bind fun t194 => (if t194 = true then ((damage_Flat.f kj2 t183).bind fun t195 => ((tableaulaw00_SameRects.f kj2 t195 t183).bind fun t198 => (if t198 = true then ((tableaulaw09_awake.f kj2).bind fun t199 => (some t199)) else (some false)))) else (some false)))) else (none)) else (some false)) = some r := H
                have A17 := Aside0.mk A170
                clear A170
                by_cases c18 : t189 = true
                · subst c18
                  have H1 : (if t168 < (l0.length : Int) then ((damage_Add.f kj2 t183 ((rd_T23 l0 t168).f0) ((rd_T23 l0 t168).f1) ((rd_T23 l0 t168).f2) ((rd_T23 l0 t168).f3)).bind fun t191 => ((tableaulaw00_SameRects.f kj2 t191 t183).bind fun t194 => (if t194 = true then ((damage_Flat.f kj2 t183).bind fun t195 => ((tableaulaw00_SameRects.f kj2 t195 t183).bind fun t198 => (if t198 = true then ((tableaulaw09_awake.f kj2).bind fun t199 => (some t199)) else (some false)))) else (some false)))) else (none)) = some r := by rw [if_pos rfl] at H; exact H
                  clear H
                  have H := H1
                  clear H1
                  by_cases c19 : t168 < (l0.length : Int)
                  · rw [if_pos c19] at H
                    have c19b0 : decide (t168 < (l0.length : Int)) = true := decide_eq_true c19
                    clear c19
                    replace H := Option.bind_eq_some_iff.mp H
                    obtain ⟨t191, A200, H⟩ := H
                    replace H : ((tableaulaw00_SameRects.f kj2 t191 t183).bind fun t194 => (if t194 = true then ((damage_Flat.f kj2 t183).bind fun t195 => ((tableaulaw00_SameRects.f kj2 t195 t183).bind fun t198 => (if t198 = true then ((tableaulaw09_awake.f kj2).bind fun t199 => (some t199)) else (some false)))) else (some false))) = some r := H
                    have A20 := Aside0.mk A200
                    clear A200
                    replace H := Option.bind_eq_some_iff.mp H
                    obtain ⟨t194, A210, H⟩ := H
                    replace H : (if t194 = true then ((damage_Flat.f kj2 t183).bind fun t195 => ((tableaulaw00_SameRects.f kj2 t195 t183).bind fun t198 => (if t198 = true then ((tableaulaw09_awake.f kj2).bind fun t199 => (some t199)) else (some false)))) else (some false)) = some r := H
                    have A21 := Aside0.mk A210
                    clear A210
                    by_cases c22 : t194 = true
                    · subst c22
                      have H1 : ((damage_Flat.f kj2 t183).bind fun t195 => ((tableaulaw00_SameRects.f kj2 t195 t183).bind fun t198 => (if t198 = true then ((tableaulaw09_awake.f kj2).bind fun t199 => (some t199)) else (some false)))) = some r := by rw [if_pos rfl] at H; exact H
                      clear H
                      have H := H1
                      clear H1
                      replace H := Option.bind_eq_some_iff.mp H
                      obtain ⟨t195, A230, H⟩ := H
                      replace H : ((tableaulaw00_SameRects.f kj2 t195 t183).bind fun t198 => (if t198 = true then ((tableaulaw09_awake.f kj2).bind fun t199 => (some t199)) else (some false))) = some r := H
                      have A23 := Aside0.mk A230
                      clear A230
                      replace H := Option.bind_eq_some_iff.mp H
                      obtain ⟨t198, A240, H⟩ := H
                      replace H : (if t198 = true then ((tableaulaw09_awake.f kj2).bind fun t199 => (some t199)) else (some false)) = some r := H
                      have A24 := Aside0.mk A240
                      clear A240
                      by_cases c25 : t198 = true
                      · subst c25
                        have H1 : ((tableaulaw09_awake.f kj2).bind fun t199 => (some t199)) = some r := by rw [if_pos rfl] at H; exact H
                        clear H
                        have H := H1
                        clear H1
                        replace H := Option.bind_eq_some_iff.mp H
                        obtain ⟨t199, A260, H⟩ := H
                        replace H : (some t199) = some r := H
                        have A26 := Aside0.mk A260
                        clear A260
                        obtain rfl := Option.some.inj H
                        try go_wp2_with (first | ((with_reducible refine gate_callee (f := 24) rfl ?_); refine goesL_ (some 20) rfl rfl Try.func24 (by kernel_rfl) rfl #[.int .i64 a1, .int .i64 (l0.length : Int)] rfl (by (try simp only [List.map_toArray, List.map_cons, List.map_nil]); first | done | rfl | (simp only [List.length_drop, List.length_take]; rfl)) ?_; (with_reducible refine (tableaulaw00_Place.calls a1 (l0.length : Int) t168 _ A8.out).mono ?_); rintro e w' ⟨rfl, ⟨nd, rfl⟩⟩; refine ⟨_, rfl, ?_⟩))
                        (try (rw [drewN_self wc]; generalize hq_ : World.drewN wc _ = wc; have n0_ : Aside0 (Below w.heap.size w wc) := ⟨by rw [← hq_]; exact (by repeat (first | (with_reducible first | exact HB.out | apply below_alloc | apply pw_below_drewN | apply below_drew1) | exact HB.out))⟩; clear HB hq_; have HB := n0_; clear n0_))
                        have n0_ := Aside0.mk (below_drew1 HB.out)
                        clear HB
                        have HB := n0_
                        clear n0_
                        have q28 : (t168 : Int) ≤ ((l0.length : Int) : Int) := of_decide_eq_true (by first | (with_reducible assumption) | assumption)
                        obtain ⟨i028, hi028, _, hsz28, _⟩ := info_parts info23
                        have hroom28 : l0.length ≤ c0 := HC0.out
                        have hC28 : Kd.C k23 _ A0 l0.length l0 := HR0.out
                        have q028 : (0 : Int) ≤ (t168 : Int) := of_decide_eq_true (by first | (with_reducible assumption) | assumption)
                        have hcut28 := cut_from (P := Try.prog) 25 23 .i64 Try.underlying25 hi028 4 hsz28 A0 l0.length c0 t168 q028 q28
                        have hr28 := Kd.C_drop (m := (t168 : Int).toNat) (c := c0) hC28 (by omega) hroom28
                        obtain ⟨A28, hA28⟩ : ∃ A1, A1 = (if c0 = (t168 : Int).toNat then A0 else (A0 : Option Addr).map (·.add ((t168 : Int).toNat * 4))) := ⟨_, rfl⟩
                        obtain ⟨c28, hc28⟩ : ∃ c1, c1 = c0 - (t168 : Int).toNat := ⟨_, rfl⟩
                        have hy28 : y169.length = l0.length - (t168 : Int).toNat := (by rw [Ny169.out, List.length_drop] <;> omega)
                        rw [show (l0).drop (t168 : Int).toNat = y169 from Ny169.out.symm] at hr28
                        replace hr28 : Kd.C k23 _ A28 y169.length y169 := (by rw [hA28]; exact hr28)
                        rw [← hy28, ← hA28, ← hc28] at hcut28
                        have HR172 := Aside0.mk hr28
                        have HC172 := Aside0.mk (show y169.length ≤ c28 from by rw [hy28, hc28]; exact Nat.sub_le_sub_right hroom28 _)
                        clear hr28 hC28 hroom28 hi028 hsz28 hc28
                        have KY28 := Aside0.mk hy28
                        have KA28 := Aside0.mk hA28
                        clear hy28 hA28
                        replace q28 := eq_true q28
                        have q29 : (t168 : Int) ≤ ((l0.length : Int) : Int) := of_decide_eq_true (by first | (with_reducible assumption) | assumption)
                        obtain ⟨i029, hi029, _, hsz29, _⟩ := info_parts info23
                        have hroom29 : l0.length ≤ c0 := HC0.out
                        have hC29 : Kd.C k23 _ A0 l0.length l0 := HR0.out
                        have hcut29 := cut_to (P := Try.prog) 25 23 .i64 Try.underlying25 hi029 A0 l0.length c0 t168 (of_decide_eq_true (by first | (with_reducible assumption) | assumption)) q29 hroom29
                        have hr29 := Kd.C_take (m := (t168 : Int).toNat) hC29 (by omega)
                        have hy29 : y176.length = (t168 : Int).toNat := (by rw [Ny176.out, List.length_take]; omega)
                        rw [← Ny176.out] at hr29
                        rw [← hy29] at hcut29
                        have HR179 := Aside0.mk hr29
                        have HC179 := Aside0.mk (show y176.length ≤ c0 from by omega)
                        clear hr29 hC29 hroom29 hi029 hsz29
                        have KY29 := Aside0.mk hy29
                        clear hy29
                        replace q29 := eq_true q29
                        refine start_ (n := 9) (S := fun w' => True) (ds := []) #[false, false, false, false, false, false, false, false, false] (by kernel_rfl) rfl rfl trivial (fun hHeld => ?_); refine with_tabW tableaulaw09_DamageOrders.tab4 tableaulaw09_DamageOrders.bits4 (fun HT_ HW_ => ?_)
                        generalize wc.drew = w27 at HB HR172 HR179 hHeld ⊢
                        refine pure_ (i := 0) (N := some 21) (v := ?_) (a' := ?_) #[true, false, false, false, false, false, false, false, false] rfl rfl (any_of HT_.out (by kernel_rfl)) (fun _ _ _ h => h) (Or.inl ⟨by rfl, ?_⟩) ?_ ?_
                        rotate_left
                        · intro w'
                          go_simp
                          with_reducible rfl
                        rotate_left
                        · simp only [Act.put, List.setIfInBounds_toArray, List.set_cons_zero, List.set_cons_succ, i64_w, i32_w]
                          rfl
                        refine pure_ (i := 1) (N := some 22) (v := ?_) (a' := ?_) #[true, true, false, false, false, false, false, false, false] rfl rfl (any_of HT_.out (by kernel_rfl)) (fun _ _ _ h => h) (Or.inl ⟨by rfl, ?_⟩) ?_ ?_
                        rotate_left
                        · intro w'
                          go_simp
                          with_reducible rfl
                        rotate_left
                        · simp only [Act.put, List.setIfInBounds_toArray, List.set_cons_zero, List.set_cons_succ, i64_w, i32_w]
                          rfl
                        refine pure_ (i := 2) (N := some 23) (v := ?_) (a' := ?_) #[true, true, true, false, false, false, false, false, false] rfl rfl (any_of HT_.out (by kernel_rfl)) (fun _ _ _ h => h) (Or.inl ⟨by rfl, ?_⟩) ?_ ?_
                        rotate_left
                        · intro w'
                          go_simp
                          with_reducible rfl
                        rotate_left
                        · simp only [Act.put, List.setIfInBounds_toArray, List.set_cons_zero, List.set_cons_succ, i64_w, i32_w]
                          rfl
                        refine pure_ (i := 4) (N := some 25) (v := ?_) (a' := ?_) #[true, true, true, false, true, false, false, false, false] rfl rfl (any_of HT_.out (by kernel_rfl)) (fun _ _ _ h => h) (Or.inl ⟨by rfl, ?_⟩) ?_ ?_
                        rotate_left
                        · intro w'
                          go_simp
                          with_reducible rfl
                        rotate_left
                        · simp only [Act.put, List.setIfInBounds_toArray, List.set_cons_zero, List.set_cons_succ, i64_w, i32_w]
                          rfl
                        refine pure_ (i := 5) (N := some 26) (v := ?_) (a' := ?_) #[true, true, true, false, true, true, false, false, false] rfl rfl (any_of HT_.out (by kernel_rfl)) (fun _ _ _ h => h) (Or.inl ⟨by rfl, ?_⟩) ?_ ?_
                        rotate_left
                        · intro w'
                          go_simp
                          with_reducible rfl
                        rotate_left
                        · simp only [Act.put, List.setIfInBounds_toArray, List.set_cons_zero, List.set_cons_succ, i64_w, i32_w]
                          rfl
                        refine pure_ (i := 6) (N := some 27) (v := ?_) (a' := ?_) #[true, true, true, false, true, true, true, false, false] rfl rfl (any_of HT_.out (by kernel_rfl)) (fun _ _ _ h => h) (Or.inl ⟨by rfl, ?_⟩) ?_ ?_
                        rotate_left
                        · intro w'
                          go_simp
                          with_reducible rfl
                        rotate_left
                        · simp only [Act.put, List.setIfInBounds_toArray, List.set_cons_zero, List.set_cons_succ, i64_w, i32_w]
                          rfl
                        refine one_ (i := 3) (N := some 24) #[true, true, true, true, true, true, true, false, false] rfl rfl (one_of HT_.out (by kernel_rfl)) (by decide) (fun K hK => ?_)
                        refine Kd.R_append_rows_step k23 (w0 := w) w.heap.size rfl (.const (.slice none 0 0)) (.tmp 23) 25 23 (.agg #[(.int .i64 0), (.int .i64 0), (.int .i64 0), (.int .i64 0)]) 32 rfl Try.underlying25 info23 rfl (by decide) (by omega) (.slice none 0 0) ([] : List (S23)) y169 _ _ _ (fun _ => True) (fun _ => False) rfl rfl ?aO ?aR (fun _ _ h => h) (fun _ h => h.elim) ?aF ?aB ?aS ?aL ?_
                        (case aR => repeat (first | exact (Kd.C_below HR172.out HB.out) | (with_reducible refine Kd.C_alloc ?_ _) | (with_reducible refine Kd.C_drewN ?_ _) | (with_reducible refine Kd.C_drew ?_)))
                        (case aB => exact (by repeat (first | (with_reducible first | exact HB.out | apply below_alloc | apply pw_below_drewN | apply below_drew1) | exact HB.out)))
                        (case aF => exact (fun _ _ => trivial))
                        (case aO => exact ((Kd.R_nil _ _ _ _ (fun _ => True))))
                        (case aS => exact (below_size (by repeat (first | (with_reducible first | exact HB.out | apply below_alloc | apply pw_below_drewN | apply below_drew1) | exact HB.out))))
                        (case aL => have := LMc11.out; omega)
                        intro v174 w30 ho hb hg hat
                        rw [← Ny173.out] at ho
                        have n0_ := Aside0.mk (hb)
                        have n1_ := Aside0.mk (ho)
                        clear HB
                        have HB := n0_
                        have HO175 := n1_
                        clear n0_ n1_
                        clear ho hb hg hat
                        refine hK.out _ _ trivial (fun hHeld => ?_)
                        clear hK K
                        refine norm_ (a' := ?_) ?_ ?_
                        rotate_left
                        · show Act.put _ (some 24) _ = _
                          simp only [Act.put, List.setIfInBounds_toArray, List.set_cons_zero, List.set_cons_succ, i64_w, i32_w]
                          rfl
                        refine one_ (i := 7) (N := some 28) #[true, true, true, true, true, true, true, true, false] rfl rfl (one_of HT_.out (by kernel_rfl)) (by decide) (fun K hK => ?_)
                        refine Kd.R_append_rows_step k23 (w0 := w) w.heap.size (by rfl) (.tmp 24) (.tmp 27) 25 23 (.agg #[(.int .i64 0), (.int .i64 0), (.int .i64 0), (.int .i64 0)]) 32 rfl Try.underlying25 info23 rfl (by decide) (by omega) v174 y173 y176 _ _ _ (fun _ => True) (fun _ => False) rfl rfl ?aO ?aR (fun _ _ h => h) (fun _ h => h.elim) ?aF ?aB ?aS ?aL ?_
                        (case aR => repeat (first | exact (Kd.C_below HR179.out HB.out) | (with_reducible refine Kd.C_alloc ?_ _) | (with_reducible refine Kd.C_drewN ?_ _) | (with_reducible refine Kd.C_drew ?_)))
                        (case aB => exact (by repeat (first | (with_reducible first | exact HB.out | apply below_alloc | apply pw_below_drewN | apply below_drew1) | exact HB.out)))
                        (case aF => exact (fun _ _ => trivial))
                        (case aO => exact (by (with_reducible repeat (first | apply Kd.R_alloc | apply Kd.R_drewN | apply Kd.R_drew)); exact HO175.out))
                        (case aS => exact (below_size (by repeat (first | (with_reducible first | exact HB.out | apply below_alloc | apply pw_below_drewN | apply below_drew1) | exact HB.out))))
                        (case aL => have := LMc14.out; omega)
                        intro v181 w31 ho hb hg hat
                        rw [← Ny180.out] at ho
                        have n0_ := Aside0.mk (hb)
                        have n1_ := Aside0.mk (ho)
                        clear HB
                        clear HO175
                        have HB := n0_
                        have HO182 := n1_
                        clear n0_ n1_
                        clear ho hb hg hat
                        refine hK.out _ _ trivial (fun hHeld => ?_)
                        clear hK K
                        refine norm_ (a' := ?_) ?_ ?_
                        rotate_left
                        · show Act.put _ (some 28) _ = _
                          simp only [Act.put, List.setIfInBounds_toArray, List.set_cons_zero, List.set_cons_succ, i64_w, i32_w]
                          rfl
                        refine pure_ (i := 8) (N := some 6) (v := ?_) (a' := ?_) #[true, true, true, true, true, true, true, true, true] rfl rfl (any_of HT_.out (by kernel_rfl)) (fun _ _ _ h => h) (Or.inl ⟨by rfl, ?_⟩) ?_ ?_
                        rotate_left
                        · intro w'
                          go_simp
                          with_reducible rfl
                        rotate_left
                        · simp only [Act.put, List.setIfInBounds_toArray, List.set_cons_zero, List.set_cons_succ, i64_w, i32_w]
                          rfl
                        refine done_ (done_of HT_.out (by kernel_rfl)) ?_
                        try go_wp2_with (first | ((with_reducible refine gate_callee (f := 34) rfl ?_); refine goesL_ (some 30) rfl rfl Try.func34 (by kernel_rfl) rfl #[.slice A0 l0.length c0] rfl (by (try simp only [List.map_toArray, List.map_cons, List.map_nil]); first | done | rfl | (simp only [List.length_drop, List.length_take]; rfl)) ?_; (with_reducible refine (damage_Flat.calls kj2 _ _ l0 t183 _ ?side1 ?side2 A15.out).mono ?_); (case side1 => repeat (first | exact (Kd.C_below HR0.out HB.out) | (with_reducible refine Kd.C_alloc ?_ _) | (with_reducible refine Kd.C_drewN ?_ _) | (with_reducible refine Kd.C_drew ?_))); (case side2 => exact HC0.out); rintro e w32 ⟨v184, rfl, ho0, hb⟩; refine ⟨_, rfl, ?_⟩; have n0_ := Aside0.mk (Kd.R_below (by (with_reducible repeat (first | apply Kd.R_alloc | apply Kd.R_drewN | apply Kd.R_drew)); exact HO182.out) hb); have n1_ := Aside0.mk (Kd.V_lower (Kd.V_mono (ok' := fun k_ => some k_ ≠ (v181 : Value).ownBlock) ho0 (fun k_ hk_ => (Kd.fresh' (Kd.R_lt (by (with_reducible repeat (first | apply Kd.R_alloc | apply Kd.R_drewN | apply Kd.R_drew)); exact HO182.out)) k_ hk_))) (below_size (by repeat (first | (with_reducible first | exact HB.out | apply below_alloc | apply pw_below_drewN | apply below_drew1) | exact HB.out)))); have n2_ := Aside0.mk (below_step (by repeat (first | (with_reducible first | exact HB.out | apply below_alloc | apply pw_below_drewN | apply below_drew1) | exact HB.out)) hb); clear HO182; clear HB; have HO182 := n0_; have HO185 := n1_; have HB := n2_; clear n0_ n1_ n2_; (try clear hb); (try clear hb2); (try clear hk); (try clear hi); (try clear ho0); obtain ⟨Ao33, co33, eo33⟩ := Kd.R_slice HO182.out; subst eo33) | ((with_reducible refine gate_callee (f := 34) rfl ?_); refine goesL_ (some 33) rfl rfl Try.func34 (by kernel_rfl) rfl #[.slice Ao33 y180.length co33] rfl (by (try simp only [List.map_toArray, List.map_cons, List.map_nil]); first | done | rfl | (simp only [List.length_drop, List.length_take]; rfl)) ?_; (with_reducible refine (damage_Flat.calls kj2 _ _ y180 t186 _ ?side1 ?side2 A16.out).mono ?_); (case side1 => repeat (first | exact (Kd.R_reads' HO182.out).2.2 | (with_reducible refine Kd.C_alloc ?_ _) | (with_reducible refine Kd.C_drewN ?_ _) | (with_reducible refine Kd.C_drew ?_))); (case side2 => exact (Kd.R_reads' HO182.out).2.1); rintro e w34 ⟨v187, rfl, ho0, hb⟩; refine ⟨_, rfl, ?_⟩; have n0_ := Aside0.mk (Kd.R_below (by (with_reducible repeat (first | apply Kd.R_alloc | apply Kd.R_drewN | apply Kd.R_drew)); exact HO182.out) hb); have n1_ := Aside0.mk (Kd.V_below (by (with_reducible repeat (first | apply Kd.V_alloc | apply Kd.V_drewN | apply Kd.V_drew)); exact HO185.out) hb); have n2_ := Aside0.mk (Kd.V_lower (Kd.V_mono (ok' := fun k_ => some k_ ≠ (.slice Ao33 y180.length co33 : Value).ownBlock) ho0 (fun k_ hk_ => (Kd.fresh' (Kd.R_lt (by (with_reducible repeat (first | apply Kd.R_alloc | apply Kd.R_drewN | apply Kd.R_drew)); exact HO182.out)) k_ hk_))) (below_size (by repeat (first | (with_reducible first | exact HB.out | apply below_alloc | apply pw_below_drewN | apply below_drew1) | exact HB.out)))); have n3_ := Aside0.mk (below_step (by repeat (first | (with_reducible first | exact HB.out | apply below_alloc | apply pw_below_drewN | apply below_drew1) | exact HB.out)) hb); clear HO182; clear HO185; clear HB; have HO182 := n0_; have HO185 := n1_; have HO188 := n2_; have HB := n3_; clear n0_ n1_ n2_ n3_; (try clear hb); (try clear hb2); (try clear hk); (try clear hi); (try clear ho0); obtain ⟨Ao35, co35, eo35⟩ := Kd.V_slice HO185.out; subst eo35; obtain ⟨Ao36, co36, eo36⟩ := Kd.V_slice HO188.out; subst eo36) | ((with_reducible refine gate_callee (f := 20) rfl ?_); refine goesL_ (some 34) rfl rfl Try.func20 (by kernel_rfl) rfl #[.slice Ao35 t183.length co35, .slice Ao36 t186.length co36] rfl (by (try simp only [List.map_toArray, List.map_cons, List.map_nil]); first | done | rfl | (simp only [List.length_drop, List.length_take]; rfl)) ?_; (with_reducible refine (tableaulaw00_SameRects.calls kj2 _ _ t183 _ _ t186 true _ ?side1 ?side2 ?side3 ?side4 A17.out).mono ?_); (case side1 => repeat (first | exact (Kd.V_reads' HO185.out).2.2 | (with_reducible refine Kd.C_alloc ?_ _) | (with_reducible refine Kd.C_drewN ?_ _) | (with_reducible refine Kd.C_drew ?_))); (case side2 => exact (Kd.V_reads' HO185.out).2.1); (case side3 => repeat (first | exact (Kd.V_reads' HO188.out).2.2 | (with_reducible refine Kd.C_alloc ?_ _) | (with_reducible refine Kd.C_drewN ?_ _) | (with_reducible refine Kd.C_drew ?_))); (case side4 => exact (Kd.V_reads' HO188.out).2.1); rintro e w' ⟨rfl, ⟨nd, rfl⟩⟩; refine ⟨_, rfl, ?_⟩; have p190 : 0 ≤ (t168 : Int) := of_decide_eq_true (by first | (with_reducible assumption) | assumption); have q190 : t168 < (l0.length : Int) := of_decide_eq_true (by first | (with_reducible assumption) | assumption); obtain ⟨ad190, e190, hx190_0, hx190_1, hx190_2, hx190_3⟩ := at_T23 HR0.out t168 p190 q190; cases e190; replace hx190_0 := (HB.out.cell (World.block_lt_of_cell? w _ hx190_0)).trans hx190_0; replace hx190_1 := (HB.out.cell (World.block_lt_of_cell? w _ hx190_1)).trans hx190_1; replace hx190_2 := (HB.out.cell (World.block_lt_of_cell? w _ hx190_2)).trans hx190_2; replace hx190_3 := (HB.out.cell (World.block_lt_of_cell? w _ hx190_3)).trans hx190_3; replace p190 := eq_true p190; replace q190 := eq_true q190) | (go_at_call 32; (with_reducible refine (damage_Add.calls kj2 _ _ t183 ((rd_T23 l0 t168).f0) ((rd_T23 l0 t168).f1) ((rd_T23 l0 t168).f2) ((rd_T23 l0 t168).f3) t191 _ ?side1 ?side2 A20.out).mono ?_); (case side1 => repeat (first | exact (Kd.V_reads' HO185.out).2.2 | (with_reducible refine Kd.C_alloc ?_ _) | (with_reducible refine Kd.C_drewN ?_ _) | (with_reducible refine Kd.C_drew ?_))); (case side2 => exact (Kd.V_reads' HO185.out).2.1); rintro e w37 ⟨v192, rfl, ho0, hb⟩; have n0_ := Aside0.mk (Kd.R_below (by (with_reducible repeat (first | apply Kd.R_alloc | apply Kd.R_drewN | apply Kd.R_drew)); exact HO182.out) hb); have n1_ := Aside0.mk (Kd.V_below (by (with_reducible repeat (first | apply Kd.V_alloc | apply Kd.V_drewN | apply Kd.V_drew)); exact HO185.out) hb); have n2_ := Aside0.mk (Kd.V_below (by (with_reducible repeat (first | apply Kd.V_alloc | apply Kd.V_drewN | apply Kd.V_drew)); exact HO188.out) hb); have n3_ := Aside0.mk (Kd.V_lower (Kd.V_mono (ok' := fun k_ => some k_ ≠ (.slice Ao33 y180.length co33 : Value).ownBlock) ho0 (fun k_ hk_ => (Kd.fresh' (Kd.R_lt (by (with_reducible repeat (first | apply Kd.R_alloc | apply Kd.R_drewN | apply Kd.R_drew)); exact HO182.out)) k_ hk_))) (below_size (by repeat (first | (with_reducible first | exact HB.out | apply below_alloc | apply pw_below_drewN | apply below_drew1) | exact HB.out)))); have n4_ := Aside0.mk (below_step (by repeat (first | (with_reducible first | exact HB.out | apply below_alloc | apply pw_below_drewN | apply below_drew1) | exact HB.out)) hb); clear HO182; clear HO185; clear HO188; clear HB; have HO182 := n0_; have HO185 := n1_; have HO188 := n2_; have HO193 := n3_; have HB := n4_; clear n0_ n1_ n2_ n3_ n4_; (try clear hb); (try clear hb2); (try clear hk); (try clear hi); (try clear ho0); obtain ⟨Ao38, co38, eo38⟩ := Kd.V_slice HO193.out; subst eo38) | (go_at_call 20; (with_reducible refine (tableaulaw00_SameRects.calls kj2 _ _ t191 _ _ t183 true _ ?side1 ?side2 ?side3 ?side4 A21.out).mono ?_); (case side1 => repeat (first | exact (Kd.V_reads' HO193.out).2.2 | (with_reducible refine Kd.C_alloc ?_ _) | (with_reducible refine Kd.C_drewN ?_ _) | (with_reducible refine Kd.C_drew ?_))); (case side2 => exact (Kd.V_reads' HO193.out).2.1); (case side3 => repeat (first | exact (Kd.V_reads' HO185.out).2.2 | (with_reducible refine Kd.C_alloc ?_ _) | (with_reducible refine Kd.C_drewN ?_ _) | (with_reducible refine Kd.C_drew ?_))); (case side4 => exact (Kd.V_reads' HO185.out).2.1); rintro e w' ⟨rfl, ⟨nd, rfl⟩⟩) | (go_at_call 34; (with_reducible refine (damage_Flat.calls kj2 _ _ t183 t195 _ ?side1 ?side2 A23.out).mono ?_); (case side1 => repeat (first | exact (Kd.V_reads' HO185.out).2.2 | (with_reducible refine Kd.C_alloc ?_ _) | (with_reducible refine Kd.C_drewN ?_ _) | (with_reducible refine Kd.C_drew ?_))); (case side2 => exact (Kd.V_reads' HO185.out).2.1); rintro e w39 ⟨v196, rfl, ho0, hb⟩; have n0_ := Aside0.mk (Kd.R_below (by (with_reducible repeat (first | apply Kd.R_alloc | apply Kd.R_drewN | apply Kd.R_drew)); exact HO182.out) hb); have n1_ := Aside0.mk (Kd.V_below (by (with_reducible repeat (first | apply Kd.V_alloc | apply Kd.V_drewN | apply Kd.V_drew)); exact HO185.out) hb); have n2_ := Aside0.mk (Kd.V_below (by (with_reducible repeat (first | apply Kd.V_alloc | apply Kd.V_drewN | apply Kd.V_drew)); exact HO188.out) hb); have n3_ := Aside0.mk (Kd.V_below (by (with_reducible repeat (first | apply Kd.V_alloc | apply Kd.V_drewN | apply Kd.V_drew)); exact HO193.out) hb); have n4_ := Aside0.mk (Kd.V_lower (Kd.V_mono (ok' := fun k_ => some k_ ≠ (.slice Ao33 y180.length co33 : Value).ownBlock) ho0 (fun k_ hk_ => (Kd.fresh' (Kd.R_lt (by (with_reducible repeat (first | apply Kd.R_alloc | apply Kd.R_drewN | apply Kd.R_drew)); exact HO182.out)) k_ hk_))) (below_size (by repeat (first | (with_reducible first | exact HB.out | apply below_alloc | apply pw_below_drewN | apply below_drew1) | exact HB.out)))); have n5_ := Aside0.mk (below_step (by repeat (first | (with_reducible first | exact HB.out | apply below_alloc | apply pw_below_drewN | apply below_drew1) | exact HB.out)) hb); clear HO182; clear HO185; clear HO188; clear HO193; clear HB; have HO182 := n0_; have HO185 := n1_; have HO188 := n2_; have HO193 := n3_; have HO197 := n4_; have HB := n5_; clear n0_ n1_ n2_ n3_ n4_ n5_; (try clear hb); (try clear hb2); (try clear hk); (try clear hi); (try clear ho0); obtain ⟨Ao40, co40, eo40⟩ := Kd.V_slice HO197.out; subst eo40) | (go_at_call 20; (with_reducible refine (tableaulaw00_SameRects.calls kj2 _ _ t195 _ _ t183 true _ ?side1 ?side2 ?side3 ?side4 A24.out).mono ?_); (case side1 => repeat (first | exact (Kd.V_reads' HO197.out).2.2 | (with_reducible refine Kd.C_alloc ?_ _) | (with_reducible refine Kd.C_drewN ?_ _) | (with_reducible refine Kd.C_drew ?_))); (case side2 => exact (Kd.V_reads' HO197.out).2.1); (case side3 => repeat (first | exact (Kd.V_reads' HO185.out).2.2 | (with_reducible refine Kd.C_alloc ?_ _) | (with_reducible refine Kd.C_drewN ?_ _) | (with_reducible refine Kd.C_drew ?_))); (case side4 => exact (Kd.V_reads' HO185.out).2.1); rintro e w' ⟨rfl, ⟨nd, rfl⟩⟩) | (go_at_call 30; (with_reducible refine (tableaulaw09_awake.calls kj2  t199 _ A26.out).mono ?_); rintro e w41 ⟨rfl, hb⟩; have n0_ := Aside0.mk (Kd.R_below (by (with_reducible repeat (first | apply Kd.R_alloc | apply Kd.R_drewN | apply Kd.R_drew)); exact HO182.out) hb); have n1_ := Aside0.mk (Kd.V_below (by (with_reducible repeat (first | apply Kd.V_alloc | apply Kd.V_drewN | apply Kd.V_drew)); exact HO185.out) hb); have n2_ := Aside0.mk (Kd.V_below (by (with_reducible repeat (first | apply Kd.V_alloc | apply Kd.V_drewN | apply Kd.V_drew)); exact HO188.out) hb); have n3_ := Aside0.mk (Kd.V_below (by (with_reducible repeat (first | apply Kd.V_alloc | apply Kd.V_drewN | apply Kd.V_drew)); exact HO193.out) hb); have n4_ := Aside0.mk (Kd.V_below (by (with_reducible repeat (first | apply Kd.V_alloc | apply Kd.V_drewN | apply Kd.V_drew)); exact HO197.out) hb); have n5_ := Aside0.mk (below_step (by repeat (first | (with_reducible first | exact HB.out | apply below_alloc | apply pw_below_drewN | apply below_drew1) | exact HB.out)) hb); clear HO182; clear HO185; clear HO188; clear HO193; clear HO197; clear HB; have HO182 := n0_; have HO185 := n1_; have HO188 := n2_; have HO193 := n3_; have HO197 := n4_; have HB := n5_; clear n0_ n1_ n2_ n3_ n4_ n5_; (try clear hb); (try clear hb2); (try clear hk); (try clear hi)))
                        go_ret
                        exact ⟨by first | rfl | (simp [errW_none, errW_some] <;> rfl) | (simp [*, errW_none, errW_some] <;> rfl), by repeat (first | (with_reducible first | exact HB.out | apply below_alloc | apply pw_below_drewN | apply below_drew1) | exact HB.out)⟩
                      · replace c25 := Bool.eq_false_iff.mpr c25
                        subst c25
                        have H1 : (some false) = some r := by rw [if_neg (show ¬ (false = true) by decide)] at H; exact H
                        clear H
                        have H := H1
                        clear H1
                        exact absurd H (by rw [HT.out]; simp)
                    · replace c22 := Bool.eq_false_iff.mpr c22
                      subst c22
                      have H1 : (some false) = some r := by rw [if_neg (show ¬ (false = true) by decide)] at H; exact H
                      clear H
                      have H := H1
                      clear H1
                      exact absurd H (by rw [HT.out]; simp)
                  · rw [if_neg c19] at H
                    exact absurd H (by simp)
                · replace c18 := Bool.eq_false_iff.mpr c18
                  subst c18
                  have H1 : (some false) = some r := by rw [if_neg (show ¬ (false = true) by decide)] at H; exact H
                  clear H
                  have H := H1
                  clear H1
                  exact absurd H (by rw [HT.out]; simp)
              · rw [if_neg c14] at H
                exact absurd H (by simp)
            · rw [if_neg c11] at H
              exact absurd H (by simp)
          · rw [if_neg c10] at H
            exact absurd H (by simp)
        · rw [if_neg c9] at H
          exact absurd H (by simp)

end Go.Proofs.Ytogcokfildbodaa.PO
