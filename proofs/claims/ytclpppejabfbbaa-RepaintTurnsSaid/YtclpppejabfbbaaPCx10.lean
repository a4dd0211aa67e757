-- Printed for this claim by a program over the kit's print.
import Derived.Test.YtclpppejabfbbaaPCx0
import Derived.Test.YtclpppejabfbbaaPCx3
import Derived.Test.YtclpppejabfbbaaPCx6
namespace Go.Proofs.Ytclpppejabfbbaa.PC
open Go.RowKit Go.Proofs.YtclpppejabfbbaaW.PrintWords Go.Proofs.YtclpppejabfbbaaW.PrintLast Go.Proofs.YtclpppejabfbbaaW.PrintMore
attribute [local go_sem] max2_int min2_int max_two min_two max_three min_three max_four min_four   -- for this text's walks alone
set_option linter.unusedVariables false
set_option linter.unusedSimpArgs false


/-! ### tableaulaw24_RepaintTurns: function 8 -/
mutual
def tableaulaw24_RepaintTurns.j0 : Nat → List (S54) → List (S54) → Int → Bool → Option (Bool)
 | 0, _, _, _, _ => none
 | k + 1, x0, x1, x2, x26 => if x26 = true then ((tableaulaw24_awake.f k).bind fun t442 => (some t442)) else ((repaint_Changed.f k x0 x1 ([] : List (S52))).bind fun t443 => ((repaint_Changed.f k x1 x0 ([] : List (S52))).bind fun t446 => ((tableaulaw00_Place.f x2 1000).bind fun t449 => ((repaint_Changed.f k x0 x0 (([(⟨wrap64 ((-1) - t449), (([(⟨0, 0, 9, 9⟩ : S26)] : List (S26)))⟩ : S52)] : List (S52)))).bind fun t456 => (tableaulaw24_RepaintTurns.l0 k x0 t443 t446 t456 0)))))
def tableaulaw24_RepaintTurns.l0 : Nat → List (S54) → List (S26) → List (S26) → List (S26) → Int → Option (Bool)
 | 0, _, _, _, _, _ => none
 | k + 1, x0, x7, x8, x9, x10 => if x10 < (x0.length : Int) then (if 0 ≤ x10 then (if ((rd_T54 x0 x10).f0) < 0 then ((tableaulaw24_awake.f k).bind fun t460 => (some t460)) else (tableaulaw24_RepaintTurns.l0 k x0 x7 x8 x9 (wrap64 (x10 + 1)))) else (none)) else ((tableaulaw00_SameRects.f k x7 x8).bind fun t461 => (if t461 = true then (if (x9.length : Int) = 0 then ((tableauref08_Check.f k x7).bind fun t462 => (if t462 = true then ((tableaulaw24_awake.f k).bind fun t463 => (some t463)) else (some false))) else (some false)) else (some false)))
end
def tableaulaw24_RepaintTurns.f (k : Nat) (l0 : List (S54)) (l1 : List (S54)) (a2 : Int) : Option (Bool) := (tableaulaw24_near.f k l0).bind fun t440 => (if t440 = true then ((tableaulaw24_near.f k l1).bind fun t441 => (if t441 = true then (tableaulaw24_RepaintTurns.j0 k l0 l1 a2 (decide ((wrap64 ((l0.length : Int) + (l1.length : Int))) > 5))) else (tableaulaw24_RepaintTurns.j0 k l0 l1 a2 true))) else (tableaulaw24_RepaintTurns.j0 k l0 l1 a2 true))
theorem tableaulaw24_RepaintTurns.mono_l : ∀ k, (∀ y0 y1 y2 y3, LeO (tableaulaw24_RepaintTurns.j0 k y0 y1 y2 y3) (tableaulaw24_RepaintTurns.j0 (k + 1) y0 y1 y2 y3)) ∧ (∀ y0 y1 y2 y3 y4, LeO (tableaulaw24_RepaintTurns.l0 k y0 y1 y2 y3 y4) (tableaulaw24_RepaintTurns.l0 (k + 1) y0 y1 y2 y3 y4))
 | 0 => ⟨fun _ _ _ _ r h => by simp [tableaulaw24_RepaintTurns.j0] at h, fun _ _ _ _ _ r h => by simp [tableaulaw24_RepaintTurns.l0] at h⟩
 | k + 1 => by
  obtain ⟨ih0, ih1⟩ := tableaulaw24_RepaintTurns.mono_l k
  refine ⟨?_, ?_⟩
  · intro y0 y1 y2 y3
    unfold tableaulaw24_RepaintTurns.j0
    repeat' first
    | (with_reducible exact ih0 _ _ _ _)
    | (with_reducible exact ih1 _ _ _ _ _)
    | (with_reducible exact repaint_Changed.mono _ _ _ _)
    | (with_reducible exact tableaulaw00_SameRects.mono _ _ _)
    | (with_reducible exact tableaulaw24_awake.mono _)
    | (with_reducible exact tableaulaw24_near.mono _ _)
    | (with_reducible exact tableauref08_Check.mono _ _)
    | (with_reducible exact LeO.refl _)
    | (with_reducible exact LeO.none _)
    | (with_reducible refine LeO.ite ?_ ?_)
    | (with_reducible refine LeO.bind ?_ (fun _ => ?_))
    | exact ih0 _ _ _ _
    | exact ih1 _ _ _ _ _
    | exact repaint_Changed.mono _ _ _ _
    | exact tableaulaw00_SameRects.mono _ _ _
    | exact tableaulaw24_awake.mono _
    | exact tableaulaw24_near.mono _ _
    | exact tableauref08_Check.mono _ _
    | exact LeO.none _
    | refine LeO.ite ?_ ?_
    | refine LeO.bind ?_ (fun _ => ?_)
  · intro y0 y1 y2 y3 y4
    unfold tableaulaw24_RepaintTurns.l0
    repeat' first
    | (with_reducible exact ih0 _ _ _ _)
    | (with_reducible exact ih1 _ _ _ _ _)
    | (with_reducible exact repaint_Changed.mono _ _ _ _)
    | (with_reducible exact tableaulaw00_SameRects.mono _ _ _)
    | (with_reducible exact tableaulaw24_awake.mono _)
    | (with_reducible exact tableaulaw24_near.mono _ _)
    | (with_reducible exact tableauref08_Check.mono _ _)
    | (with_reducible exact LeO.refl _)
    | (with_reducible exact LeO.none _)
    | (with_reducible refine LeO.ite ?_ ?_)
    | (with_reducible refine LeO.bind ?_ (fun _ => ?_))
    | exact ih0 _ _ _ _
    | exact ih1 _ _ _ _ _
    | exact repaint_Changed.mono _ _ _ _
    | exact tableaulaw00_SameRects.mono _ _ _
    | exact tableaulaw24_awake.mono _
    | exact tableaulaw24_near.mono _ _
    | exact tableauref08_Check.mono _ _
    | exact LeO.none _
    | refine LeO.ite ?_ ?_
    | refine LeO.bind ?_ (fun _ => ?_)
theorem tableaulaw24_RepaintTurns.mono : ∀ a0 a1 a2 k, LeO (tableaulaw24_RepaintTurns.f k a0 a1 a2) (tableaulaw24_RepaintTurns.f (k + 1) a0 a1 a2) := by
 intro a0 a1 a2 k
 obtain ⟨ih0, ih1⟩ := tableaulaw24_RepaintTurns.mono_l k
 unfold tableaulaw24_RepaintTurns.f
 repeat' first
  | (with_reducible exact ih0 _ _ _ _)
  | (with_reducible exact ih1 _ _ _ _ _)
  | (with_reducible exact repaint_Changed.mono _ _ _ _)
  | (with_reducible exact tableaulaw00_SameRects.mono _ _ _)
  | (with_reducible exact tableaulaw24_awake.mono _)
  | (with_reducible exact tableaulaw24_near.mono _ _)
  | (with_reducible exact tableauref08_Check.mono _ _)
  | (with_reducible exact LeO.refl _)
  | (with_reducible exact LeO.none _)
  | (with_reducible refine LeO.ite ?_ ?_)
  | (with_reducible refine LeO.bind ?_ (fun _ => ?_))
  | exact ih0 _ _ _ _
  | exact ih1 _ _ _ _ _
  | exact repaint_Changed.mono _ _ _ _
  | exact tableaulaw00_SameRects.mono _ _ _
  | exact tableaulaw24_awake.mono _
  | exact tableaulaw24_near.mono _ _
  | exact tableauref08_Check.mono _ _
  | exact LeO.none _
  | refine LeO.ite ?_ ?_
  | refine LeO.bind ?_ (fun _ => ?_)
set_option maxHeartbeats 8000000 in
set_option maxRecDepth 100000 in
theorem tableaulaw24_RepaintTurns.calls (k : Nat) (A0 : Option Addr) (c0 : Nat) (l0 : List (S54)) (A1 : Option Addr) (c1 : Nat) (l1 : List (S54)) (a2 : Int) (r : Bool) (w : World) (hr0 : Kd.C k54 w A0 l0.length l0) (hc0 : l0.length ≤ c0) (hr1 : Kd.C k54 w A1 l1.length l1) (hc1 : l1.length ≤ c1) (h : tableaulaw24_RepaintTurns.f k l0 l1 a2 = some r) (hT : r = true) :
 Calls Try.prog 8 #[.slice A0 l0.length c0, .slice A1 l1.length c1, .int .i64 a2] w fun e w' => e = .returned (.bool r) ∧ Below w.heap.size w w' := by
 have HT := Aside0.mk hT
 clear hT
 have hu26 := Try.underlying26
 have hu52 := Try.underlying52
 have HR0 := Aside0.mk hr0
 have HC0 := Aside0.mk hc0
 clear hr0 hc0
 have HR1 := Aside0.mk hr1
 have HC1 := Aside0.mk hc1
 clear hr1 hc1
 have HB := Aside0.mk (Below.refl w.heap.size w)
 have H : ((tableaulaw24_near.f k l0).bind fun t440 => (if t440 = true then ((tableaulaw24_near.f k l1).bind fun t441 => (if t441 = true then (tableaulaw24_RepaintTurns.j0 k l0 l1 a2 (decide ((wrap64 ((l0.length : Int) + (l1.length : Int))) > 5))) else (tableaulaw24_RepaintTurns.j0 k l0 l1 a2 true))) else (tableaulaw24_RepaintTurns.j0 k l0 l1 a2 true))) = some r := h
 clear h
 have HC4 := Aside0.mk H
 clear H
 go_enter Try.func8, Try.ntmps8
 go_upto_region 1 with (fail)
 go_cut [26] (fun v26 wc => ∃ (kq : Nat) (x26_3 : Bool), v26 = .bool x26_3 ∧ Aside0 (tableaulaw24_RepaintTurns.j0 kq l0 l1 a2 x26_3 = some r) ∧ Aside0 (kq ≤ k) ∧ Aside0 (Below w.heap.size w wc))
 case first =>
  have H := HC4.out
  clear HC4
  replace H := Option.bind_eq_some_iff.mp H
  obtain ⟨t440, A50, H⟩ := H
  replace H : (if t440 = true then ((tableaulaw24_near.f k l1).bind fun t441 => (if t441 = true then (tableaulaw24_RepaintTurns.j0 k l0 l1 a2 (decide ((wrap64 ((l0.length : Int) + (l1.length : Int))) > 5))) else (tableaulaw24_RepaintTurns.j0 k l0 l1 a2 true))) else (tableaulaw24_RepaintTurns.j0 k l0 l1 a2 true)) = some r := H
  have A5 := Aside0.mk A50
  clear A50
  by_cases c6 : t440 = true
  · subst c6
    have H1 : ((tableaulaw24_near.f k l1).bind fun t441 => (if t441 = true then (tableaulaw24_RepaintTurns.j0 k l0 l1 a2 (decide ((wrap64 ((l0.length : Int) + (l1.length : Int))) > 5))) else (tableaulaw24_RepaintTurns.j0 k l0 l1 a2 true))) = some r := by rw [if_pos rfl] at H; exact H
    clear H
    have H := H1
    clear H1
    replace H := Option.bind_eq_some_iff.mp H
    obtain ⟨t441, A70, H⟩ := H
    replace H : (if t441 = true then (tableaulaw24_RepaintTurns.j0 k l0 l1 a2 (decide ((wrap64 ((l0.length : Int) + (l1.length : Int))) > 5))) else (tableaulaw24_RepaintTurns.j0 k l0 l1 a2 true)) = some r := H
    have A7 := Aside0.mk A70
    clear A70
    by_cases c8 : t441 = true
    · subst c8
      have H1 : (tableaulaw24_RepaintTurns.j0 k l0 l1 a2 (decide ((wrap64 ((l0.length : Int) + (l1.length : Int))) > 5))) = some r := by rw [if_pos rfl] at H; exact H
      clear H
      have H := H1
      clear H1
      have H' := Aside0.mk H
      clear H
      go_wp2_with (first | ((with_reducible refine gate_callee (f := 41) rfl ?_); refine goesL_ (some 12) rfl rfl Try.func41 (by kernel_rfl) rfl #[.slice A0 l0.length c0] rfl (by (try simp only [List.map_toArray, List.map_cons, List.map_nil]); first | done | rfl | (simp only [List.length_drop, List.length_take]; rfl)) ?_; (with_reducible refine (tableaulaw24_near.calls k _ _ l0 true _ ?side1 ?side2 A5.out).mono ?_); (case side1 => repeat (first | exact (Kd.C_below HR0.out HB.out) | (with_reducible refine Kd.C_alloc ?_ _) | (with_reducible refine Kd.C_drewN ?_ _) | (with_reducible refine Kd.C_drew ?_))); (case side2 => exact HC0.out); rintro e w9 ⟨rfl, hb⟩; refine ⟨_, rfl, ?_⟩; have n0_ := Aside0.mk (below_step (by repeat (first | (with_reducible first | exact HB.out | apply below_alloc | apply pw_below_drewN | apply below_drew1) | exact HB.out)) hb); clear HB; have HB := n0_; clear n0_; (try clear hb); (try clear hb2); (try clear hk); (try clear hi)) | (go_at_call 41; (with_reducible refine (tableaulaw24_near.calls k _ _ l1 true _ ?side1 ?side2 A7.out).mono ?_); (case side1 => repeat (first | exact (Kd.C_below HR1.out HB.out) | (with_reducible refine Kd.C_alloc ?_ _) | (with_reducible refine Kd.C_drewN ?_ _) | (with_reducible refine Kd.C_drew ?_))); (case side2 => exact HC1.out); rintro e w10 ⟨rfl, hb⟩; have n0_ := Aside0.mk (below_step (by repeat (first | (with_reducible first | exact HB.out | apply below_alloc | apply pw_below_drewN | apply below_drew1) | exact HB.out)) hb); clear HB; have HB := n0_; clear n0_; (try clear hb); (try clear hb2); (try clear hk); (try clear hi)))
      go_meet
      case rel => exact ⟨_, (decide ((wrap64 ((l0.length : Int) + (l1.length : Int))) > 5)), (by first | rfl | (simp; done) | (simp [*]; done)), H', ⟨by first | omega | exact Nat.le_refl _⟩, ⟨by repeat (first | (with_reducible first | exact HB.out | apply below_alloc | apply pw_below_drewN | apply below_drew1) | exact HB.out)⟩⟩
    · replace c8 := Bool.eq_false_iff.mpr c8
      subst c8
      have H1 : (tableaulaw24_RepaintTurns.j0 k l0 l1 a2 true) = some r := by rw [if_neg (show ¬ (false = true) by decide)] at H; exact H
      clear H
      have H := H1
      clear H1
      have H' := Aside0.mk H
      clear H
      go_wp2_with (first | ((with_reducible refine gate_callee (f := 41) rfl ?_); refine goesL_ (some 12) rfl rfl Try.func41 (by kernel_rfl) rfl #[.slice A0 l0.length c0] rfl (by (try simp only [List.map_toArray, List.map_cons, List.map_nil]); first | done | rfl | (simp only [List.length_drop, List.length_take]; rfl)) ?_; (with_reducible refine (tableaulaw24_near.calls k _ _ l0 true _ ?side1 ?side2 A5.out).mono ?_); (case side1 => repeat (first | exact (Kd.C_below HR0.out HB.out) | (with_reducible refine Kd.C_alloc ?_ _) | (with_reducible refine Kd.C_drewN ?_ _) | (with_reducible refine Kd.C_drew ?_))); (case side2 => exact HC0.out); rintro e w11 ⟨rfl, hb⟩; refine ⟨_, rfl, ?_⟩; have n0_ := Aside0.mk (below_step (by repeat (first | (with_reducible first | exact HB.out | apply below_alloc | apply pw_below_drewN | apply below_drew1) | exact HB.out)) hb); clear HB; have HB := n0_; clear n0_; (try clear hb); (try clear hb2); (try clear hk); (try clear hi)) | (go_at_call 41; (with_reducible refine (tableaulaw24_near.calls k _ _ l1 false _ ?side1 ?side2 A7.out).mono ?_); (case side1 => repeat (first | exact (Kd.C_below HR1.out HB.out) | (with_reducible refine Kd.C_alloc ?_ _) | (with_reducible refine Kd.C_drewN ?_ _) | (with_reducible refine Kd.C_drew ?_))); (case side2 => exact HC1.out); rintro e w12 ⟨rfl, hb⟩; have n0_ := Aside0.mk (below_step (by repeat (first | (with_reducible first | exact HB.out | apply below_alloc | apply pw_below_drewN | apply below_drew1) | exact HB.out)) hb); clear HB; have HB := n0_; clear n0_; (try clear hb); (try clear hb2); (try clear hk); (try clear hi)))
      go_meet
      case rel => exact ⟨_, (true), (by first | rfl | (simp; done) | (simp [*]; done)), H', ⟨by first | omega | exact Nat.le_refl _⟩, ⟨by repeat (first | (with_reducible first | exact HB.out | apply below_alloc | apply pw_below_drewN | apply below_drew1) | exact HB.out)⟩⟩
  · replace c6 := Bool.eq_false_iff.mpr c6
    subst c6
    have H1 : (tableaulaw24_RepaintTurns.j0 k l0 l1 a2 true) = some r := by rw [if_neg (show ¬ (false = true) by decide)] at H; exact H
    clear H
    have H := H1
    clear H1
    have H' := Aside0.mk H
    clear H
    go_wp2_with (first | ((with_reducible refine gate_callee (f := 41) rfl ?_); refine goesL_ (some 12) rfl rfl Try.func41 (by kernel_rfl) rfl #[.slice A0 l0.length c0] rfl (by (try simp only [List.map_toArray, List.map_cons, List.map_nil]); first | done | rfl | (simp only [List.length_drop, List.length_take]; rfl)) ?_; (with_reducible refine (tableaulaw24_near.calls k _ _ l0 false _ ?side1 ?side2 A5.out).mono ?_); (case side1 => repeat (first | exact (Kd.C_below HR0.out HB.out) | (with_reducible refine Kd.C_alloc ?_ _) | (with_reducible refine Kd.C_drewN ?_ _) | (with_reducible refine Kd.C_drew ?_))); (case side2 => exact HC0.out); rintro e w13 ⟨rfl, hb⟩; refine ⟨_, rfl, ?_⟩; have n0_ := Aside0.mk (below_step (by repeat (first | (with_reducible first | exact HB.out | apply below_alloc | apply pw_below_drewN | apply below_drew1) | exact HB.out)) hb); clear HB; have HB := n0_; clear n0_; (try clear hb); (try clear hb2); (try clear hk); (try clear hi)))
    go_meet
    case rel => exact ⟨_, (true), (by first | rfl | (simp; done) | (simp [*]; done)), H', ⟨by first | omega | exact Nat.le_refl _⟩, ⟨by repeat (first | (with_reducible first | exact HB.out | apply below_alloc | apply pw_below_drewN | apply below_drew1) | exact HB.out)⟩⟩
 case rest =>
  clear HC4
  try clear c1
  try clear p2
  try clear c4
  try clear c6
  try clear p6
  try clear c8
  obtain ⟨kq, x26_3, rfl, HA, HJ3, HB⟩ := hcut
  cases kq with
  | zero => exact absurd HA.out (by simp [tableaulaw24_RepaintTurns.j0])
  | succ kj3 =>
   have H := HA.out
   clear HA
   simp only [tableaulaw24_RepaintTurns.j0] at H
   by_cases c14 : x26_3 = true
   · subst c14
     have H1 : ((tableaulaw24_awake.f kj3).bind fun t442 => (some t442)) = some r := by rw [if_pos rfl] at H; exact H
     clear H
     have H := H1
     clear H1
     replace H := Option.bind_eq_some_iff.mp H
     obtain ⟨t442, A150, H⟩ := H
     replace H : (some t442) = some r := H
     have A15 := Aside0.mk A150
     clear A150
     obtain rfl := Option.some.inj H
     go_wp2_with (first | ((with_reducible refine gate_callee (f := 42) rfl ?_); refine goesL_ (some 27) rfl rfl Try.func42 (by kernel_rfl) rfl #[] rfl (by (try simp only [List.map_toArray, List.map_cons, List.map_nil]); first | done | rfl | (simp only [List.length_drop, List.length_take]; rfl)) ?_; (with_reducible refine (tableaulaw24_awake.calls kj3  t442 _ A15.out).mono ?_); rintro e w16 ⟨rfl, hb⟩; refine ⟨_, rfl, ?_⟩; have n0_ := Aside0.mk (below_step (by repeat (first | (with_reducible first | exact HB.out | apply below_alloc | apply pw_below_drewN | apply below_drew1) | exact HB.out)) hb); clear HB; have HB := n0_; clear n0_; (try clear hb); (try clear hb2); (try clear hk); (try clear hi)))
     go_ret
     exact ⟨by first | rfl | (simp [errW_none, errW_some] <;> rfl) | (simp [*, errW_none, errW_some] <;> rfl), by repeat (first | (with_reducible first | exact HB.out | apply below_alloc | apply pw_below_drewN | apply below_drew1) | exact HB.out)⟩
   · replace c14 := Bool.eq_false_iff.mpr c14
     subst c14
     have H1 : ((repaint_Changed.f kj3 l0 l1 ([] : List (S52))).bind fun t443 => ((repaint_Changed.f kj3 l1 l0 ([] : List (S52))).bind fun t446 => ((tableaulaw00_Place.f a2 1000).bind fun t449 => ((repaint_Changed.f kj3 l0 l0 (([(⟨wrap64 ((-1) - t449), (([(⟨0, 0, 9, 9⟩ : S26)] : List (S26)))⟩ : S52)] : List (S52)))).bind fun t456 => (tableaulaw24_RepaintTurns.l0 kj3 l0 t443 t446 t456 0))))) = some r := by rw [if_neg (show ¬ (false = true) by decide)] at H; exact H
     clear H
     have H := H1
     clear H1
     replace H := Option.bind_eq_some_iff.mp H
     obtain ⟨t443, A170, H⟩ := H
     replace H : ((repaint_Changed.f kj3 l1 l0 ([] : List (S52))).bind fun t446 => ((tableaulaw00_Place.f a2 1000).bind fun t449 => ((repaint_Changed.f kj3 l0 l0 (([(⟨wrap64 ((-1) - t449), (([(⟨0, 0, 9, 9⟩ : S26)] : List (S26)))⟩ : S52)] : List (S52)))).bind fun t456 => (tableaulaw24_RepaintTurns.l0 kj3 l0 t443 t446 t456 0)))) = some r := H
     have A17 := Aside0.mk A170
     clear A170
     replace H := Option.bind_eq_some_iff.mp H
     obtain ⟨t446, A180, H⟩ := H
     replace H : ((tableaulaw00_Place.f a2 1000).bind fun t449 => ((repaint_Changed.f kj3 l0 l0 (([(⟨wrap64 ((-1) - t449), (([(⟨0, 0, 9, 9⟩ : S26)] : List (S26)))⟩ : S52)] : List (S52)))).bind fun t456 => (tableaulaw24_RepaintTurns.l0 kj3 l0 t443 t446 t456 0))) = some r := H
     have A18 := Aside0.mk A180
     clear A180
     replace H := Option.bind_eq_some_iff.mp H
     obtain ⟨t449, A190, H⟩ := H
     replace H : ((repaint_Changed.f kj3 l0 l0 (([(⟨wrap64 ((-1) - t449), (([(⟨0, 0, 9, 9⟩ : S26)] : List (S26)))⟩ : S52)] : List (S52)))).bind fun t456 => (tableaulaw24_RepaintTurns.l0 kj3 l0 t443 t446 t456 0)) = some r := H
     have A19 := Aside0.mk A190
     clear A190
     obtain ⟨y450, hy450⟩ : ∃ y_ : List (S26), y_ = (([(⟨0, 0, 9, 9⟩ : S26)] : List (S26))) := ⟨_, rfl⟩
     replace H : ((repaint_Changed.f kj3 l0 l0 (([(⟨wrap64 ((-1) - t449), y450⟩ : S52)] : List (S52)))).bind fun t456 => (tableaulaw24_RepaintTurns.l0 kj3 l0 t443 t446 t456 0)) = some r := by first | (rw [hy450]; with_reducible exact H) | (have H2_ := (Option.bind_some _ _).symm.trans H; rw [hy450]; with_reducible exact H2_) | (have H2_ := (Option.bind_some _ _).symm.trans H; with_reducible exact H2_) | with_reducible exact H | (rw [hy450]; exact H) | exact H
     have Ny450 := Aside0.mk hy450
     clear hy450
     obtain ⟨y453, hy453⟩ : ∃ y_ : List (S52), y_ = (([(⟨wrap64 ((-1) - t449), y450⟩ : S52)] : List (S52))) := ⟨_, rfl⟩
     replace H : ((repaint_Changed.f kj3 l0 l0 y453).bind fun t456 => (tableaulaw24_RepaintTurns.l0 kj3 l0 t443 t446 t456 0)) = some r := by first | (rw [hy453]; with_reducible exact H) | (have H2_ := (Option.bind_some _ _).symm.trans H; rw [hy453]; with_reducible exact H2_) | (have H2_ := (Option.bind_some _ _).symm.trans H; with_reducible exact H2_) | with_reducible exact H | (rw [hy453]; exact H) | exact H
     have Ny453 := Aside0.mk hy453
     clear hy453
     replace H := Option.bind_eq_some_iff.mp H
     obtain ⟨t456, A200, H⟩ := H
     replace H : (tableaulaw24_RepaintTurns.l0 kj3 l0 t443 t446 t456 0) = some r := H
     have A20 := Aside0.mk A200
     clear A200
     have H' := Aside0.mk H
     clear H
     go_wp2_with (first | ((with_reducible refine gate_callee (f := 43) rfl ?_); refine goesL_ (some 30) rfl rfl Try.func43 (by kernel_rfl) rfl #[.slice A0 l0.length c0, .slice A1 l1.length c1, .slice none 0 0] rfl (by (try simp only [List.map_toArray, List.map_cons, List.map_nil]); first | done | rfl | (simp only [List.length_drop, List.length_take]; rfl)) ?_; (refine (repaint_Changed.calls kj3 _ _ l0 _ _ l1 _ _ ([] : List (S52)) t443 _ ?side1 ?side2 ?side3 ?side4 ?side5 ?side6 A17.out).mono ?_); (case side1 => repeat (first | exact (Kd.C_below HR0.out HB.out) | (with_reducible refine Kd.C_alloc ?_ _) | (with_reducible refine Kd.C_drewN ?_ _) | (with_reducible refine Kd.C_drew ?_))); (case side2 => exact HC0.out); (case side3 => repeat (first | exact (Kd.C_below HR1.out HB.out) | (with_reducible refine Kd.C_alloc ?_ _) | (with_reducible refine Kd.C_drewN ?_ _) | (with_reducible refine Kd.C_drew ?_))); (case side4 => exact HC1.out); (case side5 => exact Kd.C_nil _ _); (case side6 => exact Nat.le_refl _); rintro e w21 ⟨v444, rfl, ho0, hb⟩; refine ⟨_, rfl, ?_⟩; have n0_ := Aside0.mk (Kd.V_lower (Kd.V_mono (ok' := fun k_ => True) ho0 (fun k_ hk_ => trivial)) (below_size (by repeat (first | (with_reducible first | exact HB.out | apply below_alloc | apply pw_below_drewN | apply below_drew1) | exact HB.out)))); have n1_ := Aside0.mk (below_step (by repeat (first | (with_reducible first | exact HB.out | apply below_alloc | apply pw_below_drewN | apply below_drew1) | exact HB.out)) hb); clear HB; have HO445 := n0_; have HB := n1_; clear n0_ n1_; (try clear hb); (try clear hb2); (try clear hk); (try clear hi); (try clear ho0)) | ((with_reducible refine gate_callee (f := 43) rfl ?_); refine goesL_ (some 33) rfl rfl Try.func43 (by kernel_rfl) rfl #[.slice A1 l1.length c1, .slice A0 l0.length c0, .slice none 0 0] rfl (by (try simp only [List.map_toArray, List.map_cons, List.map_nil]); first | done | rfl | (simp only [List.length_drop, List.length_take]; rfl)) ?_; (refine (repaint_Changed.calls kj3 _ _ l1 _ _ l0 _ _ ([] : List (S52)) t446 _ ?side1 ?side2 ?side3 ?side4 ?side5 ?side6 A18.out).mono ?_); (case side1 => repeat (first | exact (Kd.C_below HR1.out HB.out) | (with_reducible refine Kd.C_alloc ?_ _) | (with_reducible refine Kd.C_drewN ?_ _) | (with_reducible refine Kd.C_drew ?_))); (case side2 => exact HC1.out); (case side3 => repeat (first | exact (Kd.C_below HR0.out HB.out) | (with_reducible refine Kd.C_alloc ?_ _) | (with_reducible refine Kd.C_drewN ?_ _) | (with_reducible refine Kd.C_drew ?_))); (case side4 => exact HC0.out); (case side5 => exact Kd.C_nil _ _); (case side6 => exact Nat.le_refl _); rintro e w22 ⟨v447, rfl, ho0, hb⟩; refine ⟨_, rfl, ?_⟩; have n0_ := Aside0.mk (Kd.V_below (by (with_reducible repeat (first | apply Kd.V_alloc | apply Kd.V_drewN | apply Kd.V_drew)); exact HO445.out) hb); have n1_ := Aside0.mk (Kd.V_lower (Kd.V_mono (ok' := fun k_ => True) ho0 (fun k_ hk_ => trivial)) (below_size (by repeat (first | (with_reducible first | exact HB.out | apply below_alloc | apply pw_below_drewN | apply below_drew1) | exact HB.out)))); have n2_ := Aside0.mk (below_step (by repeat (first | (with_reducible first | exact HB.out | apply below_alloc | apply pw_below_drewN | apply below_drew1) | exact HB.out)) hb); clear HO445; clear HB; have HO445 := n0_; have HO448 := n1_; have HB := n2_; clear n0_ n1_ n2_; (try clear hb); (try clear hb2); (try clear hk); (try clear hi); (try clear ho0)) | ((with_reducible refine gate_callee (f := 10) rfl ?_); refine goesL_ (some 37) rfl rfl Try.func10 (by kernel_rfl) rfl #[.int .i64 a2, .int .i64 1000] rfl (by (try simp only [List.map_toArray, List.map_cons, List.map_nil]); first | done | rfl | (simp only [List.length_drop, List.length_take]; rfl)) ?_; (with_reducible refine (tableaulaw00_Place.calls a2 1000 t449 _ A19.out).mono ?_); rintro e w' ⟨rfl, ⟨nd, rfl⟩⟩; refine ⟨_, rfl, ?_⟩) | ((with_reducible refine gate_dst (N := 40) rfl ?_); (try (refine gate_guard (by rfl) ?_; dsimp only)); refine Kd.R_lit k26 _ 26 ?hg (N := 40) ?hd (xs := ([(⟨0, 0, 9, 9⟩ : S26)] : List (S26))) (inner := [.int .i64 0, .int .i64 0, .int .i64 9, .int .i64 9]) (ok := fun _ => True) (okp := fun _ => True) ?hr ?hp (fun _ hk => hk) trivial (Below.refl _ _) (Nat.le_refl _) (by simp) ?_; (case hd => rfl); (case hg => rfl); (case hr => first | (go_simp; done) | (go_simp; rfl)); (case hp => exact (Reps.c4 (show Kd.M k26 _ _ _ (⟨0, 0, 9, 9⟩ : S26) [.int .i64 0, .int .i64 0, .int .i64 9, .int .i64 9] from (k26_mkM _ _ _ (⟨0, 0, 9, 9⟩ : S26) )) (Reps.none _ _))); intro v451 w23 ho24 hb hg_ hnew_; clear hg_ hnew_; (first | rw [← Ny450.out] at ho24 | (simp only [Int.reduceToNat] at ho24; rw [← Ny450.out] at ho24)); have n0_ := Aside0.mk (Kd.V_elder' (by (with_reducible repeat (first | apply Kd.V_alloc | apply Kd.V_drewN | apply Kd.V_drew)); exact HO445.out) (Kd.R_base ho24) hb); have n1_ := Aside0.mk (Kd.V_elder' (by (with_reducible repeat (first | apply Kd.V_alloc | apply Kd.V_drewN | apply Kd.V_drew)); exact HO448.out) (Kd.R_base ho24) hb); have n2_ := Aside0.mk (Kd.R_lower ho24 (below_size (by repeat (first | (with_reducible first | exact HB.out | apply below_alloc | apply pw_below_drewN | apply below_drew1) | exact HB.out)))); have n3_ := Aside0.mk (below_step (by repeat (first | (with_reducible first | exact HB.out | apply below_alloc | apply pw_below_drewN | apply below_drew1) | exact HB.out)) hb); clear HO445; clear HO448; clear HB; have HO445 := n0_; have HO448 := n1_; have HO452 := n2_; have HB := n3_; clear n0_ n1_ n2_ n3_; clear hb ho24; obtain ⟨Ao25, co25, eo25⟩ := Kd.R_slice HO452.out; subst eo25) | ((with_reducible refine gate_dst (N := 42) rfl ?_); (try (refine gate_guard (by rfl) ?_; dsimp only)); refine Kd.N_lit k52 _ 52 ?hg (N' := 42) ?hd (xs := ([(⟨wrap64 ((-1) - t449), y450⟩ : S52)] : List (S52))) (inner := [.int .i64 (wrap64 ((-1) - t449)), .slice Ao25 y450.length co25]) (ok := (fun _ => True)) (okp := (fun _ => True)) ?hr ?hp (fun _ hk => hk) ((show ∀ k_, w23.heap.size ≤ k_ → (fun _ => True) k_ from fun k_ hk => trivial) _ (Nat.le_refl _)) (Below.refl _ _) (Nat.le_refl _) (by simp) ?_; (case hd => rfl); (case hg => rfl); (case hr => first | (go_simp; done) | (go_simp; rfl)); (case hp => exact (Reps.c2 (show Kd.FK k52 _ _ (⟨wrap64 ((-1) - t449), y450⟩ : S52) [.int .i64 (wrap64 ((-1) - t449)), .slice Ao25 y450.length co25] from (k52_mkF _ _ (⟨wrap64 ((-1) - t449), y450⟩ : S52) (Kd.R_reads' (Kd.R_mono (ok' := (fun _ => True)) (HO452.out) (fun k_ hk => trivial))).2.1 (Kd.R_F (Kd.R_mono (ok' := (fun _ => True)) (HO452.out) (fun k_ hk => trivial))))) (Reps.none _ _))); intro v454 w26 ho27 hb hg_ hnew_; clear hg_ hnew_; (first | rw [← Ny453.out] at ho27 | (simp only [Int.reduceToNat] at ho27; rw [← Ny453.out] at ho27)); have n0_ := Aside0.mk (Kd.V_elder' (by (with_reducible repeat (first | apply Kd.V_alloc | apply Kd.V_drewN | apply Kd.V_drew)); exact HO445.out) (Kd.N_base ho27) hb); have n1_ := Aside0.mk (Kd.V_elder' (by (with_reducible repeat (first | apply Kd.V_alloc | apply Kd.V_drewN | apply Kd.V_drew)); exact HO448.out) (Kd.N_base ho27) hb); have n2_ := Aside0.mk (Kd.N_lower ho27 (below_size (by repeat (first | (with_reducible first | exact HB.out | apply below_alloc | apply pw_below_drewN | apply below_drew1) | exact HB.out)))); have n3_ := Aside0.mk (below_step (by repeat (first | (with_reducible first | exact HB.out | apply below_alloc | apply pw_below_drewN | apply below_drew1) | exact HB.out)) hb); clear HO445; clear HO448; clear HB; clear HO452; have HO445 := n0_; have HO448 := n1_; have HO455 := n2_; have HB := n3_; clear n0_ n1_ n2_ n3_; clear hb ho27; obtain ⟨Ao28, co28, eo28⟩ := Kd.N_slice HO455.out; subst eo28) | ((with_reducible refine gate_callee (f := 43) rfl ?_); refine goesL_ (some 43) rfl rfl Try.func43 (by kernel_rfl) rfl #[.slice A0 l0.length c0, .slice A0 l0.length c0, .slice Ao28 y453.length co28] rfl (by (try simp only [List.map_toArray, List.map_cons, List.map_nil]); first | done | rfl | (simp only [List.length_drop, List.length_take]; rfl)) ?_; (with_reducible refine (repaint_Changed.calls kj3 _ _ l0 _ _ l0 _ _ y453 t456 _ ?side1 ?side2 ?side3 ?side4 ?side5 ?side6 A20.out).mono ?_); (case side1 => repeat (first | exact (Kd.C_below HR0.out HB.out) | (with_reducible refine Kd.C_alloc ?_ _) | (with_reducible refine Kd.C_drewN ?_ _) | (with_reducible refine Kd.C_drew ?_))); (case side2 => exact HC0.out); (case side3 => repeat (first | exact (Kd.C_below HR0.out HB.out) | (with_reducible refine Kd.C_alloc ?_ _) | (with_reducible refine Kd.C_drewN ?_ _) | (with_reducible refine Kd.C_drew ?_))); (case side4 => exact HC0.out); (case side5 => repeat (first | exact (Kd.N_reads' HO455.out).2.2 | (with_reducible refine Kd.C_alloc ?_ _) | (with_reducible refine Kd.C_drewN ?_ _) | (with_reducible refine Kd.C_drew ?_))); (case side6 => exact (Kd.N_reads' HO455.out).2.1); rintro e w29 ⟨v457, rfl, ho0, hb⟩; refine ⟨_, rfl, ?_⟩; have n0_ := Aside0.mk (Kd.V_below (by (with_reducible repeat (first | apply Kd.V_alloc | apply Kd.V_drewN | apply Kd.V_drew)); exact HO445.out) hb); have n1_ := Aside0.mk (Kd.V_below (by (with_reducible repeat (first | apply Kd.V_alloc | apply Kd.V_drewN | apply Kd.V_drew)); exact HO448.out) hb); have n2_ := Aside0.mk (Kd.N_below (by (with_reducible repeat (first | apply Kd.N_alloc | apply Kd.N_drewN | apply Kd.N_drew)); exact HO455.out) hb); have n3_ := Aside0.mk (Kd.V_lower (Kd.V_mono (ok' := fun k_ => some k_ ≠ (.slice Ao28 y453.length co28 : Value).ownBlock) ho0 (fun k_ hk_ => (Kd.fresh' (Kd.N_lt (by (with_reducible repeat (first | apply Kd.N_alloc | apply Kd.N_drewN | apply Kd.N_drew)); exact HO455.out)) k_ hk_))) (below_size (by repeat (first | (with_reducible first | exact HB.out | apply below_alloc | apply pw_below_drewN | apply below_drew1) | exact HB.out)))); have n4_ := Aside0.mk (below_step (by repeat (first | (with_reducible first | exact HB.out | apply below_alloc | apply pw_below_drewN | apply below_drew1) | exact HB.out)) hb); clear HO445; clear HO448; clear HO455; clear HB; have HO445 := n0_; have HO448 := n1_; have HO455 := n2_; have HO458 := n3_; have HB := n4_; clear n0_ n1_ n2_ n3_ n4_; (try clear hb); (try clear hb2); (try clear hk); (try clear hi); (try clear ho0)))
     go_loopg [10] kj3 (fun kq v10 w' => ∃ (x10_2 : Int), v10 = .int .i64 x10_2 ∧ Aside0 (tableaulaw24_RepaintTurns.l0 kq l0 t443 t446 t456 x10_2 = some r) ∧ Aside0 (kq ≤ kj3) ∧ Aside0 (Kd.V k26 26 w' w.heap.size (fun _ => True) v444 t443) ∧ Aside0 (Kd.V k26 26 w' w.heap.size (fun _ => True) v447 t446) ∧ Aside0 (Kd.V k26 26 w' w.heap.size (fun _ => True) v457 t456) ∧ Aside0 (Below w.heap.size w w'))
     case atStart => exact ⟨(0), (by first | rfl | (simp; done) | (simp [*]; done)), H', ⟨Nat.le_refl _⟩, ⟨by (with_reducible repeat (first | apply Kd.V_alloc | apply Kd.V_drewN | apply Kd.V_drew)); exact Kd.V_mono HO445.out (fun _ hk => trivial)⟩, ⟨by (with_reducible repeat (first | apply Kd.V_alloc | apply Kd.V_drewN | apply Kd.V_drew)); exact Kd.V_mono HO448.out (fun _ hk => trivial)⟩, ⟨by (with_reducible repeat (first | apply Kd.V_alloc | apply Kd.V_drewN | apply Kd.V_drew)); exact Kd.V_mono HO458.out (fun _ hk => trivial)⟩, ⟨by repeat (first | (with_reducible first | exact HB.out | apply below_alloc | apply pw_below_drewN | apply below_drew1) | exact HB.out)⟩⟩
     case round =>
      clear H'
      try clear c1
      try clear c2
      try clear p2
      try clear c4
      try clear c6
      try clear p6
      try clear c8
      try clear c10
      try clear c14
      try clear p2
      try clear p6
      obtain ⟨x10_2, rfl, HA, HK2, HO_7, HO_8, HO_9, HB⟩ := hrel
      cases gk with
      | zero => exact absurd HA.out (by simp [tableaulaw24_RepaintTurns.l0])
      | succ k2 =>
       have H := HA.out
       clear HA
       simp only [tableaulaw24_RepaintTurns.l0] at H
       by_cases c30 : x10_2 < (l0.length : Int)
       · rw [if_pos c30] at H
         have c30b0 : decide (x10_2 < (l0.length : Int)) = true := decide_eq_true c30
         clear c30
         by_cases c31 : 0 ≤ x10_2
         · rw [if_pos c31] at H
           have c31b0 : decide (0 ≤ x10_2) = true := decide_eq_true c31
           clear c31
           by_cases c32 : ((rd_T54 l0 x10_2).f0) < 0
           · rw [if_pos c32] at H
             have c32b0 : decide (((rd_T54 l0 x10_2).f0) < 0) = true := decide_eq_true c32
             clear c32
             replace H := Option.bind_eq_some_iff.mp H
             obtain ⟨t460, A330, H⟩ := H
             replace H : (some t460) = some r := H
             have A33 := Aside0.mk A330
             clear A330
             obtain rfl := Option.some.inj H
             have p459 : 0 ≤ (x10_2 : Int) := of_decide_eq_true (by first | (with_reducible assumption) | assumption)
             have q459 : x10_2 < (l0.length : Int) := of_decide_eq_true (by first | (with_reducible assumption) | assumption)
             obtain ⟨ad459, e459, hx459_0, hx459_1, hx459_2, hx459_3, hx459_4, hx459_5⟩ := at_T54 HR0.out x10_2 p459 q459
             cases e459
             replace hx459_0 := (HB.out.cell (World.block_lt_of_cell? w _ hx459_0)).trans hx459_0
             replace hx459_1 := (HB.out.cell (World.block_lt_of_cell? w _ hx459_1)).trans hx459_1
             replace hx459_2 := (HB.out.cell (World.block_lt_of_cell? w _ hx459_2)).trans hx459_2
             replace hx459_3 := (HB.out.cell (World.block_lt_of_cell? w _ hx459_3)).trans hx459_3
             replace hx459_4 := (HB.out.cell (World.block_lt_of_cell? w _ hx459_4)).trans hx459_4
             replace hx459_5 := (HB.out.cell (World.block_lt_of_cell? w _ hx459_5)).trans hx459_5
             replace p459 := eq_true p459
             replace q459 := eq_true q459
             go_wp2_with (first | ((with_reducible refine gate_callee (f := 42) rfl ?_); refine goesL_ (some 56) rfl rfl Try.func42 (by kernel_rfl) rfl #[] rfl (by (try simp only [List.map_toArray, List.map_cons, List.map_nil]); first | done | rfl | (simp only [List.length_drop, List.length_take]; rfl)) ?_; (with_reducible refine (tableaulaw24_awake.calls k2  t460 _ A33.out).mono ?_); rintro e w34 ⟨rfl, hb⟩; refine ⟨_, rfl, ?_⟩; have n0_ := Aside0.mk (Kd.V_below (by (with_reducible repeat (first | apply Kd.V_alloc | apply Kd.V_drewN | apply Kd.V_drew)); exact HO_7.out) hb); have n1_ := Aside0.mk (Kd.V_below (by (with_reducible repeat (first | apply Kd.V_alloc | apply Kd.V_drewN | apply Kd.V_drew)); exact HO_8.out) hb); have n2_ := Aside0.mk (Kd.V_below (by (with_reducible repeat (first | apply Kd.V_alloc | apply Kd.V_drewN | apply Kd.V_drew)); exact HO_9.out) hb); have n3_ := Aside0.mk (below_step (by repeat (first | (with_reducible first | exact HB.out | apply below_alloc | apply pw_below_drewN | apply below_drew1) | exact HB.out)) hb); clear HO_7; clear HO_8; clear HO_9; clear HB; have HO_7 := n0_; have HO_8 := n1_; have HO_9 := n2_; have HB := n3_; clear n0_ n1_ n2_ n3_; (try clear hb); (try clear hb2); (try clear hk); (try clear hi)))
             go_ret
             exact ⟨by first | rfl | (simp [errW_none, errW_some] <;> rfl) | (simp [*, errW_none, errW_some] <;> rfl), by repeat (first | (with_reducible first | exact HB.out | apply below_alloc | apply pw_below_drewN | apply below_drew1) | exact HB.out)⟩
           · rw [if_neg c32] at H
             have c32b0 : decide (((rd_T54 l0 x10_2).f0) < 0) = false := decide_eq_false c32
             clear c32
             have H' := Aside0.mk H
             clear H
             have p459 : 0 ≤ (x10_2 : Int) := of_decide_eq_true (by first | (with_reducible assumption) | assumption)
             have q459 : x10_2 < (l0.length : Int) := of_decide_eq_true (by first | (with_reducible assumption) | assumption)
             obtain ⟨ad459, e459, hx459_0, hx459_1, hx459_2, hx459_3, hx459_4, hx459_5⟩ := at_T54 HR0.out x10_2 p459 q459
             cases e459
             replace hx459_0 := (HB.out.cell (World.block_lt_of_cell? w _ hx459_0)).trans hx459_0
             replace hx459_1 := (HB.out.cell (World.block_lt_of_cell? w _ hx459_1)).trans hx459_1
             replace hx459_2 := (HB.out.cell (World.block_lt_of_cell? w _ hx459_2)).trans hx459_2
             replace hx459_3 := (HB.out.cell (World.block_lt_of_cell? w _ hx459_3)).trans hx459_3
             replace hx459_4 := (HB.out.cell (World.block_lt_of_cell? w _ hx459_4)).trans hx459_4
             replace hx459_5 := (HB.out.cell (World.block_lt_of_cell? w _ hx459_5)).trans hx459_5
             replace p459 := eq_true p459
             replace q459 := eq_true q459
             go_wp2
             go_roundg k2
             case measure => have := HJ3.out; have := HK2.out; omega
             case rel => exact ⟨(wrap64 (x10_2 + 1)), (by first | rfl | (simp; done) | (simp [*]; done)), H', ⟨by have := HJ3.out; have := HK2.out; omega⟩, ⟨by (with_reducible repeat (first | apply Kd.V_alloc | apply Kd.V_drewN | apply Kd.V_drew)); exact HO_7.out⟩, ⟨by (with_reducible repeat (first | apply Kd.V_alloc | apply Kd.V_drewN | apply Kd.V_drew)); exact HO_8.out⟩, ⟨by (with_reducible repeat (first | apply Kd.V_alloc | apply Kd.V_drewN | apply Kd.V_drew)); exact HO_9.out⟩, ⟨by repeat (first | (with_reducible first | exact HB.out | apply below_alloc | apply pw_below_drewN | apply below_drew1) | exact HB.out)⟩⟩
         · rw [if_neg c31] at H
           exact absurd H (by simp)
       · rw [if_neg c30] at H
         have c30b0 : decide (x10_2 < (l0.length : Int)) = false := decide_eq_false c30
         clear c30
         replace H := Option.bind_eq_some_iff.mp H
         obtain ⟨t461, A350, H⟩ := H
         replace H : (if t461 = true then (if (t456.length : Int) = 0 then ((tableauref08_Check.f k2 t443).bind fun t462 => (if t462 = true then ((tableaulaw24_awake.f k2).bind fun t463 => (some t463)) else (some false))) else (some false)) else (some false)) = some r := H
         have A35 := Aside0.mk A350
         clear A350
         by_cases c36 : t461 = true
         · subst c36
           have H1 : (if (t456.length : Int) = 0 then ((tableauref08_Check.f k2 t443).bind fun t462 => (if t462 = true then ((tableaulaw24_awake.f k2).bind fun t463 => (some t463)) else (some false))) else (some false)) = some r := by rw [if_pos rfl] at H; exact H
           clear H
           have H := H1
           clear H1
           by_cases c37 : (t456.length : Int) = 0
           · rw [if_pos c37] at H
             have c37b0 : ((t456.length : Int) == 0) = true := beq_iff_eq.mpr c37
             have c37b1 : ((t456.length : Int) != 0) = false := bne_eq_false_iff_eq.mpr c37
             clear c37
             replace H := Option.bind_eq_some_iff.mp H
             obtain ⟨t462, A380, H⟩ := H
             replace H : (if t462 = true then ((tableaulaw24_awake.f k2).bind fun t463 => (some t463)) else (some false)) = some r := H
             have A38 := Aside0.mk A380
             clear A380
             by_cases c39 : t462 = true
             · subst c39
               have H1 : ((tableaulaw24_awake.f k2).bind fun t463 => (some t463)) = some r := by rw [if_pos rfl] at H; exact H
               clear H
               have H := H1
               clear H1
               replace H := Option.bind_eq_some_iff.mp H
               obtain ⟨t463, A400, H⟩ := H
               replace H : (some t463) = some r := H
               have A40 := Aside0.mk A400
               clear A400
               obtain rfl := Option.some.inj H
               obtain ⟨Ao41, co41, eo41⟩ := Kd.V_slice HO_7.out
               subst eo41
               obtain ⟨Ao42, co42, eo42⟩ := Kd.V_slice HO_8.out
               subst eo42
               go_wp2_with (first | ((with_reducible refine gate_callee (f := 20) rfl ?_); refine goesL_ (some 59) rfl rfl Try.func20 (by kernel_rfl) rfl #[.slice Ao41 t443.length co41, .slice Ao42 t446.length co42] rfl (by (try simp only [List.map_toArray, List.map_cons, List.map_nil]); first | done | rfl | (simp only [List.length_drop, List.length_take]; rfl)) ?_; (with_reducible refine (tableaulaw00_SameRects.calls k2 _ _ t443 _ _ t446 true _ ?side1 ?side2 ?side3 ?side4 A35.out).mono ?_); (case side1 => repeat (first | exact (Kd.V_reads' HO_7.out).2.2 | (with_reducible refine Kd.C_alloc ?_ _) | (with_reducible refine Kd.C_drewN ?_ _) | (with_reducible refine Kd.C_drew ?_))); (case side2 => exact (Kd.V_reads' HO_7.out).2.1); (case side3 => repeat (first | exact (Kd.V_reads' HO_8.out).2.2 | (with_reducible refine Kd.C_alloc ?_ _) | (with_reducible refine Kd.C_drewN ?_ _) | (with_reducible refine Kd.C_drew ?_))); (case side4 => exact (Kd.V_reads' HO_8.out).2.1); rintro e w' ⟨rfl, ⟨nd, rfl⟩⟩; refine ⟨_, rfl, ?_⟩; obtain ⟨Ao43, co43, eo43⟩ := Kd.V_slice HO_9.out; subst eo43) | (go_at_call 30; (with_reducible refine (tableauref08_Check.calls k2 _ _ t443 true _ ?side1 ?side2 A38.out).mono ?_); (case side1 => repeat (first | exact (Kd.V_reads' HO_7.out).2.2 | (with_reducible refine Kd.C_alloc ?_ _) | (with_reducible refine Kd.C_drewN ?_ _) | (with_reducible refine Kd.C_drew ?_))); (case side2 => exact (Kd.V_reads' HO_7.out).2.1); rintro e w44 ⟨rfl, hb⟩; have n0_ := Aside0.mk (Kd.V_below (by (with_reducible repeat (first | apply Kd.V_alloc | apply Kd.V_drewN | apply Kd.V_drew)); exact HO_7.out) hb); have n1_ := Aside0.mk (Kd.V_below (by (with_reducible repeat (first | apply Kd.V_alloc | apply Kd.V_drewN | apply Kd.V_drew)); exact HO_8.out) hb); have n2_ := Aside0.mk (Kd.V_below (by (with_reducible repeat (first | apply Kd.V_alloc | apply Kd.V_drewN | apply Kd.V_drew)); exact HO_9.out) hb); have n3_ := Aside0.mk (below_step (by repeat (first | (with_reducible first | exact HB.out | apply below_alloc | apply pw_below_drewN | apply below_drew1) | exact HB.out)) hb); clear HO_7; clear HO_8; clear HO_9; clear HB; have HO_7 := n0_; have HO_8 := n1_; have HO_9 := n2_; have HB := n3_; clear n0_ n1_ n2_ n3_; (try clear hb); (try clear hb2); (try clear hk); (try clear hi)) | (go_at_call 42; (with_reducible refine (tableaulaw24_awake.calls k2  t463 _ A40.out).mono ?_); rintro e w45 ⟨rfl, hb⟩; have n0_ := Aside0.mk (Kd.V_below (by (with_reducible repeat (first | apply Kd.V_alloc | apply Kd.V_drewN | apply Kd.V_drew)); exact HO_7.out) hb); have n1_ := Aside0.mk (Kd.V_below (by (with_reducible repeat (first | apply Kd.V_alloc | apply Kd.V_drewN | apply Kd.V_drew)); exact HO_8.out) hb); have n2_ := Aside0.mk (Kd.V_below (by (with_reducible repeat (first | apply Kd.V_alloc | apply Kd.V_drewN | apply Kd.V_drew)); exact HO_9.out) hb); have n3_ := Aside0.mk (below_step (by repeat (first | (with_reducible first | exact HB.out | apply below_alloc | apply pw_below_drewN | apply below_drew1) | exact HB.out)) hb); clear HO_7; clear HO_8; clear HO_9; clear HB; have HO_7 := n0_; have HO_8 := n1_; have HO_9 := n2_; have HB := n3_; clear n0_ n1_ n2_ n3_; (try clear hb); (try clear hb2); (try clear hk); (try clear hi)))
               go_ret
               exact ⟨by first | rfl | (simp [errW_none, errW_some] <;> rfl) | (simp [*, errW_none, errW_some] <;> rfl), by repeat (first | (with_reducible first | exact HB.out | apply below_alloc | apply pw_below_drewN | apply below_drew1) | exact HB.out)⟩
             · replace c39 := Bool.eq_false_iff.mpr c39
               subst c39
               have H1 : (some false) = some r := by rw [if_neg (show ¬ (false = true) by decide)] at H; exact H
               clear H
               have H := H1
               clear H1
               exact absurd H (by rw [HT.out]; simp)
           · rw [if_neg c37] at H
             have c37b0 : ((t456.length : Int) == 0) = false := beq_eq_false_iff_ne.mpr c37
             have c37b1 : ((t456.length : Int) != 0) = true := bne_iff_ne.mpr c37
             have c37b2 : ¬ (t456 = []) := fun h_ => c37 (by rw [h_]; rfl)
             exact absurd H (by rw [HT.out]; simp)
         · replace c36 := Bool.eq_false_iff.mpr c36
           subst c36
           have H1 : (some false) = some r := by rw [if_neg (show ¬ (false = true) by decide)] at H; exact H
           clear H
           have H := H1
           clear H1
           exact absurd H (by rw [HT.out]; simp)


end Go.Proofs.Ytclpppejabfbbaa.PC
