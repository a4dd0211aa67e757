-- Printed for this claim by a program over the kit's print.
import Derived.Test.YtclpppejabfbbaaPFx0
import Derived.Test.YtclpppejabfbbaaPFx3
import Derived.Test.YtclpppejabfbbaaPFx4
import Derived.Test.YtclpppejabfbbaaPFx5
import Derived.Test.YtclpppejabfbbaaPFx6
namespace Go.Proofs.Ytclpppejabfbbaa.PF
open Go.RowKit Go.Proofs.YtclpppejabfbbaaW.PrintWords Go.Proofs.YtclpppejabfbbaaW.PrintLast Go.Proofs.YtclpppejabfbbaaW.PrintMore
attribute [local go_sem] max2_int min2_int max_two min_two max_three min_three max_four min_four   -- for this text's walks alone
set_option linter.unusedVariables false
set_option linter.unusedSimpArgs false


/-! ### tableaulaw24_RepaintChanges: function 7 -/
def tableaulaw24_RepaintChanges.j0 : Nat → List (S54) → List (S54) → List (S75) → List (S52) → Bool → Option (Bool)
 | 0, _, _, _, _, _ => none
 | k + 1, x0, x1, x2, x7, x25 => if x25 = true then ((tableaulaw24_awake.f k).bind fun t364 => (some t364)) else (if ([] : List (S54)).length + x0.length < 2932031007402 then (if ([] : List (S54)).length + x1.length < 2932031007402 then ((repaint_Changed.f k (([] : List (S54)) ++ x0) (([] : List (S54)) ++ x1) x7).bind fun t371 => ((tableauref24_Changed.f k x0 x1 x2).bind fun t374 => ((tableaulaw00_SameRects.f k t371 t374).bind fun t377 => (if t377 = true then ((tableaulaw24_awake.f k).bind fun t378 => (some t378)) else (some false))))) else (none)) else (none))
def tableaulaw24_RepaintChanges.f (k : Nat) (l0 : List (S54)) (l1 : List (S54)) (l2 : List (S75)) : Option (Bool) := (tableaulaw24_dirt.f k l2).bind fun bt358 => (if bt358.2 = true then ((tableaulaw24_near.f k l0).bind fun t362 => (if t362 = true then ((tableaulaw24_near.f k l1).bind fun t363 => (tableaulaw24_RepaintChanges.j0 k l0 l1 l2 bt358.1 (!t363))) else (tableaulaw24_RepaintChanges.j0 k l0 l1 l2 bt358.1 true))) else (tableaulaw24_RepaintChanges.j0 k l0 l1 l2 bt358.1 true))
theorem tableaulaw24_RepaintChanges.mono_l : ∀ k, (∀ y0 y1 y2 y3 y4, LeO (tableaulaw24_RepaintChanges.j0 k y0 y1 y2 y3 y4) (tableaulaw24_RepaintChanges.j0 (k + 1) y0 y1 y2 y3 y4))
 | 0 => fun _ _ _ _ _ r h => by simp [tableaulaw24_RepaintChanges.j0] at h
 | k + 1 => by
  have ih0 := tableaulaw24_RepaintChanges.mono_l k
  · intro y0 y1 y2 y3 y4
    unfold tableaulaw24_RepaintChanges.j0
    repeat' first
    | (with_reducible exact ih0 _ _ _ _ _)
    | (with_reducible exact repaint_Changed.mono _ _ _ _)
    | (with_reducible exact tableaulaw00_SameRects.mono _ _ _)
    | (with_reducible exact tableaulaw24_awake.mono _)
    | (with_reducible exact tableaulaw24_dirt.mono _ _)
    | (with_reducible exact tableaulaw24_near.mono _ _)
    | (with_reducible exact tableauref24_Changed.mono _ _ _ _)
    | (with_reducible exact LeO.refl _)
    | (with_reducible exact LeO.none _)
    | (with_reducible refine LeO.ite ?_ ?_)
    | (with_reducible refine LeO.bind ?_ (fun _ => ?_))
    | exact ih0 _ _ _ _ _
    | exact repaint_Changed.mono _ _ _ _
    | exact tableaulaw00_SameRects.mono _ _ _
    | exact tableaulaw24_awake.mono _
    | exact tableaulaw24_dirt.mono _ _
    | exact tableaulaw24_near.mono _ _
    | exact tableauref24_Changed.mono _ _ _ _
    | exact LeO.none _
    | refine LeO.ite ?_ ?_
    | refine LeO.bind ?_ (fun _ => ?_)
theorem tableaulaw24_RepaintChanges.mono : ∀ a0 a1 a2 k, LeO (tableaulaw24_RepaintChanges.f k a0 a1 a2) (tableaulaw24_RepaintChanges.f (k + 1) a0 a1 a2) := by
 intro a0 a1 a2 k
 have ih0 := tableaulaw24_RepaintChanges.mono_l k
 unfold tableaulaw24_RepaintChanges.f
 repeat' first
  | (with_reducible exact ih0 _ _ _ _ _)
  | (with_reducible exact repaint_Changed.mono _ _ _ _)
  | (with_reducible exact tableaulaw00_SameRects.mono _ _ _)
  | (with_reducible exact tableaulaw24_awake.mono _)
  | (with_reducible exact tableaulaw24_dirt.mono _ _)
  | (with_reducible exact tableaulaw24_near.mono _ _)
  | (with_reducible exact tableauref24_Changed.mono _ _ _ _)
  | (with_reducible exact LeO.refl _)
  | (with_reducible exact LeO.none _)
  | (with_reducible refine LeO.ite ?_ ?_)
  | (with_reducible refine LeO.bind ?_ (fun _ => ?_))
  | exact ih0 _ _ _ _ _
  | exact repaint_Changed.mono _ _ _ _
  | exact tableaulaw00_SameRects.mono _ _ _
  | exact tableaulaw24_awake.mono _
  | exact tableaulaw24_dirt.mono _ _
  | exact tableaulaw24_near.mono _ _
  | exact tableauref24_Changed.mono _ _ _ _
  | exact LeO.none _
  | refine LeO.ite ?_ ?_
  | refine LeO.bind ?_ (fun _ => ?_)
set_option maxHeartbeats 8000000 in
set_option maxRecDepth 100000 in
theorem tableaulaw24_RepaintChanges.calls (k : Nat) (A0 : Option Addr) (c0 : Nat) (l0 : List (S54)) (A1 : Option Addr) (c1 : Nat) (l1 : List (S54)) (A2 : Option Addr) (c2 : Nat) (l2 : List (S75)) (r : Bool) (w : World) (hr0 : Kd.C k54 w A0 l0.length l0) (hc0 : l0.length ≤ c0) (hr1 : Kd.C k54 w A1 l1.length l1) (hc1 : l1.length ≤ c1) (hr2 : Kd.C k75 w A2 l2.length l2) (hc2 : l2.length ≤ c2) (h : tableaulaw24_RepaintChanges.f k l0 l1 l2 = some r) (hT : r = true) :
 Calls Try.prog 7 #[.slice A0 l0.length c0, .slice A1 l1.length c1, .slice A2 l2.length c2] w fun e w' => e = .returned (.bool r) ∧ Below w.heap.size w w' := by
 have HT := Aside0.mk hT
 clear hT
 have HR0 := Aside0.mk hr0
 have HC0 := Aside0.mk hc0
 clear hr0 hc0
 have HR1 := Aside0.mk hr1
 have HC1 := Aside0.mk hc1
 clear hr1 hc1
 have HR2 := Aside0.mk hr2
 have HC2 := Aside0.mk hc2
 clear hr2 hc2
 have HB := Aside0.mk (Below.refl w.heap.size w)
 have H : ((tableaulaw24_dirt.f k l2).bind fun bt358 => (if bt358.2 = true then ((tableaulaw24_near.f k l0).bind fun t362 => (if t362 = true then ((tableaulaw24_near.f k l1).bind fun t363 => (tableaulaw24_RepaintChanges.j0 k l0 l1 l2 bt358.1 (!t363))) else (tableaulaw24_RepaintChanges.j0 k l0 l1 l2 bt358.1 true))) else (tableaulaw24_RepaintChanges.j0 k l0 l1 l2 bt358.1 true))) = some r := h
 clear h
 replace H := Option.bind_eq_some_iff.mp H
 obtain ⟨⟨t358, t359⟩, A40, H⟩ := H
 replace H : (if t359 = true then ((tableaulaw24_near.f k l0).bind fun t362 => (if t362 = true then ((tableaulaw24_near.f k l1).bind fun t363 => (tableaulaw24_RepaintChanges.j0 k l0 l1 l2 t358 (!t363))) else (tableaulaw24_RepaintChanges.j0 k l0 l1 l2 t358 true))) else (tableaulaw24_RepaintChanges.j0 k l0 l1 l2 t358 true)) = some r := H
 have A4 := Aside0.mk A40
 clear A40
 have HC5 := Aside0.mk H
 clear H
 go_enter Try.func7, Try.ntmps7
 go_upto_region 2 with (first | ((with_reducible refine gate_callee (f := 40) rfl ?_); refine goesL_ (some 11) rfl rfl Try.func40 (by kernel_rfl) rfl #[.slice A2 l2.length c2] rfl (by (try simp only [List.map_toArray, List.map_cons, List.map_nil]); first | done | rfl | (simp only [List.length_drop, List.length_take]; rfl)) ?_; (with_reducible refine (tableaulaw24_dirt.calls k _ _ l2 t358 t359 _ ?side1 ?side2 A4.out).mono ?_); (case side1 => repeat (first | exact HR2.out | (with_reducible refine Kd.C_alloc ?_ _) | (with_reducible refine Kd.C_drewN ?_ _) | (with_reducible refine Kd.C_drew ?_))); (case side2 => exact HC2.out); rintro e w6 ⟨v360, rfl, ho0, hb⟩; refine ⟨_, rfl, ?_⟩; have n0_ := Aside0.mk (Kd.S_lower ho0 (pbZ (by repeat (first | (with_reducible first | exact HB.out | apply pbA | apply pbN | apply pbD) | exact HB.out)))); have n1_ := Aside0.mk (pbP (by repeat (first | (with_reducible first | exact HB.out | apply pbA | apply pbN | apply pbD) | exact HB.out)) hb); clear HB; have HO361 := n0_; have HB := n1_; clear n0_ n1_; (try clear hb); (try clear hb2); (try clear hk); (try clear hi); (try clear ho0)))
 (try simp only [Act.put, List.setIfInBounds_toArray, List.set_cons_zero, List.set_cons_succ])
 go_cut [25] (fun v25 wc => ∃ (kq : Nat) (x25_4 : Bool), v25 = .bool x25_4 ∧ Aside0 (tableaulaw24_RepaintChanges.j0 kq l0 l1 l2 t358 x25_4 = some r) ∧ Aside0 (kq ≤ k) ∧ Aside0 (Kd.S k52 52 wc w.heap.size (fun _ => True) v360 t358) ∧ Aside0 (Below w.heap.size w wc))
 case first =>
  have H := HC5.out
  clear HC5
  by_cases c7 : t359 = true
  · subst c7
    have H1 : ((tableaulaw24_near.f k l0).bind fun t362 => (if t362 = true then ((tableaulaw24_near.f k l1).bind fun t363 => (tableaulaw24_RepaintChanges.j0 k l0 l1 l2 t358 (!t363))) else (tableaulaw24_RepaintChanges.j0 k l0 l1 l2 t358 true))) = some r := by rw [if_pos rfl] at H; exact H
    clear H
    have H := H1
    clear H1
    replace H := Option.bind_eq_some_iff.mp H
    obtain ⟨t362, A80, H⟩ := H
    replace H : (if t362 = true then ((tableaulaw24_near.f k l1).bind fun t363 => (tableaulaw24_RepaintChanges.j0 k l0 l1 l2 t358 (!t363))) else (tableaulaw24_RepaintChanges.j0 k l0 l1 l2 t358 true)) = some r := H
    have A8 := Aside0.mk A80
    clear A80
    by_cases c9 : t362 = true
    · subst c9
      have H1 : ((tableaulaw24_near.f k l1).bind fun t363 => (tableaulaw24_RepaintChanges.j0 k l0 l1 l2 t358 (!t363))) = some r := by rw [if_pos rfl] at H; exact H
      clear H
      have H := H1
      clear H1
      replace H := Option.bind_eq_some_iff.mp H
      obtain ⟨t363, A100, H⟩ := H
      replace H : (tableaulaw24_RepaintChanges.j0 k l0 l1 l2 t358 (!t363)) = some r := H
      have A10 := Aside0.mk A100
      clear A100
      have H' := Aside0.mk H
      clear H
      go_wp2_with (first | (go_at_call 41; (with_reducible refine (tableaulaw24_near.calls k _ _ l0 true _ ?side1 ?side2 A8.out).mono ?_); (case side1 => repeat (first | exact (Kd.C_below HR0.out HB.out) | (with_reducible refine Kd.C_alloc ?_ _) | (with_reducible refine Kd.C_drewN ?_ _) | (with_reducible refine Kd.C_drew ?_))); (case side2 => exact HC0.out); rintro e w11 ⟨rfl, hb⟩; have n0_ := Aside0.mk (Kd.S_below (by (with_reducible repeat (first | apply Kd.S_alloc | apply Kd.S_drewN | apply Kd.S_drew)); exact HO361.out) hb); have n1_ := Aside0.mk (pbP (by repeat (first | (with_reducible first | exact HB.out | apply pbA | apply pbN | apply pbD) | exact HB.out)) hb); clear HO361; clear HB; have HO361 := n0_; have HB := n1_; clear n0_ n1_; (try clear hb); (try clear hb2); (try clear hk); (try clear hi)) | (go_at_call 41; (with_reducible refine (tableaulaw24_near.calls k _ _ l1 t363 _ ?side1 ?side2 A10.out).mono ?_); (case side1 => repeat (first | exact (Kd.C_below HR1.out HB.out) | (with_reducible refine Kd.C_alloc ?_ _) | (with_reducible refine Kd.C_drewN ?_ _) | (with_reducible refine Kd.C_drew ?_))); (case side2 => exact HC1.out); rintro e w12 ⟨rfl, hb⟩; have n0_ := Aside0.mk (Kd.S_below (by (with_reducible repeat (first | apply Kd.S_alloc | apply Kd.S_drewN | apply Kd.S_drew)); exact HO361.out) hb); have n1_ := Aside0.mk (pbP (by repeat (first | (with_reducible first | exact HB.out | apply pbA | apply pbN | apply pbD) | exact HB.out)) hb); clear HO361; clear HB; have HO361 := n0_; have HB := n1_; clear n0_ n1_; (try clear hb); (try clear hb2); (try clear hk); (try clear hi)))
      go_meet
      case rel => exact ⟨_, (!t363), (by first | rfl | (simp; done) | (simp [*]; done)), H', ⟨by first | omega | exact Nat.le_refl _⟩, ⟨by (with_reducible repeat (first | apply Kd.S_alloc | apply Kd.S_drewN | apply Kd.S_drew)); exact HO361.out⟩, ⟨by repeat (first | (with_reducible first | exact HB.out | apply pbA | apply pbN | apply pbD) | exact HB.out)⟩⟩
    · replace c9 := Bool.eq_false_iff.mpr c9
      subst c9
      have H1 : (tableaulaw24_RepaintChanges.j0 k l0 l1 l2 t358 true) = some r := by rw [if_neg (show ¬ (false = true) by decide)] at H; exact H
      clear H
      have H := H1
      clear H1
      have H' := Aside0.mk H
      clear H
      go_wp2_with (first | (go_at_call 41; (with_reducible refine (tableaulaw24_near.calls k _ _ l0 false _ ?side1 ?side2 A8.out).mono ?_); (case side1 => repeat (first | exact (Kd.C_below HR0.out HB.out) | (with_reducible refine Kd.C_alloc ?_ _) | (with_reducible refine Kd.C_drewN ?_ _) | (with_reducible refine Kd.C_drew ?_))); (case side2 => exact HC0.out); rintro e w13 ⟨rfl, hb⟩; have n0_ := Aside0.mk (Kd.S_below (by (with_reducible repeat (first | apply Kd.S_alloc | apply Kd.S_drewN | apply Kd.S_drew)); exact HO361.out) hb); have n1_ := Aside0.mk (pbP (by repeat (first | (with_reducible first | exact HB.out | apply pbA | apply pbN | apply pbD) | exact HB.out)) hb); clear HO361; clear HB; have HO361 := n0_; have HB := n1_; clear n0_ n1_; (try clear hb); (try clear hb2); (try clear hk); (try clear hi)))
      go_meet
      case rel => exact ⟨_, (true), (by first | rfl | (simp; done) | (simp [*]; done)), H', ⟨by first | omega | exact Nat.le_refl _⟩, ⟨by (with_reducible repeat (first | apply Kd.S_alloc | apply Kd.S_drewN | apply Kd.S_drew)); exact HO361.out⟩, ⟨by repeat (first | (with_reducible first | exact HB.out | apply pbA | apply pbN | apply pbD) | exact HB.out)⟩⟩
  · replace c7 := Bool.eq_false_iff.mpr c7
    subst c7
    have H1 : (tableaulaw24_RepaintChanges.j0 k l0 l1 l2 t358 true) = some r := by rw [if_neg (show ¬ (false = true) by decide)] at H; exact H
    clear H
    have H := H1
    clear H1
    have H' := Aside0.mk H
    clear H
    go_wp2
    go_meet
    case rel => exact ⟨_, (true), (by first | rfl | (simp; done) | (simp [*]; done)), H', ⟨by first | omega | exact Nat.le_refl _⟩, ⟨by (with_reducible repeat (first | apply Kd.S_alloc | apply Kd.S_drewN | apply Kd.S_drew)); exact HO361.out⟩, ⟨by repeat (first | (with_reducible first | exact HB.out | apply pbA | apply pbN | apply pbD) | exact HB.out)⟩⟩
 case rest =>
  clear HC5
  try clear c1
  try clear c2
  try clear p2
  try clear c4
  try clear c7
  try clear c9
  obtain ⟨kq, x25_4, rfl, HA, HJ4, HO_7, HB⟩ := hcut
  cases kq with
  | zero => exact absurd HA.out (by simp [tableaulaw24_RepaintChanges.j0])
  | succ kj4 =>
   have H := HA.out
   clear HA
   simp only [tableaulaw24_RepaintChanges.j0] at H
   by_cases c14 : x25_4 = true
   · subst c14
     have H1 : ((tableaulaw24_awake.f kj4).bind fun t364 => (some t364)) = some r := by rw [if_pos rfl] at H; exact H
     clear H
     have H := H1
     clear H1
     replace H := Option.bind_eq_some_iff.mp H
     obtain ⟨t364, A150, H⟩ := H
     replace H : (some t364) = some r := H
     have A15 := Aside0.mk A150
     clear A150
     obtain rfl := Option.some.inj H
     go_wp2_with (first | ((with_reducible refine gate_callee (f := 42) rfl ?_); refine goesL_ (some 26) rfl rfl Try.func42 (by kernel_rfl) rfl #[] rfl (by (try simp only [List.map_toArray, List.map_cons, List.map_nil]); first | done | rfl | (simp only [List.length_drop, List.length_take]; rfl)) ?_; (with_reducible refine (tableaulaw24_awake.calls kj4  t364 _ A15.out).mono ?_); rintro e w16 ⟨rfl, hb⟩; refine ⟨_, rfl, ?_⟩; have n0_ := Aside0.mk (Kd.S_below (by (with_reducible repeat (first | apply Kd.S_alloc | apply Kd.S_drewN | apply Kd.S_drew)); exact HO_7.out) hb); have n1_ := Aside0.mk (pbP (by repeat (first | (with_reducible first | exact HB.out | apply pbA | apply pbN | apply pbD) | exact HB.out)) hb); clear HO_7; clear HB; have HO_7 := n0_; have HB := n1_; clear n0_ n1_; (try clear hb); (try clear hb2); (try clear hk); (try clear hi)))
     go_ret
     exact ⟨by first | rfl | (simp [errW_none, errW_some] <;> rfl) | (simp [*, errW_none, errW_some] <;> rfl), by repeat (first | (with_reducible first | exact HB.out | apply pbA | apply pbN | apply pbD) | exact HB.out)⟩
   · replace c14 := Bool.eq_false_iff.mpr c14
     subst c14
     have H1 : (if ([] : List (S54)).length + l0.length < 2932031007402 then (if ([] : List (S54)).length + l1.length < 2932031007402 then ((repaint_Changed.f kj4 (([] : List (S54)) ++ l0) (([] : List (S54)) ++ l1) t358).bind fun t371 => ((tableauref24_Changed.f kj4 l0 l1 l2).bind fun t374 => ((tableaulaw00_SameRects.f kj4 t371 t374).bind fun t377 => (if t377 = true then ((tableaulaw24_awake.f kj4).bind fun t378 => (some t378)) else (some false))))) else (none)) else (none)) = some r := by rw [if_neg (show ¬ (false = true) by decide)] at H; exact H
     clear H
     have H := H1
     clear H1
     by_cases c17 : ([] : List (S54)).length + l0.length < 2932031007402
     · rw [if_pos c17] at H
       have LMc17 := Aside0.mk c17
       clear c17
       obtain ⟨y365, hy365⟩ : ∃ y_ : List (S54), y_ = (([] : List (S54)) ++ l0) := ⟨_, rfl⟩
       replace H : (if ([] : List (S54)).length + l1.length < 2932031007402 then ((repaint_Changed.f kj4 y365 (([] : List (S54)) ++ l1) t358).bind fun t371 => ((tableauref24_Changed.f kj4 l0 l1 l2).bind fun t374 => ((tableaulaw00_SameRects.f kj4 t371 t374).bind fun t377 => (if t377 = true then ((tableaulaw24_awake.f kj4).bind fun t378 => (some t378)) else (some false))))) else (none)) = some r := by first | (rw [hy365]; with_reducible exact H) | (have H2_ := (Option.bind_some _ _).symm.trans H; rw [hy365]; with_reducible exact H2_) | (have H2_ := (Option.bind_some _ _).symm.trans H; with_reducible exact H2_) | with_reducible exact H | (rw [hy365]; exact H) | exact H
       have Ny365 := Aside0.mk hy365
       clear hy365
       by_cases c18 : ([] : List (S54)).length + l1.length < 2932031007402
       · rw [if_pos c18] at H
         have LMc18 := Aside0.mk c18
         clear c18
         obtain ⟨y368, hy368⟩ : ∃ y_ : List (S54), y_ = (([] : List (S54)) ++ l1) := ⟨_, rfl⟩
         replace H : ((repaint_Changed.f kj4 y365 y368 t358).bind fun t371 => ((tableauref24_Changed.f kj4 l0 l1 l2).bind fun t374 => ((tableaulaw00_SameRects.f kj4 t371 t374).bind fun t377 => (if t377 = true then ((tableaulaw24_awake.f kj4).bind fun t378 => (some t378)) else (some false))))) = some r := by first | (rw [hy368]; with_reducible exact H) | (have H2_ := (Option.bind_some _ _).symm.trans H; rw [hy368]; with_reducible exact H2_) | (have H2_ := (Option.bind_some _ _).symm.trans H; with_reducible exact H2_) | with_reducible exact H | (rw [hy368]; exact H) | exact H
         have Ny368 := Aside0.mk hy368
         clear hy368
         replace H := Option.bind_eq_some_iff.mp H
         obtain ⟨t371, A190, H⟩ := H
         replace H : ((tableauref24_Changed.f kj4 l0 l1 l2).bind fun t374 => ((tableaulaw00_SameRects.f kj4 t371 t374).bind fun t377 => (if t377 = true then ((tableaulaw24_awake.f kj4).bind fun t378 => (some t378)) else (some false)))) = some r := H
         have A19 := Aside0.mk A190
         clear A190
         replace H := Option.bind_eq_some_iff.mp H
         obtain ⟨t374, A200, H⟩ := H
         replace H : ((tableaulaw00_SameRects.f kj4 t371 t374).bind fun t377 => (if t377 = true then ((tableaulaw24_awake.f kj4).bind fun t378 => (some t378)) else (some false))) = some r := H
         have A20 := Aside0.mk A200
         clear A200
         replace H := Option.bind_eq_some_iff.mp H
         obtain ⟨t377, A210, H⟩ := H
         replace H : (if t377 = true then ((tableaulaw24_awake.f kj4).bind fun t378 => (some t378)) else (some false)) = some r := H
         have A21 := Aside0.mk A210
         clear A210
         by_cases c22 : t377 = true
         · subst c22
           have H1 : ((tableaulaw24_awake.f kj4).bind fun t378 => (some t378)) = some r := by rw [if_pos rfl] at H; exact H
           clear H
           have H := H1
           clear H1
           replace H := Option.bind_eq_some_iff.mp H
           obtain ⟨t378, A230, H⟩ := H
           replace H : (some t378) = some r := H
           have A23 := Aside0.mk A230
           clear A230
           obtain rfl := Option.some.inj H
           go_wp2_with (first | ((with_reducible refine gate_builtin (b := .append) (xs := #[.const (.slice none 0 0), .tmp 27]) rfl ?_); at_builtin; refine Kd.R_append_rows k54 (w0 := w) w.heap.size rfl (.const (.slice none 0 0)) (.tmp 27) 42 54 (.agg #[(.int .i64 0), (.int .i64 0), (.int .i64 0), (.int .i64 0), (.int .i64 0), (.int .i64 0)]) 48 rfl Try.underlying42 info54 rfl (by decide) (by omega) (.slice none 0 0) ([] : List (S54)) l0 _ _ _ (fun _ => True) (fun _ => False) rfl rfl ?aO ?aR (fun _ _ h => h) (fun _ h => h.elim) ?aF ?aB ?aS ?aL ?_; (case aR => repeat (first | exact (Kd.C_below HR0.out HB.out) | (with_reducible refine Kd.C_alloc ?_ _) | (with_reducible refine Kd.C_drewN ?_ _) | (with_reducible refine Kd.C_drew ?_))); (case aB => exact (by repeat (first | (with_reducible first | exact HB.out | apply pbA | apply pbN | apply pbD) | exact HB.out))); (case aF => exact (fun _ _ => trivial)); (case aO => exact ((Kd.R_nil _ _ _ _ (fun _ => True)))); (case aS => exact (pbZ (by repeat (first | (with_reducible first | exact HB.out | apply pbA | apply pbN | apply pbD) | exact HB.out)))); (case aL => have := LMc17.out; omega); intro v366 w24 ho hb hg hat; rw [← Ny365.out] at ho; have n0_ := Aside0.mk (Kd.S_grown (by (with_reducible repeat (first | apply Kd.S_alloc | apply Kd.S_drewN | apply Kd.S_drew)); exact HO_7.out) hg (fun _ _ => by simp [Value.ownBlock])); have n1_ := Aside0.mk (hb); have n2_ := Aside0.mk (ho); clear HO_7; clear HB; have HO_7 := n0_; have HB := n1_; have HO367 := n2_; clear n0_ n1_ n2_; clear ho hb hg hat) | ((with_reducible refine gate_builtin (b := .append) (xs := #[.const (.slice none 0 0), .tmp 29]) rfl ?_); at_builtin; refine Kd.R_append_rows k54 (w0 := w) w.heap.size rfl (.const (.slice none 0 0)) (.tmp 29) 42 54 (.agg #[(.int .i64 0), (.int .i64 0), (.int .i64 0), (.int .i64 0), (.int .i64 0), (.int .i64 0)]) 48 rfl Try.underlying42 info54 rfl (by decide) (by omega) (.slice none 0 0) ([] : List (S54)) l1 _ _ _ (fun k_ => some k_ ≠ (v366 : Value).ownBlock) (fun _ => False) rfl rfl ?aO ?aR (fun _ _ h => h) (fun _ h => h.elim) ?aF ?aB ?aS ?aL ?_; (case aR => repeat (first | exact (Kd.C_below HR1.out HB.out) | (with_reducible refine Kd.C_alloc ?_ _) | (with_reducible refine Kd.C_drewN ?_ _) | (with_reducible refine Kd.C_drew ?_))); (case aB => exact (by repeat (first | (with_reducible first | exact HB.out | apply pbA | apply pbN | apply pbD) | exact HB.out))); (case aF => exact (fun k_ hk => Kd.fresh' (Kd.R_lt (by (with_reducible repeat (first | apply Kd.R_alloc | apply Kd.R_drewN | apply Kd.R_drew)); exact HO367.out)) k_ hk)); (case aO => exact ((Kd.R_nil _ _ _ _ (fun k_ => some k_ ≠ (v366 : Value).ownBlock)))); (case aS => exact (pbZ (by repeat (first | (with_reducible first | exact HB.out | apply pbA | apply pbN | apply pbD) | exact HB.out)))); (case aL => have := LMc18.out; omega); intro v369 w25 ho hb hg hat; rw [← Ny368.out] at ho; have n0_ := Aside0.mk (Kd.S_grown (by (with_reducible repeat (first | apply Kd.S_alloc | apply Kd.S_drewN | apply Kd.S_drew)); exact HO_7.out) hg (fun _ _ => by simp [Value.ownBlock])); have n1_ := Aside0.mk (Kd.R_after (Kd.R_apart_nil (by (with_reducible repeat (first | apply Kd.R_alloc | apply Kd.R_drewN | apply Kd.R_drew)); exact HO367.out)) hg hat); have n2_ := Aside0.mk (hb); have n3_ := Aside0.mk (ho); clear HO_7; clear HO367; clear HB; have HO_7 := n0_; have HO367 := n1_; have HB := n2_; have HO370 := n3_; clear n0_ n1_ n2_ n3_; clear ho hb hg hat; obtain ⟨Ao26, co26, eo26⟩ := Kd.R_slice HO367.out; subst eo26; obtain ⟨Ao27, co27, eo27⟩ := Kd.R_slice HO370.out; subst eo27; obtain ⟨Ao28, co28, eo28⟩ := Kd.S_slice HO_7.out; subst eo28) | ((with_reducible refine gate_callee (f := 43) rfl ?_); refine goesL_ (some 32) rfl rfl Try.func43 (by kernel_rfl) rfl #[.slice Ao26 y365.length co26, .slice Ao27 y368.length co27, .slice Ao28 t358.length co28] rfl (by (try simp only [List.map_toArray, List.map_cons, List.map_nil]); first | done | rfl | (simp only [List.length_drop, List.length_take]; rfl)) ?_; (with_reducible refine (repaint_Changed.calls kj4 _ _ y365 _ _ y368 _ _ t358 t371 _ ?side1 ?side2 ?side3 ?side4 ?side5 ?side6 A19.out).mono ?_); (case side1 => repeat (first | exact (Kd.R_reads' HO367.out).2.2 | (with_reducible refine Kd.C_alloc ?_ _) | (with_reducible refine Kd.C_drewN ?_ _) | (with_reducible refine Kd.C_drew ?_))); (case side2 => exact (Kd.R_reads' HO367.out).2.1); (case side3 => repeat (first | exact (Kd.R_reads' HO370.out).2.2 | (with_reducible refine Kd.C_alloc ?_ _) | (with_reducible refine Kd.C_drewN ?_ _) | (with_reducible refine Kd.C_drew ?_))); (case side4 => exact (Kd.R_reads' HO370.out).2.1); (case side5 => repeat (first | exact (Kd.S_reads' HO_7.out).2.2 | (with_reducible refine Kd.C_alloc ?_ _) | (with_reducible refine Kd.C_drewN ?_ _) | (with_reducible refine Kd.C_drew ?_))); (case side6 => exact (Kd.S_reads' HO_7.out).2.1); rintro e w29 ⟨v372, rfl, ho0, hb⟩; refine ⟨_, rfl, ?_⟩; have n0_ := Aside0.mk (Kd.S_below (by (with_reducible repeat (first | apply Kd.S_alloc | apply Kd.S_drewN | apply Kd.S_drew)); exact HO_7.out) hb); have n1_ := Aside0.mk (Kd.R_below (by (with_reducible repeat (first | apply Kd.R_alloc | apply Kd.R_drewN | apply Kd.R_drew)); exact HO367.out) hb); have n2_ := Aside0.mk (Kd.R_below (by (with_reducible repeat (first | apply Kd.R_alloc | apply Kd.R_drewN | apply Kd.R_drew)); exact HO370.out) hb); have n3_ := Aside0.mk (Kd.V_lower (Kd.V_mono (ok' := fun k_ => some k_ ≠ (.slice Ao28 t358.length co28 : Value).ownBlock ∧ some k_ ≠ (.slice Ao26 y365.length co26 : Value).ownBlock ∧ some k_ ≠ (.slice Ao27 y368.length co27 : Value).ownBlock) ho0 (fun k_ hk_ => ⟨(Kd.fresh' (Kd.S_lt (by (with_reducible repeat (first | apply Kd.S_alloc | apply Kd.S_drewN | apply Kd.S_drew)); exact HO_7.out)) k_ hk_), (Kd.fresh' (Kd.R_lt (by (with_reducible repeat (first | apply Kd.R_alloc | apply Kd.R_drewN | apply Kd.R_drew)); exact HO367.out)) k_ hk_), (Kd.fresh' (Kd.R_lt (by (with_reducible repeat (first | apply Kd.R_alloc | apply Kd.R_drewN | apply Kd.R_drew)); exact HO370.out)) k_ hk_)⟩)) (pbZ (by repeat (first | (with_reducible first | exact HB.out | apply pbA | apply pbN | apply pbD) | exact HB.out)))); have n4_ := Aside0.mk (pbP (by repeat (first | (with_reducible first | exact HB.out | apply pbA | apply pbN | apply pbD) | exact HB.out)) hb); clear HO_7; clear HO367; clear HO370; clear HB; have HO_7 := n0_; have HO367 := n1_; have HO370 := n2_; have HO373 := n3_; have HB := n4_; clear n0_ n1_ n2_ n3_ n4_; (try clear hb); (try clear hb2); (try clear hk); (try clear hi); (try clear ho0)) | ((with_reducible refine gate_callee (f := 44) rfl ?_); refine goesL_ (some 36) rfl rfl Try.func44 (by kernel_rfl) rfl #[.slice A0 l0.length c0, .slice A1 l1.length c1, .slice A2 l2.length c2] rfl (by (try simp only [List.map_toArray, List.map_cons, List.map_nil]); first | done | rfl | (simp only [List.length_drop, List.length_take]; rfl)) ?_; (with_reducible refine (tableauref24_Changed.calls kj4 _ _ l0 _ _ l1 _ _ l2 t374 _ ?side1 ?side2 ?side3 ?side4 ?side5 ?side6 A20.out).mono ?_); (case side1 => repeat (first | exact (Kd.C_below HR0.out HB.out) | (with_reducible refine Kd.C_alloc ?_ _) | (with_reducible refine Kd.C_drewN ?_ _) | (with_reducible refine Kd.C_drew ?_))); (case side2 => exact HC0.out); (case side3 => repeat (first | exact (Kd.C_below HR1.out HB.out) | (with_reducible refine Kd.C_alloc ?_ _) | (with_reducible refine Kd.C_drewN ?_ _) | (with_reducible refine Kd.C_drew ?_))); (case side4 => exact HC1.out); (case side5 => repeat (first | exact (Kd.C_below HR2.out HB.out) | (with_reducible refine Kd.C_alloc ?_ _) | (with_reducible refine Kd.C_drewN ?_ _) | (with_reducible refine Kd.C_drew ?_))); (case side6 => exact HC2.out); rintro e w30 ⟨v375, rfl, ho0, hb⟩; refine ⟨_, rfl, ?_⟩; have n0_ := Aside0.mk (Kd.S_elder' (by (with_reducible repeat (first | apply Kd.S_alloc | apply Kd.S_drewN | apply Kd.S_drew)); exact HO_7.out) (Kd.R_base ho0) hb); have n1_ := Aside0.mk (Kd.R_below (by (with_reducible repeat (first | apply Kd.R_alloc | apply Kd.R_drewN | apply Kd.R_drew)); exact HO367.out) hb); have n2_ := Aside0.mk (Kd.R_below (by (with_reducible repeat (first | apply Kd.R_alloc | apply Kd.R_drewN | apply Kd.R_drew)); exact HO370.out) hb); have n3_ := Aside0.mk (Kd.V_elder' (by (with_reducible repeat (first | apply Kd.V_alloc | apply Kd.V_drewN | apply Kd.V_drew)); exact HO373.out) (Kd.R_base ho0) hb); have n4_ := Aside0.mk (Kd.R_lower ho0 (pbZ (by repeat (first | (with_reducible first | exact HB.out | apply pbA | apply pbN | apply pbD) | exact HB.out)))); have n5_ := Aside0.mk (pbP (by repeat (first | (with_reducible first | exact HB.out | apply pbA | apply pbN | apply pbD) | exact HB.out)) hb); clear HO_7; clear HO367; clear HO370; clear HO373; clear HB; have HO_7 := n0_; have HO367 := n1_; have HO370 := n2_; have HO373 := n3_; have HO376 := n4_; have HB := n5_; clear n0_ n1_ n2_ n3_ n4_ n5_; (try clear hb); (try clear hb2); (try clear hk); (try clear hi); (try clear ho0); obtain ⟨Ao31, co31, eo31⟩ := Kd.V_slice HO373.out; subst eo31; obtain ⟨Ao32, co32, eo32⟩ := Kd.R_slice HO376.out; subst eo32) | ((with_reducible refine gate_callee (f := 20) rfl ?_); refine goesL_ (some 37) rfl rfl Try.func20 (by kernel_rfl) rfl #[.slice Ao31 t371.length co31, .slice Ao32 t374.length co32] rfl (by (try simp only [List.map_toArray, List.map_cons, List.map_nil]); first | done | rfl | (simp only [List.length_drop, List.length_take]; rfl)) ?_; (with_reducible refine (tableaulaw00_SameRects.calls kj4 _ _ t371 _ _ t374 true _ ?side1 ?side2 ?side3 ?side4 A21.out).mono ?_); (case side1 => repeat (first | exact (Kd.V_reads' HO373.out).2.2 | (with_reducible refine Kd.C_alloc ?_ _) | (with_reducible refine Kd.C_drewN ?_ _) | (with_reducible refine Kd.C_drew ?_))); (case side2 => exact (Kd.V_reads' HO373.out).2.1); (case side3 => repeat (first | exact (Kd.R_reads' HO376.out).2.2 | (with_reducible refine Kd.C_alloc ?_ _) | (with_reducible refine Kd.C_drewN ?_ _) | (with_reducible refine Kd.C_drew ?_))); (case side4 => exact (Kd.R_reads' HO376.out).2.1); rintro e w' ⟨rfl, ⟨nd, rfl⟩⟩; refine ⟨_, rfl, ?_⟩) | (go_at_call 42; (with_reducible refine (tableaulaw24_awake.calls kj4  t378 _ A23.out).mono ?_); rintro e w33 ⟨rfl, hb⟩; have n0_ := Aside0.mk (Kd.S_below (by (with_reducible repeat (first | apply Kd.S_alloc | apply Kd.S_drewN | apply Kd.S_drew)); exact HO_7.out) hb); have n1_ := Aside0.mk (Kd.R_below (by (with_reducible repeat (first | apply Kd.R_alloc | apply Kd.R_drewN | apply Kd.R_drew)); exact HO367.out) hb); have n2_ := Aside0.mk (Kd.R_below (by (with_reducible repeat (first | apply Kd.R_alloc | apply Kd.R_drewN | apply Kd.R_drew)); exact HO370.out) hb); have n3_ := Aside0.mk (Kd.V_below (by (with_reducible repeat (first | apply Kd.V_alloc | apply Kd.V_drewN | apply Kd.V_drew)); exact HO373.out) hb); have n4_ := Aside0.mk (Kd.R_below (by (with_reducible repeat (first | apply Kd.R_alloc | apply Kd.R_drewN | apply Kd.R_drew)); exact HO376.out) hb); have n5_ := Aside0.mk (pbP (by repeat (first | (with_reducible first | exact HB.out | apply pbA | apply pbN | apply pbD) | exact HB.out)) hb); clear HO_7; clear HO367; clear HO370; clear HO373; clear HO376; clear HB; have HO_7 := n0_; have HO367 := n1_; have HO370 := n2_; have HO373 := n3_; have HO376 := n4_; have HB := n5_; clear n0_ n1_ n2_ n3_ n4_ n5_; (try clear hb); (try clear hb2); (try clear hk); (try clear hi)))
           go_ret
           exact ⟨by first | rfl | (simp [errW_none, errW_some] <;> rfl) | (simp [*, errW_none, errW_some] <;> rfl), by repeat (first | (with_reducible first | exact HB.out | apply pbA | apply pbN | apply pbD) | exact HB.out)⟩
         · replace c22 := Bool.eq_false_iff.mpr c22
           subst c22
           have H1 : (some false) = some r := by rw [if_neg (show ¬ (false = true) by decide)] at H; exact H
           clear H
           have H := H1
           clear H1
           exact absurd H (by rw [HT.out]; simp)
       · rw [if_neg c18] at H
         exact absurd H (by simp)
     · rw [if_neg c17] at H
       exact absurd H (by simp)


end Go.Proofs.Ytclpppejabfbbaa.PF
