-- Printed for this claim by a program over the kit's print.
import Derived.Test.YtogcokfildbodaaPDx0
import Derived.Test.YtogcokfildbodaaPDx2
import Derived.Test.YtogcokfildbodaaPDx3
namespace Go.Proofs.Ytogcokfildbodaa.PD
open Go.RowKit Go.Proofs.YtogcokfildbodaaW.PrintWords Go.Proofs.YtogcokfildbodaaW.PrintLast Go.Proofs.YtogcokfildbodaaW.PrintMore
attribute [local go_sem] max2_int min2_int max_two min_two max_three min_three max_four min_four   -- for this text's walks alone
set_option linter.unusedVariables false
set_option linter.unusedSimpArgs false

/-! ### tableaulaw09_DamageKeeps: function 9 -/
def tableaulaw09_DamageKeeps.l0 : Nat → List (S23) → Int → Int → Bool → Int → Int → Int → Int → Int → Option (Bool)
  | 0, _, _, _, _, _, _, _, _, _ => none
  | k + 1, x0, x9, x10, x11, x12, x185000, x185001, x185002, x185003 => if x12 < (x0.length : Int) then (if x11 = true then (tableaulaw09_DamageKeeps.l0 k x0 x9 x10 true (wrap64 (x12 + 1)) x185000 x185001 x185002 x185003) else (if 0 ≤ x12 then ((tableauref07_Has.f ((rd_T23 x0 x12).f0) ((rd_T23 x0 x12).f1) ((rd_T23 x0 x12).f2) ((rd_T23 x0 x12).f3) x9 x10).bind fun t189 => (tableaulaw09_DamageKeeps.l0 k x0 x9 x10 t189 (wrap64 (x12 + 1)) x185000 x185001 x185002 x185003)) else (none))) else ((tableauref07_Has.f x185000 x185001 x185002 x185003 x9 x10).bind fun t190 => ((damage_Add.f k x0 x185000 x185001 x185002 x185003).bind fun t191 => ((damage_Clip.f k x0 x185000 x185001 x185002 x185003).bind fun t194 => (if x11 = true then ((tableauref08_Has.f k t191 x9 x10).bind fun t197 => (if t197 = true then ((tableauref08_Has.f k t194 x9 x10).bind fun t198 => (if t190 = true then ((damage_Flat.f k x0).bind fun t199 => ((tableauref08_Has.f k t199 x9 x10).bind fun t202 => (if (t198 == t202) = true then ((tableauref08_Check.f k t191).bind fun t203 => (if t203 = true then ((tableauref08_Check.f k t194).bind fun t204 => (if t204 = true then (if (t191.length : Int) ≤ 40 then ((tableaulaw09_awake.f k).bind fun t205 => (some t205)) else (some false)) else (some false))) else (some false))) else (some false)))) else (if (t198 == false) = true then ((tableauref08_Check.f k t191).bind fun t206 => (if t206 = true then ((tableauref08_Check.f k t194).bind fun t207 => (if t207 = true then (if (t191.length : Int) ≤ 40 then ((tableaulaw09_awake.f k).bind fun t208 => (some t208)) else (some false)) else (some false))) else (some false))) else (some false)))) else (some false))) else (if t190 = true then ((tableauref08_Has.f k t191 x9 x10).bind fun t209 => (if t209 = true then ((tableauref08_Has.f k t194 x9 x10).bind fun t210 => ((damage_Flat.f k x0).bind fun t211 => ((tableauref08_Has.f k t211 x9 x10).bind fun t214 => (if (t210 == t214) = true then ((tableauref08_Check.f k t191).bind fun t215 => (if t215 = true then ((tableauref08_Check.f k t194).bind fun t216 => (if t216 = true then (if (t191.length : Int) ≤ 40 then ((tableaulaw09_awake.f k).bind fun t217 => (some t217)) else (some false)) else (some false))) else (some false))) else (some false))))) else (some false))) else ((tableauref08_Has.f k t194 x9 x10).bind fun t218 => (if (t218 == false) = true then ((tableauref08_Check.f k t191).bind fun t219 => (if t219 = true then ((tableauref08_Check.f k t194).bind fun t220 => (if t220 = true then (if (t191.length : Int) ≤ 40 then ((tableaulaw09_awake.f k).bind fun t221 => (some t221)) else (some false)) else (some false))) else (some false))) else (some false))))))))
def tableaulaw09_DamageKeeps.f (k : Nat) (l0 : List (S23)) (a1_0 : Int) (a1_1 : Int) (a1_2 : Int) (a1_3 : Int) (a2 : Int) (a3 : Int) : Option (Bool) := if (l0.length : Int) > 12 then ((tableaulaw09_awake.f k).bind fun t185 => (some t185)) else ((tableaulaw00_Place.f a2 33554432).bind fun t186 => ((tableaulaw00_Place.f a3 33554432).bind fun t187 => (tableaulaw09_DamageKeeps.l0 k l0 (wrap64 (t186 - 16777216)) (wrap64 (t187 - 16777216)) false 0 a1_0 a1_1 a1_2 a1_3)))
theorem tableaulaw09_DamageKeeps.mono_l : ∀ k, (∀ y0 y1 y2 y3 y4 y5 y6 y7 y8, LeO (tableaulaw09_DamageKeeps.l0 k y0 y1 y2 y3 y4 y5 y6 y7 y8) (tableaulaw09_DamageKeeps.l0 (k + 1) y0 y1 y2 y3 y4 y5 y6 y7 y8))
  | 0 => fun _ _ _ _ _ _ _ _ _ r h => by simp [tableaulaw09_DamageKeeps.l0] at h
  | k + 1 => by
    have ih0 := tableaulaw09_DamageKeeps.mono_l k
    · intro y0 y1 y2 y3 y4 y5 y6 y7 y8
      unfold tableaulaw09_DamageKeeps.l0
      repeat' first
      | (with_reducible exact ih0 _ _ _ _ _ _ _ _ _)
      | (with_reducible exact damage_Add.mono _ _ _ _ _ _)
      | (with_reducible exact damage_Clip.mono _ _ _ _ _ _)
      | (with_reducible exact damage_Flat.mono _ _)
      | (with_reducible exact tableaulaw09_awake.mono _)
      | (with_reducible exact tableauref08_Check.mono _ _)
      | (with_reducible exact tableauref08_Has.mono _ _ _ _)
      | (with_reducible exact LeO.refl _)
      | (with_reducible exact LeO.none _)
      | (with_reducible refine LeO.ite ?_ ?_)
      | (with_reducible refine LeO.bind ?_ (fun _ => ?_))
      | exact ih0 _ _ _ _ _ _ _ _ _
      | exact damage_Add.mono _ _ _ _ _ _
      | exact damage_Clip.mono _ _ _ _ _ _
      | exact damage_Flat.mono _ _
      | exact tableaulaw09_awake.mono _
      | exact tableauref08_Check.mono _ _
      | exact tableauref08_Has.mono _ _ _ _
      | exact LeO.none _
      | refine LeO.ite ?_ ?_
      | refine LeO.bind ?_ (fun _ => ?_)
theorem tableaulaw09_DamageKeeps.mono : ∀ a0 a1 a2 a3 a4 a5 a6 k, LeO (tableaulaw09_DamageKeeps.f k a0 a1 a2 a3 a4 a5 a6) (tableaulaw09_DamageKeeps.f (k + 1) a0 a1 a2 a3 a4 a5 a6) := by
  intro a0 a1 a2 a3 a4 a5 a6 k
  have ih0 := tableaulaw09_DamageKeeps.mono_l k
  unfold tableaulaw09_DamageKeeps.f
  repeat' first
      | (with_reducible exact ih0 _ _ _ _ _ _ _ _ _)
      | (with_reducible exact damage_Add.mono _ _ _ _ _ _)
      | (with_reducible exact damage_Clip.mono _ _ _ _ _ _)
      | (with_reducible exact damage_Flat.mono _ _)
      | (with_reducible exact tableaulaw09_awake.mono _)
      | (with_reducible exact tableauref08_Check.mono _ _)
      | (with_reducible exact tableauref08_Has.mono _ _ _ _)
      | (with_reducible exact LeO.refl _)
      | (with_reducible exact LeO.none _)
      | (with_reducible refine LeO.ite ?_ ?_)
      | (with_reducible refine LeO.bind ?_ (fun _ => ?_))
      | exact ih0 _ _ _ _ _ _ _ _ _
      | exact damage_Add.mono _ _ _ _ _ _
      | exact damage_Clip.mono _ _ _ _ _ _
      | exact damage_Flat.mono _ _
      | exact tableaulaw09_awake.mono _
      | exact tableauref08_Check.mono _ _
      | exact tableauref08_Has.mono _ _ _ _
      | exact LeO.none _
      | refine LeO.ite ?_ ?_
      | refine LeO.bind ?_ (fun _ => ?_)
def tableaulaw09_DamageKeeps.T10 : Bool × List (List Nat × List Nat) := (true, [([], []), ([], []), ([0, 1], [0, 1]), ([], []), ([], []), ([3, 4, 2], [3, 4]), ([2, 5, 0, 1, 2], [2]), ([5, 6, 0, 1, 2, 3, 4, 5, 6], [5])])
def tableaulaw09_DamageKeeps.B10 : List Nat := [0, 0, 3, 0, 0, 31, 63, 127]
theorem tableaulaw09_DamageKeeps.tab10 : rtab .any (opsOf Try.f9 10) = tableaulaw09_DamageKeeps.T10 := by kernel_rfl
theorem tableaulaw09_DamageKeeps.bits10 : waitsOk tableaulaw09_DamageKeeps.T10.2 tableaulaw09_DamageKeeps.B10 = true := by kernel_rfl
set_option maxHeartbeats 8000000 in
set_option maxRecDepth 100000 in
theorem tableaulaw09_DamageKeeps.calls (k : Nat) (A0 : Option Addr) (c0 : Nat) (l0 : List (S23)) (a1_0 : Int) (a1_1 : Int) (a1_2 : Int) (a1_3 : Int) (a2 : Int) (a3 : Int) (r : Bool) (w : World) (hr0 : Kd.C k23 w A0 l0.length l0) (hc0 : l0.length ≤ c0) (h : tableaulaw09_DamageKeeps.f k l0 a1_0 a1_1 a1_2 a1_3 a2 a3 = some r) (hT : r = true) :
    Calls Try.prog 9 #[.slice A0 l0.length c0, .agg #[.int .i64 a1_0, .int .i64 a1_1, .int .i64 a1_2, .int .i64 a1_3], .int .i64 a2, .int .i64 a3] w fun e w' => e = .returned (.bool r) ∧ Below w.heap.size w w' := by
  have HT := Aside0.mk hT
  clear hT
  have hu23 := Try.underlying23
  have HR0 := Aside0.mk hr0
  have HC0 := Aside0.mk hc0
  clear hr0 hc0
  have HB := Aside0.mk (Below.refl w.heap.size w)
  have H : (if (l0.length : Int) > 12 then ((tableaulaw09_awake.f k).bind fun t185 => (some t185)) else ((tableaulaw00_Place.f a2 33554432).bind fun t186 => ((tableaulaw00_Place.f a3 33554432).bind fun t187 => (tableaulaw09_DamageKeeps.l0 k l0 (wrap64 (t186 - 16777216)) (wrap64 (t187 - 16777216)) false 0 a1_0 a1_1 a1_2 a1_3)))) = some r := h
  clear h
  by_cases c5 : (l0.length : Int) > 12
  · rw [if_pos c5] at H
    have c5b0 : decide (12 < (l0.length : Int)) = true := decide_eq_true c5
    have c5b1 : decide (12 < l0.length) = true := decide_eq_true (by omega)
    clear c5
    replace H := Option.bind_eq_some_iff.mp H
    obtain ⟨t185, A60, H⟩ := H
    replace H : (some t185) = some r := H
    have A6 := Aside0.mk A60
    clear A60
    obtain rfl := Option.some.inj H
    go_enter Try.func9, Try.ntmps9
    go_wp2_with (first | ((with_reducible refine gate_dst (N := 5) rfl ?_); (try (refine gate_guard (by rfl) ?_; dsimp only)); refine box_event ?hg (N := 5) ?hd (cs := #[.int .i64 a1_0, .int .i64 a1_1, .int .i64 a1_2, .int .i64 a1_3]) (t := 23) ?hr ?_; (case hd => rfl); (case hg => rfl); (case hr => first | (go_simp; done) | (go_simp; rfl)); intro gb184 hg w7 hbox hb; have n0_ := Aside0.mk (below_step (by repeat (first | (with_reducible first | exact HB.out | apply below_alloc | apply pw_below_drewN | apply below_drew1) | exact HB.out)) hb); have n1_ := Aside0.mk (hbox); have n2_ := Aside0.mk ((by rw [hg]; exact (below_size (by repeat (first | (with_reducible first | exact HB.out | apply below_alloc | apply pw_below_drewN | apply below_drew1) | exact HB.out))) : w.heap.size ≤ gb184)); have n3_ := Aside0.mk ((by rw [hg]; exact (below_size (by repeat (first | (with_reducible first | exact HB.out | apply below_alloc | apply pw_below_drewN | apply below_drew1) | exact HB.out))) : w.heap.size ≤ gb184)); clear HB; have HB := n0_; have BK184 := n1_; have GW184 := n2_; have GE184 := n3_; clear n0_ n1_ n2_ n3_; clear hb hbox hg) | ((with_reducible refine gate_callee (f := 30) rfl ?_); refine goesL_ (some 19) rfl rfl Try.func30 (by kernel_rfl) rfl #[] rfl (by (try simp only [List.map_toArray, List.map_cons, List.map_nil]); first | done | rfl | (simp only [List.length_drop, List.length_take]; rfl)) ?_; (with_reducible refine (tableaulaw09_awake.calls k  t185 _ A6.out).mono ?_); rintro e w8 ⟨rfl, hb⟩; refine ⟨_, rfl, ?_⟩; have n0_ := Aside0.mk (blk_below (g := gb184) (o := .cells #[.int .i64 a1_0, .int .i64 a1_1, .int .i64 a1_2, .int .i64 a1_3] 23 (0, 0)) (by (with_reducible repeat (first | refine blk_drewN ?_ _ | refine blk_drew ?_ | refine blk_alloc ?_ _)); exact BK184.out) hb); have n1_ := Aside0.mk (below_step (by repeat (first | (with_reducible first | exact HB.out | apply below_alloc | apply pw_below_drewN | apply below_drew1 | refine below_set ?_ GE184.out) | exact HB.out)) hb); clear BK184; clear HB; have BK184 := n0_; have HB := n1_; clear n0_ n1_; (try clear hb); (try clear hb2); (try clear hk); (try clear hi)))
    go_ret
    exact ⟨by first | rfl | (simp [errW_none, errW_some] <;> rfl) | (simp [*, errW_none, errW_some] <;> rfl), by repeat (first | (with_reducible first | exact HB.out | apply below_alloc | apply pw_below_drewN | apply below_drew1 | refine below_set ?_ GE184.out) | exact HB.out)⟩
  · rw [if_neg c5] at H
    have c5b0 : decide (12 < (l0.length : Int)) = false := decide_eq_false c5
    have c5b1 : decide (12 < l0.length) = false := decide_eq_false (by omega)
    clear c5
    replace H := Option.bind_eq_some_iff.mp H
    obtain ⟨t186, A90, H⟩ := H
    replace H : ((tableaulaw00_Place.f a3 33554432).bind fun t187 => (tableaulaw09_DamageKeeps.l0 k l0 (wrap64 (t186 - 16777216)) (wrap64 (t187 - 16777216)) false 0 a1_0 a1_1 a1_2 a1_3)) = some r := H
    have A9 := Aside0.mk A90
    clear A90
    replace H := Option.bind_eq_some_iff.mp H
    obtain ⟨t187, A100, H⟩ := H
    replace H : (tableaulaw09_DamageKeeps.l0 k l0 (wrap64 (t186 - 16777216)) (wrap64 (t187 - 16777216)) false 0 a1_0 a1_1 a1_2 a1_3) = some r := H
    have A10 := Aside0.mk A100
    clear A100
    have H' := Aside0.mk H
    clear H
    go_enter Try.func9, Try.ntmps9
    go_wp2_with (first | ((with_reducible refine gate_dst (N := 5) rfl ?_); (try (refine gate_guard (by rfl) ?_; dsimp only)); refine box_event ?hg (N := 5) ?hd (cs := #[.int .i64 a1_0, .int .i64 a1_1, .int .i64 a1_2, .int .i64 a1_3]) (t := 23) ?hr ?_; (case hd => rfl); (case hg => rfl); (case hr => first | (go_simp; done) | (go_simp; rfl)); intro gb184 hg w11 hbox hb; have n0_ := Aside0.mk (below_step (by repeat (first | (with_reducible first | exact HB.out | apply below_alloc | apply pw_below_drewN | apply below_drew1) | exact HB.out)) hb); have n1_ := Aside0.mk (hbox); have n2_ := Aside0.mk ((by rw [hg]; exact (below_size (by repeat (first | (with_reducible first | exact HB.out | apply below_alloc | apply pw_below_drewN | apply below_drew1) | exact HB.out))) : w.heap.size ≤ gb184)); have n3_ := Aside0.mk ((by rw [hg]; exact (below_size (by repeat (first | (with_reducible first | exact HB.out | apply below_alloc | apply pw_below_drewN | apply below_drew1) | exact HB.out))) : w.heap.size ≤ gb184)); clear HB; have HB := n0_; have BK184 := n1_; have GW184 := n2_; have GE184 := n3_; clear n0_ n1_ n2_ n3_; clear hb hbox hg) | ((with_reducible refine gate_callee (f := 24) rfl ?_); refine goesL_ (some 21) rfl rfl Try.func24 (by kernel_rfl) rfl #[.int .i64 a2, .int .i64 33554432] rfl (by (try simp only [List.map_toArray, List.map_cons, List.map_nil]); first | done | rfl | (simp only [List.length_drop, List.length_take]; rfl)) ?_; (with_reducible refine (tableaulaw00_Place.calls a2 33554432 t186 _ A9.out).mono ?_); rintro e w' ⟨rfl, ⟨nd, rfl⟩⟩; refine ⟨_, rfl, ?_⟩) | ((with_reducible refine gate_callee (f := 24) rfl ?_); refine goesL_ (some 24) rfl rfl Try.func24 (by kernel_rfl) rfl #[.int .i64 a3, .int .i64 33554432] rfl (by (try simp only [List.map_toArray, List.map_cons, List.map_nil]); first | done | rfl | (simp only [List.length_drop, List.length_take]; rfl)) ?_; (with_reducible refine (tableaulaw00_Place.calls a3 33554432 t187 _ A10.out).mono ?_); rintro e w' ⟨rfl, ⟨nd, rfl⟩⟩; refine ⟨_, rfl, ?_⟩))
    go_loopg [11, 12] k (fun kq v11 v12 w' => ∃ (x11_1 : Bool) (x12_1 : Int), v11 = .bool x11_1 ∧ v12 = .int .i64 x12_1 ∧ Aside0 (tableaulaw09_DamageKeeps.l0 kq l0 (wrap64 (t186 - 16777216)) (wrap64 (t187 - 16777216)) x11_1 x12_1 a1_0 a1_1 a1_2 a1_3 = some r) ∧ Aside0 (kq ≤ k) ∧ Aside0 (w'.heap[gb184]? = some (.cells #[.int .i64 a1_0, .int .i64 a1_1, .int .i64 a1_2, .int .i64 a1_3] 23 (0, 0))) ∧ Aside0 (Below w.heap.size w w'))
    case atStart => exact ⟨(false), (0), (by first | rfl | (simp; done) | (simp [*]; done)), (by first | rfl | (simp; done) | (simp [*]; done)), H', ⟨Nat.le_refl _⟩, ⟨by (with_reducible repeat (first | refine blk_drewN ?_ _ | refine blk_drew ?_ | refine blk_alloc ?_ _)); exact BK184.out⟩, ⟨by repeat (first | (with_reducible first | exact HB.out | apply below_alloc | apply pw_below_drewN | apply below_drew1 | refine below_set ?_ GE184.out) | exact HB.out)⟩⟩
    case round =>
      clear H'
      try clear c2
      try clear p2
      try clear c3
      try clear c5
      try clear c5b0
      try clear c5b1
      try clear p6
      try clear c9
      obtain ⟨x11_1, x12_1, rfl, rfl, HA, HK1, BK184, HB⟩ := hrel
      cases gk with
      | zero => exact absurd HA.out (by simp [tableaulaw09_DamageKeeps.l0])
      | succ k1 =>
        have H := HA.out
        clear HA
        simp only [tableaulaw09_DamageKeeps.l0] at H
        by_cases c12 : x12_1 < (l0.length : Int)
        · rw [if_pos c12] at H
          have c12b0 : decide (x12_1 < (l0.length : Int)) = true := decide_eq_true c12
          clear c12
          by_cases c13 : x11_1 = true
          · subst c13
            have H1 : (tableaulaw09_DamageKeeps.l0 k1 l0 (wrap64 (t186 - 16777216)) (wrap64 (t187 - 16777216)) true (wrap64 (x12_1 + 1)) a1_0 a1_1 a1_2 a1_3) = some r := by rw [if_pos rfl] at H; exact H
            clear H
            have H := H1
            clear H1
            have H' := Aside0.mk H
            clear H
            go_wp2
            go_roundg k1
            case measure => have := HK1.out; omega
            case rel => exact ⟨(true), (wrap64 (x12_1 + 1)), (by first | rfl | (simp; done) | (simp [*]; done)), (by first | rfl | (simp; done) | (simp [*]; done)), H', ⟨by have := HK1.out; omega⟩, ⟨by (with_reducible repeat (first | refine blk_drewN ?_ _ | refine blk_drew ?_ | refine blk_alloc ?_ _)); exact BK184.out⟩, ⟨by repeat (first | (with_reducible first | exact HB.out | apply below_alloc | apply pw_below_drewN | apply below_drew1 | refine below_set ?_ GE184.out) | exact HB.out)⟩⟩
          · replace c13 := Bool.eq_false_iff.mpr c13
            subst c13
            have H1 : (if 0 ≤ x12_1 then ((tableauref07_Has.f ((rd_T23 l0 x12_1).f0) ((rd_T23 l0 x12_1).f1) ((rd_T23 l0 x12_1).f2) ((rd_T23 l0 x12_1).f3) (wrap64 (t186 - 16777216)) (wrap64 (t187 - 16777216))).bind fun t189 => (tableaulaw09_DamageKeeps.l0 k1 l0 (wrap64 (t186 - 16777216)) (wrap64 (t187 - 16777216)) t189 (wrap64 (x12_1 + 1)) a1_0 a1_1 a1_2 a1_3)) else (none)) = some r := by rw [if_neg (show ¬ (false = true) by decide)] at H; exact H
            clear H
            have H := H1
            clear H1
            by_cases c14 : 0 ≤ x12_1
            · rw [if_pos c14] at H
              have c14b0 : decide (0 ≤ x12_1) = true := decide_eq_true c14
              clear c14
              replace H := Option.bind_eq_some_iff.mp H
              obtain ⟨t189, A150, H⟩ := H
              replace H : (tableaulaw09_DamageKeeps.l0 k1 l0 (wrap64 (t186 - 16777216)) (wrap64 (t187 - 16777216)) t189 (wrap64 (x12_1 + 1)) a1_0 a1_1 a1_2 a1_3) = some r := H
              have A15 := Aside0.mk A150
              clear A150
              have H' := Aside0.mk H
              clear H
              have p188 : 0 ≤ (x12_1 : Int) := of_decide_eq_true (by first | (with_reducible assumption) | assumption)
              have q188 : x12_1 < (l0.length : Int) := of_decide_eq_true (by first | (with_reducible assumption) | assumption)
              obtain ⟨ad188, e188, hx188_0, hx188_1, hx188_2, hx188_3⟩ := at_T23 HR0.out x12_1 p188 q188
              cases e188
              replace hx188_0 := (HB.out.cell (World.block_lt_of_cell? w _ hx188_0)).trans hx188_0
              replace hx188_1 := (HB.out.cell (World.block_lt_of_cell? w _ hx188_1)).trans hx188_1
              replace hx188_2 := (HB.out.cell (World.block_lt_of_cell? w _ hx188_2)).trans hx188_2
              replace hx188_3 := (HB.out.cell (World.block_lt_of_cell? w _ hx188_3)).trans hx188_3
              replace p188 := eq_true p188
              replace q188 := eq_true q188
              go_wp2_with (first | (go_at_call 31; (with_reducible refine (tableauref07_Has.calls ((rd_T23 l0 x12_1).f0) ((rd_T23 l0 x12_1).f1) ((rd_T23 l0 x12_1).f2) ((rd_T23 l0 x12_1).f3) (wrap64 (t186 - 16777216)) (wrap64 (t187 - 16777216)) t189 _ A15.out).mono ?_); rintro e w16 ⟨rfl, hb⟩; have n0_ := Aside0.mk (blk_below (g := gb184) (o := .cells #[.int .i64 a1_0, .int .i64 a1_1, .int .i64 a1_2, .int .i64 a1_3] 23 (0, 0)) (by (with_reducible repeat (first | refine blk_drewN ?_ _ | refine blk_drew ?_ | refine blk_alloc ?_ _)); exact BK184.out) hb); have n1_ := Aside0.mk (below_step (by repeat (first | (with_reducible first | exact HB.out | apply below_alloc | apply pw_below_drewN | apply below_drew1 | refine below_set ?_ GE184.out) | exact HB.out)) hb); clear BK184; clear HB; have BK184 := n0_; have HB := n1_; clear n0_ n1_; (try clear hb); (try clear hb2); (try clear hk); (try clear hi)))
              go_roundg k1
              case measure => have := HK1.out; omega
              case rel => exact ⟨(t189), (wrap64 (x12_1 + 1)), (by first | rfl | (simp; done) | (simp [*]; done)), (by first | rfl | (simp; done) | (simp [*]; done)), H', ⟨by have := HK1.out; omega⟩, ⟨by (with_reducible repeat (first | refine blk_drewN ?_ _ | refine blk_drew ?_ | refine blk_alloc ?_ _)); exact BK184.out⟩, ⟨by repeat (first | (with_reducible first | exact HB.out | apply below_alloc | apply pw_below_drewN | apply below_drew1 | refine below_set ?_ GE184.out) | exact HB.out)⟩⟩
            · rw [if_neg c14] at H
              exact absurd H (by simp)
        · rw [if_neg c12] at H
          have c12b0 : decide (x12_1 < (l0.length : Int)) = false := decide_eq_false c12
          clear c12
          replace H := Option.bind_eq_some_iff.mp H
          obtain ⟨t190, A170, H⟩ := H
          replace H : ((damage_Add.f k1 l0 a1_0 a1_1 a1_2 a1_3).bind fun t191 => ((damage_Clip.f k1 l0 a1_0 a1_1 a1_2 a1_3).bind fun t194 => (if x11_1 = true then ((tableauref08_Has.f k1 t191 (wrap64 (t186 - 16777216)) (wrap64 (t187 - 16777216))).bind fun t197 => (if t197 = true then ((tableauref08_Has.f k1 t194 (wrap64 (t186 - 16777216)) (wrap64 (t187 - 16777216))).bind fun t198 => (if t190 = true then ((damage_Flat.f k1 l0).bind fun t199 => ((tableauref08_Has.f k1 t199 (wrap64 (t186 - 16777216)) (wrap64 (t187 - 16777216))).bind fun t202 => (if (t198 == t202) = true then ((tableauref08_Check.f k1 t191).bind fun t203 => (if t203 = true then ((tableauref08_Check.f k1 t194).bind fun t204 => (if t204 = true then (if (t191.length : Int) ≤ 40 then ((tableaulaw09_awake.f k1).bind fun t205 => (some t205)) else (some false)) else (some false))) else (some false))) else (some false)))) else (if (t198 == false) = true then ((tableauref08_Check.f k1 t191).bind fun t206 => (if t206 = true then ((tableauref08_Check.f k1 t194).bind fun t207 => (if t207 = true then (if (t191.length : Int) ≤ 40 then ((tableaulaw09_awake.f k1).bind fun t208 => (some t208)) else (some false)) else (some false))) else (some false))) else (some false)))) else (some false))) else (if t190 = true then ((tableauref08_Has.f k1 t191 (wrap64 (t186 - 16777216)) (wrap64 (t187 - 16777216))).bind fun t209 => (if t209 = true then ((tableauref08_Has.f k1 t194 (wrap64 (t186 - 16777216)) (wrap64 (t187 - 16777216))).bind fun t210 => ((damage_Flat.f k1 l0).bind fun t211 => ((tableauref08_Has.f k1 t211 (wrap64 (t186 - 16777216)) (wrap64 (t187 - 16777216))).bind fun t214 => (if (t210 == t214) = true then ((tableauref08_Check.f k1 t191).bind fun t215 => (if t215 = true then ((tableauref08_Check.f k1 t194).bind fun t216 => (if t216 = true then (if (t191.length : Int) ≤ 40 then ((tableaulaw09_awake.f k1).bind fun t217 => (some t217)) else (some false)) else (some false))) else (some false))) else (some false))))) else (some false))) else ((tableauref08_Has.f k1 t194 (wrap64 (t186 - 16777216)) (wrap64 (t187 - 16777216))).bind fun t218 => (if (t218 == false) = true then ((tableauref08_Check.f k1 t191).bind fun t219 => (if t219 = true then ((tableauref08_Check.f k1 t194).bind fun t220 => (if t220 = true then (if (t191.length : Int) ≤ 40 then ((tableaulaw09_awake.f k1).bind fun t221 => (some t221)) else (some false)) else (some false))) else (some false))) else (some false))))))) = some r := H
          have A17 := Aside0.mk A170
          clear A170
          replace H := Option.bind_eq_some_iff.mp H
          obtain ⟨t191, A180, H⟩ := H
          replace H : ((damage_Clip.f k1 l0 a1_0 a1_1 a1_2 a1_3).bind fun t194 => (if x11_1 = true then ((tableauref08_Has.f k1 t191 (wrap64 (t186 - 16777216)) (wrap64 (t187 - 16777216))).bind fun t197 => (if t197 = true then ((tableauref08_Has.f k1 t194 (wrap64 (t186 - 16777216)) (wrap64 (t187 - 16777216))).bind fun t198 => (if t190 = true then ((damage_Flat.f k1 l0).bind fun t199 => ((tableauref08_Has.f k1 t199 (wrap64 (t186 - 16777216)) (wrap64 (t187 - 16777216))).bind fun t202 => (if (t198 == t202) = true then ((tableauref08_Check.f k1 t191).bind fun t203 => (if t203 = true then ((tableauref08_Check.f k1 t194).bind fun t204 => (if t204 = true then (if (t191.length : Int) ≤ 40 then ((tableaulaw09_awake.f k1).bind fun t205 => (some t205)) else (some false)) else (some false))) else (some false))) else (some false)))) else (if (t198 == false) = true then ((tableauref08_Check.f k1 t191).bind fun t206 => (if t206 = true then ((tableauref08_Check.f k1 t194).bind fun t207 => (if t207 = true then (if (t191.length : Int) ≤ 40 then ((tableaulaw09_awake.f k1).bind fun t208 => (some t208)) else (some false)) else (some false))) else (some false))) else (some false)))) else (some false))) else (if t190 = true then ((tableauref08_Has.f k1 t191 (wrap64 (t186 - 16777216)) (wrap64 (t187 - 16777216))).bind fun t209 => (if t209 = true then ((tableauref08_Has.f k1 t194 (wrap64 (t186 - 16777216)) (wrap64 (t187 - 16777216))).bind fun t210 => ((damage_Flat.f k1 l0).bind fun t211 => ((tableauref08_Has.f k1 t211 (wrap64 (t186 - 16777216)) (wrap64 (t187 - 16777216))).bind fun t214 => (if (t210 == t214) = true then ((tableauref08_Check.f k1 t191).bind fun t215 => (if t215 = true then ((tableauref08_Check.f k1 t194).bind fun t216 => (if t216 = true then (if (t191.length : Int) ≤ 40 then ((tableaulaw09_awake.f k1).bind fun t217 => (some t217)) else (some false)) else (some false))) else (some false))) else (some false))))) else (some false))) else ((tableauref08_Has.f k1 t194 (wrap64 (t186 - 16777216)) (wrap64 (t187 - 16777216))).bind fun t218 => (if (t218 == false) = true then ((tableauref08_Check.f k1 t191).bind fun t219 => (if t219 = true then ((tableauref08_Check.f k1 t194).bind fun t220 => (if t220 = true then (if (t191.length : Int) ≤ 40 then ((tableaulaw09_awake.f k1).bind fun t221 => (some t221)) else (some false)) else (some false))) else (some false))) else (some false)))))) = some r := H
          have A18 := Aside0.mk A180
          clear A180
          replace H := Option.bind_eq_some_iff.mp H
          obtain ⟨t194, A190, H⟩ := H
          replace H : (if x11_1 = true then ((tableauref08_Has.f k1 t191 (wrap64 (t186 - 16777216)) (wrap64 (t187 - 16777216))).bind fun t197 => (if t197 = true then ((tableauref08_Has.f k1 t194 (wrap64 (t186 - 16777216)) (wrap64 (t187 - 16777216))).bind fun t198 => (if t190 = true then ((damage_Flat.f k1 l0).bind fun t199 => ((tableauref08_Has.f k1 t199 (wrap64 (t186 - 16777216)) (wrap64 (t187 - 16777216))).bind fun t202 => (if (t198 == t202) = true then ((tableauref08_Check.f k1 t191).bind fun t203 => (if t203 = true then ((tableauref08_Check.f k1 t194).bind fun t204 => (if t204 = true then (if (t191.length : Int) ≤ 40 then ((tableaulaw09_awake.f k1).bind fun t205 => (some t205)) else (some false)) else (some false))) else (some false))) else (some false)))) else (if (t198 == false) = true then ((tableauref08_Check.f k1 t191).bind fun t206 => (if t206 = true then ((tableauref08_Check.f k1 t194).bind fun t207 => (if t207 = true then (if (t191.length : Int) ≤ 40 then ((tableaulaw09_awake.f k1).bind fun t208 => (some t208)) else (some false)) else (some false))) else (some false))) else (some false)))) else (some false))) else (if t190 = true then ((tableauref08_Has.f k1 t191 (wrap64 (t186 - 16777216)) (wrap64 (t187 - 16777216))).bind fun t209 => (if t209 = true then ((tableauref08_Has.f k1 t194 (wrap64 (t186 - 16777216)) (wrap64 (t187 - 16777216))).bind fun t210 => ((damage_Flat.f k1 l0).bind fun t211 => ((tableauref08_Has.f k1 t211 (wrap64 (t186 - 16777216)) (wrap64 (t187 - 16777216))).bind fun t214 => (if (t210 == t214) = true then ((tableauref08_Check.f k1 t191).bind fun t215 => (if t215 = true then ((tableauref08_Check.f k1 t194).bind fun t216 => (if t216 = true then (if (t191.length : Int) ≤ 40 then ((tableaulaw09_awake.f k1).bind fun t217 => (some t217)) else (some false)) else (some false))) else (some false))) else (some false))))) else (some false))) else ((tableauref08_Has.f k1 t194 (wrap64 (t186 - 16777216)) (wrap64 (t187 - 16777216))).bind fun t218 => (if (t218 == false) = true then ((tableauref08_Check.f k1 t191).bind fun t219 => (if t219 = true then ((tableauref08_Check.f k1 t194).bind fun t220 => (if t220 = true then (if (t191.length : Int) ≤ 40 then ((tableaulaw09_awake.f k1).bind fun t221 => (some t221)) else (some false)) else (some false))) else (some false))) else (some false))))) = some r := H
          have A19 := Aside0.mk A190
          clear A190
          by_cases c20 : x11_1 = true
          · subst c20
            have H1 : ((tableauref08_Has.f k1 t191 (wrap64 (t186 - 16777216)) (wrap64 (t187 - 16777216))).bind fun t197 => (if t197 = true then ((tableauref08_Has.f k1 t194 (wrap64 (t186 - 16777216)) (wrap64 (t187 - 16777216))).bind fun t198 => (if t190 = true then ((damage_Flat.f k1 l0).bind fun t199 => ((tableauref08_Has.f k1 t199 (wrap64 (t186 - 16777216)) (wrap64 (t187 - 16777216))).bind fun t202 => (if (t198 == t202) = true then ((tableauref08_Check.f k1 t191).bind fun t203 => (if t203 = true then ((tableauref08_Check.f k1 t194).bind fun t204 => (if t204 = true then (if (t191.length : Int) ≤ 40 then ((tableaulaw09_awake.f k1).bind fun t205 => (some t205)) else (some false)) else (some false))) else (some false))) else (some false)))) else (if (t198 == false) = true then ((tableauref08_Check.f k1 t191).bind fun t206 => (if t206 = true then ((tableauref08_Check.f k1 t194).bind fun t207 => (if t207 = true then (if (t191.length : Int) ≤ 40 then ((tableaulaw09_awake.f k1).bind fun t208 => (some t208)) else (some false)) else (some false))) else (some false))) else (some false)))) else (some false))) = some r := by rw [if_pos rfl] at H; exact H
            clear H
            have H := H1
            clear H1
            replace H := Option.bind_eq_some_iff.mp H
            obtain ⟨t197, A210, H⟩ := H
            replace H : (if t197 = true then ((tableauref08_Has.f k1 t194 (wrap64 (t186 - 16777216)) (wrap64 (t187 - 16777216))).bind fun t198 => (if t190 = true then ((damage_Flat.f k1 l0).bind fun t199 => ((tableauref08_Has.f k1 t199 (wrap64 (t186 - 16777216)) (wrap64 (t187 - 16777216))).bind fun t202 => (if (t198 == t202) = true then ((tableauref08_Check.f k1 t191).bind fun t203 => (if t203 = true then ((tableauref08_Check.f k1 t194).bind fun t204 => (if t204 = true then (if (t191.length : Int) ≤ 40 then ((tableaulaw09_awake.f k1).bind fun t205 => (some t205)) else (some false)) else (some false))) else (some false))) else (some false)))) else (if (t198 == false) = true then ((tableauref08_Check.f k1 t191).bind fun t206 => (if t206 = true then ((tableauref08_Check.f k1 t194).bind fun t207 => (if t207 = true then (if (t191.length : Int) ≤ 40 then ((tableaulaw09_awake.f k1).bind fun t208 => (some t208)) else (some false)) else (some false))) else (some false))) else (some false)))) else (some false)) = some r := H
            have A21 := Aside0.mk A210
            clear A210
            by_cases c22 : t197 = true
            · subst c22
              have H1 : ((tableauref08_Has.f k1 t194 (wrap64 (t186 - 16777216)) (wrap64 (t187 - 16777216))).bind fun t198 => (if t190 = true then ((damage_Flat.f k1 l0).bind fun t199 => ((tableauref08_Has.f k1 t199 (wrap64 (t186 - 16777216)) (wrap64 (t187 - 16777216))).bind fun t202 => (if (t198 == t202) = true then ((tableauref08_Check.f k1 t191).bind fun t203 => (if t203 = true then ((tableauref08_Check.f k1 t194).bind fun t204 => (if t204 = true then (if (t191.length : Int) ≤ 40 then ((tableaulaw09_awake.f k1).bind fun t205 => (some t205)) else (some false)) else (some false))) else (some false))) else (some false)))) else (if (t198 == false) = true then ((tableauref08_Check.f k1 t191).bind fun t206 => (if t206 = true then ((tableauref08_Check.f k1 t194).bind fun t207 => (if t207 = true then (if (t191.length : Int) ≤ 40 then ((tableaulaw09_awake.f k1).bind fun t208 => (some t208)) else (some false)) else (some false))) else (some false))) else (some false)))) = some r := by rw [if_pos rfl] at H; exact H
              clear H
              have H := H1
              clear H1
              replace H := Option.bind_eq_some_iff.mp H
              obtain ⟨t198, A230, H⟩ := H
              replace H : (if t190 = true then ((damage_Flat.f k1 l0).bind fun t199 => ((tableauref08_Has.f k1 t199 (wrap64 (t186 - 16777216)) (wrap64 (t187 - 16777216))).bind fun t202 => (if (t198 == t202) = true then ((tableauref08_Check.f k1 t191).bind fun t203 => (if t203 = true then ((tableauref08_Check.f k1 t194).bind fun t204 => (if t204 = true then (if (t191.length : Int) ≤ 40 then ((tableaulaw09_awake.f k1).bind fun t205 => (some t205)) else (some false)) else (some false))) else (some false))) else (some false)))) else (if (t198 == false) = true then ((tableauref08_Check.f k1 t191).bind fun t206 => (if t206 = true then ((tableauref08_Check.f k1 t194).bind fun t207 => (if t207 = true then (if (t191.length : Int) ≤ 40 then ((tableaulaw09_awake.f k1).bind fun t208 => (some t208)) else (some false)) else (some false))) else (some false))) else (some false))) = some r := H
              have A23 := Aside0.mk A230
              clear A230
              by_cases c24 : t190 = true
              · subst c24
                have H1 : ((damage_Flat.f k1 l0).bind fun t199 => ((tableauref08_Has.f k1 t199 (wrap64 (t186 - 16777216)) (wrap64 (t187 - 16777216))).bind fun t202 => (if (t198 == t202) = true then ((tableauref08_Check.f k1 t191).bind fun t203 => (if t203 = true then ((tableauref08_Check.f k1 t194).bind fun t204 => (if t204 = true then (if (t191.length : Int) ≤ 40 then ((tableaulaw09_awake.f k1).bind fun t205 => (some t205)) else (some false)) else (some false))) else (some false))) else (some false)))) = some r := by rw [if_pos rfl] at H; exact H
                clear H
                have H := H1
                clear H1
                replace H := Option.bind_eq_some_iff.mp H
                obtain ⟨t199, A250, H⟩ := H
                replace H : ((tableauref08_Has.f k1 t199 (wrap64 (t186 - 16777216)) (wrap64 (t187 - 16777216))).bind fun t202 => (if (t198 == t202) = true then ((tableauref08_Check.f k1 t191).bind fun t203 => (if t203 = true then ((tableauref08_Check.f k1 t194).bind fun t204 => (if t204 = true then (if (t191.length : Int) ≤ 40 then ((tableaulaw09_awake.f k1).bind fun t205 => (some t205)) else (some false)) else (some false))) else (some false))) else (some false))) = some r := H
                have A25 := Aside0.mk A250
                clear A250
                replace H := Option.bind_eq_some_iff.mp H
                obtain ⟨t202, A260, H⟩ := H
                replace H : (if (t198 == t202) = true then ((tableauref08_Check.f k1 t191).bind fun t203 => (if t203 = true then ((tableauref08_Check.f k1 t194).bind fun t204 => (if t204 = true then (if (t191.length : Int) ≤ 40 then ((tableaulaw09_awake.f k1).bind fun t205 => (some t205)) else (some false)) else (some false))) else (some false))) else (some false)) = some r := H
                have A26 := Aside0.mk A260
                clear A260
                by_cases c27 : (t198 == t202) = true
                · rw [if_pos c27] at H
                  have c27b0 : (t198 == t202) = true := c27
                  (try (have c27b1 : decide (t198 = t202) = true := by simpa using c27))
                  (try (have c27b2 : (t198 == t202) = true := by simpa using c27))
                  clear c27
                  replace H := Option.bind_eq_some_iff.mp H
                  obtain ⟨t203, A280, H⟩ := H
                  replace H : (if t203 = true then ((tableauref08_Check.f k1 t194).bind fun t204 => (if t204 = true then (if (t191.length : Int) ≤ 40 then ((tableaulaw09_awake.f k1).bind fun t205 => (some t205)) else (some false)) else (some false))) else (some false)) = some r := H
                  have A28 := Aside0.mk A280
                  clear A280
                  by_cases c29 : t203 = true
                  · subst c29
                    have H1 : ((tableauref08_Check.f k1 t194).bind fun t204 => (if t204 = true then (if (t191.length : Int) ≤ 40 then ((tableaulaw09_awake.f k1).bind fun t205 => (some t205)) else (some false)) else (some false))) = some r := by rw [if_pos rfl] at H; exact H
                    clear H
                    have H := H1
                    clear H1
                    replace H := Option.bind_eq_some_iff.mp H
                    obtain ⟨t204, A300, H⟩ := H
                    replace H : (if t204 = true then (if (t191.length : Int) ≤ 40 then ((tableaulaw09_awake.f k1).bind fun t205 => (some t205)) else (some false)) else (some false)) = some r := H
                    have A30 := Aside0.mk A300
                    clear A300
                    by_cases c31 : t204 = true
                    · subst c31
                      have H1 : (if (t191.length : Int) ≤ 40 then ((tableaulaw09_awake.f k1).bind fun t205 => (some t205)) else (some false)) = some r := by rw [if_pos rfl] at H; exact H
                      clear H
                      have H := H1
                      clear H1
                      by_cases c32 : (t191.length : Int) ≤ 40
                      · rw [if_pos c32] at H
                        have c32b0 : decide ((t191.length : Int) ≤ 40) = true := decide_eq_true c32
                        have c32b1 : decide (t191.length ≤ 40) = true := decide_eq_true (by omega)
                        clear c32
                        replace H := Option.bind_eq_some_iff.mp H
                        obtain ⟨t205, A330, H⟩ := H
                        replace H : (some t205) = some r := H
                        have A33 := Aside0.mk A330
                        clear A330
                        obtain rfl := Option.some.inj H
                        have hcz34_0 : wr.cell? ⟨gb184, 0, none⟩ = some (.int .i64 a1_0) := (blk_cell BK184.out 0).trans rfl
                        have hcz34_1 : wr.cell? ⟨gb184, 1, none⟩ = some (.int .i64 a1_1) := (blk_cell BK184.out 1).trans rfl
                        have hcz34_2 : wr.cell? ⟨gb184, 2, none⟩ = some (.int .i64 a1_2) := (blk_cell BK184.out 2).trans rfl
                        have hcz34_3 : wr.cell? ⟨gb184, 3, none⟩ = some (.int .i64 a1_3) := (blk_cell BK184.out 3).trans rfl
                        have hfz34_0 := blk_frozen BK184.out 0
                        have hfz34_1 := blk_frozen BK184.out 1
                        have hfz34_2 := blk_frozen BK184.out 2
                        have hfz34_3 := blk_frozen BK184.out 3
                        try go_wp2_with (first | ((with_reducible refine gate_callee (f := 31) rfl ?_); refine goesL_ (some 45) rfl rfl Try.func31 (by kernel_rfl) rfl #[.agg #[.int .i64 a1_0, .int .i64 a1_1, .int .i64 a1_2, .int .i64 a1_3], .int .i64 (wrap64 (t186 - 16777216)), .int .i64 (wrap64 (t187 - 16777216))] rfl (by (try simp only [List.map_toArray, List.map_cons, List.map_nil]); first | done | rfl | (simp only [List.length_drop, List.length_take]; rfl)) ?_; (with_reducible refine (tableauref07_Has.calls a1_0 a1_1 a1_2 a1_3 (wrap64 (t186 - 16777216)) (wrap64 (t187 - 16777216)) true _ A17.out).mono ?_); rintro e w35 ⟨rfl, hb⟩; refine ⟨_, rfl, ?_⟩; have n0_ := Aside0.mk (blk_below (g := gb184) (o := .cells #[.int .i64 a1_0, .int .i64 a1_1, .int .i64 a1_2, .int .i64 a1_3] 23 (0, 0)) (by (with_reducible repeat (first | refine blk_drewN ?_ _ | refine blk_drew ?_ | refine blk_alloc ?_ _)); exact BK184.out) hb); have n1_ := Aside0.mk (below_step (by repeat (first | (with_reducible first | exact HB.out | apply below_alloc | apply pw_below_drewN | apply below_drew1 | refine below_set ?_ GE184.out) | exact HB.out)) hb); clear BK184; clear HB; have BK184 := n0_; have HB := n1_; clear n0_ n1_; (try clear hb); (try clear hb2); (try clear hk); (try clear hi)))
                        have n0_ := Aside0.mk (blk_drew BK184.out)
                        have n1_ := Aside0.mk (below_drew1 HB.out)
                        clear BK184
                        clear HB
                        have BK184 := n0_
                        have HB := n1_
                        clear n0_ n1_
                        refine start_ (n := 8) (S := fun w' => w'.cell? ⟨gb184, 0, none⟩ = some (.int .i64 a1_0) ∧ w'.cell? ⟨gb184, 1, none⟩ = some (.int .i64 a1_1) ∧ w'.cell? ⟨gb184, 2, none⟩ = some (.int .i64 a1_2) ∧ w'.cell? ⟨gb184, 3, none⟩ = some (.int .i64 a1_3)) (ds := []) #[false, false, false, false, false, false, false, false] (by kernel_rfl) rfl rfl ⟨(blk_cell BK184.out 0).trans rfl, (blk_cell BK184.out 1).trans rfl, (blk_cell BK184.out 2).trans rfl, (blk_cell BK184.out 3).trans rfl⟩ (fun hHeld => ?_); refine with_tabW tableaulaw09_DamageKeeps.tab10 tableaulaw09_DamageKeeps.bits10 (fun HT_ HW_ => ?_)
                        generalize w35.drew = w36 at BK184 HB hHeld ⊢
                        refine pure_ (i := 0) (N := some 46) (v := ?_) (a' := ?_) #[true, false, false, false, false, false, false, false] rfl rfl (any_of HT_.out (by kernel_rfl)) (fun _ _ _ h => h) (Or.inl ⟨by rfl, ?_⟩) ?_ ?_
                        rotate_left
                        · intro w'
                          go_simp
                          with_reducible rfl
                        rotate_left
                        · simp only [Act.put, List.setIfInBounds_toArray, List.set_cons_zero, List.set_cons_succ, i64_w, i32_w]
                          rfl
                        refine pure_ (i := 3) (N := some 49) (v := ?_) (a' := ?_) #[true, false, false, true, false, false, false, false] rfl rfl (any_of HT_.out (by kernel_rfl)) (fun _ _ _ h => h) (Or.inl ⟨by rfl, ?_⟩) ?_ ?_
                        rotate_left
                        · intro w'
                          go_simp
                          with_reducible rfl
                        rotate_left
                        · simp only [Act.put, List.setIfInBounds_toArray, List.set_cons_zero, List.set_cons_succ, i64_w, i32_w]
                          rfl
                        refine take_ (i := 1) (N := some 47) (v := ?_) (a' := ?_) #[true, true, false, true, false, false, false, false] rfl rfl (take_ofW HT_.out HW_.out (by kernel_rfl)) (fun _ _ _ h => h) (Or.inl ⟨by rfl, ?_⟩) hHeld ?_ ?_
                        rotate_left
                        · rintro w' ⟨s0, s1, s2, s3⟩
                          go_simp
                          with_reducible rfl
                        rotate_left
                        · simp only [Act.put, List.setIfInBounds_toArray, List.set_cons_zero, List.set_cons_succ, i64_w, i32_w]
                          rfl
                        refine take_ (i := 4) (N := some 50) (v := ?_) (a' := ?_) #[true, true, false, true, true, false, false, false] rfl rfl (take_ofW HT_.out HW_.out (by kernel_rfl)) (fun _ _ _ h => h) (Or.inl ⟨by rfl, ?_⟩) hHeld ?_ ?_
                        rotate_left
                        · rintro w' ⟨s0, s1, s2, s3⟩
                          go_simp
                          with_reducible rfl
                        rotate_left
                        · simp only [Act.put, List.setIfInBounds_toArray, List.set_cons_zero, List.set_cons_succ, i64_w, i32_w]
                          rfl
                        refine one_ (i := 2) (N := some 48) #[true, true, true, true, true, false, false, false] rfl rfl (one_of HT_.out (by kernel_rfl)) (by decide) (fun K hK => ?_)
                        refine goes_ Try.func32 (by kernel_rfl) rfl #[.slice A0 l0.length c0, .agg #[.int .i64 a1_0, .int .i64 a1_1, .int .i64 a1_2, .int .i64 a1_3]] (by rfl) rfl rfl (by (try simp only [List.map_toArray, List.map_cons, List.map_nil]); first | done | rfl | (simp only [List.length_drop, List.length_take]; rfl)) ?_
                        with_reducible refine (damage_Add.calls k1 _ _ l0 a1_0 a1_1 a1_2 a1_3 t191 _ ?side1 ?side2 A18.out).mono ?_
                        (case side1 => repeat (first | exact (Kd.C_below HR0.out HB.out) | (with_reducible refine Kd.C_alloc ?_ _) | (with_reducible refine Kd.C_drewN ?_ _) | (with_reducible refine Kd.C_drew ?_)))
                        (case side2 => exact HC0.out)
                        rintro e w37 ⟨v192, rfl, ho0, hb⟩
                        refine ⟨_, rfl, ?_⟩
                        have n0_ := Aside0.mk (Kd.V_lower (Kd.V_mono (ok' := fun k_ => k_ ≠ gb184) ho0 (fun k_ hk_ => (Kd.freshB (g := gb184) (o := .cells #[.int .i64 a1_0, .int .i64 a1_1, .int .i64 a1_2, .int .i64 a1_3] 23 (0, 0)) (by (with_reducible repeat (first | refine blk_drewN ?_ _ | refine blk_drew ?_ | refine blk_alloc ?_ _)); exact BK184.out) k_ hk_))) (below_size (by repeat (first | (with_reducible first | exact HB.out | apply below_alloc | apply pw_below_drewN | apply below_drew1 | refine below_set ?_ GE184.out) | exact HB.out))))
                        have n1_ := Aside0.mk (blk_below (g := gb184) (o := .cells #[.int .i64 a1_0, .int .i64 a1_1, .int .i64 a1_2, .int .i64 a1_3] 23 (0, 0)) (by (with_reducible repeat (first | refine blk_drewN ?_ _ | refine blk_drew ?_ | refine blk_alloc ?_ _)); exact BK184.out) hb)
                        have n2_ := Aside0.mk (below_step (by repeat (first | (with_reducible first | exact HB.out | apply below_alloc | apply pw_below_drewN | apply below_drew1 | refine below_set ?_ GE184.out) | exact HB.out)) hb)
                        clear BK184
                        clear HB
                        have HO193 := n0_
                        have BK184 := n1_
                        have HB := n2_
                        clear n0_ n1_ n2_
                        (try clear hb)
                        (try clear hb2)
                        (try clear hk)
                        (try clear hi)
                        (try clear ho0)
                        refine hK.out _ _ ⟨(blk_cell BK184.out 0).trans rfl, (blk_cell BK184.out 1).trans rfl, (blk_cell BK184.out 2).trans rfl, (blk_cell BK184.out 3).trans rfl⟩ (fun hHeld => ?_)
                        clear hK K
                        refine norm_ (a' := ?_) ?_ ?_
                        rotate_left
                        · show Act.put _ (some 48) _ = _
                          simp only [Act.put, List.setIfInBounds_toArray, List.set_cons_zero, List.set_cons_succ, i64_w, i32_w]
                          rfl
                        refine one_ (i := 5) (N := some 51) #[true, true, true, true, true, true, false, false] rfl rfl (one_of HT_.out (by kernel_rfl)) (by decide) (fun K hK => ?_)
                        refine goes_ Try.func33 (by kernel_rfl) rfl #[.slice A0 l0.length c0, .agg #[.int .i64 a1_0, .int .i64 a1_1, .int .i64 a1_2, .int .i64 a1_3]] (by rfl) rfl rfl (by (try simp only [List.map_toArray, List.map_cons, List.map_nil]); first | done | rfl | (simp only [List.length_drop, List.length_take]; rfl)) ?_
                        with_reducible refine (damage_Clip.calls k1 _ _ l0 a1_0 a1_1 a1_2 a1_3 t194 _ ?side1 ?side2 A19.out).mono ?_
                        (case side1 => repeat (first | exact (Kd.C_below HR0.out HB.out) | (with_reducible refine Kd.C_alloc ?_ _) | (with_reducible refine Kd.C_drewN ?_ _) | (with_reducible refine Kd.C_drew ?_)))
                        (case side2 => exact HC0.out)
                        rintro e w38 ⟨v195, rfl, ho0, hb⟩
                        refine ⟨_, rfl, ?_⟩
                        have n0_ := Aside0.mk (Kd.V_elder' (by (with_reducible repeat (first | apply Kd.V_alloc | apply Kd.V_drewN | apply Kd.V_drew)); exact HO193.out) (Kd.R_base ho0) hb)
                        have n1_ := Aside0.mk (Kd.R_lower (Kd.R_newB ho0 (g := gb184) (o := .cells #[.int .i64 a1_0, .int .i64 a1_1, .int .i64 a1_2, .int .i64 a1_3] 23 (0, 0)) (by (with_reducible repeat (first | refine blk_drewN ?_ _ | refine blk_drew ?_ | refine blk_alloc ?_ _)); exact BK184.out)) (below_size (by repeat (first | (with_reducible first | exact HB.out | apply below_alloc | apply pw_below_drewN | apply below_drew1 | refine below_set ?_ GE184.out) | exact HB.out))))
                        have n2_ := Aside0.mk (blk_below (g := gb184) (o := .cells #[.int .i64 a1_0, .int .i64 a1_1, .int .i64 a1_2, .int .i64 a1_3] 23 (0, 0)) (by (with_reducible repeat (first | refine blk_drewN ?_ _ | refine blk_drew ?_ | refine blk_alloc ?_ _)); exact BK184.out) hb)
                        have n3_ := Aside0.mk (below_step (by repeat (first | (with_reducible first | exact HB.out | apply below_alloc | apply pw_below_drewN | apply below_drew1 | refine below_set ?_ GE184.out) | exact HB.out)) hb)
                        clear HO193
                        clear BK184
                        clear HB
                        have HO193 := n0_
                        have HO196 := n1_
                        have BK184 := n2_
                        have HB := n3_
                        clear n0_ n1_ n2_ n3_
                        (try clear hb)
                        (try clear hb2)
                        (try clear hk)
                        (try clear hi)
                        (try clear ho0)
                        refine hK.out _ _ ⟨(blk_cell BK184.out 0).trans rfl, (blk_cell BK184.out 1).trans rfl, (blk_cell BK184.out 2).trans rfl, (blk_cell BK184.out 3).trans rfl⟩ (fun hHeld => ?_)
                        clear hK K
                        refine norm_ (a' := ?_) ?_ ?_
                        rotate_left
                        · show Act.put _ (some 51) _ = _
                          simp only [Act.put, List.setIfInBounds_toArray, List.set_cons_zero, List.set_cons_succ, i64_w, i32_w]
                          rfl
                        refine pure_ (i := 6) (N := some 14) (v := ?_) (a' := ?_) #[true, true, true, true, true, true, true, false] rfl rfl (any_of HT_.out (by kernel_rfl)) (fun _ _ _ h => h) (Or.inl ⟨by rfl, ?_⟩) ?_ ?_
                        rotate_left
                        · intro w'
                          go_simp
                          with_reducible rfl
                        rotate_left
                        · simp only [Act.put, List.setIfInBounds_toArray, List.set_cons_zero, List.set_cons_succ, i64_w, i32_w]
                          rfl
                        refine pure_ (i := 7) (N := some 15) (v := ?_) (a' := ?_) #[true, true, true, true, true, true, true, true] rfl rfl (any_of HT_.out (by kernel_rfl)) (fun _ _ _ h => h) (Or.inl ⟨by rfl, ?_⟩) ?_ ?_
                        rotate_left
                        · intro w'
                          go_simp
                          with_reducible rfl
                        rotate_left
                        · simp only [Act.put, List.setIfInBounds_toArray, List.set_cons_zero, List.set_cons_succ, i64_w, i32_w]
                          rfl
                        refine done_ (done_of HT_.out (by kernel_rfl)) ?_
                        obtain ⟨Ao39, co39, eo39⟩ := Kd.V_slice HO193.out
                        subst eo39
                        try go_wp2_with (first | (go_at_call 26; (with_reducible refine (tableauref08_Has.calls k1 _ _ t191 (wrap64 (t186 - 16777216)) (wrap64 (t187 - 16777216)) true _ ?side1 ?side2 A21.out).mono ?_); (case side1 => repeat (first | exact (Kd.V_reads' HO193.out).2.2 | (with_reducible refine Kd.C_alloc ?_ _) | (with_reducible refine Kd.C_drewN ?_ _) | (with_reducible refine Kd.C_drew ?_))); (case side2 => exact (Kd.V_reads' HO193.out).2.1); rintro e w40 ⟨rfl, hb⟩; have n0_ := Aside0.mk (Kd.V_below (by (with_reducible repeat (first | apply Kd.V_alloc | apply Kd.V_drewN | apply Kd.V_drew)); exact HO193.out) hb); have n1_ := Aside0.mk (Kd.R_below (by (with_reducible repeat (first | apply Kd.R_alloc | apply Kd.R_drewN | apply Kd.R_drew)); exact HO196.out) hb); have n2_ := Aside0.mk (blk_below (g := gb184) (o := .cells #[.int .i64 a1_0, .int .i64 a1_1, .int .i64 a1_2, .int .i64 a1_3] 23 (0, 0)) (by (with_reducible repeat (first | refine blk_drewN ?_ _ | refine blk_drew ?_ | refine blk_alloc ?_ _)); exact BK184.out) hb); have n3_ := Aside0.mk (below_step (by repeat (first | (with_reducible first | exact HB.out | apply below_alloc | apply pw_below_drewN | apply below_drew1 | refine below_set ?_ GE184.out) | exact HB.out)) hb); clear HO193; clear HO196; clear BK184; clear HB; have HO193 := n0_; have HO196 := n1_; have BK184 := n2_; have HB := n3_; clear n0_ n1_ n2_ n3_; (try clear hb); (try clear hb2); (try clear hk); (try clear hi); obtain ⟨Ao41, co41, eo41⟩ := Kd.R_slice HO196.out; subst eo41) | (go_at_call 26; (with_reducible refine (tableauref08_Has.calls k1 _ _ t194 (wrap64 (t186 - 16777216)) (wrap64 (t187 - 16777216)) t198 _ ?side1 ?side2 A23.out).mono ?_); (case side1 => repeat (first | exact (Kd.R_reads' HO196.out).2.2 | (with_reducible refine Kd.C_alloc ?_ _) | (with_reducible refine Kd.C_drewN ?_ _) | (with_reducible refine Kd.C_drew ?_))); (case side2 => exact (Kd.R_reads' HO196.out).2.1); rintro e w42 ⟨rfl, hb⟩; have n0_ := Aside0.mk (Kd.V_below (by (with_reducible repeat (first | apply Kd.V_alloc | apply Kd.V_drewN | apply Kd.V_drew)); exact HO193.out) hb); have n1_ := Aside0.mk (Kd.R_below (by (with_reducible repeat (first | apply Kd.R_alloc | apply Kd.R_drewN | apply Kd.R_drew)); exact HO196.out) hb); have n2_ := Aside0.mk (blk_below (g := gb184) (o := .cells #[.int .i64 a1_0, .int .i64 a1_1, .int .i64 a1_2, .int .i64 a1_3] 23 (0, 0)) (by (with_reducible repeat (first | refine blk_drewN ?_ _ | refine blk_drew ?_ | refine blk_alloc ?_ _)); exact BK184.out) hb); have n3_ := Aside0.mk (below_step (by repeat (first | (with_reducible first | exact HB.out | apply below_alloc | apply pw_below_drewN | apply below_drew1 | refine below_set ?_ GE184.out) | exact HB.out)) hb); clear HO193; clear HO196; clear BK184; clear HB; have HO193 := n0_; have HO196 := n1_; have BK184 := n2_; have HB := n3_; clear n0_ n1_ n2_ n3_; (try clear hb); (try clear hb2); (try clear hk); (try clear hi)) | (go_at_call 34; (with_reducible refine (damage_Flat.calls k1 _ _ l0 t199 _ ?side1 ?side2 A25.out).mono ?_); (case side1 => repeat (first | exact (Kd.C_below HR0.out HB.out) | (with_reducible refine Kd.C_alloc ?_ _) | (with_reducible refine Kd.C_drewN ?_ _) | (with_reducible refine Kd.C_drew ?_))); (case side2 => exact HC0.out); rintro e w43 ⟨v200, rfl, ho0, hb⟩; have n0_ := Aside0.mk (Kd.V_below (by (with_reducible repeat (first | apply Kd.V_alloc | apply Kd.V_drewN | apply Kd.V_drew)); exact HO193.out) hb); have n1_ := Aside0.mk (Kd.R_below (by (with_reducible repeat (first | apply Kd.R_alloc | apply Kd.R_drewN | apply Kd.R_drew)); exact HO196.out) hb); have n2_ := Aside0.mk (Kd.V_lower (Kd.V_mono (ok' := fun k_ => some k_ ≠ (.slice Ao41 t194.length co41 : Value).ownBlock ∧ k_ ≠ gb184) ho0 (fun k_ hk_ => ⟨(Kd.fresh' (Kd.R_lt (by (with_reducible repeat (first | apply Kd.R_alloc | apply Kd.R_drewN | apply Kd.R_drew)); exact HO196.out)) k_ hk_), (Kd.freshB (g := gb184) (o := .cells #[.int .i64 a1_0, .int .i64 a1_1, .int .i64 a1_2, .int .i64 a1_3] 23 (0, 0)) (by (with_reducible repeat (first | refine blk_drewN ?_ _ | refine blk_drew ?_ | refine blk_alloc ?_ _)); exact BK184.out) k_ hk_)⟩)) (below_size (by repeat (first | (with_reducible first | exact HB.out | apply below_alloc | apply pw_below_drewN | apply below_drew1 | refine below_set ?_ GE184.out) | exact HB.out)))); have n3_ := Aside0.mk (blk_below (g := gb184) (o := .cells #[.int .i64 a1_0, .int .i64 a1_1, .int .i64 a1_2, .int .i64 a1_3] 23 (0, 0)) (by (with_reducible repeat (first | refine blk_drewN ?_ _ | refine blk_drew ?_ | refine blk_alloc ?_ _)); exact BK184.out) hb); have n4_ := Aside0.mk (below_step (by repeat (first | (with_reducible first | exact HB.out | apply below_alloc | apply pw_below_drewN | apply below_drew1 | refine below_set ?_ GE184.out) | exact HB.out)) hb); clear HO193; clear HO196; clear BK184; clear HB; have HO193 := n0_; have HO196 := n1_; have HO201 := n2_; have BK184 := n3_; have HB := n4_; clear n0_ n1_ n2_ n3_ n4_; (try clear hb); (try clear hb2); (try clear hk); (try clear hi); (try clear ho0); obtain ⟨Ao44, co44, eo44⟩ := Kd.V_slice HO201.out; subst eo44) | (go_at_call 26; (with_reducible refine (tableauref08_Has.calls k1 _ _ t199 (wrap64 (t186 - 16777216)) (wrap64 (t187 - 16777216)) t202 _ ?side1 ?side2 A26.out).mono ?_); (case side1 => repeat (first | exact (Kd.V_reads' HO201.out).2.2 | (with_reducible refine Kd.C_alloc ?_ _) | (with_reducible refine Kd.C_drewN ?_ _) | (with_reducible refine Kd.C_drew ?_))); (case side2 => exact (Kd.V_reads' HO201.out).2.1); rintro e w45 ⟨rfl, hb⟩; have n0_ := Aside0.mk (Kd.V_below (by (with_reducible repeat (first | apply Kd.V_alloc | apply Kd.V_drewN | apply Kd.V_drew)); exact HO193.out) hb); have n1_ := Aside0.mk (Kd.R_below (by (with_reducible repeat (first | apply Kd.R_alloc | apply Kd.R_drewN | apply Kd.R_drew)); exact HO196.out) hb); have n2_ := Aside0.mk (Kd.V_below (by (with_reducible repeat (first | apply Kd.V_alloc | apply Kd.V_drewN | apply Kd.V_drew)); exact HO201.out) hb); have n3_ := Aside0.mk (blk_below (g := gb184) (o := .cells #[.int .i64 a1_0, .int .i64 a1_1, .int .i64 a1_2, .int .i64 a1_3] 23 (0, 0)) (by (with_reducible repeat (first | refine blk_drewN ?_ _ | refine blk_drew ?_ | refine blk_alloc ?_ _)); exact BK184.out) hb); have n4_ := Aside0.mk (below_step (by repeat (first | (with_reducible first | exact HB.out | apply below_alloc | apply pw_below_drewN | apply below_drew1 | refine below_set ?_ GE184.out) | exact HB.out)) hb); clear HO193; clear HO196; clear HO201; clear BK184; clear HB; have HO193 := n0_; have HO196 := n1_; have HO201 := n2_; have BK184 := n3_; have HB := n4_; clear n0_ n1_ n2_ n3_ n4_; (try clear hb); (try clear hb2); (try clear hk); (try clear hi)) | (go_at_call 35; (with_reducible refine (tableauref08_Check.calls k1 _ _ t191 true _ ?side1 ?side2 A28.out).mono ?_); (case side1 => repeat (first | exact (Kd.V_reads' HO193.out).2.2 | (with_reducible refine Kd.C_alloc ?_ _) | (with_reducible refine Kd.C_drewN ?_ _) | (with_reducible refine Kd.C_drew ?_))); (case side2 => exact (Kd.V_reads' HO193.out).2.1); rintro e w46 ⟨rfl, hb⟩; have n0_ := Aside0.mk (Kd.V_below (by (with_reducible repeat (first | apply Kd.V_alloc | apply Kd.V_drewN | apply Kd.V_drew)); exact HO193.out) hb); have n1_ := Aside0.mk (Kd.R_below (by (with_reducible repeat (first | apply Kd.R_alloc | apply Kd.R_drewN | apply Kd.R_drew)); exact HO196.out) hb); have n2_ := Aside0.mk (Kd.V_below (by (with_reducible repeat (first | apply Kd.V_alloc | apply Kd.V_drewN | apply Kd.V_drew)); exact HO201.out) hb); have n3_ := Aside0.mk (blk_below (g := gb184) (o := .cells #[.int .i64 a1_0, .int .i64 a1_1, .int .i64 a1_2, .int .i64 a1_3] 23 (0, 0)) (by (with_reducible repeat (first | refine blk_drewN ?_ _ | refine blk_drew ?_ | refine blk_alloc ?_ _)); exact BK184.out) hb); have n4_ := Aside0.mk (below_step (by repeat (first | (with_reducible first | exact HB.out | apply below_alloc | apply pw_below_drewN | apply below_drew1 | refine below_set ?_ GE184.out) | exact HB.out)) hb); clear HO193; clear HO196; clear HO201; clear BK184; clear HB; have HO193 := n0_; have HO196 := n1_; have HO201 := n2_; have BK184 := n3_; have HB := n4_; clear n0_ n1_ n2_ n3_ n4_; (try clear hb); (try clear hb2); (try clear hk); (try clear hi)) | (go_at_call 35; (with_reducible refine (tableauref08_Check.calls k1 _ _ t194 true _ ?side1 ?side2 A30.out).mono ?_); (case side1 => repeat (first | exact (Kd.R_reads' HO196.out).2.2 | (with_reducible refine Kd.C_alloc ?_ _) | (with_reducible refine Kd.C_drewN ?_ _) | (with_reducible refine Kd.C_drew ?_))); (case side2 => exact (Kd.R_reads' HO196.out).2.1); rintro e w47 ⟨rfl, hb⟩; have n0_ := Aside0.mk (Kd.V_below (by (with_reducible repeat (first | apply Kd.V_alloc | apply Kd.V_drewN | apply Kd.V_drew)); exact HO193.out) hb); have n1_ := Aside0.mk (Kd.R_below (by (with_reducible repeat (first | apply Kd.R_alloc | apply Kd.R_drewN | apply Kd.R_drew)); exact HO196.out) hb); have n2_ := Aside0.mk (Kd.V_below (by (with_reducible repeat (first | apply Kd.V_alloc | apply Kd.V_drewN | apply Kd.V_drew)); exact HO201.out) hb); have n3_ := Aside0.mk (blk_below (g := gb184) (o := .cells #[.int .i64 a1_0, .int .i64 a1_1, .int .i64 a1_2, .int .i64 a1_3] 23 (0, 0)) (by (with_reducible repeat (first | refine blk_drewN ?_ _ | refine blk_drew ?_ | refine blk_alloc ?_ _)); exact BK184.out) hb); have n4_ := Aside0.mk (below_step (by repeat (first | (with_reducible first | exact HB.out | apply below_alloc | apply pw_below_drewN | apply below_drew1 | refine below_set ?_ GE184.out) | exact HB.out)) hb); clear HO193; clear HO196; clear HO201; clear BK184; clear HB; have HO193 := n0_; have HO196 := n1_; have HO201 := n2_; have BK184 := n3_; have HB := n4_; clear n0_ n1_ n2_ n3_ n4_; (try clear hb); (try clear hb2); (try clear hk); (try clear hi)) | (go_at_call 30; (with_reducible refine (tableaulaw09_awake.calls k1  t205 _ A33.out).mono ?_); rintro e w48 ⟨rfl, hb⟩; have n0_ := Aside0.mk (Kd.V_below (by (with_reducible repeat (first | apply Kd.V_alloc | apply Kd.V_drewN | apply Kd.V_drew)); exact HO193.out) hb); have n1_ := Aside0.mk (Kd.R_below (by (with_reducible repeat (first | apply Kd.R_alloc | apply Kd.R_drewN | apply Kd.R_drew)); exact HO196.out) hb); have n2_ := Aside0.mk (Kd.V_below (by (with_reducible repeat (first | apply Kd.V_alloc | apply Kd.V_drewN | apply Kd.V_drew)); exact HO201.out) hb); have n3_ := Aside0.mk (blk_below (g := gb184) (o := .cells #[.int .i64 a1_0, .int .i64 a1_1, .int .i64 a1_2, .int .i64 a1_3] 23 (0, 0)) (by (with_reducible repeat (first | refine blk_drewN ?_ _ | refine blk_drew ?_ | refine blk_alloc ?_ _)); exact BK184.out) hb); have n4_ := Aside0.mk (below_step (by repeat (first | (with_reducible first | exact HB.out | apply below_alloc | apply pw_below_drewN | apply below_drew1 | refine below_set ?_ GE184.out) | exact HB.out)) hb); clear HO193; clear HO196; clear HO201; clear BK184; clear HB; have HO193 := n0_; have HO196 := n1_; have HO201 := n2_; have BK184 := n3_; have HB := n4_; clear n0_ n1_ n2_ n3_ n4_; (try clear hb); (try clear hb2); (try clear hk); (try clear hi)))
                        go_ret
                        exact ⟨by first | rfl | (simp [errW_none, errW_some] <;> rfl) | (simp [*, errW_none, errW_some] <;> rfl), by repeat (first | (with_reducible first | exact HB.out | apply below_alloc | apply pw_below_drewN | apply below_drew1 | refine below_set ?_ GE184.out) | exact HB.out)⟩
                      · rw [if_neg c32] at H
                        have c32b0 : decide ((t191.length : Int) ≤ 40) = false := decide_eq_false c32
                        have c32b1 : decide (t191.length ≤ 40) = false := decide_eq_false (by omega)
                        clear c32
                        exact absurd H (by rw [HT.out]; simp)
                    · replace c31 := Bool.eq_false_iff.mpr c31
                      subst c31
                      have H1 : (some false) = some r := by rw [if_neg (show ¬ (false = true) by decide)] at H; exact H
                      clear H
                      have H := H1
                      clear H1
                      exact absurd H (by rw [HT.out]; simp)
                  · replace c29 := Bool.eq_false_iff.mpr c29
                    subst c29
                    have H1 : (some false) = some r := by rw [if_neg (show ¬ (false = true) by decide)] at H; exact H
                    clear H
                    have H := H1
                    clear H1
                    exact absurd H (by rw [HT.out]; simp)
                · rw [if_neg c27] at H
                  have c27b0 : (t198 == t202) = false := by simpa using c27
                  (try (have c27b1 : decide (t198 = t202) = false := by simpa using c27))
                  (try (have c27b2 : (t198 == t202) = false := by simpa using c27))
                  (try (have c27b3 : ¬ (t198 = t202) := by simpa using c27))
                  clear c27
                  exact absurd H (by rw [HT.out]; simp)
              · replace c24 := Bool.eq_false_iff.mpr c24
                subst c24
                have H1 : (if (t198 == false) = true then ((tableauref08_Check.f k1 t191).bind fun t206 => (if t206 = true then ((tableauref08_Check.f k1 t194).bind fun t207 => (if t207 = true then (if (t191.length : Int) ≤ 40 then ((tableaulaw09_awake.f k1).bind fun t208 => (some t208)) else (some false)) else (some false))) else (some false))) else (some false)) = some r := by rw [if_neg (show ¬ (false = true) by decide)] at H; exact H
                clear H
                have H := H1
                clear H1
                by_cases c49 : (t198 == false) = true
                · rw [if_pos c49] at H
                  have c49b0 : (t198 == false) = true := c49
                  (try (have c49b1 : decide (t198 = false) = true := by simpa using c49))
                  (try (have c49b2 : (t198 == false) = true := by simpa using c49))
                  clear c49
                  replace H := Option.bind_eq_some_iff.mp H
                  obtain ⟨t206, A500, H⟩ := H
                  replace H : (if t206 = true then ((tableauref08_Check.f k1 t194).bind fun t207 => (if t207 = true then (if (t191.length : Int) ≤ 40 then ((tableaulaw09_awake.f k1).bind fun t208 => (some t208)) else (some false)) else (some false))) else (some false)) = some r := H
                  have A50 := Aside0.mk A500
                  clear A500
                  by_cases c51 : t206 = true
                  · subst c51
                    have H1 : ((tableauref08_Check.f k1 t194).bind fun t207 => (if t207 = true then (if (t191.length : Int) ≤ 40 then ((tableaulaw09_awake.f k1).bind fun t208 => (some t208)) else (some false)) else (some false))) = some r := by rw [if_pos rfl] at H; exact H
                    clear H
                    have H := H1
                    clear H1
                    replace H := Option.bind_eq_some_iff.mp H
                    obtain ⟨t207, A520, H⟩ := H
                    replace H : (if t207 = true then (if (t191.length : Int) ≤ 40 then ((tableaulaw09_awake.f k1).bind fun t208 => (some t208)) else (some false)) else (some false)) = some r := H
                    have A52 := Aside0.mk A520
                    clear A520
                    by_cases c53 : t207 = true
                    · subst c53
                      have H1 : (if (t191.length : Int) ≤ 40 then ((tableaulaw09_awake.f k1).bind fun t208 => (some t208)) else (some false)) = some r := by rw [if_pos rfl] at H; exact H
                      clear H
                      have H := H1
                      clear H1
                      by_cases c54 : (t191.length : Int) ≤ 40
                      · rw [if_pos c54] at H
                        have c54b0 : decide ((t191.length : Int) ≤ 40) = true := decide_eq_true c54
                        have c54b1 : decide (t191.length ≤ 40) = true := decide_eq_true (by omega)
                        clear c54
                        replace H := Option.bind_eq_some_iff.mp H
                        obtain ⟨t208, A550, H⟩ := H
                        replace H : (some t208) = some r := H
                        have A55 := Aside0.mk A550
                        clear A550
                        obtain rfl := Option.some.inj H
                        have hcz56_0 : wr.cell? ⟨gb184, 0, none⟩ = some (.int .i64 a1_0) := (blk_cell BK184.out 0).trans rfl
                        have hcz56_1 : wr.cell? ⟨gb184, 1, none⟩ = some (.int .i64 a1_1) := (blk_cell BK184.out 1).trans rfl
                        have hcz56_2 : wr.cell? ⟨gb184, 2, none⟩ = some (.int .i64 a1_2) := (blk_cell BK184.out 2).trans rfl
                        have hcz56_3 : wr.cell? ⟨gb184, 3, none⟩ = some (.int .i64 a1_3) := (blk_cell BK184.out 3).trans rfl
                        have hfz56_0 := blk_frozen BK184.out 0
                        have hfz56_1 := blk_frozen BK184.out 1
                        have hfz56_2 := blk_frozen BK184.out 2
                        have hfz56_3 := blk_frozen BK184.out 3
                        try go_wp2_with (first | ((with_reducible refine gate_callee (f := 31) rfl ?_); refine goesL_ (some 45) rfl rfl Try.func31 (by kernel_rfl) rfl #[.agg #[.int .i64 a1_0, .int .i64 a1_1, .int .i64 a1_2, .int .i64 a1_3], .int .i64 (wrap64 (t186 - 16777216)), .int .i64 (wrap64 (t187 - 16777216))] rfl (by (try simp only [List.map_toArray, List.map_cons, List.map_nil]); first | done | rfl | (simp only [List.length_drop, List.length_take]; rfl)) ?_; (with_reducible refine (tableauref07_Has.calls a1_0 a1_1 a1_2 a1_3 (wrap64 (t186 - 16777216)) (wrap64 (t187 - 16777216)) false _ A17.out).mono ?_); rintro e w57 ⟨rfl, hb⟩; refine ⟨_, rfl, ?_⟩; have n0_ := Aside0.mk (blk_below (g := gb184) (o := .cells #[.int .i64 a1_0, .int .i64 a1_1, .int .i64 a1_2, .int .i64 a1_3] 23 (0, 0)) (by (with_reducible repeat (first | refine blk_drewN ?_ _ | refine blk_drew ?_ | refine blk_alloc ?_ _)); exact BK184.out) hb); have n1_ := Aside0.mk (below_step (by repeat (first | (with_reducible first | exact HB.out | apply below_alloc | apply pw_below_drewN | apply below_drew1 | refine below_set ?_ GE184.out) | exact HB.out)) hb); clear BK184; clear HB; have BK184 := n0_; have HB := n1_; clear n0_ n1_; (try clear hb); (try clear hb2); (try clear hk); (try clear hi)))
                        have n0_ := Aside0.mk (blk_drew BK184.out)
                        have n1_ := Aside0.mk (below_drew1 HB.out)
                        clear BK184
                        clear HB
                        have BK184 := n0_
                        have HB := n1_
                        clear n0_ n1_
                        refine start_ (n := 8) (S := fun w' => w'.cell? ⟨gb184, 0, none⟩ = some (.int .i64 a1_0) ∧ w'.cell? ⟨gb184, 1, none⟩ = some (.int .i64 a1_1) ∧ w'.cell? ⟨gb184, 2, none⟩ = some (.int .i64 a1_2) ∧ w'.cell? ⟨gb184, 3, none⟩ = some (.int .i64 a1_3)) (ds := []) #[false, false, false, false, false, false, false, false] (by kernel_rfl) rfl rfl ⟨(blk_cell BK184.out 0).trans rfl, (blk_cell BK184.out 1).trans rfl, (blk_cell BK184.out 2).trans rfl, (blk_cell BK184.out 3).trans rfl⟩ (fun hHeld => ?_); refine with_tabW tableaulaw09_DamageKeeps.tab10 tableaulaw09_DamageKeeps.bits10 (fun HT_ HW_ => ?_)
                        generalize w57.drew = w58 at BK184 HB hHeld ⊢
                        refine pure_ (i := 0) (N := some 46) (v := ?_) (a' := ?_) #[true, false, false, false, false, false, false, false] rfl rfl (any_of HT_.out (by kernel_rfl)) (fun _ _ _ h => h) (Or.inl ⟨by rfl, ?_⟩) ?_ ?_
                        rotate_left
                        · intro w'
                          go_simp
                          with_reducible rfl
                        rotate_left
                        · simp only [Act.put, List.setIfInBounds_toArray, List.set_cons_zero, List.set_cons_succ, i64_w, i32_w]
                          rfl
                        refine pure_ (i := 3) (N := some 49) (v := ?_) (a' := ?_) #[true, false, false, true, false, false, false, false] rfl rfl (any_of HT_.out (by kernel_rfl)) (fun _ _ _ h => h) (Or.inl ⟨by rfl, ?_⟩) ?_ ?_
                        rotate_left
                        · intro w'
                          go_simp
                          with_reducible rfl
                        rotate_left
                        · simp only [Act.put, List.setIfInBounds_toArray, List.set_cons_zero, List.set_cons_succ, i64_w, i32_w]
                          rfl
                        refine take_ (i := 1) (N := some 47) (v := ?_) (a' := ?_) #[true, true, false, true, false, false, false, false] rfl rfl (take_ofW HT_.out HW_.out (by kernel_rfl)) (fun _ _ _ h => h) (Or.inl ⟨by rfl, ?_⟩) hHeld ?_ ?_
                        rotate_left
                        · rintro w' ⟨s0, s1, s2, s3⟩
                          go_simp
                          with_reducible rfl
                        rotate_left
                        · simp only [Act.put, List.setIfInBounds_toArray, List.set_cons_zero, List.set_cons_succ, i64_w, i32_w]
                          rfl
                        refine take_ (i := 4) (N := some 50) (v := ?_) (a' := ?_) #[true, true, false, true, true, false, false, false] rfl rfl (take_ofW HT_.out HW_.out (by kernel_rfl)) (fun _ _ _ h => h) (Or.inl ⟨by rfl, ?_⟩) hHeld ?_ ?_
                        rotate_left
                        · rintro w' ⟨s0, s1, s2, s3⟩
                          go_simp
                          with_reducible rfl
                        rotate_left
                        · simp only [Act.put, List.setIfInBounds_toArray, List.set_cons_zero, List.set_cons_succ, i64_w, i32_w]
                          rfl
                        refine one_ (i := 2) (N := some 48) #[true, true, true, true, true, false, false, false] rfl rfl (one_of HT_.out (by kernel_rfl)) (by decide) (fun K hK => ?_)
                        refine goes_ Try.func32 (by kernel_rfl) rfl #[.slice A0 l0.length c0, .agg #[.int .i64 a1_0, .int .i64 a1_1, .int .i64 a1_2, .int .i64 a1_3]] (by rfl) rfl rfl (by (try simp only [List.map_toArray, List.map_cons, List.map_nil]); first | done | rfl | (simp only [List.length_drop, List.length_take]; rfl)) ?_
                        with_reducible refine (damage_Add.calls k1 _ _ l0 a1_0 a1_1 a1_2 a1_3 t191 _ ?side1 ?side2 A18.out).mono ?_
                        (case side1 => repeat (first | exact (Kd.C_below HR0.out HB.out) | (with_reducible refine Kd.C_alloc ?_ _) | (with_reducible refine Kd.C_drewN ?_ _) | (with_reducible refine Kd.C_drew ?_)))
                        (case side2 => exact HC0.out)
                        rintro e w59 ⟨v192, rfl, ho0, hb⟩
                        refine ⟨_, rfl, ?_⟩
                        have n0_ := Aside0.mk (Kd.V_lower (Kd.V_mono (ok' := fun k_ => k_ ≠ gb184) ho0 (fun k_ hk_ => (Kd.freshB (g := gb184) (o := .cells #[.int .i64 a1_0, .int .i64 a1_1, .int .i64 a1_2, .int .i64 a1_3] 23 (0, 0)) (by (with_reducible repeat (first | refine blk_drewN ?_ _ | refine blk_drew ?_ | refine blk_alloc ?_ _)); exact BK184.out) k_ hk_))) (below_size (by repeat (first | (with_reducible first | exact HB.out | apply below_alloc | apply pw_below_drewN | apply below_drew1 | refine below_set ?_ GE184.out) | exact HB.out))))
                        have n1_ := Aside0.mk (blk_below (g := gb184) (o := .cells #[.int .i64 a1_0, .int .i64 a1_1, .int .i64 a1_2, .int .i64 a1_3] 23 (0, 0)) (by (with_reducible repeat (first | refine blk_drewN ?_ _ | refine blk_drew ?_ | refine blk_alloc ?_ _)); exact BK184.out) hb)
                        have n2_ := Aside0.mk (below_step (by repeat (first | (with_reducible first | exact HB.out | apply below_alloc | apply pw_below_drewN | apply below_drew1 | refine below_set ?_ GE184.out) | exact HB.out)) hb)
                        clear BK184
                        clear HB
                        have HO193 := n0_
                        have BK184 := n1_
                        have HB := n2_
                        clear n0_ n1_ n2_
                        (try clear hb)
                        (try clear hb2)
                        (try clear hk)
                        (try clear hi)
                        (try clear ho0)
                        refine hK.out _ _ ⟨(blk_cell BK184.out 0).trans rfl, (blk_cell BK184.out 1).trans rfl, (blk_cell BK184.out 2).trans rfl, (blk_cell BK184.out 3).trans rfl⟩ (fun hHeld => ?_)
                        clear hK K
                        refine norm_ (a' := ?_) ?_ ?_
                        rotate_left
                        · show Act.put _ (some 48) _ = _
                          simp only [Act.put, List.setIfInBounds_toArray, List.set_cons_zero, List.set_cons_succ, i64_w, i32_w]
                          rfl
                        refine one_ (i := 5) (N := some 51) #[true, true, true, true, true, true, false, false] rfl rfl (one_of HT_.out (by kernel_rfl)) (by decide) (fun K hK => ?_)
                        refine goes_ Try.func33 (by kernel_rfl) rfl #[.slice A0 l0.length c0, .agg #[.int .i64 a1_0, .int .i64 a1_1, .int .i64 a1_2, .int .i64 a1_3]] (by rfl) rfl rfl (by (try simp only [List.map_toArray, List.map_cons, List.map_nil]); first | done | rfl | (simp only [List.length_drop, List.length_take]; rfl)) ?_
                        with_reducible refine (damage_Clip.calls k1 _ _ l0 a1_0 a1_1 a1_2 a1_3 t194 _ ?side1 ?side2 A19.out).mono ?_
                        (case side1 => repeat (first | exact (Kd.C_below HR0.out HB.out) | (with_reducible refine Kd.C_alloc ?_ _) | (with_reducible refine Kd.C_drewN ?_ _) | (with_reducible refine Kd.C_drew ?_)))
                        (case side2 => exact HC0.out)
                        rintro e w60 ⟨v195, rfl, ho0, hb⟩
                        refine ⟨_, rfl, ?_⟩
                        have n0_ := Aside0.mk (Kd.V_elder' (by (with_reducible repeat (first | apply Kd.V_alloc | apply Kd.V_drewN | apply Kd.V_drew)); exact HO193.out) (Kd.R_base ho0) hb)
                        have n1_ := Aside0.mk (Kd.R_lower (Kd.R_newB ho0 (g := gb184) (o := .cells #[.int .i64 a1_0, .int .i64 a1_1, .int .i64 a1_2, .int .i64 a1_3] 23 (0, 0)) (by (with_reducible repeat (first | refine blk_drewN ?_ _ | refine blk_drew ?_ | refine blk_alloc ?_ _)); exact BK184.out)) (below_size (by repeat (first | (with_reducible first | exact HB.out | apply below_alloc | apply pw_below_drewN | apply below_drew1 | refine below_set ?_ GE184.out) | exact HB.out))))
                        have n2_ := Aside0.mk (blk_below (g := gb184) (o := .cells #[.int .i64 a1_0, .int .i64 a1_1, .int .i64 a1_2, .int .i64 a1_3] 23 (0, 0)) (by (with_reducible repeat (first | refine blk_drewN ?_ _ | refine blk_drew ?_ | refine blk_alloc ?_ _)); exact BK184.out) hb)
                        have n3_ := Aside0.mk (below_step (by repeat (first | (with_reducible first | exact HB.out | apply below_alloc | apply pw_below_drewN | apply below_drew1 | refine below_set ?_ GE184.out) | exact HB.out)) hb)
                        clear HO193
                        clear BK184
                        clear HB
                        have HO193 := n0_
                        have HO196 := n1_
                        have BK184 := n2_
                        have HB := n3_
                        clear n0_ n1_ n2_ n3_
                        (try clear hb)
                        (try clear hb2)
                        (try clear hk)
                        (try clear hi)
                        (try clear ho0)
                        refine hK.out _ _ ⟨(blk_cell BK184.out 0).trans rfl, (blk_cell BK184.out 1).trans rfl, (blk_cell BK184.out 2).trans rfl, (blk_cell BK184.out 3).trans rfl⟩ (fun hHeld => ?_)
                        clear hK K
                        refine norm_ (a' := ?_) ?_ ?_
                        rotate_left
                        · show Act.put _ (some 51) _ = _
                          simp only [Act.put, List.setIfInBounds_toArray, List.set_cons_zero, List.set_cons_succ, i64_w, i32_w]
                          rfl
                        refine pure_ (i := 6) (N := some 14) (v := ?_) (a' := ?_) #[true, true, true, true, true, true, true, false] rfl rfl (any_of HT_.out (by kernel_rfl)) (fun _ _ _ h => h) (Or.inl ⟨by rfl, ?_⟩) ?_ ?_
                        rotate_left
                        · intro w'
                          go_simp
                          with_reducible rfl
                        rotate_left
                        · simp only [Act.put, List.setIfInBounds_toArray, List.set_cons_zero, List.set_cons_succ, i64_w, i32_w]
                          rfl
                        refine pure_ (i := 7) (N := some 15) (v := ?_) (a' := ?_) #[true, true, true, true, true, true, true, true] rfl rfl (any_of HT_.out (by kernel_rfl)) (fun _ _ _ h => h) (Or.inl ⟨by rfl, ?_⟩) ?_ ?_
                        rotate_left
                        · intro w'
                          go_simp
                          with_reducible rfl
                        rotate_left
                        · simp only [Act.put, List.setIfInBounds_toArray, List.set_cons_zero, List.set_cons_succ, i64_w, i32_w]
                          rfl
                        refine done_ (done_of HT_.out (by kernel_rfl)) ?_
                        obtain ⟨Ao61, co61, eo61⟩ := Kd.V_slice HO193.out
                        subst eo61
                        try go_wp2_with (first | (go_at_call 26; (with_reducible refine (tableauref08_Has.calls k1 _ _ t191 (wrap64 (t186 - 16777216)) (wrap64 (t187 - 16777216)) true _ ?side1 ?side2 A21.out).mono ?_); (case side1 => repeat (first | exact (Kd.V_reads' HO193.out).2.2 | (with_reducible refine Kd.C_alloc ?_ _) | (with_reducible refine Kd.C_drewN ?_ _) | (with_reducible refine Kd.C_drew ?_))); (case side2 => exact (Kd.V_reads' HO193.out).2.1); rintro e w62 ⟨rfl, hb⟩; have n0_ := Aside0.mk (Kd.V_below (by (with_reducible repeat (first | apply Kd.V_alloc | apply Kd.V_drewN | apply Kd.V_drew)); exact HO193.out) hb); have n1_ := Aside0.mk (Kd.R_below (by (with_reducible repeat (first | apply Kd.R_alloc | apply Kd.R_drewN | apply Kd.R_drew)); exact HO196.out) hb); have n2_ := Aside0.mk (blk_below (g := gb184) (o := .cells #[.int .i64 a1_0, .int .i64 a1_1, .int .i64 a1_2, .int .i64 a1_3] 23 (0, 0)) (by (with_reducible repeat (first | refine blk_drewN ?_ _ | refine blk_drew ?_ | refine blk_alloc ?_ _)); exact BK184.out) hb); have n3_ := Aside0.mk (below_step (by repeat (first | (with_reducible first | exact HB.out | apply below_alloc | apply pw_below_drewN | apply below_drew1 | refine below_set ?_ GE184.out) | exact HB.out)) hb); clear HO193; clear HO196; clear BK184; clear HB; have HO193 := n0_; have HO196 := n1_; have BK184 := n2_; have HB := n3_; clear n0_ n1_ n2_ n3_; (try clear hb); (try clear hb2); (try clear hk); (try clear hi); obtain ⟨Ao63, co63, eo63⟩ := Kd.R_slice HO196.out; subst eo63) | (go_at_call 26; (with_reducible refine (tableauref08_Has.calls k1 _ _ t194 (wrap64 (t186 - 16777216)) (wrap64 (t187 - 16777216)) t198 _ ?side1 ?side2 A23.out).mono ?_); (case side1 => repeat (first | exact (Kd.R_reads' HO196.out).2.2 | (with_reducible refine Kd.C_alloc ?_ _) | (with_reducible refine Kd.C_drewN ?_ _) | (with_reducible refine Kd.C_drew ?_))); (case side2 => exact (Kd.R_reads' HO196.out).2.1); rintro e w64 ⟨rfl, hb⟩; have n0_ := Aside0.mk (Kd.V_below (by (with_reducible repeat (first | apply Kd.V_alloc | apply Kd.V_drewN | apply Kd.V_drew)); exact HO193.out) hb); have n1_ := Aside0.mk (Kd.R_below (by (with_reducible repeat (first | apply Kd.R_alloc | apply Kd.R_drewN | apply Kd.R_drew)); exact HO196.out) hb); have n2_ := Aside0.mk (blk_below (g := gb184) (o := .cells #[.int .i64 a1_0, .int .i64 a1_1, .int .i64 a1_2, .int .i64 a1_3] 23 (0, 0)) (by (with_reducible repeat (first | refine blk_drewN ?_ _ | refine blk_drew ?_ | refine blk_alloc ?_ _)); exact BK184.out) hb); have n3_ := Aside0.mk (below_step (by repeat (first | (with_reducible first | exact HB.out | apply below_alloc | apply pw_below_drewN | apply below_drew1 | refine below_set ?_ GE184.out) | exact HB.out)) hb); clear HO193; clear HO196; clear BK184; clear HB; have HO193 := n0_; have HO196 := n1_; have BK184 := n2_; have HB := n3_; clear n0_ n1_ n2_ n3_; (try clear hb); (try clear hb2); (try clear hk); (try clear hi)) | (go_at_call 35; (with_reducible refine (tableauref08_Check.calls k1 _ _ t191 true _ ?side1 ?side2 A50.out).mono ?_); (case side1 => repeat (first | exact (Kd.V_reads' HO193.out).2.2 | (with_reducible refine Kd.C_alloc ?_ _) | (with_reducible refine Kd.C_drewN ?_ _) | (with_reducible refine Kd.C_drew ?_))); (case side2 => exact (Kd.V_reads' HO193.out).2.1); rintro e w65 ⟨rfl, hb⟩; have n0_ := Aside0.mk (Kd.V_below (by (with_reducible repeat (first | apply Kd.V_alloc | apply Kd.V_drewN | apply Kd.V_drew)); exact HO193.out) hb); have n1_ := Aside0.mk (Kd.R_below (by (with_reducible repeat (first | apply Kd.R_alloc | apply Kd.R_drewN | apply Kd.R_drew)); exact HO196.out) hb); have n2_ := Aside0.mk (blk_below (g := gb184) (o := .cells #[.int .i64 a1_0, .int .i64 a1_1, .int .i64 a1_2, .int .i64 a1_3] 23 (0, 0)) (by (with_reducible repeat (first | refine blk_drewN ?_ _ | refine blk_drew ?_ | refine blk_alloc ?_ _)); exact BK184.out) hb); have n3_ := Aside0.mk (below_step (by repeat (first | (with_reducible first | exact HB.out | apply below_alloc | apply pw_below_drewN | apply below_drew1 | refine below_set ?_ GE184.out) | exact HB.out)) hb); clear HO193; clear HO196; clear BK184; clear HB; have HO193 := n0_; have HO196 := n1_; have BK184 := n2_; have HB := n3_; clear n0_ n1_ n2_ n3_; (try clear hb); (try clear hb2); (try clear hk); (try clear hi)) | (go_at_call 35; (with_reducible refine (tableauref08_Check.calls k1 _ _ t194 true _ ?side1 ?side2 A52.out).mono ?_); (case side1 => repeat (first | exact (Kd.R_reads' HO196.out).2.2 | (with_reducible refine Kd.C_alloc ?_ _) | (with_reducible refine Kd.C_drewN ?_ _) | (with_reducible refine Kd.C_drew ?_))); (case side2 => exact (Kd.R_reads' HO196.out).2.1); rintro e w66 ⟨rfl, hb⟩; have n0_ := Aside0.mk (Kd.V_below (by (with_reducible repeat (first | apply Kd.V_alloc | apply Kd.V_drewN | apply Kd.V_drew)); exact HO193.out) hb); have n1_ := Aside0.mk (Kd.R_below (by (with_reducible repeat (first | apply Kd.R_alloc | apply Kd.R_drewN | apply Kd.R_drew)); exact HO196.out) hb); have n2_ := Aside0.mk (blk_below (g := gb184) (o := .cells #[.int .i64 a1_0, .int .i64 a1_1, .int .i64 a1_2, .int .i64 a1_3] 23 (0, 0)) (by (with_reducible repeat (first | refine blk_drewN ?_ _ | refine blk_drew ?_ | refine blk_alloc ?_ _)); exact BK184.out) hb); have n3_ := Aside0.mk (below_step (by repeat (first | (with_reducible first | exact HB.out | apply below_alloc | apply pw_below_drewN | apply below_drew1 | refine below_set ?_ GE184.out) | exact HB.out)) hb); clear HO193; clear HO196; clear BK184; clear HB; have HO193 := n0_; have HO196 := n1_; have BK184 := n2_; have HB := n3_; clear n0_ n1_ n2_ n3_; (try clear hb); (try clear hb2); (try clear hk); (try clear hi)) | (go_at_call 30; (with_reducible refine (tableaulaw09_awake.calls k1  t208 _ A55.out).mono ?_); rintro e w67 ⟨rfl, hb⟩; have n0_ := Aside0.mk (Kd.V_below (by (with_reducible repeat (first | apply Kd.V_alloc | apply Kd.V_drewN | apply Kd.V_drew)); exact HO193.out) hb); have n1_ := Aside0.mk (Kd.R_below (by (with_reducible repeat (first | apply Kd.R_alloc | apply Kd.R_drewN | apply Kd.R_drew)); exact HO196.out) hb); have n2_ := Aside0.mk (blk_below (g := gb184) (o := .cells #[.int .i64 a1_0, .int .i64 a1_1, .int .i64 a1_2, .int .i64 a1_3] 23 (0, 0)) (by (with_reducible repeat (first | refine blk_drewN ?_ _ | refine blk_drew ?_ | refine blk_alloc ?_ _)); exact BK184.out) hb); have n3_ := Aside0.mk (below_step (by repeat (first | (with_reducible first | exact HB.out | apply below_alloc | apply pw_below_drewN | apply below_drew1 | refine below_set ?_ GE184.out) | exact HB.out)) hb); clear HO193; clear HO196; clear BK184; clear HB; have HO193 := n0_; have HO196 := n1_; have BK184 := n2_; have HB := n3_; clear n0_ n1_ n2_ n3_; (try clear hb); (try clear hb2); (try clear hk); (try clear hi)))
                        go_ret
                        exact ⟨by first | rfl | (simp [errW_none, errW_some] <;> rfl) | (simp [*, errW_none, errW_some] <;> rfl), by repeat (first | (with_reducible first | exact HB.out | apply below_alloc | apply pw_below_drewN | apply below_drew1 | refine below_set ?_ GE184.out) | exact HB.out)⟩
                      · rw [if_neg c54] at H
                        have c54b0 : decide ((t191.length : Int) ≤ 40) = false := decide_eq_false c54
                        have c54b1 : decide (t191.length ≤ 40) = false := decide_eq_false (by omega)
                        clear c54
                        exact absurd H (by rw [HT.out]; simp)
                    · replace c53 := Bool.eq_false_iff.mpr c53
                      subst c53
                      have H1 : (some false) = some r := by rw [if_neg (show ¬ (false = true) by decide)] at H; exact H
                      clear H
                      have H := H1
                      clear H1
                      exact absurd H (by rw [HT.out]; simp)
                  · replace c51 := Bool.eq_false_iff.mpr c51
                    subst c51
                    have H1 : (some false) = some r := by rw [if_neg (show ¬ (false = true) by decide)] at H; exact H
                    clear H
                    have H := H1
                    clear H1
                    exact absurd H (by rw [HT.out]; simp)
                · rw [if_neg c49] at H
                  have c49b0 : (t198 == false) = false := by simpa using c49
                  (try (have c49b1 : decide (t198 = false) = false := by simpa using c49))
                  (try (have c49b2 : (t198 == false) = false := by simpa using c49))
                  (try (have c49b3 : ¬ (t198 = false) := by simpa using c49))
                  clear c49
                  exact absurd H (by rw [HT.out]; simp)
            · replace c22 := Bool.eq_false_iff.mpr c22
              subst c22
              have H1 : (some false) = some r := by rw [if_neg (show ¬ (false = true) by decide)] at H; exact H
              clear H
              have H := H1
              clear H1
              exact absurd H (by rw [HT.out]; simp)
          · replace c20 := Bool.eq_false_iff.mpr c20
            subst c20
            have H1 : (if t190 = true then ((tableauref08_Has.f k1 t191 (wrap64 (t186 - 16777216)) (wrap64 (t187 - 16777216))).bind fun t209 => (if t209 = true then ((tableauref08_Has.f k1 t194 (wrap64 (t186 - 16777216)) (wrap64 (t187 - 16777216))).bind fun t210 => ((damage_Flat.f k1 l0).bind fun t211 => ((tableauref08_Has.f k1 t211 (wrap64 (t186 - 16777216)) (wrap64 (t187 - 16777216))).bind fun t214 => (if (t210 == t214) = true then ((tableauref08_Check.f k1 t191).bind fun t215 => (if t215 = true then ((tableauref08_Check.f k1 t194).bind fun t216 => (if t216 = true then (if (t191.length : Int) ≤ 40 then ((tableaulaw09_awake.f k1).bind fun t217 => (some t217)) else (some false)) else (some false))) else (some false))) else (some false))))) else (some false))) else ((tableauref08_Has.f k1 t194 (wrap64 (t186 - 16777216)) (wrap64 (t187 - 16777216))).bind fun t218 => (if (t218 == false) = true then ((tableauref08_Check.f k1 t191).bind fun t219 => (if t219 = true then ((tableauref08_Check.f k1 t194).bind fun t220 => (if t220 = true then (if (t191.length : Int) ≤ 40 then ((tableaulaw09_awake.f k1).bind fun t221 => (some t221)) else (some false)) else (some false))) else (some false))) else (some false)))) = some r := by rw [if_neg (show ¬ (false = true) by decide)] at H; exact H
            clear H
            have H := H1
            clear H1
            by_cases c68 : t190 = true
            · subst c68
              have H1 : ((tableauref08_Has.f k1 t191 (wrap64 (t186 - 16777216)) (wrap64 (t187 - 16777216))).bind fun t209 => (if t209 = true then ((tableauref08_Has.f k1 t194 (wrap64 (t186 - 16777216)) (wrap64 (t187 - 16777216))).bind fun t210 => ((damage_Flat.f k1 l0).bind fun t211 => ((tableauref08_Has.f k1 t211 (wrap64 (t186 - 16777216)) (wrap64 (t187 - 16777216))).bind fun t214 => (if (t210 == t214) = true then ((tableauref08_Check.f k1 t191).bind fun t215 => (if t215 = true then ((tableauref08_Check.f k1 t194).bind fun t216 => (if t216 = true then (if (t191.length : Int) ≤ 40 then ((tableaulaw09_awake.f k1).bind fun t217 => (some t217)) else (some false)) else (some false))) else (some false))) else (some false))))) else (some false))) = some r := by rw [if_pos rfl] at H; exact H
              clear H
              have H := H1
              clear H1
              replace H := Option.bind_eq_some_iff.mp H
              obtain ⟨t209, A690, H⟩ := H
              replace H : (if t209 = true then ((tableauref08_Has.f k1 t194 (wrap64 (t186 - 16777216)) (wrap64 (t187 - 16777216))).bind fun t210 => ((damage_Flat.f k1 l0).bind fun t211 => ((tableauref08_Has.f k1 t211 (wrap64 (t186 - 16777216)) (wrap64 (t187 - 16777216))).bind fun t214 => (if (t210 == t214) = true then ((tableauref08_Check.f k1 t191).bind fun t215 => (if t215 = true then ((tableauref08_Check.f k1 t194).bind fun t216 => (if t216 = true then (if (t191.length : Int) ≤ 40 then ((tableaulaw09_awake.f k1).bind fun t217 => (some t217)) else (some false)) else (some false))) else (some false))) else (some false))))) else (some false)) = some r := H
              have A69 := Aside0.mk A690
              clear A690
              by_cases c70 : t209 = true
              · subst c70
                have H1 : ((tableauref08_Has.f k1 t194 (wrap64 (t186 - 16777216)) (wrap64 (t187 - 16777216))).bind fun t210 => ((damage_Flat.f k1 l0).bind fun t211 => ((tableauref08_Has.f k1 t211 (wrap64 (t186 - 16777216)) (wrap64 (t187 - 16777216))).bind fun t214 => (if (t210 == t214) = true then ((tableauref08_Check.f k1 t191).bind fun t215 => (if t215 = true then ((tableauref08_Check.f k1 t194).bind fun t216 => (if t216 = true then (if (t191.length : Int) ≤ 40 then ((tableaulaw09_awake.f k1).bind fun t217 => (some t217)) else (some false)) else (some false))) else (some false))) else (some false))))) = some r := by rw [if_pos rfl] at H; exact H
                clear H
                have H := H1
                clear H1
                replace H := Option.bind_eq_some_iff.mp H
                obtain ⟨t210, A710, H⟩ := H
                replace H : ((damage_Flat.f k1 l0).bind fun t211 => ((tableauref08_Has.f k1 t211 (wrap64 (t186 - 16777216)) (wrap64 (t187 - 16777216))).bind fun t214 => (if (t210 == t214) = true then ((tableauref08_Check.f k1 t191).bind fun t215 => (if t215 = true then ((tableauref08_Check.f k1 t194).bind fun t216 => (if t216 = true then (if (t191.length : Int) ≤ 40 then ((tableaulaw09_awake.f k1).bind fun t217 => (some t217)) else (some false)) else (some false))) else (some false))) else (some false)))) = some r := H
                have A71 := Aside0.mk A710
                clear A710
                replace H := Option.bind_eq_some_iff.mp H
                obtain ⟨t211, A720, H⟩ := H
                replace H : ((tableauref08_Has.f k1 t211 (wrap64 (t186 - 16777216)) (wrap64 (t187 - 16777216))).bind fun t214 => (if (t210 == t214) = true then ((tableauref08_Check.f k1 t191).bind fun t215 => (if t215 = true then ((tableauref08_Check.f k1 t194).bind fun t216 => (if t216 = true then (if (t191.length : Int) ≤ 40 then ((tableaulaw09_awake.f k1).bind fun t217 => (some t217)) else (some false)) else (some false))) else (some false))) else (some false))) = some r := H
                have A72 := Aside0.mk A720
                clear A720
                replace H := Option.bind_eq_some_iff.mp H
                obtain ⟨t214, A730, H⟩ := H
                replace H : (if (t210 == t214) = true then ((tableauref08_Check.f k1 t191).bind fun t215 => (if t215 = true then ((tableauref08_Check.f k1 t194).bind fun t216 => (if t216 = true then (if (t191.length : Int) ≤ 40 then ((tableaulaw09_awake.f k1).bind fun t217 => (some t217)) else (some false)) else (some false))) else (some false))) else (some false)) = some r := H
                have A73 := Aside0.mk A730
                clear A730
                by_cases c74 : (t210 == t214) = true
                · rw [if_pos c74] at H
                  have c74b0 : (t210 == t214) = true := c74
                  (try (have c74b1 : decide (t210 = t214) = true := by simpa using c74))
                  (try (have c74b2 : (t210 == t214) = true := by simpa using c74))
                  clear c74
                  replace H := Option.bind_eq_some_iff.mp H
                  obtain ⟨t215, A750, H⟩ := H
                  replace H : (if t215 = true then ((tableauref08_Check.f k1 t194).bind fun t216 => (if t216 = true then (if (t191.length : Int) ≤ 40 then ((tableaulaw09_awake.f k1).bind fun t217 => (some t217)) else (some false)) else (some false))) else (some false)) = some r := H
                  have A75 := Aside0.mk A750
                  clear A750
                  by_cases c76 : t215 = true
                  · subst c76
                    have H1 : ((tableauref08_Check.f k1 t194).bind fun t216 => (if t216 = true then (if (t191.length : Int) ≤ 40 then ((tableaulaw09_awake.f k1).bind fun t217 => (some t217)) else (some false)) else (some false))) = some r := by rw [if_pos rfl] at H; exact H
                    clear H
                    have H := H1
                    clear H1
                    replace H := Option.bind_eq_some_iff.mp H
                    obtain ⟨t216, A770, H⟩ := H
                    replace H : (if t216 = true then (if (t191.length : Int) ≤ 40 then ((tableaulaw09_awake.f k1).bind fun t217 => (some t217)) else (some false)) else (some false)) = some r := H
                    have A77 := Aside0.mk A770
                    clear A770
                    by_cases c78 : t216 = true
                    · subst c78
                      have H1 : (if (t191.length : Int) ≤ 40 then ((tableaulaw09_awake.f k1).bind fun t217 => (some t217)) else (some false)) = some r := by rw [if_pos rfl] at H; exact H
                      clear H
                      have H := H1
                      clear H1
                      by_cases c79 : (t191.length : Int) ≤ 40
                      · rw [if_pos c79] at H
                        have c79b0 : decide ((t191.length : Int) ≤ 40) = true := decide_eq_true c79
                        have c79b1 : decide (t191.length ≤ 40) = true := decide_eq_true (by omega)
                        clear c79
                        replace H := Option.bind_eq_some_iff.mp H
                        obtain ⟨t217, A800, H⟩ := H
                        replace H : (some t217) = some r := H
                        have A80 := Aside0.mk A800
                        clear A800
                        obtain rfl := Option.some.inj H
                        have hcz81_0 : wr.cell? ⟨gb184, 0, none⟩ = some (.int .i64 a1_0) := (blk_cell BK184.out 0).trans rfl
                        have hcz81_1 : wr.cell? ⟨gb184, 1, none⟩ = some (.int .i64 a1_1) := (blk_cell BK184.out 1).trans rfl
                        have hcz81_2 : wr.cell? ⟨gb184, 2, none⟩ = some (.int .i64 a1_2) := (blk_cell BK184.out 2).trans rfl
                        have hcz81_3 : wr.cell? ⟨gb184, 3, none⟩ = some (.int .i64 a1_3) := (blk_cell BK184.out 3).trans rfl
                        have hfz81_0 := blk_frozen BK184.out 0
                        have hfz81_1 := blk_frozen BK184.out 1
                        have hfz81_2 := blk_frozen BK184.out 2
                        have hfz81_3 := blk_frozen BK184.out 3
                        try go_wp2_with (first | ((with_reducible refine gate_callee (f := 31) rfl ?_); refine goesL_ (some 45) rfl rfl Try.func31 (by kernel_rfl) rfl #[.agg #[.int .i64 a1_0, .int .i64 a1_1, .int .i64 a1_2, .int .i64 a1_3], .int .i64 (wrap64 (t186 - 16777216)), .int .i64 (wrap64 (t187 - 16777216))] rfl (by (try simp only [List.map_toArray, List.map_cons, List.map_nil]); first | done | rfl | (simp only [List.length_drop, List.length_take]; rfl)) ?_; (with_reducible refine (tableauref07_Has.calls a1_0 a1_1 a1_2 a1_3 (wrap64 (t186 - 16777216)) (wrap64 (t187 - 16777216)) true _ A17.out).mono ?_); rintro e w82 ⟨rfl, hb⟩; refine ⟨_, rfl, ?_⟩; have n0_ := Aside0.mk (blk_below (g := gb184) (o := .cells #[.int .i64 a1_0, .int .i64 a1_1, .int .i64 a1_2, .int .i64 a1_3] 23 (0, 0)) (by (with_reducible repeat (first | refine blk_drewN ?_ _ | refine blk_drew ?_ | refine blk_alloc ?_ _)); exact BK184.out) hb); have n1_ := Aside0.mk (below_step (by repeat (first | (with_reducible first | exact HB.out | apply below_alloc | apply pw_below_drewN | apply below_drew1 | refine below_set ?_ GE184.out) | exact HB.out)) hb); clear BK184; clear HB; have BK184 := n0_; have HB := n1_; clear n0_ n1_; (try clear hb); (try clear hb2); (try clear hk); (try clear hi)))
                        have n0_ := Aside0.mk (blk_drew BK184.out)
                        have n1_ := Aside0.mk (below_drew1 HB.out)
                        clear BK184
                        clear HB
                        have BK184 := n0_
                        have HB := n1_
                        clear n0_ n1_
                        refine start_ (n := 8) (S := fun w' => w'.cell? ⟨gb184, 0, none⟩ = some (.int .i64 a1_0) ∧ w'.cell? ⟨gb184, 1, none⟩ = some (.int .i64 a1_1) ∧ w'.cell? ⟨gb184, 2, none⟩ = some (.int .i64 a1_2) ∧ w'.cell? ⟨gb184, 3, none⟩ = some (.int .i64 a1_3)) (ds := []) #[false, false, false, false, false, false, false, false] (by kernel_rfl) rfl rfl ⟨(blk_cell BK184.out 0).trans rfl, (blk_cell BK184.out 1).trans rfl, (blk_cell BK184.out 2).trans rfl, (blk_cell BK184.out 3).trans rfl⟩ (fun hHeld => ?_); refine with_tabW tableaulaw09_DamageKeeps.tab10 tableaulaw09_DamageKeeps.bits10 (fun HT_ HW_ => ?_)
                        generalize w82.drew = w83 at BK184 HB hHeld ⊢
                        refine pure_ (i := 0) (N := some 46) (v := ?_) (a' := ?_) #[true, false, false, false, false, false, false, false] rfl rfl (any_of HT_.out (by kernel_rfl)) (fun _ _ _ h => h) (Or.inl ⟨by rfl, ?_⟩) ?_ ?_
                        rotate_left
                        · intro w'
                          go_simp
                          with_reducible rfl
                        rotate_left
                        · simp only [Act.put, List.setIfInBounds_toArray, List.set_cons_zero, List.set_cons_succ, i64_w, i32_w]
                          rfl
                        refine pure_ (i := 3) (N := some 49) (v := ?_) (a' := ?_) #[true, false, false, true, false, false, false, false] rfl rfl (any_of HT_.out (by kernel_rfl)) (fun _ _ _ h => h) (Or.inl ⟨by rfl, ?_⟩) ?_ ?_
                        rotate_left
                        · intro w'
                          go_simp
                          with_reducible rfl
                        rotate_left
                        · simp only [Act.put, List.setIfInBounds_toArray, List.set_cons_zero, List.set_cons_succ, i64_w, i32_w]
                          rfl
                        refine take_ (i := 1) (N := some 47) (v := ?_) (a' := ?_) #[true, true, false, true, false, false, false, false] rfl rfl (take_ofW HT_.out HW_.out (by kernel_rfl)) (fun _ _ _ h => h) (Or.inl ⟨by rfl, ?_⟩) hHeld ?_ ?_
                        rotate_left
                        · rintro w' ⟨s0, s1, s2, s3⟩
                          go_simp
                          with_reducible rfl
                        rotate_left
                        · simp only [Act.put, List.setIfInBounds_toArray, List.set_cons_zero, List.set_cons_succ, i64_w, i32_w]
                          rfl
                        refine take_ (i := 4) (N := some 50) (v := ?_) (a' := ?_) #[true, true, false, true, true, false, false, false] rfl rfl (take_ofW HT_.out HW_.out (by kernel_rfl)) (fun _ _ _ h => h) (Or.inl ⟨by rfl, ?_⟩) hHeld ?_ ?_
                        rotate_left
                        · rintro w' ⟨s0, s1, s2, s3⟩
                          go_simp
                          with_reducible rfl
                        rotate_left
                        · simp only [Act.put, List.setIfInBounds_toArray, List.set_cons_zero, List.set_cons_succ, i64_w, i32_w]
                          rfl
                        refine one_ (i := 2) (N := some 48) #[true, true, true, true, true, false, false, false] rfl rfl (one_of HT_.out (by kernel_rfl)) (by decide) (fun K hK => ?_)
                        refine goes_ Try.func32 (by kernel_rfl) rfl #[.slice A0 l0.length c0, .agg #[.int .i64 a1_0, .int .i64 a1_1, .int .i64 a1_2, .int .i64 a1_3]] (by rfl) rfl rfl (by (try simp only [List.map_toArray, List.map_cons, List.map_nil]); first | done | rfl | (simp only [List.length_drop, List.length_take]; rfl)) ?_
                        with_reducible refine (damage_Add.calls k1 _ _ l0 a1_0 a1_1 a1_2 a1_3 t191 _ ?side1 ?side2 A18.out).mono ?_
                        (case side1 => repeat (first | exact (Kd.C_below HR0.out HB.out) | (with_reducible refine Kd.C_alloc ?_ _) | (with_reducible refine Kd.C_drewN ?_ _) | (with_reducible refine Kd.C_drew ?_)))
                        (case side2 => exact HC0.out)
                        rintro e w84 ⟨v192, rfl, ho0, hb⟩
                        refine ⟨_, rfl, ?_⟩
                        have n0_ := Aside0.mk (Kd.V_lower (Kd.V_mono (ok' := fun k_ => k_ ≠ gb184) ho0 (fun k_ hk_ => (Kd.freshB (g := gb184) (o := .cells #[.int .i64 a1_0, .int .i64 a1_1, .int .i64 a1_2, .int .i64 a1_3] 23 (0, 0)) (by (with_reducible repeat (first | refine blk_drewN ?_ _ | refine blk_drew ?_ | refine blk_alloc ?_ _)); exact BK184.out) k_ hk_))) (below_size (by repeat (first | (with_reducible first | exact HB.out | apply below_alloc | apply pw_below_drewN | apply below_drew1 | refine below_set ?_ GE184.out) | exact HB.out))))
                        have n1_ := Aside0.mk (blk_below (g := gb184) (o := .cells #[.int .i64 a1_0, .int .i64 a1_1, .int .i64 a1_2, .int .i64 a1_3] 23 (0, 0)) (by (with_reducible repeat (first | refine blk_drewN ?_ _ | refine blk_drew ?_ | refine blk_alloc ?_ _)); exact BK184.out) hb)
                        have n2_ := Aside0.mk (below_step (by repeat (first | (with_reducible first | exact HB.out | apply below_alloc | apply pw_below_drewN | apply below_drew1 | refine below_set ?_ GE184.out) | exact HB.out)) hb)
                        clear BK184
                        clear HB
                        have HO193 := n0_
                        have BK184 := n1_
                        have HB := n2_
                        clear n0_ n1_ n2_
                        (try clear hb)
                        (try clear hb2)
                        (try clear hk)
                        (try clear hi)
                        (try clear ho0)
                        refine hK.out _ _ ⟨(blk_cell BK184.out 0).trans rfl, (blk_cell BK184.out 1).trans rfl, (blk_cell BK184.out 2).trans rfl, (blk_cell BK184.out 3).trans rfl⟩ (fun hHeld => ?_)
                        clear hK K
                        refine norm_ (a' := ?_) ?_ ?_
                        rotate_left
                        · show Act.put _ (some 48) _ = _
                          simp only [Act.put, List.setIfInBounds_toArray, List.set_cons_zero, List.set_cons_succ, i64_w, i32_w]
                          rfl
                        refine one_ (i := 5) (N := some 51) #[true, true, true, true, true, true, false, false] rfl rfl (one_of HT_.out (by kernel_rfl)) (by decide) (fun K hK => ?_)
                        refine goes_ Try.func33 (by kernel_rfl) rfl #[.slice A0 l0.length c0, .agg #[.int .i64 a1_0, .int .i64 a1_1, .int .i64 a1_2, .int .i64 a1_3]] (by rfl) rfl rfl (by (try simp only [List.map_toArray, List.map_cons, List.map_nil]); first | done | rfl | (simp only [List.length_drop, List.length_take]; rfl)) ?_
                        with_reducible refine (damage_Clip.calls k1 _ _ l0 a1_0 a1_1 a1_2 a1_3 t194 _ ?side1 ?side2 A19.out).mono ?_
                        (case side1 => repeat (first | exact (Kd.C_below HR0.out HB.out) | (with_reducible refine Kd.C_alloc ?_ _) | (with_reducible refine Kd.C_drewN ?_ _) | (with_reducible refine Kd.C_drew ?_)))
                        (case side2 => exact HC0.out)
                        rintro e w85 ⟨v195, rfl, ho0, hb⟩
                        refine ⟨_, rfl, ?_⟩
                        have n0_ := Aside0.mk (Kd.V_elder' (by (with_reducible repeat (first | apply Kd.V_alloc | apply Kd.V_drewN | apply Kd.V_drew)); exact HO193.out) (Kd.R_base ho0) hb)
                        have n1_ := Aside0.mk (Kd.R_lower (Kd.R_newB ho0 (g := gb184) (o := .cells #[.int .i64 a1_0, .int .i64 a1_1, .int .i64 a1_2, .int .i64 a1_3] 23 (0, 0)) (by (with_reducible repeat (first | refine blk_drewN ?_ _ | refine blk_drew ?_ | refine blk_alloc ?_ _)); exact BK184.out)) (below_size (by repeat (first | (with_reducible first | exact HB.out | apply below_alloc | apply pw_below_drewN | apply below_drew1 | refine below_set ?_ GE184.out) | exact HB.out))))
                        have n2_ := Aside0.mk (blk_below (g := gb184) (o := .cells #[.int .i64 a1_0, .int .i64 a1_1, .int .i64 a1_2, .int .i64 a1_3] 23 (0, 0)) (by (with_reducible repeat (first | refine blk_drewN ?_ _ | refine blk_drew ?_ | refine blk_alloc ?_ _)); exact BK184.out) hb)
                        have n3_ := Aside0.mk (below_step (by repeat (first | (with_reducible first | exact HB.out | apply below_alloc | apply pw_below_drewN | apply below_drew1 | refine below_set ?_ GE184.out) | exact HB.out)) hb)
                        clear HO193
                        clear BK184
                        clear HB
                        have HO193 := n0_
                        have HO196 := n1_
                        have BK184 := n2_
                        have HB := n3_
                        clear n0_ n1_ n2_ n3_
                        (try clear hb)
                        (try clear hb2)
                        (try clear hk)
                        (try clear hi)
                        (try clear ho0)
                        refine hK.out _ _ ⟨(blk_cell BK184.out 0).trans rfl, (blk_cell BK184.out 1).trans rfl, (blk_cell BK184.out 2).trans rfl, (blk_cell BK184.out 3).trans rfl⟩ (fun hHeld => ?_)
                        clear hK K
                        refine norm_ (a' := ?_) ?_ ?_
                        rotate_left
                        · show Act.put _ (some 51) _ = _
                          simp only [Act.put, List.setIfInBounds_toArray, List.set_cons_zero, List.set_cons_succ, i64_w, i32_w]
                          rfl
                        refine pure_ (i := 6) (N := some 14) (v := ?_) (a' := ?_) #[true, true, true, true, true, true, true, false] rfl rfl (any_of HT_.out (by kernel_rfl)) (fun _ _ _ h => h) (Or.inl ⟨by rfl, ?_⟩) ?_ ?_
                        rotate_left
                        · intro w'
                          go_simp
                          with_reducible rfl
                        rotate_left
                        · simp only [Act.put, List.setIfInBounds_toArray, List.set_cons_zero, List.set_cons_succ, i64_w, i32_w]
                          rfl
                        refine pure_ (i := 7) (N := some 15) (v := ?_) (a' := ?_) #[true, true, true, true, true, true, true, true] rfl rfl (any_of HT_.out (by kernel_rfl)) (fun _ _ _ h => h) (Or.inl ⟨by rfl, ?_⟩) ?_ ?_
                        rotate_left
                        · intro w'
                          go_simp
                          with_reducible rfl
                        rotate_left
                        · simp only [Act.put, List.setIfInBounds_toArray, List.set_cons_zero, List.set_cons_succ, i64_w, i32_w]
                          rfl
                        refine done_ (done_of HT_.out (by kernel_rfl)) ?_
                        obtain ⟨Ao86, co86, eo86⟩ := Kd.V_slice HO193.out
                        subst eo86
                        try go_wp2_with (first | (go_at_call 26; (with_reducible refine (tableauref08_Has.calls k1 _ _ t191 (wrap64 (t186 - 16777216)) (wrap64 (t187 - 16777216)) true _ ?side1 ?side2 A69.out).mono ?_); (case side1 => repeat (first | exact (Kd.V_reads' HO193.out).2.2 | (with_reducible refine Kd.C_alloc ?_ _) | (with_reducible refine Kd.C_drewN ?_ _) | (with_reducible refine Kd.C_drew ?_))); (case side2 => exact (Kd.V_reads' HO193.out).2.1); rintro e w87 ⟨rfl, hb⟩; have n0_ := Aside0.mk (Kd.V_below (by (with_reducible repeat (first | apply Kd.V_alloc | apply Kd.V_drewN | apply Kd.V_drew)); exact HO193.out) hb); have n1_ := Aside0.mk (Kd.R_below (by (with_reducible repeat (first | apply Kd.R_alloc | apply Kd.R_drewN | apply Kd.R_drew)); exact HO196.out) hb); have n2_ := Aside0.mk (blk_below (g := gb184) (o := .cells #[.int .i64 a1_0, .int .i64 a1_1, .int .i64 a1_2, .int .i64 a1_3] 23 (0, 0)) (by (with_reducible repeat (first | refine blk_drewN ?_ _ | refine blk_drew ?_ | refine blk_alloc ?_ _)); exact BK184.out) hb); have n3_ := Aside0.mk (below_step (by repeat (first | (with_reducible first | exact HB.out | apply below_alloc | apply pw_below_drewN | apply below_drew1 | refine below_set ?_ GE184.out) | exact HB.out)) hb); clear HO193; clear HO196; clear BK184; clear HB; have HO193 := n0_; have HO196 := n1_; have BK184 := n2_; have HB := n3_; clear n0_ n1_ n2_ n3_; (try clear hb); (try clear hb2); (try clear hk); (try clear hi); obtain ⟨Ao88, co88, eo88⟩ := Kd.R_slice HO196.out; subst eo88) | (go_at_call 26; (with_reducible refine (tableauref08_Has.calls k1 _ _ t194 (wrap64 (t186 - 16777216)) (wrap64 (t187 - 16777216)) t210 _ ?side1 ?side2 A71.out).mono ?_); (case side1 => repeat (first | exact (Kd.R_reads' HO196.out).2.2 | (with_reducible refine Kd.C_alloc ?_ _) | (with_reducible refine Kd.C_drewN ?_ _) | (with_reducible refine Kd.C_drew ?_))); (case side2 => exact (Kd.R_reads' HO196.out).2.1); rintro e w89 ⟨rfl, hb⟩; have n0_ := Aside0.mk (Kd.V_below (by (with_reducible repeat (first | apply Kd.V_alloc | apply Kd.V_drewN | apply Kd.V_drew)); exact HO193.out) hb); have n1_ := Aside0.mk (Kd.R_below (by (with_reducible repeat (first | apply Kd.R_alloc | apply Kd.R_drewN | apply Kd.R_drew)); exact HO196.out) hb); have n2_ := Aside0.mk (blk_below (g := gb184) (o := .cells #[.int .i64 a1_0, .int .i64 a1_1, .int .i64 a1_2, .int .i64 a1_3] 23 (0, 0)) (by (with_reducible repeat (first | refine blk_drewN ?_ _ | refine blk_drew ?_ | refine blk_alloc ?_ _)); exact BK184.out) hb); have n3_ := Aside0.mk (below_step (by repeat (first | (with_reducible first | exact HB.out | apply below_alloc | apply pw_below_drewN | apply below_drew1 | refine below_set ?_ GE184.out) | exact HB.out)) hb); clear HO193; clear HO196; clear BK184; clear HB; have HO193 := n0_; have HO196 := n1_; have BK184 := n2_; have HB := n3_; clear n0_ n1_ n2_ n3_; (try clear hb); (try clear hb2); (try clear hk); (try clear hi)) | (go_at_call 34; (with_reducible refine (damage_Flat.calls k1 _ _ l0 t211 _ ?side1 ?side2 A72.out).mono ?_); (case side1 => repeat (first | exact (Kd.C_below HR0.out HB.out) | (with_reducible refine Kd.C_alloc ?_ _) | (with_reducible refine Kd.C_drewN ?_ _) | (with_reducible refine Kd.C_drew ?_))); (case side2 => exact HC0.out); rintro e w90 ⟨v212, rfl, ho0, hb⟩; have n0_ := Aside0.mk (Kd.V_below (by (with_reducible repeat (first | apply Kd.V_alloc | apply Kd.V_drewN | apply Kd.V_drew)); exact HO193.out) hb); have n1_ := Aside0.mk (Kd.R_below (by (with_reducible repeat (first | apply Kd.R_alloc | apply Kd.R_drewN | apply Kd.R_drew)); exact HO196.out) hb); have n2_ := Aside0.mk (Kd.V_lower (Kd.V_mono (ok' := fun k_ => some k_ ≠ (.slice Ao88 t194.length co88 : Value).ownBlock ∧ k_ ≠ gb184) ho0 (fun k_ hk_ => ⟨(Kd.fresh' (Kd.R_lt (by (with_reducible repeat (first | apply Kd.R_alloc | apply Kd.R_drewN | apply Kd.R_drew)); exact HO196.out)) k_ hk_), (Kd.freshB (g := gb184) (o := .cells #[.int .i64 a1_0, .int .i64 a1_1, .int .i64 a1_2, .int .i64 a1_3] 23 (0, 0)) (by (with_reducible repeat (first | refine blk_drewN ?_ _ | refine blk_drew ?_ | refine blk_alloc ?_ _)); exact BK184.out) k_ hk_)⟩)) (below_size (by repeat (first | (with_reducible first | exact HB.out | apply below_alloc | apply pw_below_drewN | apply below_drew1 | refine below_set ?_ GE184.out) | exact HB.out)))); have n3_ := Aside0.mk (blk_below (g := gb184) (o := .cells #[.int .i64 a1_0, .int .i64 a1_1, .int .i64 a1_2, .int .i64 a1_3] 23 (0, 0)) (by (with_reducible repeat (first | refine blk_drewN ?_ _ | refine blk_drew ?_ | refine blk_alloc ?_ _)); exact BK184.out) hb); have n4_ := Aside0.mk (below_step (by repeat (first | (with_reducible first | exact HB.out | apply below_alloc | apply pw_below_drewN | apply below_drew1 | refine below_set ?_ GE184.out) | exact HB.out)) hb); clear HO193; clear HO196; clear BK184; clear HB; have HO193 := n0_; have HO196 := n1_; have HO213 := n2_; have BK184 := n3_; have HB := n4_; clear n0_ n1_ n2_ n3_ n4_; (try clear hb); (try clear hb2); (try clear hk); (try clear hi); (try clear ho0); obtain ⟨Ao91, co91, eo91⟩ := Kd.V_slice HO213.out; subst eo91) | (go_at_call 26; (with_reducible refine (tableauref08_Has.calls k1 _ _ t211 (wrap64 (t186 - 16777216)) (wrap64 (t187 - 16777216)) t214 _ ?side1 ?side2 A73.out).mono ?_); (case side1 => repeat (first | exact (Kd.V_reads' HO213.out).2.2 | (with_reducible refine Kd.C_alloc ?_ _) | (with_reducible refine Kd.C_drewN ?_ _) | (with_reducible refine Kd.C_drew ?_))); (case side2 => exact (Kd.V_reads' HO213.out).2.1); rintro e w92 ⟨rfl, hb⟩; have n0_ := Aside0.mk (Kd.V_below (by (with_reducible repeat (first | apply Kd.V_alloc | apply Kd.V_drewN | apply Kd.V_drew)); exact HO193.out) hb); have n1_ := Aside0.mk (Kd.R_below (by (with_reducible repeat (first | apply Kd.R_alloc | apply Kd.R_drewN | apply Kd.R_drew)); exact HO196.out) hb); have n2_ := Aside0.mk (Kd.V_below (by (with_reducible repeat (first | apply Kd.V_alloc | apply Kd.V_drewN | apply Kd.V_drew)); exact HO213.out) hb); have n3_ := Aside0.mk (blk_below (g := gb184) (o := .cells #[.int .i64 a1_0, .int .i64 a1_1, .int .i64 a1_2, .int .i64 a1_3] 23 (0, 0)) (by (with_reducible repeat (first | refine blk_drewN ?_ _ | refine blk_drew ?_ | refine blk_alloc ?_ _)); exact BK184.out) hb); have n4_ := Aside0.mk (below_step (by repeat (first | (with_reducible first | exact HB.out | apply below_alloc | apply pw_below_drewN | apply below_drew1 | refine below_set ?_ GE184.out) | exact HB.out)) hb); clear HO193; clear HO196; clear HO213; clear BK184; clear HB; have HO193 := n0_; have HO196 := n1_; have HO213 := n2_; have BK184 := n3_; have HB := n4_; clear n0_ n1_ n2_ n3_ n4_; (try clear hb); (try clear hb2); (try clear hk); (try clear hi)) | (go_at_call 35; (with_reducible refine (tableauref08_Check.calls k1 _ _ t191 true _ ?side1 ?side2 A75.out).mono ?_); (case side1 => repeat (first | exact (Kd.V_reads' HO193.out).2.2 | (with_reducible refine Kd.C_alloc ?_ _) | (with_reducible refine Kd.C_drewN ?_ _) | (with_reducible refine Kd.C_drew ?_))); (case side2 => exact (Kd.V_reads' HO193.out).2.1); rintro e w93 ⟨rfl, hb⟩; have n0_ := Aside0.mk (Kd.V_below (by (with_reducible repeat (first | apply Kd.V_alloc | apply Kd.V_drewN | apply Kd.V_drew)); exact HO193.out) hb); have n1_ := Aside0.mk (Kd.R_below (by (with_reducible repeat (first | apply Kd.R_alloc | apply Kd.R_drewN | apply Kd.R_drew)); exact HO196.out) hb); have n2_ := Aside0.mk (Kd.V_below (by (with_reducible repeat (first | apply Kd.V_alloc | apply Kd.V_drewN | apply Kd.V_drew)); exact HO213.out) hb); have n3_ := Aside0.mk (blk_below (g := gb184) (o := .cells #[.int .i64 a1_0, .int .i64 a1_1, .int .i64 a1_2, .int .i64 a1_3] 23 (0, 0)) (by (with_reducible repeat (first | refine blk_drewN ?_ _ | refine blk_drew ?_ | refine blk_alloc ?_ _)); exact BK184.out) hb); have n4_ := Aside0.mk (below_step (by repeat (first | (with_reducible first | exact HB.out | apply below_alloc | apply pw_below_drewN | apply below_drew1 | refine below_set ?_ GE184.out) | exact HB.out)) hb); clear HO193; clear HO196; clear HO213; clear BK184; clear HB; have HO193 := n0_; have HO196 := n1_; have HO213 := n2_; have BK184 := n3_; have HB := n4_; clear n0_ n1_ n2_ n3_ n4_; (try clear hb); (try clear hb2); (try clear hk); (try clear hi)) | (go_at_call 35; (with_reducible refine (tableauref08_Check.calls k1 _ _ t194 true _ ?side1 ?side2 A77.out).mono ?_); (case side1 => repeat (first | exact (Kd.R_reads' HO196.out).2.2 | (with_reducible refine Kd.C_alloc ?_ _) | (with_reducible refine Kd.C_drewN ?_ _) | (with_reducible refine Kd.C_drew ?_))); (case side2 => exact (Kd.R_reads' HO196.out).2.1); rintro e w94 ⟨rfl, hb⟩; have n0_ := Aside0.mk (Kd.V_below (by (with_reducible repeat (first | apply Kd.V_alloc | apply Kd.V_drewN | apply Kd.V_drew)); exact HO193.out) hb); have n1_ := Aside0.mk (Kd.R_below (by (with_reducible repeat (first | apply Kd.R_alloc | apply Kd.R_drewN | apply Kd.R_drew)); exact HO196.out) hb); have n2_ := Aside0.mk (Kd.V_below (by (with_reducible repeat (first | apply Kd.V_alloc | apply Kd.V_drewN | apply Kd.V_drew)); exact HO213.out) hb); have n3_ := Aside0.mk (blk_below (g := gb184) (o := .cells #[.int .i64 a1_0, .int .i64 a1_1, .int .i64 a1_2, .int .i64 a1_3] 23 (0, 0)) (by (with_reducible repeat (first | refine blk_drewN ?_ _ | refine blk_drew ?_ | refine blk_alloc ?_ _)); exact BK184.out) hb); have n4_ := Aside0.mk (below_step (by repeat (first | (with_reducible first | exact HB.out | apply below_alloc | apply pw_below_drewN | apply below_drew1 | refine below_set ?_ GE184.out) | exact HB.out)) hb); clear HO193; clear HO196; clear HO213; clear BK184; clear HB; have HO193 := n0_; have HO196 := n1_; have HO213 := n2_; have BK184 := n3_; have HB := n4_; clear n0_ n1_ n2_ n3_ n4_; (try clear hb); (try clear hb2); (try clear hk); (try clear hi)) | (go_at_call 30; (with_reducible refine (tableaulaw09_awake.calls k1  t217 _ A80.out).mono ?_); rintro e w95 ⟨rfl, hb⟩; have n0_ := Aside0.mk (Kd.V_below (by (with_reducible repeat (first | apply Kd.V_alloc | apply Kd.V_drewN | apply Kd.V_drew)); exact HO193.out) hb); have n1_ := Aside0.mk (Kd.R_below (by (with_reducible repeat (first | apply Kd.R_alloc | apply Kd.R_drewN | apply Kd.R_drew)); exact HO196.out) hb); have n2_ := Aside0.mk (Kd.V_below (by (with_reducible repeat (first | apply Kd.V_alloc | apply Kd.V_drewN | apply Kd.V_drew)); exact HO213.out) hb); have n3_ := Aside0.mk (blk_below (g := gb184) (o := .cells #[.int .i64 a1_0, .int .i64 a1_1, .int .i64 a1_2, .int .i64 a1_3] 23 (0, 0)) (by (with_reducible repeat (first | refine blk_drewN ?_ _ | refine blk_drew ?_ | refine blk_alloc ?_ _)); exact BK184.out) hb); have n4_ := Aside0.mk (below_step (by repeat (first | (with_reducible first | exact HB.out | apply below_alloc | apply pw_below_drewN | apply below_drew1 | refine below_set ?_ GE184.out) | exact HB.out)) hb); clear HO193; clear HO196; clear HO213; clear BK184; clear HB; have HO193 := n0_; have HO196 := n1_; have HO213 := n2_; have BK184 := n3_; have HB := n4_; clear n0_ n1_ n2_ n3_ n4_; (try clear hb); (try clear hb2); (try clear hk); (try clear hi)))
                        go_ret
                        exact ⟨by first | rfl | (simp [errW_none, errW_some] <;> rfl) | (simp [*, errW_none, errW_some] <;> rfl), by repeat (first | (with_reducible first | exact HB.out | apply below_alloc | apply pw_below_drewN | apply below_drew1 | refine below_set ?_ GE184.out) | exact HB.out)⟩
                      · rw [if_neg c79] at H
                        have c79b0 : decide ((t191.length : Int) ≤ 40) = false := decide_eq_false c79
                        have c79b1 : decide (t191.length ≤ 40) = false := decide_eq_false (by omega)
                        clear c79
                        exact absurd H (by rw [HT.out]; simp)
                    · replace c78 := Bool.eq_false_iff.mpr c78
                      subst c78
                      have H1 : (some false) = some r := by rw [if_neg (show ¬ (false = true) by decide)] at H; exact H
                      clear H
                      have H := H1
                      clear H1
                      exact absurd H (by rw [HT.out]; simp)
                  · replace c76 := Bool.eq_false_iff.mpr c76
                    subst c76
                    have H1 : (some false) = some r := by rw [if_neg (show ¬ (false = true) by decide)] at H; exact H
                    clear H
                    have H := H1
                    clear H1
                    exact absurd H (by rw [HT.out]; simp)
                · rw [if_neg c74] at H
                  have c74b0 : (t210 == t214) = false := by simpa using c74
                  (try (have c74b1 : decide (t210 = t214) = false := by simpa using c74))
                  (try (have c74b2 : (t210 == t214) = false := by simpa using c74))
                  (try (have c74b3 : ¬ (t210 = t214) := by simpa using c74))
                  clear c74
                  exact absurd H (by rw [HT.out]; simp)
              · replace c70 := Bool.eq_false_iff.mpr c70
                subst c70
                have H1 : (some false) = some r := by rw [if_neg (show ¬ (false = true) by decide)] at H; exact H
                clear H
                have H := H1
                clear H1
                exact absurd H (by rw [HT.out]; simp)
            · replace c68 := Bool.eq_false_iff.mpr c68
              subst c68
              have H1 : ((tableauref08_Has.f k1 t194 (wrap64 (t186 - 16777216)) (wrap64 (t187 - 16777216))).bind fun t218 => (if (t218 == false) = true then ((tableauref08_Check.f k1 t191).bind fun t219 => (if t219 = true then ((tableauref08_Check.f k1 t194).bind fun t220 => (if t220 = true then (if (t191.length : Int) ≤ 40 then ((tableaulaw09_awake.f k1).bind fun t221 => (some t221)) else (some false)) else (some false))) else (some false))) else (some false))) = some r := by rw [if_neg (show ¬ (false = true) by decide)] at H; exact H
              clear H
              have H := H1
              clear H1
              replace H := Option.bind_eq_some_iff.mp H
              obtain ⟨t218, A960, H⟩ := H
              replace H : (if (t218 == false) = true then ((tableauref08_Check.f k1 t191).bind fun t219 => (if t219 = true then ((tableauref08_Check.f k1 t194).bind fun t220 => (if t220 = true then (if (t191.length : Int) ≤ 40 then ((tableaulaw09_awake.f k1).bind fun t221 => (some t221)) else (some false)) else (some false))) else (some false))) else (some false)) = some r := H
              have A96 := Aside0.mk A960
              clear A960
              by_cases c97 : (t218 == false) = true
              · rw [if_pos c97] at H
                have c97b0 : (t218 == false) = true := c97
                (try (have c97b1 : decide (t218 = false) = true := by simpa using c97))
                (try (have c97b2 : (t218 == false) = true := by simpa using c97))
                clear c97
                replace H := Option.bind_eq_some_iff.mp H
                obtain ⟨t219, A980, H⟩ := H
                replace H : (if t219 = true then ((tableauref08_Check.f k1 t194).bind fun t220 => (if t220 = true then (if (t191.length : Int) ≤ 40 then ((tableaulaw09_awake.f k1).bind fun t221 => (some t221)) else (some false)) else (some false))) else (some false)) = some r := H
                have A98 := Aside0.mk A980
                clear A980
                by_cases c99 : t219 = true
                · subst c99
                  have H1 : ((tableauref08_Check.f k1 t194).bind fun t220 => (if t220 = true then (if (t191.length : Int) ≤ 40 then ((tableaulaw09_awake.f k1).bind fun t221 => (some t221)) else (some false)) else (some false))) = some r := by rw [if_pos rfl] at H; exact H
                  clear H
                  have H := H1
                  clear H1
                  replace H := Option.bind_eq_some_iff.mp H
                  obtain ⟨t220, A1000, H⟩ := H
                  replace H : (if t220 = true then (if (t191.length : Int) ≤ 40 then ((tableaulaw09_awake.f k1).bind fun t221 => (some t221)) else (some false)) else (some false)) = some r := H
                  have A100 := Aside0.mk A1000
                  clear A1000
                  by_cases c101 : t220 = true
                  · subst c101
                    have H1 : (if (t191.length : Int) ≤ 40 then ((tableaulaw09_awake.f k1).bind fun t221 => (some t221)) else (some false)) = some r := by rw [if_pos rfl] at H; exact H
                    clear H
                    have H := H1
                    clear H1
                    by_cases c102 : (t191.length : Int) ≤ 40
                    · rw [if_pos c102] at H
                      have c102b0 : decide ((t191.length : Int) ≤ 40) = true := decide_eq_true c102
                      have c102b1 : decide (t191.length ≤ 40) = true := decide_eq_true (by omega)
                      clear c102
                      replace H := Option.bind_eq_some_iff.mp H
                      obtain ⟨t221, A1030, H⟩ := H
                      replace H : (some t221) = some r := H
                      have A103 := Aside0.mk A1030
                      clear A1030
                      obtain rfl := Option.some.inj H
                      have hcz104_0 : wr.cell? ⟨gb184, 0, none⟩ = some (.int .i64 a1_0) := (blk_cell BK184.out 0).trans rfl
                      have hcz104_1 : wr.cell? ⟨gb184, 1, none⟩ = some (.int .i64 a1_1) := (blk_cell BK184.out 1).trans rfl
                      have hcz104_2 : wr.cell? ⟨gb184, 2, none⟩ = some (.int .i64 a1_2) := (blk_cell BK184.out 2).trans rfl
                      have hcz104_3 : wr.cell? ⟨gb184, 3, none⟩ = some (.int .i64 a1_3) := (blk_cell BK184.out 3).trans rfl
                      have hfz104_0 := blk_frozen BK184.out 0
                      have hfz104_1 := blk_frozen BK184.out 1
                      have hfz104_2 := blk_frozen BK184.out 2
                      have hfz104_3 := blk_frozen BK184.out 3
                      try go_wp2_with (first | ((with_reducible refine gate_callee (f := 31) rfl ?_); refine goesL_ (some 45) rfl rfl Try.func31 (by kernel_rfl) rfl #[.agg #[.int .i64 a1_0, .int .i64 a1_1, .int .i64 a1_2, .int .i64 a1_3], .int .i64 (wrap64 (t186 - 16777216)), .int .i64 (wrap64 (t187 - 16777216))] rfl (by (try simp only [List.map_toArray, List.map_cons, List.map_nil]); first | done | rfl | (simp only [List.length_drop, List.length_take]; rfl)) ?_; (with_reducible refine (tableauref07_Has.calls a1_0 a1_1 a1_2 a1_3 (wrap64 (t186 - 16777216)) (wrap64 (t187 - 16777216)) false _ A17.out).mono ?_); rintro e w105 ⟨rfl, hb⟩; refine ⟨_, rfl, ?_⟩; have n0_ := Aside0.mk (blk_below (g := gb184) (o := .cells #[.int .i64 a1_0, .int .i64 a1_1, .int .i64 a1_2, .int .i64 a1_3] 23 (0, 0)) (by (with_reducible repeat (first | refine blk_drewN ?_ _ | refine blk_drew ?_ | refine blk_alloc ?_ _)); exact BK184.out) hb); have n1_ := Aside0.mk (below_step (by repeat (first | (with_reducible first | exact HB.out | apply below_alloc | apply pw_below_drewN | apply below_drew1 | refine below_set ?_ GE184.out) | exact HB.out)) hb); clear BK184; clear HB; have BK184 := n0_; have HB := n1_; clear n0_ n1_; (try clear hb); (try clear hb2); (try clear hk); (try clear hi)))
                      have n0_ := Aside0.mk (blk_drew BK184.out)
                      have n1_ := Aside0.mk (below_drew1 HB.out)
                      clear BK184
                      clear HB
                      have BK184 := n0_
                      have HB := n1_
                      clear n0_ n1_
                      refine start_ (n := 8) (S := fun w' => w'.cell? ⟨gb184, 0, none⟩ = some (.int .i64 a1_0) ∧ w'.cell? ⟨gb184, 1, none⟩ = some (.int .i64 a1_1) ∧ w'.cell? ⟨gb184, 2, none⟩ = some (.int .i64 a1_2) ∧ w'.cell? ⟨gb184, 3, none⟩ = some (.int .i64 a1_3)) (ds := []) #[false, false, false, false, false, false, false, false] (by kernel_rfl) rfl rfl ⟨(blk_cell BK184.out 0).trans rfl, (blk_cell BK184.out 1).trans rfl, (blk_cell BK184.out 2).trans rfl, (blk_cell BK184.out 3).trans rfl⟩ (fun hHeld => ?_); refine with_tabW tableaulaw09_DamageKeeps.tab10 tableaulaw09_DamageKeeps.bits10 (fun HT_ HW_ => ?_)
                      generalize w105.drew = w106 at BK184 HB hHeld ⊢
                      refine pure_ (i := 0) (N := some 46) (v := ?_) (a' := ?_) #[true, false, false, false, false, false, false, false] rfl rfl (any_of HT_.out (by kernel_rfl)) (fun _ _ _ h => h) (Or.inl ⟨by rfl, ?_⟩) ?_ ?_
                      rotate_left
                      · intro w'
                        go_simp
                        with_reducible rfl
                      rotate_left
                      · simp only [Act.put, List.setIfInBounds_toArray, List.set_cons_zero, List.set_cons_succ, i64_w, i32_w]
                        rfl
                      refine pure_ (i := 3) (N := some 49) (v := ?_) (a' := ?_) #[true, false, false, true, false, false, false, false] rfl rfl (any_of HT_.out (by kernel_rfl)) (fun _ _ _ h => h) (Or.inl ⟨by rfl, ?_⟩) ?_ ?_
                      rotate_left
                      · intro w'
                        go_simp
                        with_reducible rfl
                      rotate_left
                      · simp only [Act.put, List.setIfInBounds_toArray, List.set_cons_zero, List.set_cons_succ, i64_w, i32_w]
                        rfl
                      refine take_ (i := 1) (N := some 47) (v := ?_) (a' := ?_) #[true, true, false, true, false, false, false, false] rfl rfl (take_ofW HT_.out HW_.out (by kernel_rfl)) (fun _ _ _ h => h) (Or.inl ⟨by rfl, ?_⟩) hHeld ?_ ?_
                      rotate_left
                      · rintro w' ⟨s0, s1, s2, s3⟩
                        go_simp
                        with_reducible rfl
                      rotate_left
                      · simp only [Act.put, List.setIfInBounds_toArray, List.set_cons_zero, List.set_cons_succ, i64_w, i32_w]
                        rfl
                      refine take_ (i := 4) (N := some 50) (v := ?_) (a' := ?_) #[true, true, false, true, true, false, false, false] rfl rfl (take_ofW HT_.out HW_.out (by kernel_rfl)) (fun _ _ _ h => h) (Or.inl ⟨by rfl, ?_⟩) hHeld ?_ ?_
                      rotate_left
                      · rintro w' ⟨s0, s1, s2, s3⟩
                        go_simp
                        with_reducible rfl
                      rotate_left
                      · simp only [Act.put, List.setIfInBounds_toArray, List.set_cons_zero, List.set_cons_succ, i64_w, i32_w]
                        rfl
                      refine one_ (i := 2) (N := some 48) #[true, true, true, true, true, false, false, false] rfl rfl (one_of HT_.out (by kernel_rfl)) (by decide) (fun K hK => ?_)
                      refine goes_ Try.func32 (by kernel_rfl) rfl #[.slice A0 l0.length c0, .agg #[.int .i64 a1_0, .int .i64 a1_1, .int .i64 a1_2, .int .i64 a1_3]] (by rfl) rfl rfl (by (try simp only [List.map_toArray, List.map_cons, List.map_nil]); first | done | rfl | (simp only [List.length_drop, List.length_take]; rfl)) ?_
                      with_reducible refine (damage_Add.calls k1 _ _ l0 a1_0 a1_1 a1_2 a1_3 t191 _ ?side1 ?side2 A18.out).mono ?_
                      (case side1 => repeat (first | exact (Kd.C_below HR0.out HB.out) | (with_reducible refine Kd.C_alloc ?_ _) | (with_reducible refine Kd.C_drewN ?_ _) | (with_reducible refine Kd.C_drew ?_)))
                      (case side2 => exact HC0.out)
                      rintro e w107 ⟨v192, rfl, ho0, hb⟩
                      refine ⟨_, rfl, ?_⟩
                      have n0_ := Aside0.mk (Kd.V_lower (Kd.V_mono (ok' := fun k_ => k_ ≠ gb184) ho0 (fun k_ hk_ => (Kd.freshB (g := gb184) (o := .cells #[.int .i64 a1_0, .int .i64 a1_1, .int .i64 a1_2, .int .i64 a1_3] 23 (0, 0)) (by (with_reducible repeat (first | refine blk_drewN ?_ _ | refine blk_drew ?_ | refine blk_alloc ?_ _)); exact BK184.out) k_ hk_))) (below_size (by repeat (first | (with_reducible first | exact HB.out | apply below_alloc | apply pw_below_drewN | apply below_drew1 | refine below_set ?_ GE184.out) | exact HB.out))))
                      have n1_ := Aside0.mk (blk_below (g := gb184) (o := .cells #[.int .i64 a1_0, .int .i64 a1_1, .int .i64 a1_2, .int .i64 a1_3] 23 (0, 0)) (by (with_reducible repeat (first | refine blk_drewN ?_ _ | refine blk_drew ?_ | refine blk_alloc ?_ _)); exact BK184.out) hb)
                      have n2_ := Aside0.mk (below_step (by repeat (first | (with_reducible first | exact HB.out | apply below_alloc | apply pw_below_drewN | apply below_drew1 | refine below_set ?_ GE184.out) | exact HB.out)) hb)
                      clear BK184
                      clear HB
                      have HO193 := n0_
                      have BK184 := n1_
                      have HB := n2_
                      clear n0_ n1_ n2_
                      (try clear hb)
                      (try clear hb2)
                      (try clear hk)
                      (try clear hi)
                      (try clear ho0)
                      refine hK.out _ _ ⟨(blk_cell BK184.out 0).trans rfl, (blk_cell BK184.out 1).trans rfl, (blk_cell BK184.out 2).trans rfl, (blk_cell BK184.out 3).trans rfl⟩ (fun hHeld => ?_)
                      clear hK K
                      refine norm_ (a' := ?_) ?_ ?_
                      rotate_left
                      · show Act.put _ (some 48) _ = _
                        simp only [Act.put, List.setIfInBounds_toArray, List.set_cons_zero, List.set_cons_succ, i64_w, i32_w]
                        rfl
                      refine one_ (i := 5) (N := some 51) #[true, true, true, true, true, true, false, false] rfl rfl (one_of HT_.out (by kernel_rfl)) (by decide) (fun K hK => ?_)
                      refine goes_ Try.func33 (by kernel_rfl) rfl #[.slice A0 l0.length c0, .agg #[.int .i64 a1_0, .int .i64 a1_1, .int .i64 a1_2, .int .i64 a1_3]] (by rfl) rfl rfl (by (try simp only [List.map_toArray, List.map_cons, List.map_nil]); first | done | rfl | (simp only [List.length_drop, List.length_take]; rfl)) ?_
                      with_reducible refine (damage_Clip.calls k1 _ _ l0 a1_0 a1_1 a1_2 a1_3 t194 _ ?side1 ?side2 A19.out).mono ?_
                      (case side1 => repeat (first | exact (Kd.C_below HR0.out HB.out) | (with_reducible refine Kd.C_alloc ?_ _) | (with_reducible refine Kd.C_drewN ?_ _) | (with_reducible refine Kd.C_drew ?_)))
                      (case side2 => exact HC0.out)
                      rintro e w108 ⟨v195, rfl, ho0, hb⟩
                      refine ⟨_, rfl, ?_⟩
                      have n0_ := Aside0.mk (Kd.V_elder' (by (with_reducible repeat (first | apply Kd.V_alloc | apply Kd.V_drewN | apply Kd.V_drew)); exact HO193.out) (Kd.R_base ho0) hb)
                      have n1_ := Aside0.mk (Kd.R_lower (Kd.R_newB ho0 (g := gb184) (o := .cells #[.int .i64 a1_0, .int .i64 a1_1, .int .i64 a1_2, .int .i64 a1_3] 23 (0, 0)) (by (with_reducible repeat (first | refine blk_drewN ?_ _ | refine blk_drew ?_ | refine blk_alloc ?_ _)); exact BK184.out)) (below_size (by repeat (first | (with_reducible first | exact HB.out | apply below_alloc | apply pw_below_drewN | apply below_drew1 | refine below_set ?_ GE184.out) | exact HB.out))))
                      have n2_ := Aside0.mk (blk_below (g := gb184) (o := .cells #[.int .i64 a1_0, .int .i64 a1_1, .int .i64 a1_2, .int .i64 a1_3] 23 (0, 0)) (by (with_reducible repeat (first | refine blk_drewN ?_ _ | refine blk_drew ?_ | refine blk_alloc ?_ _)); exact BK184.out) hb)
                      have n3_ := Aside0.mk (below_step (by repeat (first | (with_reducible first | exact HB.out | apply below_alloc | apply pw_below_drewN | apply below_drew1 | refine below_set ?_ GE184.out) | exact HB.out)) hb)
                      clear HO193
                      clear BK184
                      clear HB
                      have HO193 := n0_
                      have HO196 := n1_
                      have BK184 := n2_
                      have HB := n3_
                      clear n0_ n1_ n2_ n3_
                      (try clear hb)
                      (try clear hb2)
                      (try clear hk)
                      (try clear hi)
                      (try clear ho0)
                      refine hK.out _ _ ⟨(blk_cell BK184.out 0).trans rfl, (blk_cell BK184.out 1).trans rfl, (blk_cell BK184.out 2).trans rfl, (blk_cell BK184.out 3).trans rfl⟩ (fun hHeld => ?_)
                      clear hK K
                      refine norm_ (a' := ?_) ?_ ?_
                      rotate_left
                      · show Act.put _ (some 51) _ = _
                        simp only [Act.put, List.setIfInBounds_toArray, List.set_cons_zero, List.set_cons_succ, i64_w, i32_w]
                        rfl
                      refine pure_ (i := 6) (N := some 14) (v := ?_) (a' := ?_) #[true, true, true, true, true, true, true, false] rfl rfl (any_of HT_.out (by kernel_rfl)) (fun _ _ _ h => h) (Or.inl ⟨by rfl, ?_⟩) ?_ ?_
                      rotate_left
                      · intro w'
                        go_simp
                        with_reducible rfl
                      rotate_left
                      · simp only [Act.put, List.setIfInBounds_toArray, List.set_cons_zero, List.set_cons_succ, i64_w, i32_w]
                        rfl
                      refine pure_ (i := 7) (N := some 15) (v := ?_) (a' := ?_) #[true, true, true, true, true, true, true, true] rfl rfl (any_of HT_.out (by kernel_rfl)) (fun _ _ _ h => h) (Or.inl ⟨by rfl, ?_⟩) ?_ ?_
                      rotate_left
                      · intro w'
                        go_simp
                        with_reducible rfl
                      rotate_left
                      · simp only [Act.put, List.setIfInBounds_toArray, List.set_cons_zero, List.set_cons_succ, i64_w, i32_w]
                        rfl
                      refine done_ (done_of HT_.out (by kernel_rfl)) ?_
                      obtain ⟨Ao109, co109, eo109⟩ := Kd.R_slice HO196.out
                      subst eo109
                      try go_wp2_with (first | (go_at_call 26; (with_reducible refine (tableauref08_Has.calls k1 _ _ t194 (wrap64 (t186 - 16777216)) (wrap64 (t187 - 16777216)) t218 _ ?side1 ?side2 A96.out).mono ?_); (case side1 => repeat (first | exact (Kd.R_reads' HO196.out).2.2 | (with_reducible refine Kd.C_alloc ?_ _) | (with_reducible refine Kd.C_drewN ?_ _) | (with_reducible refine Kd.C_drew ?_))); (case side2 => exact (Kd.R_reads' HO196.out).2.1); rintro e w110 ⟨rfl, hb⟩; have n0_ := Aside0.mk (Kd.V_below (by (with_reducible repeat (first | apply Kd.V_alloc | apply Kd.V_drewN | apply Kd.V_drew)); exact HO193.out) hb); have n1_ := Aside0.mk (Kd.R_below (by (with_reducible repeat (first | apply Kd.R_alloc | apply Kd.R_drewN | apply Kd.R_drew)); exact HO196.out) hb); have n2_ := Aside0.mk (blk_below (g := gb184) (o := .cells #[.int .i64 a1_0, .int .i64 a1_1, .int .i64 a1_2, .int .i64 a1_3] 23 (0, 0)) (by (with_reducible repeat (first | refine blk_drewN ?_ _ | refine blk_drew ?_ | refine blk_alloc ?_ _)); exact BK184.out) hb); have n3_ := Aside0.mk (below_step (by repeat (first | (with_reducible first | exact HB.out | apply below_alloc | apply pw_below_drewN | apply below_drew1 | refine below_set ?_ GE184.out) | exact HB.out)) hb); clear HO193; clear HO196; clear BK184; clear HB; have HO193 := n0_; have HO196 := n1_; have BK184 := n2_; have HB := n3_; clear n0_ n1_ n2_ n3_; (try clear hb); (try clear hb2); (try clear hk); (try clear hi); obtain ⟨Ao111, co111, eo111⟩ := Kd.V_slice HO193.out; subst eo111) | (go_at_call 35; (with_reducible refine (tableauref08_Check.calls k1 _ _ t191 true _ ?side1 ?side2 A98.out).mono ?_); (case side1 => repeat (first | exact (Kd.V_reads' HO193.out).2.2 | (with_reducible refine Kd.C_alloc ?_ _) | (with_reducible refine Kd.C_drewN ?_ _) | (with_reducible refine Kd.C_drew ?_))); (case side2 => exact (Kd.V_reads' HO193.out).2.1); rintro e w112 ⟨rfl, hb⟩; have n0_ := Aside0.mk (Kd.V_below (by (with_reducible repeat (first | apply Kd.V_alloc | apply Kd.V_drewN | apply Kd.V_drew)); exact HO193.out) hb); have n1_ := Aside0.mk (Kd.R_below (by (with_reducible repeat (first | apply Kd.R_alloc | apply Kd.R_drewN | apply Kd.R_drew)); exact HO196.out) hb); have n2_ := Aside0.mk (blk_below (g := gb184) (o := .cells #[.int .i64 a1_0, .int .i64 a1_1, .int .i64 a1_2, .int .i64 a1_3] 23 (0, 0)) (by (with_reducible repeat (first | refine blk_drewN ?_ _ | refine blk_drew ?_ | refine blk_alloc ?_ _)); exact BK184.out) hb); have n3_ := Aside0.mk (below_step (by repeat (first | (with_reducible first | exact HB.out | apply below_alloc | apply pw_below_drewN | apply below_drew1 | refine below_set ?_ GE184.out) | exact HB.out)) hb); clear HO193; clear HO196; clear BK184; clear HB; have HO193 := n0_; have HO196 := n1_; have BK184 := n2_; have HB := n3_; clear n0_ n1_ n2_ n3_; (try clear hb); (try clear hb2); (try clear hk); (try clear hi)) | (go_at_call 35; (with_reducible refine (tableauref08_Check.calls k1 _ _ t194 true _ ?side1 ?side2 A100.out).mono ?_); (case side1 => repeat (first | exact (Kd.R_reads' HO196.out).2.2 | (with_reducible refine Kd.C_alloc ?_ _) | (with_reducible refine Kd.C_drewN ?_ _) | (with_reducible refine Kd.C_drew ?_))); (case side2 => exact (Kd.R_reads' HO196.out).2.1); rintro e w113 ⟨rfl, hb⟩; have n0_ := Aside0.mk (Kd.V_below (by (with_reducible repeat (first | apply Kd.V_alloc | apply Kd.V_drewN | apply Kd.V_drew)); exact HO193.out) hb); have n1_ := Aside0.mk (Kd.R_below (by (with_reducible repeat (first | apply Kd.R_alloc | apply Kd.R_drewN | apply Kd.R_drew)); exact HO196.out) hb); have n2_ := Aside0.mk (blk_below (g := gb184) (o := .cells #[.int .i64 a1_0, .int .i64 a1_1, .int .i64 a1_2, .int .i64 a1_3] 23 (0, 0)) (by (with_reducible repeat (first | refine blk_drewN ?_ _ | refine blk_drew ?_ | refine blk_alloc ?_ _)); exact BK184.out) hb); have n3_ := Aside0.mk (below_step (by repeat (first | (with_reducible first | exact HB.out | apply below_alloc | apply pw_below_drewN | apply below_drew1 | refine below_set ?_ GE184.out) | exact HB.out)) hb); clear HO193; clear HO196; clear BK184; clear HB; have HO193 := n0_; have HO196 := n1_; have BK184 := n2_; have HB := n3_; clear n0_ n1_ n2_ n3_; (try clear hb); (try clear hb2); (try clear hk); (try clear hi)) | (go_at_call 30; (with_reducible refine (tableaulaw09_awake.calls k1  t221 _ A103.out).mono ?_); rintro e w114 ⟨rfl, hb⟩; have n0_ := Aside0.mk (Kd.V_below (by (with_reducible repeat (first | apply Kd.V_alloc | apply Kd.V_drewN | apply Kd.V_drew)); exact HO193.out) hb); have n1_ := Aside0.mk (Kd.R_below (by (with_reducible repeat (first | apply Kd.R_alloc | apply Kd.R_drewN | apply Kd.R_drew)); exact HO196.out) hb); have n2_ := Aside0.mk (blk_below (g := gb184) (o := .cells #[.int .i64 a1_0, .int .i64 a1_1, .int .i64 a1_2, .int .i64 a1_3] 23 (0, 0)) (by (with_reducible repeat (first | refine blk_drewN ?_ _ | refine blk_drew ?_ | refine blk_alloc ?_ _)); exact BK184.out) hb); have n3_ := Aside0.mk (below_step (by repeat (first | (with_reducible first | exact HB.out | apply below_alloc | apply pw_below_drewN | apply below_drew1 | refine below_set ?_ GE184.out) | exact HB.out)) hb); clear HO193; clear HO196; clear BK184; clear HB; have HO193 := n0_; have HO196 := n1_; have BK184 := n2_; have HB := n3_; clear n0_ n1_ n2_ n3_; (try clear hb); (try clear hb2); (try clear hk); (try clear hi)))
                      go_ret
                      exact ⟨by first | rfl | (simp [errW_none, errW_some] <;> rfl) | (simp [*, errW_none, errW_some] <;> rfl), by repeat (first | (with_reducible first | exact HB.out | apply below_alloc | apply pw_below_drewN | apply below_drew1 | refine below_set ?_ GE184.out) | exact HB.out)⟩
                    · rw [if_neg c102] at H
                      have c102b0 : decide ((t191.length : Int) ≤ 40) = false := decide_eq_false c102
                      have c102b1 : decide (t191.length ≤ 40) = false := decide_eq_false (by omega)
                      clear c102
                      exact absurd H (by rw [HT.out]; simp)
                  · replace c101 := Bool.eq_false_iff.mpr c101
                    subst c101
                    have H1 : (some false) = some r := by rw [if_neg (show ¬ (false = true) by decide)] at H; exact H
                    clear H
                    have H := H1
                    clear H1
                    exact absurd H (by rw [HT.out]; simp)
                · replace c99 := Bool.eq_false_iff.mpr c99
                  subst c99
                  have H1 : (some false) = some r := by rw [if_neg (show ¬ (false = true) by decide)] at H; exact H
                  clear H
                  have H := H1
                  clear H1
                  exact absurd H (by rw [HT.out]; simp)
              · rw [if_neg c97] at H
                have c97b0 : (t218 == false) = false := by simpa using c97
                (try (have c97b1 : decide (t218 = false) = false := by simpa using c97))
                (try (have c97b2 : (t218 == false) = false := by simpa using c97))
                (try (have c97b3 : ¬ (t218 = false) := by simpa using c97))
                clear c97
                exact absurd H (by rw [HT.out]; simp)

end Go.Proofs.Ytogcokfildbodaa.PD
