-- Printed for this claim by a program over the kit's print.
import Derived.Test.YtogcokfildbodaaPMx0
import Derived.Test.YtogcokfildbodaaPMx1
import Derived.Test.YtogcokfildbodaaPMx2
import Derived.Test.YtogcokfildbodaaPMx3
import Derived.Test.YtogcokfildbodaaPMG
namespace Go.Proofs.Ytogcokfildbodaa.PM
open Go.RowKit Go.Proofs.YtogcokfildbodaaW.PrintWords Go.Proofs.YtogcokfildbodaaW.PrintLast Go.Proofs.YtogcokfildbodaaW.PrintMore
attribute [local go_sem] max2_int min2_int max_two min_two max_three min_three max_four min_four   -- for this text's walks alone
set_option linter.unusedVariables false
set_option linter.unusedSimpArgs false

attribute [local go_sem high] eqA23
/-! ### tableaulaw08_RegionAll: function 14 -/
mutual
def tableaulaw08_RegionAll.j0 : Nat → List (S23) → List (S23) → Int → Int → Bool → Int → Int → Int → Int → Option (Bool)
  | 0, _, _, _, _, _, _, _, _, _ => none
  | k + 1, x0, x1, x3, x4, x21, x331000, x331001, x331002, x331003 => if x21 = true then ((tableaulaw08_awake.f k).bind fun t333 => (some t333)) else ((tableaulaw00_Rects.f x0).bind fun t334 => ((tableaulaw00_Rects.f x1).bind fun t337 => ((region_Check.f t334).bind fun t340 => ((tableauref08_Check.f k x0).bind fun t341 => (if (t340 != t341) = true then (tableaulaw08_RegionAll.j1 k x0 x1 x3 x4 t334 t337 true) else ((region_Of.f x331000 x331001 x331002 x331003).bind fun t342 => ((tableauref08_Of.f k x331000 x331001 x331002 x331003).bind fun t345 => ((tableaulaw00_SameRects.f k t342 t345).bind fun t348 => (tableaulaw08_RegionAll.j1 k x0 x1 x3 x4 t334 t337 (!t348))))))))))
def tableaulaw08_RegionAll.j1 : Nat → List (S23) → List (S23) → Int → Int → List (S23) → List (S23) → Bool → Option (Bool)
  | 0, _, _, _, _, _, _, _ => none
  | k + 1, x0, x1, x3, x4, x11, x12, x39 => if x39 = true then (some false) else ((region_Union.f x11 x12).bind fun t349 => ((tableauref08_Make.f k x0 x1 0).bind fun t352 => ((tableaulaw00_SameRects.f k t349 t352).bind fun t355 => (if t355 = true then ((region_Subtract.f x11 x12).bind fun t356 => ((tableauref08_Make.f k x0 x1 1).bind fun t359 => ((tableaulaw00_SameRects.f k t356 t359).bind fun t362 => (if t362 = true then ((region_Intersect.f x11 x12).bind fun t363 => ((tableauref08_Make.f k x0 x1 2).bind fun t366 => ((tableaulaw00_SameRects.f k t363 t366).bind fun t369 => (tableaulaw08_RegionAll.j2 k x0 x3 x4 x11 t369)))) else (tableaulaw08_RegionAll.j2 k x0 x3 x4 x11 false))))) else (tableaulaw08_RegionAll.j2 k x0 x3 x4 x11 false)))))
def tableaulaw08_RegionAll.j2 : Nat → List (S23) → Int → Int → List (S23) → Bool → Option (Bool)
  | 0, _, _, _, _, _ => none
  | k + 1, x0, x3, x4, x11, x13 => if x13 = true then ((region_Shift.f x11 x3 x4).bind fun t370 => ((tableauref08_Shift.f k x0 x3 x4).bind fun t373 => ((tableaulaw00_SameRects.f k t370 t373).bind fun t376 => (if t376 = true then ((region_Cover.f k x11).bind fun bt377 => ((tableauref08_Cover.f k x0).bind fun bt381 => (if (bt377.1 == bt381.1 && (bt377.2.1 == bt381.2.1 && (bt377.2.2.1 == bt381.2.2.1 && (bt377.2.2.2 == bt381.2.2.2)))) = true then ((region_Area.f k x11).bind fun t385 => ((tableauref08_Area.f k x0).bind fun t386 => (if t385 = t386 then ((region_Has.f x11 x3 x4).bind fun t387 => ((tableauref08_Check.f k x0).bind fun t388 => (if t388 = true then ((tableauref08_Has.f k x0 x3 x4).bind fun t389 => (if (t387 == t389) = true then ((tableaulaw00_SameRects.f k x11 x0).bind fun t390 => (if t390 = true then ((tableaulaw08_awake.f k).bind fun t391 => (some t391)) else (some false))) else (some false))) else (if (t387 == false) = true then ((tableaulaw00_SameRects.f k x11 x0).bind fun t392 => (if t392 = true then ((tableaulaw08_awake.f k).bind fun t393 => (some t393)) else (some false))) else (some false))))) else (some false)))) else (some false)))) else (some false))))) else (some false)
end
def tableaulaw08_RegionAll.f (k : Nat) (l0 : List (S23)) (l1 : List (S23)) (a2_0 : Int) (a2_1 : Int) (a2_2 : Int) (a2_3 : Int) (a3 : Int) (a4 : Int) : Option (Bool) := (tableaulaw08_few.f l0).bind fun t331 => (if t331 = true then ((tableaulaw08_few.f l1).bind fun t332 => (tableaulaw08_RegionAll.j0 k l0 l1 a3 a4 (!t332) a2_0 a2_1 a2_2 a2_3)) else (tableaulaw08_RegionAll.j0 k l0 l1 a3 a4 true a2_0 a2_1 a2_2 a2_3))
theorem tableaulaw08_RegionAll.mono_l : ∀ k, (∀ y0 y1 y2 y3 y4 y5 y6 y7 y8, LeO (tableaulaw08_RegionAll.j0 k y0 y1 y2 y3 y4 y5 y6 y7 y8) (tableaulaw08_RegionAll.j0 (k + 1) y0 y1 y2 y3 y4 y5 y6 y7 y8)) ∧ (∀ y0 y1 y2 y3 y4 y5 y6, LeO (tableaulaw08_RegionAll.j1 k y0 y1 y2 y3 y4 y5 y6) (tableaulaw08_RegionAll.j1 (k + 1) y0 y1 y2 y3 y4 y5 y6)) ∧ (∀ y0 y1 y2 y3 y4, LeO (tableaulaw08_RegionAll.j2 k y0 y1 y2 y3 y4) (tableaulaw08_RegionAll.j2 (k + 1) y0 y1 y2 y3 y4))
  | 0 => ⟨fun _ _ _ _ _ _ _ _ _ r h => by simp [tableaulaw08_RegionAll.j0] at h, fun _ _ _ _ _ _ _ r h => by simp [tableaulaw08_RegionAll.j1] at h, fun _ _ _ _ _ r h => by simp [tableaulaw08_RegionAll.j2] at h⟩
  | k + 1 => by
    obtain ⟨ih0, ih1, ih2⟩ := tableaulaw08_RegionAll.mono_l k
    refine ⟨?_, ?_, ?_⟩
    · intro y0 y1 y2 y3 y4 y5 y6 y7 y8
      unfold tableaulaw08_RegionAll.j0
      repeat' first
      | (with_reducible exact ih0 _ _ _ _ _ _ _ _ _)
      | (with_reducible exact ih1 _ _ _ _ _ _ _)
      | (with_reducible exact ih2 _ _ _ _ _)
      | (with_reducible exact region_Area.mono _ _)
      | (with_reducible exact region_Cover.mono _ _)
      | (with_reducible exact tableaulaw00_SameRects.mono _ _ _)
      | (with_reducible exact tableaulaw08_awake.mono _)
      | (with_reducible exact tableauref08_Area.mono _ _)
      | (with_reducible exact tableauref08_Check.mono _ _)
      | (with_reducible exact tableauref08_Cover.mono _ _)
      | (with_reducible exact tableauref08_Has.mono _ _ _ _)
      | (with_reducible exact tableauref08_Make.mono _ _ _ _)
      | (with_reducible exact tableauref08_Of.mono _ _ _ _ _)
      | (with_reducible exact tableauref08_Shift.mono _ _ _ _)
      | (with_reducible exact LeO.refl _)
      | (with_reducible exact LeO.none _)
      | (with_reducible refine LeO.ite ?_ ?_)
      | (with_reducible refine LeO.bind ?_ (fun _ => ?_))
      | exact ih0 _ _ _ _ _ _ _ _ _
      | exact ih1 _ _ _ _ _ _ _
      | exact ih2 _ _ _ _ _
      | exact region_Area.mono _ _
      | exact region_Cover.mono _ _
      | exact tableaulaw00_SameRects.mono _ _ _
      | exact tableaulaw08_awake.mono _
      | exact tableauref08_Area.mono _ _
      | exact tableauref08_Check.mono _ _
      | exact tableauref08_Cover.mono _ _
      | exact tableauref08_Has.mono _ _ _ _
      | exact tableauref08_Make.mono _ _ _ _
      | exact tableauref08_Of.mono _ _ _ _ _
      | exact tableauref08_Shift.mono _ _ _ _
      | exact LeO.none _
      | refine LeO.ite ?_ ?_
      | refine LeO.bind ?_ (fun _ => ?_)
    · intro y0 y1 y2 y3 y4 y5 y6
      unfold tableaulaw08_RegionAll.j1
      repeat' first
      | (with_reducible exact ih0 _ _ _ _ _ _ _ _ _)
      | (with_reducible exact ih1 _ _ _ _ _ _ _)
      | (with_reducible exact ih2 _ _ _ _ _)
      | (with_reducible exact region_Area.mono _ _)
      | (with_reducible exact region_Cover.mono _ _)
      | (with_reducible exact tableaulaw00_SameRects.mono _ _ _)
      | (with_reducible exact tableaulaw08_awake.mono _)
      | (with_reducible exact tableauref08_Area.mono _ _)
      | (with_reducible exact tableauref08_Check.mono _ _)
      | (with_reducible exact tableauref08_Cover.mono _ _)
      | (with_reducible exact tableauref08_Has.mono _ _ _ _)
      | (with_reducible exact tableauref08_Make.mono _ _ _ _)
      | (with_reducible exact tableauref08_Of.mono _ _ _ _ _)
      | (with_reducible exact tableauref08_Shift.mono _ _ _ _)
      | (with_reducible exact LeO.refl _)
      | (with_reducible exact LeO.none _)
      | (with_reducible refine LeO.ite ?_ ?_)
      | (with_reducible refine LeO.bind ?_ (fun _ => ?_))
      | exact ih0 _ _ _ _ _ _ _ _ _
      | exact ih1 _ _ _ _ _ _ _
      | exact ih2 _ _ _ _ _
      | exact region_Area.mono _ _
      | exact region_Cover.mono _ _
      | exact tableaulaw00_SameRects.mono _ _ _
      | exact tableaulaw08_awake.mono _
      | exact tableauref08_Area.mono _ _
      | exact tableauref08_Check.mono _ _
      | exact tableauref08_Cover.mono _ _
      | exact tableauref08_Has.mono _ _ _ _
      | exact tableauref08_Make.mono _ _ _ _
      | exact tableauref08_Of.mono _ _ _ _ _
      | exact tableauref08_Shift.mono _ _ _ _
      | exact LeO.none _
      | refine LeO.ite ?_ ?_
      | refine LeO.bind ?_ (fun _ => ?_)
    · intro y0 y1 y2 y3 y4
      unfold tableaulaw08_RegionAll.j2
      repeat' first
      | (with_reducible exact ih0 _ _ _ _ _ _ _ _ _)
      | (with_reducible exact ih1 _ _ _ _ _ _ _)
      | (with_reducible exact ih2 _ _ _ _ _)
      | (with_reducible exact region_Area.mono _ _)
      | (with_reducible exact region_Cover.mono _ _)
      | (with_reducible exact tableaulaw00_SameRects.mono _ _ _)
      | (with_reducible exact tableaulaw08_awake.mono _)
      | (with_reducible exact tableauref08_Area.mono _ _)
      | (with_reducible exact tableauref08_Check.mono _ _)
      | (with_reducible exact tableauref08_Cover.mono _ _)
      | (with_reducible exact tableauref08_Has.mono _ _ _ _)
      | (with_reducible exact tableauref08_Make.mono _ _ _ _)
      | (with_reducible exact tableauref08_Of.mono _ _ _ _ _)
      | (with_reducible exact tableauref08_Shift.mono _ _ _ _)
      | (with_reducible exact LeO.refl _)
      | (with_reducible exact LeO.none _)
      | (with_reducible refine LeO.ite ?_ ?_)
      | (with_reducible refine LeO.bind ?_ (fun _ => ?_))
      | exact ih0 _ _ _ _ _ _ _ _ _
      | exact ih1 _ _ _ _ _ _ _
      | exact ih2 _ _ _ _ _
      | exact region_Area.mono _ _
      | exact region_Cover.mono _ _
      | exact tableaulaw00_SameRects.mono _ _ _
      | exact tableaulaw08_awake.mono _
      | exact tableauref08_Area.mono _ _
      | exact tableauref08_Check.mono _ _
      | exact tableauref08_Cover.mono _ _
      | exact tableauref08_Has.mono _ _ _ _
      | exact tableauref08_Make.mono _ _ _ _
      | exact tableauref08_Of.mono _ _ _ _ _
      | exact tableauref08_Shift.mono _ _ _ _
      | exact LeO.none _
      | refine LeO.ite ?_ ?_
      | refine LeO.bind ?_ (fun _ => ?_)
theorem tableaulaw08_RegionAll.mono : ∀ a0 a1 a2 a3 a4 a5 a6 a7 k, LeO (tableaulaw08_RegionAll.f k a0 a1 a2 a3 a4 a5 a6 a7) (tableaulaw08_RegionAll.f (k + 1) a0 a1 a2 a3 a4 a5 a6 a7) := by
  intro a0 a1 a2 a3 a4 a5 a6 a7 k
  obtain ⟨ih0, ih1, ih2⟩ := tableaulaw08_RegionAll.mono_l k
  unfold tableaulaw08_RegionAll.f
  repeat' first
      | (with_reducible exact ih0 _ _ _ _ _ _ _ _ _)
      | (with_reducible exact ih1 _ _ _ _ _ _ _)
      | (with_reducible exact ih2 _ _ _ _ _)
      | (with_reducible exact region_Area.mono _ _)
      | (with_reducible exact region_Cover.mono _ _)
      | (with_reducible exact tableaulaw00_SameRects.mono _ _ _)
      | (with_reducible exact tableaulaw08_awake.mono _)
      | (with_reducible exact tableauref08_Area.mono _ _)
      | (with_reducible exact tableauref08_Check.mono _ _)
      | (with_reducible exact tableauref08_Cover.mono _ _)
      | (with_reducible exact tableauref08_Has.mono _ _ _ _)
      | (with_reducible exact tableauref08_Make.mono _ _ _ _)
      | (with_reducible exact tableauref08_Of.mono _ _ _ _ _)
      | (with_reducible exact tableauref08_Shift.mono _ _ _ _)
      | (with_reducible exact LeO.refl _)
      | (with_reducible exact LeO.none _)
      | (with_reducible refine LeO.ite ?_ ?_)
      | (with_reducible refine LeO.bind ?_ (fun _ => ?_))
      | exact ih0 _ _ _ _ _ _ _ _ _
      | exact ih1 _ _ _ _ _ _ _
      | exact ih2 _ _ _ _ _
      | exact region_Area.mono _ _
      | exact region_Cover.mono _ _
      | exact tableaulaw00_SameRects.mono _ _ _
      | exact tableaulaw08_awake.mono _
      | exact tableauref08_Area.mono _ _
      | exact tableauref08_Check.mono _ _
      | exact tableauref08_Cover.mono _ _
      | exact tableauref08_Has.mono _ _ _ _
      | exact tableauref08_Make.mono _ _ _ _
      | exact tableauref08_Of.mono _ _ _ _ _
      | exact tableauref08_Shift.mono _ _ _ _
      | exact LeO.none _
      | refine LeO.ite ?_ ?_
      | refine LeO.bind ?_ (fun _ => ?_)
def tableaulaw08_RegionAll.T4 : Bool × List (List Nat × List Nat) := (true, [([], []), ([0], [0]), ([], []), ([2, 1], [2]), ([1, 3], [1, 3]), ([4, 3], [4]), ([5], [5]), ([6, 5, 5], [5, 6]), ([5], [5]), ([8, 7, 5], [5, 8]), ([7, 9, 9, 5], [5, 7, 9]), ([10, 5], [5, 10]), ([5, 11], [5, 11])])
def tableaulaw08_RegionAll.B4 : List Nat := [0, 1, 0, 7, 15, 31, 63, 127, 63, 511, 1023, 2047, 4095]
theorem tableaulaw08_RegionAll.tab4 : rtab .any (opsOf Try.f14 4) = tableaulaw08_RegionAll.T4 := by kernel_rfl
theorem tableaulaw08_RegionAll.bits4 : waitsOk tableaulaw08_RegionAll.T4.2 tableaulaw08_RegionAll.B4 = true := by kernel_rfl
set_option maxHeartbeats 8000000 in
set_option maxRecDepth 100000 in
theorem tableaulaw08_RegionAll.calls (k : Nat) (A0 : Option Addr) (c0 : Nat) (l0 : List (S23)) (A1 : Option Addr) (c1 : Nat) (l1 : List (S23)) (a2_0 : Int) (a2_1 : Int) (a2_2 : Int) (a2_3 : Int) (a3 : Int) (a4 : Int) (r : Bool) (w : World) (hr0 : Kd.C k23 w A0 l0.length l0) (hc0 : l0.length ≤ c0) (hr1 : Kd.C k23 w A1 l1.length l1) (hc1 : l1.length ≤ c1) (h : tableaulaw08_RegionAll.f k l0 l1 a2_0 a2_1 a2_2 a2_3 a3 a4 = some r) (hT : r = true) :
    Calls Try.prog 14 #[.slice A0 l0.length c0, .slice A1 l1.length c1, .agg #[.int .i64 a2_0, .int .i64 a2_1, .int .i64 a2_2, .int .i64 a2_3], .int .i64 a3, .int .i64 a4] w fun e w' => e = .returned (.bool r) ∧ Below w.heap.size w w' := by
  have HT := Aside0.mk hT
  clear hT
  have hu23 := Try.underlying23
  have HR0 := Aside0.mk hr0
  have HC0 := Aside0.mk hc0
  clear hr0 hc0
  have HR1 := Aside0.mk hr1
  have HC1 := Aside0.mk hc1
  clear hr1 hc1
  have HB := Aside0.mk (Below.refl w.heap.size w)
  have H : ((tableaulaw08_few.f l0).bind fun t331 => (if t331 = true then ((tableaulaw08_few.f l1).bind fun t332 => (tableaulaw08_RegionAll.j0 k l0 l1 a3 a4 (!t332) a2_0 a2_1 a2_2 a2_3)) else (tableaulaw08_RegionAll.j0 k l0 l1 a3 a4 true a2_0 a2_1 a2_2 a2_3))) = some r := h
  clear h
  have HC6 := Aside0.mk H
  clear H
  go_enter Try.func14, Try.ntmps14
  go_upto_region 1 with (first | ((with_reducible refine gate_dst (N := 7) rfl ?_); refine box_event ?hg (N := 7) ?hd (cs := #[.int .i64 a2_0, .int .i64 a2_1, .int .i64 a2_2, .int .i64 a2_3]) (t := 23) ?hr ?_; (case hd => rfl); (case hg => rfl); (case hr => first | (go_simp; done) | (go_simp; rfl)); intro gb330 hg w7 hbox hb; have n0_ := Aside0.mk (below_step (by repeat (first | (with_reducible first | exact HB.out | apply below_alloc | apply pw_below_drewN | apply below_drew1) | exact HB.out)) hb); have n1_ := Aside0.mk (hbox); have n2_ := Aside0.mk ((by rw [hg]; exact (below_size (by repeat (first | (with_reducible first | exact HB.out | apply below_alloc | apply pw_below_drewN | apply below_drew1) | exact HB.out))) : w.heap.size ≤ gb330)); have n3_ := Aside0.mk ((by rw [hg]; exact (below_size (by repeat (first | (with_reducible first | exact HB.out | apply below_alloc | apply pw_below_drewN | apply below_drew1) | exact HB.out))) : w.heap.size ≤ gb330)); clear HB; have HB := n0_; have BK330 := n1_; have GW330 := n2_; have GE330 := n3_; clear n0_ n1_ n2_ n3_; clear hb hbox hg))
  (try simp only [Act.put, List.setIfInBounds_toArray, List.set_cons_zero, List.set_cons_succ])
  go_cut [21] (fun v21 wc => ∃ (kq : Nat) (x21_5 : Bool), v21 = .bool x21_5 ∧ Aside0 (tableaulaw08_RegionAll.j0 kq l0 l1 a3 a4 x21_5 a2_0 a2_1 a2_2 a2_3 = some r) ∧ Aside0 (kq ≤ k) ∧ Aside0 (wc.heap[gb330]? = some (.cells #[.int .i64 a2_0, .int .i64 a2_1, .int .i64 a2_2, .int .i64 a2_3] 23 (0, 0))) ∧ Aside0 (Below w.heap.size w wc))
  case first =>
    have H := HC6.out
    clear HC6
    replace H := Option.bind_eq_some_iff.mp H
    obtain ⟨t331, A80, H⟩ := H
    replace H : (if t331 = true then ((tableaulaw08_few.f l1).bind fun t332 => (tableaulaw08_RegionAll.j0 k l0 l1 a3 a4 (!t332) a2_0 a2_1 a2_2 a2_3)) else (tableaulaw08_RegionAll.j0 k l0 l1 a3 a4 true a2_0 a2_1 a2_2 a2_3)) = some r := H
    have A8 := Aside0.mk A80
    clear A80
    by_cases c9 : t331 = true
    · subst c9
      have H1 : ((tableaulaw08_few.f l1).bind fun t332 => (tableaulaw08_RegionAll.j0 k l0 l1 a3 a4 (!t332) a2_0 a2_1 a2_2 a2_3)) = some r := by rw [if_pos rfl] at H; exact H
      clear H
      have H := H1
      clear H1
      replace H := Option.bind_eq_some_iff.mp H
      obtain ⟨t332, A100, H⟩ := H
      replace H : (tableaulaw08_RegionAll.j0 k l0 l1 a3 a4 (!t332) a2_0 a2_1 a2_2 a2_3) = some r := H
      have A10 := Aside0.mk A100
      clear A100
      have H' := Aside0.mk H
      clear H
      go_wp2_with (first | ((with_reducible refine gate_callee (f := 47) rfl ?_); refine goesL_ (some 15) rfl rfl Try.func47 (by kernel_rfl) rfl #[.slice A0 l0.length c0] rfl (by (try simp only [List.map_toArray, List.map_cons, List.map_nil]); first | done | rfl | (simp only [List.length_drop, List.length_take]; rfl)) ?_; (with_reducible refine (tableaulaw08_few.calls _ _ l0 true _ ?side1 ?side2 A8.out).mono ?_); (case side1 => repeat (first | exact (Kd.C_below HR0.out HB.out) | (with_reducible refine Kd.C_alloc ?_ _) | (with_reducible refine Kd.C_drewN ?_ _) | (with_reducible refine Kd.C_drew ?_))); (case side2 => exact HC0.out); rintro e w' ⟨rfl, ⟨nd, rfl⟩⟩; refine ⟨_, rfl, ?_⟩) | (go_at_call 47; (with_reducible refine (tableaulaw08_few.calls _ _ l1 t332 _ ?side1 ?side2 A10.out).mono ?_); (case side1 => repeat (first | exact (Kd.C_below HR1.out (by repeat (first | (with_reducible first | exact HB.out | apply below_alloc | apply pw_below_drewN | apply below_drew1 | refine below_set ?_ GE330.out) | exact HB.out))) | (with_reducible refine Kd.C_alloc ?_ _) | (with_reducible refine Kd.C_drewN ?_ _) | (with_reducible refine Kd.C_drew ?_))); (case side2 => exact HC1.out); rintro e w' ⟨rfl, ⟨nd, rfl⟩⟩))
      go_meet
      case rel => exact ⟨_, (!t332), (by first | rfl | (simp; done) | (simp [*]; done)), H', ⟨by first | omega | exact Nat.le_refl _⟩, ⟨by (with_reducible repeat (first | refine blk_drewN ?_ _ | refine blk_drew ?_ | refine blk_alloc ?_ _)); exact BK330.out⟩, ⟨by repeat (first | (with_reducible first | exact HB.out | apply below_alloc | apply pw_below_drewN | apply below_drew1 | refine below_set ?_ GE330.out) | exact HB.out)⟩⟩
    · replace c9 := Bool.eq_false_iff.mpr c9
      subst c9
      have H1 : (tableaulaw08_RegionAll.j0 k l0 l1 a3 a4 true a2_0 a2_1 a2_2 a2_3) = some r := by rw [if_neg (show ¬ (false = true) by decide)] at H; exact H
      clear H
      have H := H1
      clear H1
      have H' := Aside0.mk H
      clear H
      go_wp2_with (first | ((with_reducible refine gate_callee (f := 47) rfl ?_); refine goesL_ (some 15) rfl rfl Try.func47 (by kernel_rfl) rfl #[.slice A0 l0.length c0] rfl (by (try simp only [List.map_toArray, List.map_cons, List.map_nil]); first | done | rfl | (simp only [List.length_drop, List.length_take]; rfl)) ?_; (with_reducible refine (tableaulaw08_few.calls _ _ l0 false _ ?side1 ?side2 A8.out).mono ?_); (case side1 => repeat (first | exact (Kd.C_below HR0.out HB.out) | (with_reducible refine Kd.C_alloc ?_ _) | (with_reducible refine Kd.C_drewN ?_ _) | (with_reducible refine Kd.C_drew ?_))); (case side2 => exact HC0.out); rintro e w' ⟨rfl, ⟨nd, rfl⟩⟩; refine ⟨_, rfl, ?_⟩))
      go_meet
      case rel => exact ⟨_, (true), (by first | rfl | (simp; done) | (simp [*]; done)), H', ⟨by first | omega | exact Nat.le_refl _⟩, ⟨by (with_reducible repeat (first | refine blk_drewN ?_ _ | refine blk_drew ?_ | refine blk_alloc ?_ _)); exact BK330.out⟩, ⟨by repeat (first | (with_reducible first | exact HB.out | apply below_alloc | apply pw_below_drewN | apply below_drew1 | refine below_set ?_ GE330.out) | exact HB.out)⟩⟩
  case rest =>
    clear HC6
    try clear c1
    try clear p2
    try clear c4
    try clear c9
    obtain ⟨kq, x21_5, rfl, HA, HJ5, BK330, HB⟩ := hcut
    cases kq with
    | zero => exact absurd HA.out (by simp [tableaulaw08_RegionAll.j0])
    | succ kj5 =>
      have H := HA.out
      clear HA
      simp only [tableaulaw08_RegionAll.j0] at H
      by_cases c11 : x21_5 = true
      · subst c11
        have H1 : ((tableaulaw08_awake.f kj5).bind fun t333 => (some t333)) = some r := by rw [if_pos rfl] at H; exact H
        clear H
        have H := H1
        clear H1
        replace H := Option.bind_eq_some_iff.mp H
        obtain ⟨t333, A120, H⟩ := H
        replace H : (some t333) = some r := H
        have A12 := Aside0.mk A120
        clear A120
        obtain rfl := Option.some.inj H
        go_wp2_with (first | ((with_reducible refine gate_callee (f := 17) rfl ?_); refine goesL_ (some 22) rfl rfl Try.func17 (by kernel_rfl) rfl #[] rfl (by (try simp only [List.map_toArray, List.map_cons, List.map_nil]); first | done | rfl | (simp only [List.length_drop, List.length_take]; rfl)) ?_; (with_reducible refine (tableaulaw08_awake.calls kj5  t333 _ A12.out).mono ?_); rintro e w13 ⟨rfl, hb⟩; refine ⟨_, rfl, ?_⟩; have n0_ := Aside0.mk (blk_below (g := gb330) (o := .cells #[.int .i64 a2_0, .int .i64 a2_1, .int .i64 a2_2, .int .i64 a2_3] 23 (0, 0)) (by (with_reducible repeat (first | refine blk_drewN ?_ _ | refine blk_drew ?_ | refine blk_alloc ?_ _)); exact BK330.out) hb); have n1_ := Aside0.mk (below_step (by repeat (first | (with_reducible first | exact HB.out | apply below_alloc | apply pw_below_drewN | apply below_drew1 | refine below_set ?_ GE330.out) | exact HB.out)) hb); clear BK330; clear HB; have BK330 := n0_; have HB := n1_; clear n0_ n1_; (try clear hb); (try clear hb2); (try clear hk); (try clear hi)))
        go_ret
        exact ⟨by first | rfl | (simp [errW_none, errW_some] <;> rfl) | (simp [*, errW_none, errW_some] <;> rfl), by repeat (first | (with_reducible first | exact HB.out | apply below_alloc | apply pw_below_drewN | apply below_drew1 | refine below_set ?_ GE330.out) | exact HB.out)⟩
      · replace c11 := Bool.eq_false_iff.mpr c11
        subst c11
        have H1 : ((tableaulaw00_Rects.f l0).bind fun t334 => ((tableaulaw00_Rects.f l1).bind fun t337 => ((region_Check.f t334).bind fun t340 => ((tableauref08_Check.f kj5 l0).bind fun t341 => (if (t340 != t341) = true then (tableaulaw08_RegionAll.j1 kj5 l0 l1 a3 a4 t334 t337 true) else ((region_Of.f a2_0 a2_1 a2_2 a2_3).bind fun t342 => ((tableauref08_Of.f kj5 a2_0 a2_1 a2_2 a2_3).bind fun t345 => ((tableaulaw00_SameRects.f kj5 t342 t345).bind fun t348 => (tableaulaw08_RegionAll.j1 kj5 l0 l1 a3 a4 t334 t337 (!t348)))))))))) = some r := by rw [if_neg (show ¬ (false = true) by decide)] at H; exact H
        clear H
        have H := H1
        clear H1
        replace H := Option.bind_eq_some_iff.mp H
        obtain ⟨t334, A140, H⟩ := H
        replace H : ((tableaulaw00_Rects.f l1).bind fun t337 => ((region_Check.f t334).bind fun t340 => ((tableauref08_Check.f kj5 l0).bind fun t341 => (if (t340 != t341) = true then (tableaulaw08_RegionAll.j1 kj5 l0 l1 a3 a4 t334 t337 true) else ((region_Of.f a2_0 a2_1 a2_2 a2_3).bind fun t342 => ((tableauref08_Of.f kj5 a2_0 a2_1 a2_2 a2_3).bind fun t345 => ((tableaulaw00_SameRects.f kj5 t342 t345).bind fun t348 => (tableaulaw08_RegionAll.j1 kj5 l0 l1 a3 a4 t334 t337 (!t348))))))))) = some r := H
        have A14 := Aside0.mk A140
        clear A140
        replace H := Option.bind_eq_some_iff.mp H
        obtain ⟨t337, A150, H⟩ := H
        replace H : ((region_Check.f t334).bind fun t340 => ((tableauref08_Check.f kj5 l0).bind fun t341 => (if (t340 != t341) = true then (tableaulaw08_RegionAll.j1 kj5 l0 l1 a3 a4 t334 t337 true) else ((region_Of.f a2_0 a2_1 a2_2 a2_3).bind fun t342 => ((tableauref08_Of.f kj5 a2_0 a2_1 a2_2 a2_3).bind fun t345 => ((tableaulaw00_SameRects.f kj5 t342 t345).bind fun t348 => (tableaulaw08_RegionAll.j1 kj5 l0 l1 a3 a4 t334 t337 (!t348)))))))) = some r := H
        have A15 := Aside0.mk A150
        clear A150
        have HC16 := Aside0.mk H
        clear H
        go_upto_region 4 with (first | ((with_reducible refine gate_callee (f := 36) rfl ?_); refine goesL_ (some 24) rfl rfl Try.func36 (by kernel_rfl) rfl #[.slice A0 l0.length c0] rfl (by (try simp only [List.map_toArray, List.map_cons, List.map_nil]); first | done | rfl | (simp only [List.length_drop, List.length_take]; rfl)) ?_; (with_reducible refine (tableaulaw00_Rects.calls _ _ l0 t334 _ ?side1 ?side2 A14.out).mono ?_); (case side1 => repeat (first | exact (Kd.C_below HR0.out HB.out) | (with_reducible refine Kd.C_alloc ?_ _) | (with_reducible refine Kd.C_drewN ?_ _) | (with_reducible refine Kd.C_drew ?_))); (case side2 => exact HC0.out); rintro e w17 ⟨v335, rfl, ho0, hb⟩; refine ⟨_, rfl, ?_⟩; have n0_ := Aside0.mk (Kd.R_lower (Kd.R_newB ho0 (g := gb330) (o := .cells #[.int .i64 a2_0, .int .i64 a2_1, .int .i64 a2_2, .int .i64 a2_3] 23 (0, 0)) (by (with_reducible repeat (first | refine blk_drewN ?_ _ | refine blk_drew ?_ | refine blk_alloc ?_ _)); exact BK330.out)) (below_size (by repeat (first | (with_reducible first | exact HB.out | apply below_alloc | apply pw_below_drewN | apply below_drew1 | refine below_set ?_ GE330.out) | exact HB.out)))); have n1_ := Aside0.mk (blk_below (g := gb330) (o := .cells #[.int .i64 a2_0, .int .i64 a2_1, .int .i64 a2_2, .int .i64 a2_3] 23 (0, 0)) (by (with_reducible repeat (first | refine blk_drewN ?_ _ | refine blk_drew ?_ | refine blk_alloc ?_ _)); exact BK330.out) hb); have n2_ := Aside0.mk (below_step (by repeat (first | (with_reducible first | exact HB.out | apply below_alloc | apply pw_below_drewN | apply below_drew1 | refine below_set ?_ GE330.out) | exact HB.out)) hb); clear BK330; clear HB; have HO336 := n0_; have BK330 := n1_; have HB := n2_; clear n0_ n1_ n2_; (try clear hb); (try clear hb2); (try clear hk); (try clear hi); (try clear ho0)) | ((with_reducible refine gate_callee (f := 36) rfl ?_); refine goesL_ (some 26) rfl rfl Try.func36 (by kernel_rfl) rfl #[.slice A1 l1.length c1] rfl (by (try simp only [List.map_toArray, List.map_cons, List.map_nil]); first | done | rfl | (simp only [List.length_drop, List.length_take]; rfl)) ?_; (with_reducible refine (tableaulaw00_Rects.calls _ _ l1 t337 _ ?side1 ?side2 A15.out).mono ?_); (case side1 => repeat (first | exact (Kd.C_below HR1.out HB.out) | (with_reducible refine Kd.C_alloc ?_ _) | (with_reducible refine Kd.C_drewN ?_ _) | (with_reducible refine Kd.C_drew ?_))); (case side2 => exact HC1.out); rintro e w18 ⟨v338, rfl, ho0, hb⟩; refine ⟨_, rfl, ?_⟩; have n0_ := Aside0.mk (Kd.R_elder' (by (with_reducible repeat (first | apply Kd.R_alloc | apply Kd.R_drewN | apply Kd.R_drew)); exact HO336.out) (Kd.R_base ho0) hb); have n1_ := Aside0.mk (Kd.R_lower (Kd.R_newB (Kd.R_new' ho0 (Kd.R_lt (by (with_reducible repeat (first | apply Kd.R_alloc | apply Kd.R_drewN | apply Kd.R_drew)); exact HO336.out))) (g := gb330) (o := .cells #[.int .i64 a2_0, .int .i64 a2_1, .int .i64 a2_2, .int .i64 a2_3] 23 (0, 0)) (by (with_reducible repeat (first | refine blk_drewN ?_ _ | refine blk_drew ?_ | refine blk_alloc ?_ _)); exact BK330.out)) (below_size (by repeat (first | (with_reducible first | exact HB.out | apply below_alloc | apply pw_below_drewN | apply below_drew1 | refine below_set ?_ GE330.out) | exact HB.out)))); have n2_ := Aside0.mk (blk_below (g := gb330) (o := .cells #[.int .i64 a2_0, .int .i64 a2_1, .int .i64 a2_2, .int .i64 a2_3] 23 (0, 0)) (by (with_reducible repeat (first | refine blk_drewN ?_ _ | refine blk_drew ?_ | refine blk_alloc ?_ _)); exact BK330.out) hb); have n3_ := Aside0.mk (below_step (by repeat (first | (with_reducible first | exact HB.out | apply below_alloc | apply pw_below_drewN | apply below_drew1 | refine below_set ?_ GE330.out) | exact HB.out)) hb); clear HO336; clear BK330; clear HB; have HO336 := n0_; have HO339 := n1_; have BK330 := n2_; have HB := n3_; clear n0_ n1_ n2_ n3_; (try clear hb); (try clear hb2); (try clear hk); (try clear hi); (try clear ho0)))
        (try simp only [Act.put, List.setIfInBounds_toArray, List.set_cons_zero, List.set_cons_succ])
        go_cut [39] (fun v39 wc => ∃ (kq : Nat) (x39_15 : Bool), v39 = .bool x39_15 ∧ Aside0 (tableaulaw08_RegionAll.j1 kq l0 l1 a3 a4 t334 t337 x39_15 = some r) ∧ Aside0 (kq ≤ kj5) ∧ Aside0 (Kd.R k23 23 wc w.heap.size (fun k_ => some k_ ≠ (v338 : Value).ownBlock ∧ k_ ≠ gb330) v335 t334) ∧ Aside0 (Kd.R k23 23 wc w.heap.size (fun k_ => some k_ ≠ (v335 : Value).ownBlock ∧ k_ ≠ gb330) v338 t337) ∧ Aside0 (wc.heap[gb330]? = some (.cells #[.int .i64 a2_0, .int .i64 a2_1, .int .i64 a2_2, .int .i64 a2_3] 23 (0, 0))) ∧ Aside0 (Below w.heap.size w wc))
        case first =>
          have H := HC16.out
          clear HC16
          replace H := Option.bind_eq_some_iff.mp H
          obtain ⟨t340, A190, H⟩ := H
          replace H : ((tableauref08_Check.f kj5 l0).bind fun t341 => (if (t340 != t341) = true then (tableaulaw08_RegionAll.j1 kj5 l0 l1 a3 a4 t334 t337 true) else ((region_Of.f a2_0 a2_1 a2_2 a2_3).bind fun t342 => ((tableauref08_Of.f kj5 a2_0 a2_1 a2_2 a2_3).bind fun t345 => ((tableaulaw00_SameRects.f kj5 t342 t345).bind fun t348 => (tableaulaw08_RegionAll.j1 kj5 l0 l1 a3 a4 t334 t337 (!t348))))))) = some r := H
          have A19 := Aside0.mk A190
          clear A190
          replace H := Option.bind_eq_some_iff.mp H
          obtain ⟨t341, A200, H⟩ := H
          replace H : (if (t340 != t341) = true then (tableaulaw08_RegionAll.j1 kj5 l0 l1 a3 a4 t334 t337 true) else ((region_Of.f a2_0 a2_1 a2_2 a2_3).bind fun t342 => ((tableauref08_Of.f kj5 a2_0 a2_1 a2_2 a2_3).bind fun t345 => ((tableaulaw00_SameRects.f kj5 t342 t345).bind fun t348 => (tableaulaw08_RegionAll.j1 kj5 l0 l1 a3 a4 t334 t337 (!t348)))))) = some r := H
          have A20 := Aside0.mk A200
          clear A200
          by_cases c21 : (t340 != t341) = true
          · rw [if_pos c21] at H
            have c21b0 : (t340 != t341) = true := c21
            (try (have c21b1 : decide (t340 = t341) = false := by simpa using c21))
            (try (have c21b2 : (t340 == t341) = false := by simpa using c21))
            (try (have c21b3 : ¬ (t340 = t341) := by simpa using c21))
            clear c21
            (first | rw [c21b0] | (simp only [i64_w, i32_w]; rw [c21b0]) | skip)
            have H' := Aside0.mk H
            clear H
            try go_wp2
            have n0_ := Aside0.mk (Kd.R_drew HO336.out)
            have n1_ := Aside0.mk (Kd.R_drew HO339.out)
            have n2_ := Aside0.mk (blk_drew BK330.out)
            have n3_ := Aside0.mk (below_drew1 HB.out)
            clear HO336
            clear HO339
            clear BK330
            clear HB
            have HO336 := n0_
            have HO339 := n1_
            have BK330 := n2_
            have HB := n3_
            clear n0_ n1_ n2_ n3_
            obtain ⟨Ao23, co23, eo23⟩ := Kd.R_slice HO336.out
            (first | subst eo23 | (injection eo23 with f1_ f2_ f3_; have f4_ := f1_.symm; have f5_ := f3_.symm; clear f1_ f2_ f3_; subst f4_; subst f5_))
            refine start_ (n := 13) (S := fun w' => True) (ds := []) #[false, false, false, false, false, false, false, false, false, false, false, false, false] (by kernel_rfl) rfl rfl trivial (fun hHeld => ?_); refine with_tabW tableaulaw08_RegionAll.tab4 tableaulaw08_RegionAll.bits4 (fun HT_ HW_ => ?_)
            generalize w18.drew = w22 at HO336 HO339 BK330 HB hHeld ⊢
            refine pure_ (i := 0) (N := some 27) (v := ?_) (a' := ?_) #[true, false, false, false, false, false, false, false, false, false, false, false, false] rfl rfl (any_of HT_.out (by kernel_rfl)) (fun _ _ _ h => h) (Or.inl ⟨by rfl, ?_⟩) ?_ ?_
            rotate_left
            · intro w'
              go_simp
              with_reducible rfl
            rotate_left
            · simp only [Act.put, List.setIfInBounds_toArray, List.set_cons_zero, List.set_cons_succ, i64_w, i32_w]
              rfl
            refine pure_ (i := 2) (N := some 29) (v := ?_) (a' := ?_) #[true, false, true, false, false, false, false, false, false, false, false, false, false] rfl rfl (any_of HT_.out (by kernel_rfl)) (fun _ _ _ h => h) (Or.inl ⟨by rfl, ?_⟩) ?_ ?_
            rotate_left
            · intro w'
              go_simp
              with_reducible rfl
            rotate_left
            · simp only [Act.put, List.setIfInBounds_toArray, List.set_cons_zero, List.set_cons_succ, i64_w, i32_w]
              rfl
            refine one_ (i := 1) (N := some 28) #[true, true, true, false, false, false, false, false, false, false, false, false, false] rfl rfl (one_of HT_.out (by kernel_rfl)) (by decide) (fun K hK => ?_)
            refine goes_ Try.func16 (by kernel_rfl) rfl #[.slice Ao23 t334.length co23] (by rfl) rfl rfl (by (try simp only [List.map_toArray, List.map_cons, List.map_nil]); first | done | rfl | (simp only [List.length_drop, List.length_take]; rfl)) ?_
            with_reducible refine (region_Check.calls _ _ t334 t340 _ ?side1 ?side2 A19.out).mono ?_
            (case side1 => repeat (first | exact (Kd.R_reads' HO336.out).2.2 | (with_reducible refine Kd.C_alloc ?_ _) | (with_reducible refine Kd.C_drewN ?_ _) | (with_reducible refine Kd.C_drew ?_)))
            (case side2 => exact (Kd.R_reads' HO336.out).2.1)
            rintro e w24 ⟨rfl, hb⟩
            refine ⟨_, rfl, ?_⟩
            have n0_ := Aside0.mk (Kd.R_below (by (with_reducible repeat (first | apply Kd.R_alloc | apply Kd.R_drewN | apply Kd.R_drew)); exact HO336.out) hb)
            have n1_ := Aside0.mk (Kd.R_below (by (with_reducible repeat (first | apply Kd.R_alloc | apply Kd.R_drewN | apply Kd.R_drew)); exact HO339.out) hb)
            have n2_ := Aside0.mk (blk_below (g := gb330) (o := .cells #[.int .i64 a2_0, .int .i64 a2_1, .int .i64 a2_2, .int .i64 a2_3] 23 (0, 0)) (by (with_reducible repeat (first | refine blk_drewN ?_ _ | refine blk_drew ?_ | refine blk_alloc ?_ _)); exact BK330.out) hb)
            have n3_ := Aside0.mk (below_step (by repeat (first | (with_reducible first | exact HB.out | apply below_alloc | apply pw_below_drewN | apply below_drew1 | refine below_set ?_ GE330.out) | exact HB.out)) hb)
            clear HO336
            clear HO339
            clear BK330
            clear HB
            have HO336 := n0_
            have HO339 := n1_
            have BK330 := n2_
            have HB := n3_
            clear n0_ n1_ n2_ n3_
            (try clear hb)
            (try clear hb2)
            (try clear hk)
            (try clear hi)
            refine hK.out _ _ trivial (fun hHeld => ?_)
            clear hK K
            refine norm_ (a' := ?_) ?_ ?_
            rotate_left
            · show Act.put _ (some 28) _ = _
              simp only [Act.put, List.setIfInBounds_toArray, List.set_cons_zero, List.set_cons_succ, i64_w, i32_w]
              rfl
            refine one_ (i := 3) (N := some 30) #[true, true, true, true, false, false, false, false, false, false, false, false, false] rfl rfl (one_of HT_.out (by kernel_rfl)) (by decide) (fun K hK => ?_)
            refine goes_ Try.func35 (by kernel_rfl) rfl #[.slice A0 l0.length c0] (by rfl) rfl rfl (by (try simp only [List.map_toArray, List.map_cons, List.map_nil]); first | done | rfl | (simp only [List.length_drop, List.length_take]; rfl)) ?_
            with_reducible refine (tableauref08_Check.calls kj5 _ _ l0 t341 _ ?side1 ?side2 A20.out).mono ?_
            (case side1 => repeat (first | exact (Kd.C_below HR0.out HB.out) | (with_reducible refine Kd.C_alloc ?_ _) | (with_reducible refine Kd.C_drewN ?_ _) | (with_reducible refine Kd.C_drew ?_)))
            (case side2 => exact HC0.out)
            rintro e w25 ⟨rfl, hb⟩
            refine ⟨_, rfl, ?_⟩
            have n0_ := Aside0.mk (Kd.R_below (by (with_reducible repeat (first | apply Kd.R_alloc | apply Kd.R_drewN | apply Kd.R_drew)); exact HO336.out) hb)
            have n1_ := Aside0.mk (Kd.R_below (by (with_reducible repeat (first | apply Kd.R_alloc | apply Kd.R_drewN | apply Kd.R_drew)); exact HO339.out) hb)
            have n2_ := Aside0.mk (blk_below (g := gb330) (o := .cells #[.int .i64 a2_0, .int .i64 a2_1, .int .i64 a2_2, .int .i64 a2_3] 23 (0, 0)) (by (with_reducible repeat (first | refine blk_drewN ?_ _ | refine blk_drew ?_ | refine blk_alloc ?_ _)); exact BK330.out) hb)
            have n3_ := Aside0.mk (below_step (by repeat (first | (with_reducible first | exact HB.out | apply below_alloc | apply pw_below_drewN | apply below_drew1 | refine below_set ?_ GE330.out) | exact HB.out)) hb)
            clear HO336
            clear HO339
            clear BK330
            clear HB
            have HO336 := n0_
            have HO339 := n1_
            have BK330 := n2_
            have HB := n3_
            clear n0_ n1_ n2_ n3_
            (try clear hb)
            (try clear hb2)
            (try clear hk)
            (try clear hi)
            refine hK.out _ _ trivial (fun hHeld => ?_)
            clear hK K
            refine norm_ (a' := ?_) ?_ ?_
            rotate_left
            · show Act.put _ (some 30) _ = _
              simp only [Act.put, List.setIfInBounds_toArray, List.set_cons_zero, List.set_cons_succ, i64_w, i32_w]
              rfl
            refine pure_ (i := 4) (N := some 31) (v := ?_) (a' := ?_) #[true, true, true, true, true, false, false, false, false, false, false, false, false] rfl rfl (any_of HT_.out (by kernel_rfl)) (fun _ _ _ h => h) (Or.inl ⟨by rfl, ?_⟩) ?_ ?_
            rotate_left
            · intro w'
              go_simp
              with_reducible rfl
            rotate_left
            · simp only [Act.put, List.setIfInBounds_toArray, List.set_cons_zero, List.set_cons_succ, i64_w, i32_w]
              rfl
            refine pure_ (i := 5) (N := some 32) (v := ?_) (a' := ?_) #[true, true, true, true, true, true, false, false, false, false, false, false, false] rfl rfl (any_of HT_.out (by kernel_rfl)) (fun _ _ _ h => h) (Or.inl ⟨by rfl, ?_⟩) ?_ ?_
            rotate_left
            · intro w'
              go_simp
              with_reducible rfl
            rotate_left
            · simp only [Act.put, List.setIfInBounds_toArray, List.set_cons_zero, List.set_cons_succ, i64_w, i32_w]
              rfl
            refine pure_ (i := 6) (N := some 33) (v := undef) (a' := ?_) #[true, true, true, true, true, true, true, false, false, false, false, false, false] rfl rfl (any_of HT_.out (by kernel_rfl)) (fun _ _ _ h => h) (Or.inr ⟨by rfl, rfl⟩) ?_ ?_
            rotate_left
            · simp only [Act.put, List.setIfInBounds_toArray, List.set_cons_zero, List.set_cons_succ, i64_w, i32_w]
              rfl
            refine pure_ (i := 7) (N := some 34) (v := undef) (a' := ?_) #[true, true, true, true, true, true, true, true, false, false, false, false, false] rfl rfl (any_of HT_.out (by kernel_rfl)) (fun _ _ _ h => h) (Or.inr ⟨by rfl, rfl⟩) ?_ ?_
            rotate_left
            · simp only [Act.put, List.setIfInBounds_toArray, List.set_cons_zero, List.set_cons_succ, i64_w, i32_w]
              rfl
            refine pure_ (i := 8) (N := some 35) (v := undef) (a' := ?_) #[true, true, true, true, true, true, true, true, true, false, false, false, false] rfl rfl (any_of HT_.out (by kernel_rfl)) (fun _ _ _ h => h) (Or.inr ⟨by rfl, rfl⟩) ?_ ?_
            rotate_left
            · simp only [Act.put, List.setIfInBounds_toArray, List.set_cons_zero, List.set_cons_succ, i64_w, i32_w]
              rfl
            refine pure_ (i := 9) (N := some 36) (v := undef) (a' := ?_) #[true, true, true, true, true, true, true, true, true, true, false, false, false] rfl rfl (any_of HT_.out (by kernel_rfl)) (fun _ _ _ h => h) (Or.inr ⟨by rfl, rfl⟩) ?_ ?_
            rotate_left
            · simp only [Act.put, List.setIfInBounds_toArray, List.set_cons_zero, List.set_cons_succ, i64_w, i32_w]
              rfl
            refine pure_ (i := 10) (N := some 37) (v := undef) (a' := ?_) #[true, true, true, true, true, true, true, true, true, true, true, false, false] rfl rfl (any_of HT_.out (by kernel_rfl)) (fun _ _ _ h => h) (Or.inr ⟨by rfl, rfl⟩) ?_ ?_
            rotate_left
            · simp only [Act.put, List.setIfInBounds_toArray, List.set_cons_zero, List.set_cons_succ, i64_w, i32_w]
              rfl
            refine pure_ (i := 11) (N := some 38) (v := undef) (a' := ?_) #[true, true, true, true, true, true, true, true, true, true, true, true, false] rfl rfl (any_of HT_.out (by kernel_rfl)) (fun _ _ _ h => h) (Or.inr ⟨by rfl, rfl⟩) ?_ ?_
            rotate_left
            · simp only [Act.put, List.setIfInBounds_toArray, List.set_cons_zero, List.set_cons_succ, i64_w, i32_w]
              rfl
            refine pure_ (i := 12) (N := some 39) (v := ?_) (a' := ?_) #[true, true, true, true, true, true, true, true, true, true, true, true, true] rfl rfl (any_of HT_.out (by kernel_rfl)) (fun _ _ _ h => h) (Or.inl ⟨by rfl, ?_⟩) ?_ ?_
            rotate_left
            · intro w'
              go_simp
              with_reducible rfl
            rotate_left
            · simp only [Act.put, List.setIfInBounds_toArray, List.set_cons_zero, List.set_cons_succ, i64_w, i32_w]
              rfl
            refine done_ (done_of HT_.out (by kernel_rfl)) ?_
            try go_wp2
            go_meet
            case rel => exact ⟨_, (true), (by first | rfl | (simp; done) | (simp [*]; done)), H', ⟨by have := HJ5.out; first | omega | exact Nat.le_refl _⟩, ⟨by (with_reducible repeat (first | apply Kd.R_alloc | apply Kd.R_drewN | apply Kd.R_drew)); exact Kd.R_mono HO336.out (fun _ hk => ⟨hk.2, hk.1.2⟩)⟩, ⟨by (with_reducible repeat (first | apply Kd.R_alloc | apply Kd.R_drewN | apply Kd.R_drew)); exact Kd.R_mono HO339.out (fun _ hk => ⟨hk.1.2, hk.2⟩)⟩, ⟨by (with_reducible repeat (first | refine blk_drewN ?_ _ | refine blk_drew ?_ | refine blk_alloc ?_ _)); exact BK330.out⟩, ⟨by repeat (first | (with_reducible first | exact HB.out | apply below_alloc | apply pw_below_drewN | apply below_drew1 | refine below_set ?_ GE330.out) | exact HB.out)⟩⟩
          · rw [if_neg c21] at H
            have c21b0 : (t340 != t341) = false := by simpa using c21
            (try (have c21b1 : decide (t340 = t341) = true := by simpa using c21))
            (try (have c21b2 : (t340 == t341) = true := by simpa using c21))
            clear c21
            (first | rw [c21b0] | (simp only [i64_w, i32_w]; rw [c21b0]) | skip)
            replace H := Option.bind_eq_some_iff.mp H
            obtain ⟨t342, A260, H⟩ := H
            replace H : ((tableauref08_Of.f kj5 a2_0 a2_1 a2_2 a2_3).bind fun t345 => ((tableaulaw00_SameRects.f kj5 t342 t345).bind fun t348 => (tableaulaw08_RegionAll.j1 kj5 l0 l1 a3 a4 t334 t337 (!t348)))) = some r := H
            have A26 := Aside0.mk A260
            clear A260
            replace H := Option.bind_eq_some_iff.mp H
            obtain ⟨t345, A270, H⟩ := H
            replace H : ((tableaulaw00_SameRects.f kj5 t342 t345).bind fun t348 => (tableaulaw08_RegionAll.j1 kj5 l0 l1 a3 a4 t334 t337 (!t348))) = some r := H
            have A27 := Aside0.mk A270
            clear A270
            replace H := Option.bind_eq_some_iff.mp H
            obtain ⟨t348, A280, H⟩ := H
            replace H : (tableaulaw08_RegionAll.j1 kj5 l0 l1 a3 a4 t334 t337 (!t348)) = some r := H
            have A28 := Aside0.mk A280
            clear A280
            have H' := Aside0.mk H
            clear H
            try go_wp2
            have n0_ := Aside0.mk (Kd.R_drew HO336.out)
            have n1_ := Aside0.mk (Kd.R_drew HO339.out)
            have n2_ := Aside0.mk (blk_drew BK330.out)
            have n3_ := Aside0.mk (below_drew1 HB.out)
            clear HO336
            clear HO339
            clear BK330
            clear HB
            have HO336 := n0_
            have HO339 := n1_
            have BK330 := n2_
            have HB := n3_
            clear n0_ n1_ n2_ n3_
            obtain ⟨Ao30, co30, eo30⟩ := Kd.R_slice HO336.out
            (first | subst eo30 | (injection eo30 with f1_ f2_ f3_; have f4_ := f1_.symm; have f5_ := f3_.symm; clear f1_ f2_ f3_; subst f4_; subst f5_))
            refine start_ (n := 13) (S := fun w' => w'.cell? ⟨gb330, 0, none⟩ = some (.int .i64 a2_0) ∧ w'.cell? ⟨gb330, 1, none⟩ = some (.int .i64 a2_1) ∧ w'.cell? ⟨gb330, 2, none⟩ = some (.int .i64 a2_2) ∧ w'.cell? ⟨gb330, 3, none⟩ = some (.int .i64 a2_3)) (ds := []) #[false, false, false, false, false, false, false, false, false, false, false, false, false] (by kernel_rfl) rfl rfl ⟨(blk_cell BK330.out 0).trans rfl, (blk_cell BK330.out 1).trans rfl, (blk_cell BK330.out 2).trans rfl, (blk_cell BK330.out 3).trans rfl⟩ (fun hHeld => ?_); refine with_tabW tableaulaw08_RegionAll.tab4 tableaulaw08_RegionAll.bits4 (fun HT_ HW_ => ?_)
            generalize w18.drew = w29 at HO336 HO339 BK330 HB hHeld ⊢
            refine pure_ (i := 0) (N := some 27) (v := ?_) (a' := ?_) #[true, false, false, false, false, false, false, false, false, false, false, false, false] rfl rfl (any_of HT_.out (by kernel_rfl)) (fun _ _ _ h => h) (Or.inl ⟨by rfl, ?_⟩) ?_ ?_
            rotate_left
            · intro w'
              go_simp
              with_reducible rfl
            rotate_left
            · simp only [Act.put, List.setIfInBounds_toArray, List.set_cons_zero, List.set_cons_succ, i64_w, i32_w]
              rfl
            refine pure_ (i := 2) (N := some 29) (v := ?_) (a' := ?_) #[true, false, true, false, false, false, false, false, false, false, false, false, false] rfl rfl (any_of HT_.out (by kernel_rfl)) (fun _ _ _ h => h) (Or.inl ⟨by rfl, ?_⟩) ?_ ?_
            rotate_left
            · intro w'
              go_simp
              with_reducible rfl
            rotate_left
            · simp only [Act.put, List.setIfInBounds_toArray, List.set_cons_zero, List.set_cons_succ, i64_w, i32_w]
              rfl
            refine one_ (i := 1) (N := some 28) #[true, true, true, false, false, false, false, false, false, false, false, false, false] rfl rfl (one_of HT_.out (by kernel_rfl)) (by decide) (fun K hK => ?_)
            refine goes_ Try.func16 (by kernel_rfl) rfl #[.slice Ao30 t334.length co30] (by rfl) rfl rfl (by (try simp only [List.map_toArray, List.map_cons, List.map_nil]); first | done | rfl | (simp only [List.length_drop, List.length_take]; rfl)) ?_
            with_reducible refine (region_Check.calls _ _ t334 t340 _ ?side1 ?side2 A19.out).mono ?_
            (case side1 => repeat (first | exact (Kd.R_reads' HO336.out).2.2 | (with_reducible refine Kd.C_alloc ?_ _) | (with_reducible refine Kd.C_drewN ?_ _) | (with_reducible refine Kd.C_drew ?_)))
            (case side2 => exact (Kd.R_reads' HO336.out).2.1)
            rintro e w31 ⟨rfl, hb⟩
            refine ⟨_, rfl, ?_⟩
            have n0_ := Aside0.mk (Kd.R_below (by (with_reducible repeat (first | apply Kd.R_alloc | apply Kd.R_drewN | apply Kd.R_drew)); exact HO336.out) hb)
            have n1_ := Aside0.mk (Kd.R_below (by (with_reducible repeat (first | apply Kd.R_alloc | apply Kd.R_drewN | apply Kd.R_drew)); exact HO339.out) hb)
            have n2_ := Aside0.mk (blk_below (g := gb330) (o := .cells #[.int .i64 a2_0, .int .i64 a2_1, .int .i64 a2_2, .int .i64 a2_3] 23 (0, 0)) (by (with_reducible repeat (first | refine blk_drewN ?_ _ | refine blk_drew ?_ | refine blk_alloc ?_ _)); exact BK330.out) hb)
            have n3_ := Aside0.mk (below_step (by repeat (first | (with_reducible first | exact HB.out | apply below_alloc | apply pw_below_drewN | apply below_drew1 | refine below_set ?_ GE330.out) | exact HB.out)) hb)
            clear HO336
            clear HO339
            clear BK330
            clear HB
            have HO336 := n0_
            have HO339 := n1_
            have BK330 := n2_
            have HB := n3_
            clear n0_ n1_ n2_ n3_
            (try clear hb)
            (try clear hb2)
            (try clear hk)
            (try clear hi)
            refine hK.out _ _ ⟨(blk_cell BK330.out 0).trans rfl, (blk_cell BK330.out 1).trans rfl, (blk_cell BK330.out 2).trans rfl, (blk_cell BK330.out 3).trans rfl⟩ (fun hHeld => ?_)
            clear hK K
            refine norm_ (a' := ?_) ?_ ?_
            rotate_left
            · show Act.put _ (some 28) _ = _
              simp only [Act.put, List.setIfInBounds_toArray, List.set_cons_zero, List.set_cons_succ, i64_w, i32_w]
              rfl
            refine one_ (i := 3) (N := some 30) #[true, true, true, true, false, false, false, false, false, false, false, false, false] rfl rfl (one_of HT_.out (by kernel_rfl)) (by decide) (fun K hK => ?_)
            refine goes_ Try.func35 (by kernel_rfl) rfl #[.slice A0 l0.length c0] (by rfl) rfl rfl (by (try simp only [List.map_toArray, List.map_cons, List.map_nil]); first | done | rfl | (simp only [List.length_drop, List.length_take]; rfl)) ?_
            with_reducible refine (tableauref08_Check.calls kj5 _ _ l0 t341 _ ?side1 ?side2 A20.out).mono ?_
            (case side1 => repeat (first | exact (Kd.C_below HR0.out HB.out) | (with_reducible refine Kd.C_alloc ?_ _) | (with_reducible refine Kd.C_drewN ?_ _) | (with_reducible refine Kd.C_drew ?_)))
            (case side2 => exact HC0.out)
            rintro e w32 ⟨rfl, hb⟩
            refine ⟨_, rfl, ?_⟩
            have n0_ := Aside0.mk (Kd.R_below (by (with_reducible repeat (first | apply Kd.R_alloc | apply Kd.R_drewN | apply Kd.R_drew)); exact HO336.out) hb)
            have n1_ := Aside0.mk (Kd.R_below (by (with_reducible repeat (first | apply Kd.R_alloc | apply Kd.R_drewN | apply Kd.R_drew)); exact HO339.out) hb)
            have n2_ := Aside0.mk (blk_below (g := gb330) (o := .cells #[.int .i64 a2_0, .int .i64 a2_1, .int .i64 a2_2, .int .i64 a2_3] 23 (0, 0)) (by (with_reducible repeat (first | refine blk_drewN ?_ _ | refine blk_drew ?_ | refine blk_alloc ?_ _)); exact BK330.out) hb)
            have n3_ := Aside0.mk (below_step (by repeat (first | (with_reducible first | exact HB.out | apply below_alloc | apply pw_below_drewN | apply below_drew1 | refine below_set ?_ GE330.out) | exact HB.out)) hb)
            clear HO336
            clear HO339
            clear BK330
            clear HB
            have HO336 := n0_
            have HO339 := n1_
            have BK330 := n2_
            have HB := n3_
            clear n0_ n1_ n2_ n3_
            (try clear hb)
            (try clear hb2)
            (try clear hk)
            (try clear hi)
            refine hK.out _ _ ⟨(blk_cell BK330.out 0).trans rfl, (blk_cell BK330.out 1).trans rfl, (blk_cell BK330.out 2).trans rfl, (blk_cell BK330.out 3).trans rfl⟩ (fun hHeld => ?_)
            clear hK K
            refine norm_ (a' := ?_) ?_ ?_
            rotate_left
            · show Act.put _ (some 30) _ = _
              simp only [Act.put, List.setIfInBounds_toArray, List.set_cons_zero, List.set_cons_succ, i64_w, i32_w]
              rfl
            refine pure_ (i := 4) (N := some 31) (v := ?_) (a' := ?_) #[true, true, true, true, true, false, false, false, false, false, false, false, false] rfl rfl (any_of HT_.out (by kernel_rfl)) (fun _ _ _ h => h) (Or.inl ⟨by rfl, ?_⟩) ?_ ?_
            rotate_left
            · intro w'
              go_simp
              with_reducible rfl
            rotate_left
            · simp only [Act.put, List.setIfInBounds_toArray, List.set_cons_zero, List.set_cons_succ, i64_w, i32_w]
              rfl
            refine pure_ (i := 5) (N := some 32) (v := ?_) (a' := ?_) #[true, true, true, true, true, true, false, false, false, false, false, false, false] rfl rfl (any_of HT_.out (by kernel_rfl)) (fun _ _ _ h => h) (Or.inl ⟨by rfl, ?_⟩) ?_ ?_
            rotate_left
            · intro w'
              go_simp
              with_reducible rfl
            rotate_left
            · simp only [Act.put, List.setIfInBounds_toArray, List.set_cons_zero, List.set_cons_succ, i64_w, i32_w]
              rfl
            refine take_ (i := 6) (N := some 33) (v := ?_) (a' := ?_) #[true, true, true, true, true, true, true, false, false, false, false, false, false] rfl rfl (take_ofW HT_.out HW_.out (by kernel_rfl)) (fun _ _ _ h => h) (Or.inl ⟨by rfl, ?_⟩) hHeld ?_ ?_
            rotate_left
            · rintro w' ⟨s0, s1, s2, s3⟩
              go_simp
              with_reducible rfl
            rotate_left
            · simp only [Act.put, List.setIfInBounds_toArray, List.set_cons_zero, List.set_cons_succ, i64_w, i32_w]
              rfl
            refine take_ (i := 8) (N := some 35) (v := ?_) (a' := ?_) #[true, true, true, true, true, true, true, false, true, false, false, false, false] rfl rfl (take_ofW HT_.out HW_.out (by kernel_rfl)) (fun _ _ _ h => h) (Or.inl ⟨by rfl, ?_⟩) hHeld ?_ ?_
            rotate_left
            · rintro w' ⟨s0, s1, s2, s3⟩
              go_simp
              with_reducible rfl
            rotate_left
            · simp only [Act.put, List.setIfInBounds_toArray, List.set_cons_zero, List.set_cons_succ, i64_w, i32_w]
              rfl
            refine one_ (i := 7) (N := some 34) #[true, true, true, true, true, true, true, true, true, false, false, false, false] rfl rfl (one_of HT_.out (by kernel_rfl)) (by decide) (fun K hK => ?_)
            refine goes_ Try.func48 (by kernel_rfl) rfl #[.agg #[.int .i64 a2_0, .int .i64 a2_1, .int .i64 a2_2, .int .i64 a2_3]] (by rfl) rfl rfl (by (try simp only [List.map_toArray, List.map_cons, List.map_nil]); first | done | rfl | (simp only [List.length_drop, List.length_take]; rfl)) ?_
            with_reducible refine (region_Of.calls a2_0 a2_1 a2_2 a2_3 t342 _ A26.out).mono ?_
            rintro e w33 ⟨v343, rfl, ho0, hb⟩
            refine ⟨_, rfl, ?_⟩
            have n0_ := Aside0.mk (Kd.R_elder' (by (with_reducible repeat (first | apply Kd.R_alloc | apply Kd.R_drewN | apply Kd.R_drew)); exact HO336.out) (Kd.R_base ho0) hb)
            have n1_ := Aside0.mk (Kd.R_elder' (by (with_reducible repeat (first | apply Kd.R_alloc | apply Kd.R_drewN | apply Kd.R_drew)); exact HO339.out) (Kd.R_base ho0) hb)
            have n2_ := Aside0.mk (Kd.R_lower (Kd.R_newB (Kd.R_new' (Kd.R_new' ho0 (Kd.R_lt (by (with_reducible repeat (first | apply Kd.R_alloc | apply Kd.R_drewN | apply Kd.R_drew)); exact HO336.out))) (Kd.R_lt (by (with_reducible repeat (first | apply Kd.R_alloc | apply Kd.R_drewN | apply Kd.R_drew)); exact HO339.out))) (g := gb330) (o := .cells #[.int .i64 a2_0, .int .i64 a2_1, .int .i64 a2_2, .int .i64 a2_3] 23 (0, 0)) (by (with_reducible repeat (first | refine blk_drewN ?_ _ | refine blk_drew ?_ | refine blk_alloc ?_ _)); exact BK330.out)) (below_size (by repeat (first | (with_reducible first | exact HB.out | apply below_alloc | apply pw_below_drewN | apply below_drew1 | refine below_set ?_ GE330.out) | exact HB.out))))
            have n3_ := Aside0.mk (blk_below (g := gb330) (o := .cells #[.int .i64 a2_0, .int .i64 a2_1, .int .i64 a2_2, .int .i64 a2_3] 23 (0, 0)) (by (with_reducible repeat (first | refine blk_drewN ?_ _ | refine blk_drew ?_ | refine blk_alloc ?_ _)); exact BK330.out) hb)
            have n4_ := Aside0.mk (below_step (by repeat (first | (with_reducible first | exact HB.out | apply below_alloc | apply pw_below_drewN | apply below_drew1 | refine below_set ?_ GE330.out) | exact HB.out)) hb)
            clear HO336
            clear HO339
            clear BK330
            clear HB
            have HO336 := n0_
            have HO339 := n1_
            have HO344 := n2_
            have BK330 := n3_
            have HB := n4_
            clear n0_ n1_ n2_ n3_ n4_
            (try clear hb)
            (try clear hb2)
            (try clear hk)
            (try clear hi)
            (try clear ho0)
            refine hK.out _ _ ⟨(blk_cell BK330.out 0).trans rfl, (blk_cell BK330.out 1).trans rfl, (blk_cell BK330.out 2).trans rfl, (blk_cell BK330.out 3).trans rfl⟩ (fun hHeld => ?_)
            clear hK K
            refine norm_ (a' := ?_) ?_ ?_
            rotate_left
            · show Act.put _ (some 34) _ = _
              simp only [Act.put, List.setIfInBounds_toArray, List.set_cons_zero, List.set_cons_succ, i64_w, i32_w]
              rfl
            refine one_ (i := 9) (N := some 36) #[true, true, true, true, true, true, true, true, true, true, false, false, false] rfl rfl (one_of HT_.out (by kernel_rfl)) (by decide) (fun K hK => ?_)
            refine goes_ Try.func49 (by kernel_rfl) rfl #[.agg #[.int .i64 a2_0, .int .i64 a2_1, .int .i64 a2_2, .int .i64 a2_3]] (by rfl) rfl rfl (by (try simp only [List.map_toArray, List.map_cons, List.map_nil]); first | done | rfl | (simp only [List.length_drop, List.length_take]; rfl)) ?_
            with_reducible refine (tableauref08_Of.calls kj5 a2_0 a2_1 a2_2 a2_3 t345 _ A27.out).mono ?_
            rintro e w34 ⟨v346, rfl, ho0, hb⟩
            refine ⟨_, rfl, ?_⟩
            have n0_ := Aside0.mk (Kd.R_elder' (by (with_reducible repeat (first | apply Kd.R_alloc | apply Kd.R_drewN | apply Kd.R_drew)); exact HO336.out) (Kd.R_base ho0) hb)
            have n1_ := Aside0.mk (Kd.R_elder' (by (with_reducible repeat (first | apply Kd.R_alloc | apply Kd.R_drewN | apply Kd.R_drew)); exact HO339.out) (Kd.R_base ho0) hb)
            have n2_ := Aside0.mk (Kd.R_elder' (by (with_reducible repeat (first | apply Kd.R_alloc | apply Kd.R_drewN | apply Kd.R_drew)); exact HO344.out) (Kd.R_base ho0) hb)
            have n3_ := Aside0.mk (Kd.R_lower (Kd.R_newB (Kd.R_new' (Kd.R_new' (Kd.R_new' ho0 (Kd.R_lt (by (with_reducible repeat (first | apply Kd.R_alloc | apply Kd.R_drewN | apply Kd.R_drew)); exact HO336.out))) (Kd.R_lt (by (with_reducible repeat (first | apply Kd.R_alloc | apply Kd.R_drewN | apply Kd.R_drew)); exact HO339.out))) (Kd.R_lt (by (with_reducible repeat (first | apply Kd.R_alloc | apply Kd.R_drewN | apply Kd.R_drew)); exact HO344.out))) (g := gb330) (o := .cells #[.int .i64 a2_0, .int .i64 a2_1, .int .i64 a2_2, .int .i64 a2_3] 23 (0, 0)) (by (with_reducible repeat (first | refine blk_drewN ?_ _ | refine blk_drew ?_ | refine blk_alloc ?_ _)); exact BK330.out)) (below_size (by repeat (first | (with_reducible first | exact HB.out | apply below_alloc | apply pw_below_drewN | apply below_drew1 | refine below_set ?_ GE330.out) | exact HB.out))))
            have n4_ := Aside0.mk (blk_below (g := gb330) (o := .cells #[.int .i64 a2_0, .int .i64 a2_1, .int .i64 a2_2, .int .i64 a2_3] 23 (0, 0)) (by (with_reducible repeat (first | refine blk_drewN ?_ _ | refine blk_drew ?_ | refine blk_alloc ?_ _)); exact BK330.out) hb)
            have n5_ := Aside0.mk (below_step (by repeat (first | (with_reducible first | exact HB.out | apply below_alloc | apply pw_below_drewN | apply below_drew1 | refine below_set ?_ GE330.out) | exact HB.out)) hb)
            clear HO336
            clear HO339
            clear HO344
            clear BK330
            clear HB
            have HO336 := n0_
            have HO339 := n1_
            have HO344 := n2_
            have HO347 := n3_
            have BK330 := n4_
            have HB := n5_
            clear n0_ n1_ n2_ n3_ n4_ n5_
            (try clear hb)
            (try clear hb2)
            (try clear hk)
            (try clear hi)
            (try clear ho0)
            obtain ⟨Ao35, co35, eo35⟩ := Kd.R_slice HO344.out
            (first | subst eo35 | (injection eo35 with f1_ f2_ f3_; have f4_ := f1_.symm; have f5_ := f3_.symm; clear f1_ f2_ f3_; subst f4_; subst f5_))
            obtain ⟨Ao36, co36, eo36⟩ := Kd.R_slice HO347.out
            (first | subst eo36 | (injection eo36 with f1_ f2_ f3_; have f4_ := f1_.symm; have f5_ := f3_.symm; clear f1_ f2_ f3_; subst f4_; subst f5_))
            refine hK.out _ _ ⟨(blk_cell BK330.out 0).trans rfl, (blk_cell BK330.out 1).trans rfl, (blk_cell BK330.out 2).trans rfl, (blk_cell BK330.out 3).trans rfl⟩ (fun hHeld => ?_)
            clear hK K
            refine norm_ (a' := ?_) ?_ ?_
            rotate_left
            · show Act.put _ (some 36) _ = _
              simp only [Act.put, List.setIfInBounds_toArray, List.set_cons_zero, List.set_cons_succ, i64_w, i32_w]
              rfl
            refine one_ (i := 10) (N := some 37) #[true, true, true, true, true, true, true, true, true, true, true, false, false] rfl rfl (one_of HT_.out (by kernel_rfl)) (by decide) (fun K hK => ?_)
            refine goes_ Try.func20 (by kernel_rfl) rfl #[.slice Ao35 t342.length co35, .slice Ao36 t345.length co36] (by rfl) rfl rfl (by (try simp only [List.map_toArray, List.map_cons, List.map_nil]); first | done | rfl | (simp only [List.length_drop, List.length_take]; rfl)) ?_
            with_reducible refine (tableaulaw00_SameRects.calls kj5 _ _ t342 _ _ t345 t348 _ ?side1 ?side2 ?side3 ?side4 A28.out).mono ?_
            (case side1 => repeat (first | exact (Kd.R_reads' HO344.out).2.2 | (with_reducible refine Kd.C_alloc ?_ _) | (with_reducible refine Kd.C_drewN ?_ _) | (with_reducible refine Kd.C_drew ?_)))
            (case side2 => exact (Kd.R_reads' HO344.out).2.1)
            (case side3 => repeat (first | exact (Kd.R_reads' HO347.out).2.2 | (with_reducible refine Kd.C_alloc ?_ _) | (with_reducible refine Kd.C_drewN ?_ _) | (with_reducible refine Kd.C_drew ?_)))
            (case side4 => exact (Kd.R_reads' HO347.out).2.1)
            rintro e w' ⟨rfl, ⟨nd, rfl⟩⟩
            refine ⟨_, rfl, ?_⟩
            refine hK.out _ _ ⟨(blk_cell BK330.out 0).trans rfl, (blk_cell BK330.out 1).trans rfl, (blk_cell BK330.out 2).trans rfl, (blk_cell BK330.out 3).trans rfl⟩ (fun hHeld => ?_)
            clear hK K
            refine norm_ (a' := ?_) ?_ ?_
            rotate_left
            · show Act.put _ (some 37) _ = _
              simp only [Act.put, List.setIfInBounds_toArray, List.set_cons_zero, List.set_cons_succ, i64_w, i32_w]
              rfl
            refine pure_ (i := 11) (N := some 38) (v := ?_) (a' := ?_) #[true, true, true, true, true, true, true, true, true, true, true, true, false] rfl rfl (any_of HT_.out (by kernel_rfl)) (fun _ _ _ h => h) (Or.inl ⟨by rfl, ?_⟩) ?_ ?_
            rotate_left
            · intro w'
              go_simp
              with_reducible rfl
            rotate_left
            · simp only [Act.put, List.setIfInBounds_toArray, List.set_cons_zero, List.set_cons_succ, i64_w, i32_w]
              rfl
            refine pure_ (i := 12) (N := some 39) (v := ?_) (a' := ?_) #[true, true, true, true, true, true, true, true, true, true, true, true, true] rfl rfl (any_of HT_.out (by kernel_rfl)) (fun _ _ _ h => h) (Or.inl ⟨by rfl, ?_⟩) ?_ ?_
            rotate_left
            · intro w'
              go_simp
              with_reducible rfl
            rotate_left
            · simp only [Act.put, List.setIfInBounds_toArray, List.set_cons_zero, List.set_cons_succ, i64_w, i32_w]
              rfl
            refine done_ (done_of HT_.out (by kernel_rfl)) ?_
            try go_wp2
            go_meet
            case rel => exact ⟨_, (!t348), (by first | rfl | (simp; done) | (simp [*]; done)), H', ⟨by have := HJ5.out; first | omega | exact Nat.le_refl _⟩, ⟨by (with_reducible repeat (first | apply Kd.R_alloc | apply Kd.R_drewN | apply Kd.R_drew)); exact Kd.R_mono HO336.out (fun _ hk => ⟨hk.1.1.2, hk.1.1.1.2⟩)⟩, ⟨by (with_reducible repeat (first | apply Kd.R_alloc | apply Kd.R_drewN | apply Kd.R_drew)); exact Kd.R_mono HO339.out (fun _ hk => ⟨hk.1.1.1.2, hk.1.1.2⟩)⟩, ⟨by (with_reducible repeat (first | refine blk_drewN ?_ _ | refine blk_drew ?_ | refine blk_alloc ?_ _)); exact BK330.out⟩, ⟨by repeat (first | (with_reducible first | exact HB.out | apply below_alloc | apply pw_below_drewN | apply below_drew1 | refine below_set ?_ GE330.out) | exact HB.out)⟩⟩
        case rest =>
          clear HC16
          try clear c1
          try clear c2
          try clear p2
          try clear c3
          try clear c4
          try clear c9
          try clear c11
          try clear c14
          try clear c16
          try clear c17
          try clear c20
          try clear c21
          try clear c21b0
          try clear c21b1
          try clear c21b2
          try clear c35
          try clear c36
          try clear p2
          obtain ⟨kq, x39_15, rfl, HA, HJ15, HO_11, HO_12, BK330, HB⟩ := hcut
          cases kq with
          | zero => exact absurd HA.out (by simp [tableaulaw08_RegionAll.j1])
          | succ kj15 =>
            have H := HA.out
            clear HA
            simp only [tableaulaw08_RegionAll.j1] at H
            by_cases c37 : x39_15 = true
            · subst c37
              have H1 : (some false) = some r := by rw [if_pos rfl] at H; exact H
              clear H
              have H := H1
              clear H1
              exact absurd H (by rw [HT.out]; simp)
            · replace c37 := Bool.eq_false_iff.mpr c37
              subst c37
              have H1 : ((region_Union.f t334 t337).bind fun t349 => ((tableauref08_Make.f kj15 l0 l1 0).bind fun t352 => ((tableaulaw00_SameRects.f kj15 t349 t352).bind fun t355 => (if t355 = true then ((region_Subtract.f t334 t337).bind fun t356 => ((tableauref08_Make.f kj15 l0 l1 1).bind fun t359 => ((tableaulaw00_SameRects.f kj15 t356 t359).bind fun t362 => (if t362 = true then ((region_Intersect.f t334 t337).bind fun t363 => ((tableauref08_Make.f kj15 l0 l1 2).bind fun t366 => ((tableaulaw00_SameRects.f kj15 t363 t366).bind fun t369 => (tableaulaw08_RegionAll.j2 kj15 l0 a3 a4 t334 t369)))) else (tableaulaw08_RegionAll.j2 kj15 l0 a3 a4 t334 false))))) else (tableaulaw08_RegionAll.j2 kj15 l0 a3 a4 t334 false))))) = some r := by rw [if_neg (show ¬ (false = true) by decide)] at H; exact H
              clear H
              have H := H1
              clear H1
              have HC38 := Aside0.mk H
              clear H
              go_upto_region 6 with (fail)
              go_cut [13] (fun v13 wc => ∃ (kq : Nat) (x13_37 : Bool), v13 = .bool x13_37 ∧ Aside0 (tableaulaw08_RegionAll.j2 kq l0 a3 a4 t334 x13_37 = some r) ∧ Aside0 (kq ≤ kj15) ∧ Aside0 (Kd.R k23 23 wc w.heap.size (fun k_ => k_ ≠ gb330) v335 t334) ∧ Aside0 (wc.heap[gb330]? = some (.cells #[.int .i64 a2_0, .int .i64 a2_1, .int .i64 a2_2, .int .i64 a2_3] 23 (0, 0))) ∧ Aside0 (Below w.heap.size w wc))
              case first =>
                have H := HC38.out
                clear HC38
                replace H := Option.bind_eq_some_iff.mp H
                obtain ⟨t349, A390, H⟩ := H
                replace H : ((tableauref08_Make.f kj15 l0 l1 0).bind fun t352 => ((tableaulaw00_SameRects.f kj15 t349 t352).bind fun t355 => (if t355 = true then ((region_Subtract.f t334 t337).bind fun t356 => ((tableauref08_Make.f kj15 l0 l1 1).bind fun t359 => ((tableaulaw00_SameRects.f kj15 t356 t359).bind fun t362 => (if t362 = true then ((region_Intersect.f t334 t337).bind fun t363 => ((tableauref08_Make.f kj15 l0 l1 2).bind fun t366 => ((tableaulaw00_SameRects.f kj15 t363 t366).bind fun t369 => (tableaulaw08_RegionAll.j2 kj15 l0 a3 a4 t334 t369)))) else (tableaulaw08_RegionAll.j2 kj15 l0 a3 a4 t334 false))))) else (tableaulaw08_RegionAll.j2 kj15 l0 a3 a4 t334 false)))) = some r := H
                have A39 := Aside0.mk A390
                clear A390
                replace H := Option.bind_eq_some_iff.mp H
                obtain ⟨t352, A400, H⟩ := H
                replace H : ((tableaulaw00_SameRects.f kj15 t349 t352).bind fun t355 => (if t355 = true then ((region_Subtract.f t334 t337).bind fun t356 => ((tableauref08_Make.f kj15 l0 l1 1).bind fun t359 => ((tableaulaw00_SameRects.f kj15 t356 t359).bind fun t362 => (if t362 = true then ((region_Intersect.f t334 t337).bind fun t363 => ((tableauref08_Make.f kj15 l0 l1 2).bind fun t366 => ((tableaulaw00_SameRects.f kj15 t363 t366).bind fun t369 => (tableaulaw08_RegionAll.j2 kj15 l0 a3 a4 t334 t369)))) else (tableaulaw08_RegionAll.j2 kj15 l0 a3 a4 t334 false))))) else (tableaulaw08_RegionAll.j2 kj15 l0 a3 a4 t334 false))) = some r := H
                have A40 := Aside0.mk A400
                clear A400
                replace H := Option.bind_eq_some_iff.mp H
                obtain ⟨t355, A410, H⟩ := H
                replace H : (if t355 = true then ((region_Subtract.f t334 t337).bind fun t356 => ((tableauref08_Make.f kj15 l0 l1 1).bind fun t359 => ((tableaulaw00_SameRects.f kj15 t356 t359).bind fun t362 => (if t362 = true then ((region_Intersect.f t334 t337).bind fun t363 => ((tableauref08_Make.f kj15 l0 l1 2).bind fun t366 => ((tableaulaw00_SameRects.f kj15 t363 t366).bind fun t369 => (tableaulaw08_RegionAll.j2 kj15 l0 a3 a4 t334 t369)))) else (tableaulaw08_RegionAll.j2 kj15 l0 a3 a4 t334 false))))) else (tableaulaw08_RegionAll.j2 kj15 l0 a3 a4 t334 false)) = some r := H
                have A41 := Aside0.mk A410
                clear A410
                by_cases c42 : t355 = true
                · subst c42
                  have H1 : ((region_Subtract.f t334 t337).bind fun t356 => ((tableauref08_Make.f kj15 l0 l1 1).bind fun t359 => ((tableaulaw00_SameRects.f kj15 t356 t359).bind fun t362 => (if t362 = true then ((region_Intersect.f t334 t337).bind fun t363 => ((tableauref08_Make.f kj15 l0 l1 2).bind fun t366 => ((tableaulaw00_SameRects.f kj15 t363 t366).bind fun t369 => (tableaulaw08_RegionAll.j2 kj15 l0 a3 a4 t334 t369)))) else (tableaulaw08_RegionAll.j2 kj15 l0 a3 a4 t334 false))))) = some r := by rw [if_pos rfl] at H; exact H
                  clear H
                  have H := H1
                  clear H1
                  replace H := Option.bind_eq_some_iff.mp H
                  obtain ⟨t356, A430, H⟩ := H
                  replace H : ((tableauref08_Make.f kj15 l0 l1 1).bind fun t359 => ((tableaulaw00_SameRects.f kj15 t356 t359).bind fun t362 => (if t362 = true then ((region_Intersect.f t334 t337).bind fun t363 => ((tableauref08_Make.f kj15 l0 l1 2).bind fun t366 => ((tableaulaw00_SameRects.f kj15 t363 t366).bind fun t369 => (tableaulaw08_RegionAll.j2 kj15 l0 a3 a4 t334 t369)))) else (tableaulaw08_RegionAll.j2 kj15 l0 a3 a4 t334 false)))) = some r := H
                  have A43 := Aside0.mk A430
                  clear A430
                  replace H := Option.bind_eq_some_iff.mp H
                  obtain ⟨t359, A440, H⟩ := H
                  replace H : ((tableaulaw00_SameRects.f kj15 t356 t359).bind fun t362 => (if t362 = true then ((region_Intersect.f t334 t337).bind fun t363 => ((tableauref08_Make.f kj15 l0 l1 2).bind fun t366 => ((tableaulaw00_SameRects.f kj15 t363 t366).bind fun t369 => (tableaulaw08_RegionAll.j2 kj15 l0 a3 a4 t334 t369)))) else (tableaulaw08_RegionAll.j2 kj15 l0 a3 a4 t334 false))) = some r := H
                  have A44 := Aside0.mk A440
                  clear A440
                  replace H := Option.bind_eq_some_iff.mp H
                  obtain ⟨t362, A450, H⟩ := H
                  replace H : (if t362 = true then ((region_Intersect.f t334 t337).bind fun t363 => ((tableauref08_Make.f kj15 l0 l1 2).bind fun t366 => ((tableaulaw00_SameRects.f kj15 t363 t366).bind fun t369 => (tableaulaw08_RegionAll.j2 kj15 l0 a3 a4 t334 t369)))) else (tableaulaw08_RegionAll.j2 kj15 l0 a3 a4 t334 false)) = some r := H
                  have A45 := Aside0.mk A450
                  clear A450
                  by_cases c46 : t362 = true
                  · subst c46
                    have H1 : ((region_Intersect.f t334 t337).bind fun t363 => ((tableauref08_Make.f kj15 l0 l1 2).bind fun t366 => ((tableaulaw00_SameRects.f kj15 t363 t366).bind fun t369 => (tableaulaw08_RegionAll.j2 kj15 l0 a3 a4 t334 t369)))) = some r := by rw [if_pos rfl] at H; exact H
                    clear H
                    have H := H1
                    clear H1
                    replace H := Option.bind_eq_some_iff.mp H
                    obtain ⟨t363, A470, H⟩ := H
                    replace H : ((tableauref08_Make.f kj15 l0 l1 2).bind fun t366 => ((tableaulaw00_SameRects.f kj15 t363 t366).bind fun t369 => (tableaulaw08_RegionAll.j2 kj15 l0 a3 a4 t334 t369))) = some r := H
                    have A47 := Aside0.mk A470
                    clear A470
                    replace H := Option.bind_eq_some_iff.mp H
                    obtain ⟨t366, A480, H⟩ := H
                    replace H : ((tableaulaw00_SameRects.f kj15 t363 t366).bind fun t369 => (tableaulaw08_RegionAll.j2 kj15 l0 a3 a4 t334 t369)) = some r := H
                    have A48 := Aside0.mk A480
                    clear A480
                    replace H := Option.bind_eq_some_iff.mp H
                    obtain ⟨t369, A490, H⟩ := H
                    replace H : (tableaulaw08_RegionAll.j2 kj15 l0 a3 a4 t334 t369) = some r := H
                    have A49 := Aside0.mk A490
                    clear A490
                    have H' := Aside0.mk H
                    clear H
                    obtain ⟨Ao50, co50, eo50⟩ := Kd.R_slice HO_11.out
                    subst eo50
                    obtain ⟨Ao51, co51, eo51⟩ := Kd.R_slice HO_12.out
                    subst eo51
                    go_wp2_with (first | ((with_reducible refine gate_callee (f := 18) rfl ?_); refine goesL_ (some 42) rfl rfl Try.func18 (by kernel_rfl) rfl #[.slice Ao50 t334.length co50, .slice Ao51 t337.length co51] rfl (by (try simp only [List.map_toArray, List.map_cons, List.map_nil]); first | done | rfl | (simp only [List.length_drop, List.length_take]; rfl)) ?_; (with_reducible refine (region_Union.calls _ _ t334 _ _ t337 t349 _ ?side1 ?side2 ?side3 ?side4 A39.out).mono ?_); (case side1 => repeat (first | exact (Kd.R_reads' HO_11.out).2.2 | (with_reducible refine Kd.C_alloc ?_ _) | (with_reducible refine Kd.C_drewN ?_ _) | (with_reducible refine Kd.C_drew ?_))); (case side2 => exact (Kd.R_reads' HO_11.out).2.1); (case side3 => repeat (first | exact (Kd.R_reads' HO_12.out).2.2 | (with_reducible refine Kd.C_alloc ?_ _) | (with_reducible refine Kd.C_drewN ?_ _) | (with_reducible refine Kd.C_drew ?_))); (case side4 => exact (Kd.R_reads' HO_12.out).2.1); rintro e w52 ⟨v350, rfl, ho0, hb⟩; refine ⟨_, rfl, ?_⟩; have n0_ := Aside0.mk (Kd.R_elder' (by (with_reducible repeat (first | apply Kd.R_alloc | apply Kd.R_drewN | apply Kd.R_drew)); exact HO_11.out) (Kd.R_base ho0) hb); have n1_ := Aside0.mk (Kd.R_elder' (by (with_reducible repeat (first | apply Kd.R_alloc | apply Kd.R_drewN | apply Kd.R_drew)); exact HO_12.out) (Kd.R_base ho0) hb); have n2_ := Aside0.mk (Kd.R_lower (Kd.R_newB (Kd.R_new' (Kd.R_new' ho0 (Kd.R_lt (by (with_reducible repeat (first | apply Kd.R_alloc | apply Kd.R_drewN | apply Kd.R_drew)); exact HO_11.out))) (Kd.R_lt (by (with_reducible repeat (first | apply Kd.R_alloc | apply Kd.R_drewN | apply Kd.R_drew)); exact HO_12.out))) (g := gb330) (o := .cells #[.int .i64 a2_0, .int .i64 a2_1, .int .i64 a2_2, .int .i64 a2_3] 23 (0, 0)) (by (with_reducible repeat (first | refine blk_drewN ?_ _ | refine blk_drew ?_ | refine blk_alloc ?_ _)); exact BK330.out)) (below_size (by repeat (first | (with_reducible first | exact HB.out | apply below_alloc | apply pw_below_drewN | apply below_drew1 | refine below_set ?_ GE330.out) | exact HB.out)))); have n3_ := Aside0.mk (blk_below (g := gb330) (o := .cells #[.int .i64 a2_0, .int .i64 a2_1, .int .i64 a2_2, .int .i64 a2_3] 23 (0, 0)) (by (with_reducible repeat (first | refine blk_drewN ?_ _ | refine blk_drew ?_ | refine blk_alloc ?_ _)); exact BK330.out) hb); have n4_ := Aside0.mk (below_step (by repeat (first | (with_reducible first | exact HB.out | apply below_alloc | apply pw_below_drewN | apply below_drew1 | refine below_set ?_ GE330.out) | exact HB.out)) hb); clear HO_11; clear HO_12; clear BK330; clear HB; have HO_11 := n0_; have HO_12 := n1_; have HO351 := n2_; have BK330 := n3_; have HB := n4_; clear n0_ n1_ n2_ n3_ n4_; (try clear hb); (try clear hb2); (try clear hk); (try clear hi); (try clear ho0)) | ((with_reducible refine gate_callee (f := 37) rfl ?_); refine goesL_ (some 45) rfl rfl Try.func37 (by kernel_rfl) rfl #[.slice A0 l0.length c0, .slice A1 l1.length c1, .int .i64 0] rfl (by (try simp only [List.map_toArray, List.map_cons, List.map_nil]); first | done | rfl | (simp only [List.length_drop, List.length_take]; rfl)) ?_; (with_reducible refine (tableauref08_Make.calls kj15 _ _ l0 _ _ l1 0 t352 _ ?side1 ?side2 ?side3 ?side4 A40.out).mono ?_); (case side1 => repeat (first | exact (Kd.C_below HR0.out HB.out) | (with_reducible refine Kd.C_alloc ?_ _) | (with_reducible refine Kd.C_drewN ?_ _) | (with_reducible refine Kd.C_drew ?_))); (case side2 => exact HC0.out); (case side3 => repeat (first | exact (Kd.C_below HR1.out HB.out) | (with_reducible refine Kd.C_alloc ?_ _) | (with_reducible refine Kd.C_drewN ?_ _) | (with_reducible refine Kd.C_drew ?_))); (case side4 => exact HC1.out); rintro e w53 ⟨v353, rfl, ho0, hb⟩; refine ⟨_, rfl, ?_⟩; have n0_ := Aside0.mk (Kd.R_elder' (by (with_reducible repeat (first | apply Kd.R_alloc | apply Kd.R_drewN | apply Kd.R_drew)); exact HO_11.out) (Kd.R_base ho0) hb); have n1_ := Aside0.mk (Kd.R_elder' (by (with_reducible repeat (first | apply Kd.R_alloc | apply Kd.R_drewN | apply Kd.R_drew)); exact HO_12.out) (Kd.R_base ho0) hb); have n2_ := Aside0.mk (Kd.R_elder' (by (with_reducible repeat (first | apply Kd.R_alloc | apply Kd.R_drewN | apply Kd.R_drew)); exact HO351.out) (Kd.R_base ho0) hb); have n3_ := Aside0.mk (Kd.R_lower (Kd.R_newB (Kd.R_new' (Kd.R_new' (Kd.R_new' ho0 (Kd.R_lt (by (with_reducible repeat (first | apply Kd.R_alloc | apply Kd.R_drewN | apply Kd.R_drew)); exact HO_11.out))) (Kd.R_lt (by (with_reducible repeat (first | apply Kd.R_alloc | apply Kd.R_drewN | apply Kd.R_drew)); exact HO_12.out))) (Kd.R_lt (by (with_reducible repeat (first | apply Kd.R_alloc | apply Kd.R_drewN | apply Kd.R_drew)); exact HO351.out))) (g := gb330) (o := .cells #[.int .i64 a2_0, .int .i64 a2_1, .int .i64 a2_2, .int .i64 a2_3] 23 (0, 0)) (by (with_reducible repeat (first | refine blk_drewN ?_ _ | refine blk_drew ?_ | refine blk_alloc ?_ _)); exact BK330.out)) (below_size (by repeat (first | (with_reducible first | exact HB.out | apply below_alloc | apply pw_below_drewN | apply below_drew1 | refine below_set ?_ GE330.out) | exact HB.out)))); have n4_ := Aside0.mk (blk_below (g := gb330) (o := .cells #[.int .i64 a2_0, .int .i64 a2_1, .int .i64 a2_2, .int .i64 a2_3] 23 (0, 0)) (by (with_reducible repeat (first | refine blk_drewN ?_ _ | refine blk_drew ?_ | refine blk_alloc ?_ _)); exact BK330.out) hb); have n5_ := Aside0.mk (below_step (by repeat (first | (with_reducible first | exact HB.out | apply below_alloc | apply pw_below_drewN | apply below_drew1 | refine below_set ?_ GE330.out) | exact HB.out)) hb); clear HO_11; clear HO_12; clear HO351; clear BK330; clear HB; have HO_11 := n0_; have HO_12 := n1_; have HO351 := n2_; have HO354 := n3_; have BK330 := n4_; have HB := n5_; clear n0_ n1_ n2_ n3_ n4_ n5_; (try clear hb); (try clear hb2); (try clear hk); (try clear hi); (try clear ho0); obtain ⟨Ao54, co54, eo54⟩ := Kd.R_slice HO351.out; subst eo54; obtain ⟨Ao55, co55, eo55⟩ := Kd.R_slice HO354.out; subst eo55) | ((with_reducible refine gate_callee (f := 20) rfl ?_); refine goesL_ (some 46) rfl rfl Try.func20 (by kernel_rfl) rfl #[.slice Ao54 t349.length co54, .slice Ao55 t352.length co55] rfl (by (try simp only [List.map_toArray, List.map_cons, List.map_nil]); first | done | rfl | (simp only [List.length_drop, List.length_take]; rfl)) ?_; (with_reducible refine (tableaulaw00_SameRects.calls kj15 _ _ t349 _ _ t352 true _ ?side1 ?side2 ?side3 ?side4 A41.out).mono ?_); (case side1 => repeat (first | exact (Kd.R_reads' HO351.out).2.2 | (with_reducible refine Kd.C_alloc ?_ _) | (with_reducible refine Kd.C_drewN ?_ _) | (with_reducible refine Kd.C_drew ?_))); (case side2 => exact (Kd.R_reads' HO351.out).2.1); (case side3 => repeat (first | exact (Kd.R_reads' HO354.out).2.2 | (with_reducible refine Kd.C_alloc ?_ _) | (with_reducible refine Kd.C_drewN ?_ _) | (with_reducible refine Kd.C_drew ?_))); (case side4 => exact (Kd.R_reads' HO354.out).2.1); rintro e w' ⟨rfl, ⟨nd, rfl⟩⟩; refine ⟨_, rfl, ?_⟩) | (go_at_call 22; (with_reducible refine (region_Subtract.calls _ _ t334 _ _ t337 t356 _ ?side1 ?side2 ?side3 ?side4 A43.out).mono ?_); (case side1 => repeat (first | exact (Kd.R_reads' HO_11.out).2.2 | (with_reducible refine Kd.C_alloc ?_ _) | (with_reducible refine Kd.C_drewN ?_ _) | (with_reducible refine Kd.C_drew ?_))); (case side2 => exact (Kd.R_reads' HO_11.out).2.1); (case side3 => repeat (first | exact (Kd.R_reads' HO_12.out).2.2 | (with_reducible refine Kd.C_alloc ?_ _) | (with_reducible refine Kd.C_drewN ?_ _) | (with_reducible refine Kd.C_drew ?_))); (case side4 => exact (Kd.R_reads' HO_12.out).2.1); rintro e w56 ⟨v357, rfl, ho0, hb⟩; have n0_ := Aside0.mk (Kd.R_elder' (by (with_reducible repeat (first | apply Kd.R_alloc | apply Kd.R_drewN | apply Kd.R_drew)); exact HO_11.out) (Kd.R_base ho0) hb); have n1_ := Aside0.mk (Kd.R_elder' (by (with_reducible repeat (first | apply Kd.R_alloc | apply Kd.R_drewN | apply Kd.R_drew)); exact HO_12.out) (Kd.R_base ho0) hb); have n2_ := Aside0.mk (Kd.R_elder' (by (with_reducible repeat (first | apply Kd.R_alloc | apply Kd.R_drewN | apply Kd.R_drew)); exact HO351.out) (Kd.R_base ho0) hb); have n3_ := Aside0.mk (Kd.R_elder' (by (with_reducible repeat (first | apply Kd.R_alloc | apply Kd.R_drewN | apply Kd.R_drew)); exact HO354.out) (Kd.R_base ho0) hb); have n4_ := Aside0.mk (Kd.R_lower (Kd.R_newB (Kd.R_new' (Kd.R_new' (Kd.R_new' (Kd.R_new' ho0 (Kd.R_lt (by (with_reducible repeat (first | apply Kd.R_alloc | apply Kd.R_drewN | apply Kd.R_drew)); exact HO_11.out))) (Kd.R_lt (by (with_reducible repeat (first | apply Kd.R_alloc | apply Kd.R_drewN | apply Kd.R_drew)); exact HO_12.out))) (Kd.R_lt (by (with_reducible repeat (first | apply Kd.R_alloc | apply Kd.R_drewN | apply Kd.R_drew)); exact HO351.out))) (Kd.R_lt (by (with_reducible repeat (first | apply Kd.R_alloc | apply Kd.R_drewN | apply Kd.R_drew)); exact HO354.out))) (g := gb330) (o := .cells #[.int .i64 a2_0, .int .i64 a2_1, .int .i64 a2_2, .int .i64 a2_3] 23 (0, 0)) (by (with_reducible repeat (first | refine blk_drewN ?_ _ | refine blk_drew ?_ | refine blk_alloc ?_ _)); exact BK330.out)) (below_size (by repeat (first | (with_reducible first | exact HB.out | apply below_alloc | apply pw_below_drewN | apply below_drew1 | refine below_set ?_ GE330.out) | exact HB.out)))); have n5_ := Aside0.mk (blk_below (g := gb330) (o := .cells #[.int .i64 a2_0, .int .i64 a2_1, .int .i64 a2_2, .int .i64 a2_3] 23 (0, 0)) (by (with_reducible repeat (first | refine blk_drewN ?_ _ | refine blk_drew ?_ | refine blk_alloc ?_ _)); exact BK330.out) hb); have n6_ := Aside0.mk (below_step (by repeat (first | (with_reducible first | exact HB.out | apply below_alloc | apply pw_below_drewN | apply below_drew1 | refine below_set ?_ GE330.out) | exact HB.out)) hb); clear HO_11; clear HO_12; clear HO351; clear HO354; clear BK330; clear HB; have HO_11 := n0_; have HO_12 := n1_; have HO351 := n2_; have HO354 := n3_; have HO358 := n4_; have BK330 := n5_; have HB := n6_; clear n0_ n1_ n2_ n3_ n4_ n5_ n6_; (try clear hb); (try clear hb2); (try clear hk); (try clear hi); (try clear ho0)) | (go_at_call 37; (with_reducible refine (tableauref08_Make.calls kj15 _ _ l0 _ _ l1 1 t359 _ ?side1 ?side2 ?side3 ?side4 A44.out).mono ?_); (case side1 => repeat (first | exact (Kd.C_below HR0.out HB.out) | (with_reducible refine Kd.C_alloc ?_ _) | (with_reducible refine Kd.C_drewN ?_ _) | (with_reducible refine Kd.C_drew ?_))); (case side2 => exact HC0.out); (case side3 => repeat (first | exact (Kd.C_below HR1.out HB.out) | (with_reducible refine Kd.C_alloc ?_ _) | (with_reducible refine Kd.C_drewN ?_ _) | (with_reducible refine Kd.C_drew ?_))); (case side4 => exact HC1.out); rintro e w57 ⟨v360, rfl, ho0, hb⟩; have n0_ := Aside0.mk (Kd.R_elder' (by (with_reducible repeat (first | apply Kd.R_alloc | apply Kd.R_drewN | apply Kd.R_drew)); exact HO_11.out) (Kd.R_base ho0) hb); have n1_ := Aside0.mk (Kd.R_elder' (by (with_reducible repeat (first | apply Kd.R_alloc | apply Kd.R_drewN | apply Kd.R_drew)); exact HO_12.out) (Kd.R_base ho0) hb); have n2_ := Aside0.mk (Kd.R_elder' (by (with_reducible repeat (first | apply Kd.R_alloc | apply Kd.R_drewN | apply Kd.R_drew)); exact HO351.out) (Kd.R_base ho0) hb); have n3_ := Aside0.mk (Kd.R_elder' (by (with_reducible repeat (first | apply Kd.R_alloc | apply Kd.R_drewN | apply Kd.R_drew)); exact HO354.out) (Kd.R_base ho0) hb); have n4_ := Aside0.mk (Kd.R_elder' (by (with_reducible repeat (first | apply Kd.R_alloc | apply Kd.R_drewN | apply Kd.R_drew)); exact HO358.out) (Kd.R_base ho0) hb); have n5_ := Aside0.mk (Kd.R_lower (Kd.R_newB (Kd.R_new' (Kd.R_new' (Kd.R_new' (Kd.R_new' (Kd.R_new' ho0 (Kd.R_lt (by (with_reducible repeat (first | apply Kd.R_alloc | apply Kd.R_drewN | apply Kd.R_drew)); exact HO_11.out))) (Kd.R_lt (by (with_reducible repeat (first | apply Kd.R_alloc | apply Kd.R_drewN | apply Kd.R_drew)); exact HO_12.out))) (Kd.R_lt (by (with_reducible repeat (first | apply Kd.R_alloc | apply Kd.R_drewN | apply Kd.R_drew)); exact HO351.out))) (Kd.R_lt (by (with_reducible repeat (first | apply Kd.R_alloc | apply Kd.R_drewN | apply Kd.R_drew)); exact HO354.out))) (Kd.R_lt (by (with_reducible repeat (first | apply Kd.R_alloc | apply Kd.R_drewN | apply Kd.R_drew)); exact HO358.out))) (g := gb330) (o := .cells #[.int .i64 a2_0, .int .i64 a2_1, .int .i64 a2_2, .int .i64 a2_3] 23 (0, 0)) (by (with_reducible repeat (first | refine blk_drewN ?_ _ | refine blk_drew ?_ | refine blk_alloc ?_ _)); exact BK330.out)) (below_size (by repeat (first | (with_reducible first | exact HB.out | apply below_alloc | apply pw_below_drewN | apply below_drew1 | refine below_set ?_ GE330.out) | exact HB.out)))); have n6_ := Aside0.mk (blk_below (g := gb330) (o := .cells #[.int .i64 a2_0, .int .i64 a2_1, .int .i64 a2_2, .int .i64 a2_3] 23 (0, 0)) (by (with_reducible repeat (first | refine blk_drewN ?_ _ | refine blk_drew ?_ | refine blk_alloc ?_ _)); exact BK330.out) hb); have n7_ := Aside0.mk (below_step (by repeat (first | (with_reducible first | exact HB.out | apply below_alloc | apply pw_below_drewN | apply below_drew1 | refine below_set ?_ GE330.out) | exact HB.out)) hb); clear HO_11; clear HO_12; clear HO351; clear HO354; clear HO358; clear BK330; clear HB; have HO_11 := n0_; have HO_12 := n1_; have HO351 := n2_; have HO354 := n3_; have HO358 := n4_; have HO361 := n5_; have BK330 := n6_; have HB := n7_; clear n0_ n1_ n2_ n3_ n4_ n5_ n6_ n7_; (try clear hb); (try clear hb2); (try clear hk); (try clear hi); (try clear ho0); obtain ⟨Ao58, co58, eo58⟩ := Kd.R_slice HO358.out; subst eo58; obtain ⟨Ao59, co59, eo59⟩ := Kd.R_slice HO361.out; subst eo59) | (go_at_call 20; (with_reducible refine (tableaulaw00_SameRects.calls kj15 _ _ t356 _ _ t359 true _ ?side1 ?side2 ?side3 ?side4 A45.out).mono ?_); (case side1 => repeat (first | exact (Kd.R_reads' HO358.out).2.2 | (with_reducible refine Kd.C_alloc ?_ _) | (with_reducible refine Kd.C_drewN ?_ _) | (with_reducible refine Kd.C_drew ?_))); (case side2 => exact (Kd.R_reads' HO358.out).2.1); (case side3 => repeat (first | exact (Kd.R_reads' HO361.out).2.2 | (with_reducible refine Kd.C_alloc ?_ _) | (with_reducible refine Kd.C_drewN ?_ _) | (with_reducible refine Kd.C_drew ?_))); (case side4 => exact (Kd.R_reads' HO361.out).2.1); rintro e w' ⟨rfl, ⟨nd, rfl⟩⟩) | (go_at_call 25; (with_reducible refine (region_Intersect.calls _ _ t334 _ _ t337 t363 _ ?side1 ?side2 ?side3 ?side4 A47.out).mono ?_); (case side1 => repeat (first | exact (Kd.R_reads' HO_11.out).2.2 | (with_reducible refine Kd.C_alloc ?_ _) | (with_reducible refine Kd.C_drewN ?_ _) | (with_reducible refine Kd.C_drew ?_))); (case side2 => exact (Kd.R_reads' HO_11.out).2.1); (case side3 => repeat (first | exact (Kd.R_reads' HO_12.out).2.2 | (with_reducible refine Kd.C_alloc ?_ _) | (with_reducible refine Kd.C_drewN ?_ _) | (with_reducible refine Kd.C_drew ?_))); (case side4 => exact (Kd.R_reads' HO_12.out).2.1); rintro e w60 ⟨v364, rfl, ho0, hb⟩; have n0_ := Aside0.mk (Kd.R_elder' (by (with_reducible repeat (first | apply Kd.R_alloc | apply Kd.R_drewN | apply Kd.R_drew)); exact HO_11.out) (Kd.R_base ho0) hb); have n1_ := Aside0.mk (Kd.R_elder' (by (with_reducible repeat (first | apply Kd.R_alloc | apply Kd.R_drewN | apply Kd.R_drew)); exact HO_12.out) (Kd.R_base ho0) hb); have n2_ := Aside0.mk (Kd.R_elder' (by (with_reducible repeat (first | apply Kd.R_alloc | apply Kd.R_drewN | apply Kd.R_drew)); exact HO351.out) (Kd.R_base ho0) hb); have n3_ := Aside0.mk (Kd.R_elder' (by (with_reducible repeat (first | apply Kd.R_alloc | apply Kd.R_drewN | apply Kd.R_drew)); exact HO354.out) (Kd.R_base ho0) hb); have n4_ := Aside0.mk (Kd.R_elder' (by (with_reducible repeat (first | apply Kd.R_alloc | apply Kd.R_drewN | apply Kd.R_drew)); exact HO358.out) (Kd.R_base ho0) hb); have n5_ := Aside0.mk (Kd.R_elder' (by (with_reducible repeat (first | apply Kd.R_alloc | apply Kd.R_drewN | apply Kd.R_drew)); exact HO361.out) (Kd.R_base ho0) hb); have n6_ := Aside0.mk (Kd.R_lower (Kd.R_newB (Kd.R_new' (Kd.R_new' (Kd.R_new' (Kd.R_new' (Kd.R_new' (Kd.R_new' ho0 (Kd.R_lt (by (with_reducible repeat (first | apply Kd.R_alloc | apply Kd.R_drewN | apply Kd.R_drew)); exact HO_11.out))) (Kd.R_lt (by (with_reducible repeat (first | apply Kd.R_alloc | apply Kd.R_drewN | apply Kd.R_drew)); exact HO_12.out))) (Kd.R_lt (by (with_reducible repeat (first | apply Kd.R_alloc | apply Kd.R_drewN | apply Kd.R_drew)); exact HO351.out))) (Kd.R_lt (by (with_reducible repeat (first | apply Kd.R_alloc | apply Kd.R_drewN | apply Kd.R_drew)); exact HO354.out))) (Kd.R_lt (by (with_reducible repeat (first | apply Kd.R_alloc | apply Kd.R_drewN | apply Kd.R_drew)); exact HO358.out))) (Kd.R_lt (by (with_reducible repeat (first | apply Kd.R_alloc | apply Kd.R_drewN | apply Kd.R_drew)); exact HO361.out))) (g := gb330) (o := .cells #[.int .i64 a2_0, .int .i64 a2_1, .int .i64 a2_2, .int .i64 a2_3] 23 (0, 0)) (by (with_reducible repeat (first | refine blk_drewN ?_ _ | refine blk_drew ?_ | refine blk_alloc ?_ _)); exact BK330.out)) (below_size (by repeat (first | (with_reducible first | exact HB.out | apply below_alloc | apply pw_below_drewN | apply below_drew1 | refine below_set ?_ GE330.out) | exact HB.out)))); have n7_ := Aside0.mk (blk_below (g := gb330) (o := .cells #[.int .i64 a2_0, .int .i64 a2_1, .int .i64 a2_2, .int .i64 a2_3] 23 (0, 0)) (by (with_reducible repeat (first | refine blk_drewN ?_ _ | refine blk_drew ?_ | refine blk_alloc ?_ _)); exact BK330.out) hb); have n8_ := Aside0.mk (below_step (by repeat (first | (with_reducible first | exact HB.out | apply below_alloc | apply pw_below_drewN | apply below_drew1 | refine below_set ?_ GE330.out) | exact HB.out)) hb); clear HO_11; clear HO_12; clear HO351; clear HO354; clear HO358; clear HO361; clear BK330; clear HB; have HO_11 := n0_; have HO_12 := n1_; have HO351 := n2_; have HO354 := n3_; have HO358 := n4_; have HO361 := n5_; have HO365 := n6_; have BK330 := n7_; have HB := n8_; clear n0_ n1_ n2_ n3_ n4_ n5_ n6_ n7_ n8_; (try clear hb); (try clear hb2); (try clear hk); (try clear hi); (try clear ho0)) | (go_at_call 37; (with_reducible refine (tableauref08_Make.calls kj15 _ _ l0 _ _ l1 2 t366 _ ?side1 ?side2 ?side3 ?side4 A48.out).mono ?_); (case side1 => repeat (first | exact (Kd.C_below HR0.out HB.out) | (with_reducible refine Kd.C_alloc ?_ _) | (with_reducible refine Kd.C_drewN ?_ _) | (with_reducible refine Kd.C_drew ?_))); (case side2 => exact HC0.out); (case side3 => repeat (first | exact (Kd.C_below HR1.out HB.out) | (with_reducible refine Kd.C_alloc ?_ _) | (with_reducible refine Kd.C_drewN ?_ _) | (with_reducible refine Kd.C_drew ?_))); (case side4 => exact HC1.out); rintro e w61 ⟨v367, rfl, ho0, hb⟩; have n0_ := Aside0.mk (Kd.R_elder' (by (with_reducible repeat (first | apply Kd.R_alloc | apply Kd.R_drewN | apply Kd.R_drew)); exact HO_11.out) (Kd.R_base ho0) hb); have n1_ := Aside0.mk (Kd.R_elder' (by (with_reducible repeat (first | apply Kd.R_alloc | apply Kd.R_drewN | apply Kd.R_drew)); exact HO_12.out) (Kd.R_base ho0) hb); have n2_ := Aside0.mk (Kd.R_elder' (by (with_reducible repeat (first | apply Kd.R_alloc | apply Kd.R_drewN | apply Kd.R_drew)); exact HO351.out) (Kd.R_base ho0) hb); have n3_ := Aside0.mk (Kd.R_elder' (by (with_reducible repeat (first | apply Kd.R_alloc | apply Kd.R_drewN | apply Kd.R_drew)); exact HO354.out) (Kd.R_base ho0) hb); have n4_ := Aside0.mk (Kd.R_elder' (by (with_reducible repeat (first | apply Kd.R_alloc | apply Kd.R_drewN | apply Kd.R_drew)); exact HO358.out) (Kd.R_base ho0) hb); have n5_ := Aside0.mk (Kd.R_elder' (by (with_reducible repeat (first | apply Kd.R_alloc | apply Kd.R_drewN | apply Kd.R_drew)); exact HO361.out) (Kd.R_base ho0) hb); have n6_ := Aside0.mk (Kd.R_elder' (by (with_reducible repeat (first | apply Kd.R_alloc | apply Kd.R_drewN | apply Kd.R_drew)); exact HO365.out) (Kd.R_base ho0) hb); have n7_ := Aside0.mk (Kd.R_lower (Kd.R_newB (Kd.R_new' (Kd.R_new' (Kd.R_new' (Kd.R_new' (Kd.R_new' (Kd.R_new' (Kd.R_new' ho0 (Kd.R_lt (by (with_reducible repeat (first | apply Kd.R_alloc | apply Kd.R_drewN | apply Kd.R_drew)); exact HO_11.out))) (Kd.R_lt (by (with_reducible repeat (first | apply Kd.R_alloc | apply Kd.R_drewN | apply Kd.R_drew)); exact HO_12.out))) (Kd.R_lt (by (with_reducible repeat (first | apply Kd.R_alloc | apply Kd.R_drewN | apply Kd.R_drew)); exact HO351.out))) (Kd.R_lt (by (with_reducible repeat (first | apply Kd.R_alloc | apply Kd.R_drewN | apply Kd.R_drew)); exact HO354.out))) (Kd.R_lt (by (with_reducible repeat (first | apply Kd.R_alloc | apply Kd.R_drewN | apply Kd.R_drew)); exact HO358.out))) (Kd.R_lt (by (with_reducible repeat (first | apply Kd.R_alloc | apply Kd.R_drewN | apply Kd.R_drew)); exact HO361.out))) (Kd.R_lt (by (with_reducible repeat (first | apply Kd.R_alloc | apply Kd.R_drewN | apply Kd.R_drew)); exact HO365.out))) (g := gb330) (o := .cells #[.int .i64 a2_0, .int .i64 a2_1, .int .i64 a2_2, .int .i64 a2_3] 23 (0, 0)) (by (with_reducible repeat (first | refine blk_drewN ?_ _ | refine blk_drew ?_ | refine blk_alloc ?_ _)); exact BK330.out)) (below_size (by repeat (first | (with_reducible first | exact HB.out | apply below_alloc | apply pw_below_drewN | apply below_drew1 | refine below_set ?_ GE330.out) | exact HB.out)))); have n8_ := Aside0.mk (blk_below (g := gb330) (o := .cells #[.int .i64 a2_0, .int .i64 a2_1, .int .i64 a2_2, .int .i64 a2_3] 23 (0, 0)) (by (with_reducible repeat (first | refine blk_drewN ?_ _ | refine blk_drew ?_ | refine blk_alloc ?_ _)); exact BK330.out) hb); have n9_ := Aside0.mk (below_step (by repeat (first | (with_reducible first | exact HB.out | apply below_alloc | apply pw_below_drewN | apply below_drew1 | refine below_set ?_ GE330.out) | exact HB.out)) hb); clear HO_11; clear HO_12; clear HO351; clear HO354; clear HO358; clear HO361; clear HO365; clear BK330; clear HB; have HO_11 := n0_; have HO_12 := n1_; have HO351 := n2_; have HO354 := n3_; have HO358 := n4_; have HO361 := n5_; have HO365 := n6_; have HO368 := n7_; have BK330 := n8_; have HB := n9_; clear n0_ n1_ n2_ n3_ n4_ n5_ n6_ n7_ n8_ n9_; (try clear hb); (try clear hb2); (try clear hk); (try clear hi); (try clear ho0); obtain ⟨Ao62, co62, eo62⟩ := Kd.R_slice HO365.out; subst eo62; obtain ⟨Ao63, co63, eo63⟩ := Kd.R_slice HO368.out; subst eo63) | (go_at_call 20; (with_reducible refine (tableaulaw00_SameRects.calls kj15 _ _ t363 _ _ t366 t369 _ ?side1 ?side2 ?side3 ?side4 A49.out).mono ?_); (case side1 => repeat (first | exact (Kd.R_reads' HO365.out).2.2 | (with_reducible refine Kd.C_alloc ?_ _) | (with_reducible refine Kd.C_drewN ?_ _) | (with_reducible refine Kd.C_drew ?_))); (case side2 => exact (Kd.R_reads' HO365.out).2.1); (case side3 => repeat (first | exact (Kd.R_reads' HO368.out).2.2 | (with_reducible refine Kd.C_alloc ?_ _) | (with_reducible refine Kd.C_drewN ?_ _) | (with_reducible refine Kd.C_drew ?_))); (case side4 => exact (Kd.R_reads' HO368.out).2.1); rintro e w' ⟨rfl, ⟨nd, rfl⟩⟩))
                    go_meet
                    case rel => exact ⟨_, (t369), (by first | rfl | (simp; done) | (simp [*]; done)), H', ⟨by have := HJ5.out; have := HJ15.out; first | omega | exact Nat.le_refl _⟩, ⟨by (with_reducible repeat (first | apply Kd.R_alloc | apply Kd.R_drewN | apply Kd.R_drew)); exact Kd.R_mono HO_11.out (fun _ hk => hk.1.1.1.1.1.1.2)⟩, ⟨by (with_reducible repeat (first | refine blk_drewN ?_ _ | refine blk_drew ?_ | refine blk_alloc ?_ _)); exact BK330.out⟩, ⟨by repeat (first | (with_reducible first | exact HB.out | apply below_alloc | apply pw_below_drewN | apply below_drew1 | refine below_set ?_ GE330.out) | exact HB.out)⟩⟩
                  · replace c46 := Bool.eq_false_iff.mpr c46
                    subst c46
                    have H1 : (tableaulaw08_RegionAll.j2 kj15 l0 a3 a4 t334 false) = some r := by rw [if_neg (show ¬ (false = true) by decide)] at H; exact H
                    clear H
                    have H := H1
                    clear H1
                    have H' := Aside0.mk H
                    clear H
                    obtain ⟨Ao64, co64, eo64⟩ := Kd.R_slice HO_11.out
                    subst eo64
                    obtain ⟨Ao65, co65, eo65⟩ := Kd.R_slice HO_12.out
                    subst eo65
                    go_wp2_with (first | ((with_reducible refine gate_callee (f := 18) rfl ?_); refine goesL_ (some 42) rfl rfl Try.func18 (by kernel_rfl) rfl #[.slice Ao64 t334.length co64, .slice Ao65 t337.length co65] rfl (by (try simp only [List.map_toArray, List.map_cons, List.map_nil]); first | done | rfl | (simp only [List.length_drop, List.length_take]; rfl)) ?_; (with_reducible refine (region_Union.calls _ _ t334 _ _ t337 t349 _ ?side1 ?side2 ?side3 ?side4 A39.out).mono ?_); (case side1 => repeat (first | exact (Kd.R_reads' HO_11.out).2.2 | (with_reducible refine Kd.C_alloc ?_ _) | (with_reducible refine Kd.C_drewN ?_ _) | (with_reducible refine Kd.C_drew ?_))); (case side2 => exact (Kd.R_reads' HO_11.out).2.1); (case side3 => repeat (first | exact (Kd.R_reads' HO_12.out).2.2 | (with_reducible refine Kd.C_alloc ?_ _) | (with_reducible refine Kd.C_drewN ?_ _) | (with_reducible refine Kd.C_drew ?_))); (case side4 => exact (Kd.R_reads' HO_12.out).2.1); rintro e w66 ⟨v350, rfl, ho0, hb⟩; refine ⟨_, rfl, ?_⟩; have n0_ := Aside0.mk (Kd.R_elder' (by (with_reducible repeat (first | apply Kd.R_alloc | apply Kd.R_drewN | apply Kd.R_drew)); exact HO_11.out) (Kd.R_base ho0) hb); have n1_ := Aside0.mk (Kd.R_elder' (by (with_reducible repeat (first | apply Kd.R_alloc | apply Kd.R_drewN | apply Kd.R_drew)); exact HO_12.out) (Kd.R_base ho0) hb); have n2_ := Aside0.mk (Kd.R_lower (Kd.R_newB (Kd.R_new' (Kd.R_new' ho0 (Kd.R_lt (by (with_reducible repeat (first | apply Kd.R_alloc | apply Kd.R_drewN | apply Kd.R_drew)); exact HO_11.out))) (Kd.R_lt (by (with_reducible repeat (first | apply Kd.R_alloc | apply Kd.R_drewN | apply Kd.R_drew)); exact HO_12.out))) (g := gb330) (o := .cells #[.int .i64 a2_0, .int .i64 a2_1, .int .i64 a2_2, .int .i64 a2_3] 23 (0, 0)) (by (with_reducible repeat (first | refine blk_drewN ?_ _ | refine blk_drew ?_ | refine blk_alloc ?_ _)); exact BK330.out)) (below_size (by repeat (first | (with_reducible first | exact HB.out | apply below_alloc | apply pw_below_drewN | apply below_drew1 | refine below_set ?_ GE330.out) | exact HB.out)))); have n3_ := Aside0.mk (blk_below (g := gb330) (o := .cells #[.int .i64 a2_0, .int .i64 a2_1, .int .i64 a2_2, .int .i64 a2_3] 23 (0, 0)) (by (with_reducible repeat (first | refine blk_drewN ?_ _ | refine blk_drew ?_ | refine blk_alloc ?_ _)); exact BK330.out) hb); have n4_ := Aside0.mk (below_step (by repeat (first | (with_reducible first | exact HB.out | apply below_alloc | apply pw_below_drewN | apply below_drew1 | refine below_set ?_ GE330.out) | exact HB.out)) hb); clear HO_11; clear HO_12; clear BK330; clear HB; have HO_11 := n0_; have HO_12 := n1_; have HO351 := n2_; have BK330 := n3_; have HB := n4_; clear n0_ n1_ n2_ n3_ n4_; (try clear hb); (try clear hb2); (try clear hk); (try clear hi); (try clear ho0)) | ((with_reducible refine gate_callee (f := 37) rfl ?_); refine goesL_ (some 45) rfl rfl Try.func37 (by kernel_rfl) rfl #[.slice A0 l0.length c0, .slice A1 l1.length c1, .int .i64 0] rfl (by (try simp only [List.map_toArray, List.map_cons, List.map_nil]); first | done | rfl | (simp only [List.length_drop, List.length_take]; rfl)) ?_; (with_reducible refine (tableauref08_Make.calls kj15 _ _ l0 _ _ l1 0 t352 _ ?side1 ?side2 ?side3 ?side4 A40.out).mono ?_); (case side1 => repeat (first | exact (Kd.C_below HR0.out HB.out) | (with_reducible refine Kd.C_alloc ?_ _) | (with_reducible refine Kd.C_drewN ?_ _) | (with_reducible refine Kd.C_drew ?_))); (case side2 => exact HC0.out); (case side3 => repeat (first | exact (Kd.C_below HR1.out HB.out) | (with_reducible refine Kd.C_alloc ?_ _) | (with_reducible refine Kd.C_drewN ?_ _) | (with_reducible refine Kd.C_drew ?_))); (case side4 => exact HC1.out); rintro e w67 ⟨v353, rfl, ho0, hb⟩; refine ⟨_, rfl, ?_⟩; have n0_ := Aside0.mk (Kd.R_elder' (by (with_reducible repeat (first | apply Kd.R_alloc | apply Kd.R_drewN | apply Kd.R_drew)); exact HO_11.out) (Kd.R_base ho0) hb); have n1_ := Aside0.mk (Kd.R_elder' (by (with_reducible repeat (first | apply Kd.R_alloc | apply Kd.R_drewN | apply Kd.R_drew)); exact HO_12.out) (Kd.R_base ho0) hb); have n2_ := Aside0.mk (Kd.R_elder' (by (with_reducible repeat (first | apply Kd.R_alloc | apply Kd.R_drewN | apply Kd.R_drew)); exact HO351.out) (Kd.R_base ho0) hb); have n3_ := Aside0.mk (Kd.R_lower (Kd.R_newB (Kd.R_new' (Kd.R_new' (Kd.R_new' ho0 (Kd.R_lt (by (with_reducible repeat (first | apply Kd.R_alloc | apply Kd.R_drewN | apply Kd.R_drew)); exact HO_11.out))) (Kd.R_lt (by (with_reducible repeat (first | apply Kd.R_alloc | apply Kd.R_drewN | apply Kd.R_drew)); exact HO_12.out))) (Kd.R_lt (by (with_reducible repeat (first | apply Kd.R_alloc | apply Kd.R_drewN | apply Kd.R_drew)); exact HO351.out))) (g := gb330) (o := .cells #[.int .i64 a2_0, .int .i64 a2_1, .int .i64 a2_2, .int .i64 a2_3] 23 (0, 0)) (by (with_reducible repeat (first | refine blk_drewN ?_ _ | refine blk_drew ?_ | refine blk_alloc ?_ _)); exact BK330.out)) (below_size (by repeat (first | (with_reducible first | exact HB.out | apply below_alloc | apply pw_below_drewN | apply below_drew1 | refine below_set ?_ GE330.out) | exact HB.out)))); have n4_ := Aside0.mk (blk_below (g := gb330) (o := .cells #[.int .i64 a2_0, .int .i64 a2_1, .int .i64 a2_2, .int .i64 a2_3] 23 (0, 0)) (by (with_reducible repeat (first | refine blk_drewN ?_ _ | refine blk_drew ?_ | refine blk_alloc ?_ _)); exact BK330.out) hb); have n5_ := Aside0.mk (below_step (by repeat (first | (with_reducible first | exact HB.out | apply below_alloc | apply pw_below_drewN | apply below_drew1 | refine below_set ?_ GE330.out) | exact HB.out)) hb); clear HO_11; clear HO_12; clear HO351; clear BK330; clear HB; have HO_11 := n0_; have HO_12 := n1_; have HO351 := n2_; have HO354 := n3_; have BK330 := n4_; have HB := n5_; clear n0_ n1_ n2_ n3_ n4_ n5_; (try clear hb); (try clear hb2); (try clear hk); (try clear hi); (try clear ho0); obtain ⟨Ao68, co68, eo68⟩ := Kd.R_slice HO351.out; subst eo68; obtain ⟨Ao69, co69, eo69⟩ := Kd.R_slice HO354.out; subst eo69) | ((with_reducible refine gate_callee (f := 20) rfl ?_); refine goesL_ (some 46) rfl rfl Try.func20 (by kernel_rfl) rfl #[.slice Ao68 t349.length co68, .slice Ao69 t352.length co69] rfl (by (try simp only [List.map_toArray, List.map_cons, List.map_nil]); first | done | rfl | (simp only [List.length_drop, List.length_take]; rfl)) ?_; (with_reducible refine (tableaulaw00_SameRects.calls kj15 _ _ t349 _ _ t352 true _ ?side1 ?side2 ?side3 ?side4 A41.out).mono ?_); (case side1 => repeat (first | exact (Kd.R_reads' HO351.out).2.2 | (with_reducible refine Kd.C_alloc ?_ _) | (with_reducible refine Kd.C_drewN ?_ _) | (with_reducible refine Kd.C_drew ?_))); (case side2 => exact (Kd.R_reads' HO351.out).2.1); (case side3 => repeat (first | exact (Kd.R_reads' HO354.out).2.2 | (with_reducible refine Kd.C_alloc ?_ _) | (with_reducible refine Kd.C_drewN ?_ _) | (with_reducible refine Kd.C_drew ?_))); (case side4 => exact (Kd.R_reads' HO354.out).2.1); rintro e w' ⟨rfl, ⟨nd, rfl⟩⟩; refine ⟨_, rfl, ?_⟩) | (go_at_call 22; (with_reducible refine (region_Subtract.calls _ _ t334 _ _ t337 t356 _ ?side1 ?side2 ?side3 ?side4 A43.out).mono ?_); (case side1 => repeat (first | exact (Kd.R_reads' HO_11.out).2.2 | (with_reducible refine Kd.C_alloc ?_ _) | (with_reducible refine Kd.C_drewN ?_ _) | (with_reducible refine Kd.C_drew ?_))); (case side2 => exact (Kd.R_reads' HO_11.out).2.1); (case side3 => repeat (first | exact (Kd.R_reads' HO_12.out).2.2 | (with_reducible refine Kd.C_alloc ?_ _) | (with_reducible refine Kd.C_drewN ?_ _) | (with_reducible refine Kd.C_drew ?_))); (case side4 => exact (Kd.R_reads' HO_12.out).2.1); rintro e w70 ⟨v357, rfl, ho0, hb⟩; have n0_ := Aside0.mk (Kd.R_elder' (by (with_reducible repeat (first | apply Kd.R_alloc | apply Kd.R_drewN | apply Kd.R_drew)); exact HO_11.out) (Kd.R_base ho0) hb); have n1_ := Aside0.mk (Kd.R_elder' (by (with_reducible repeat (first | apply Kd.R_alloc | apply Kd.R_drewN | apply Kd.R_drew)); exact HO_12.out) (Kd.R_base ho0) hb); have n2_ := Aside0.mk (Kd.R_elder' (by (with_reducible repeat (first | apply Kd.R_alloc | apply Kd.R_drewN | apply Kd.R_drew)); exact HO351.out) (Kd.R_base ho0) hb); have n3_ := Aside0.mk (Kd.R_elder' (by (with_reducible repeat (first | apply Kd.R_alloc | apply Kd.R_drewN | apply Kd.R_drew)); exact HO354.out) (Kd.R_base ho0) hb); have n4_ := Aside0.mk (Kd.R_lower (Kd.R_newB (Kd.R_new' (Kd.R_new' (Kd.R_new' (Kd.R_new' ho0 (Kd.R_lt (by (with_reducible repeat (first | apply Kd.R_alloc | apply Kd.R_drewN | apply Kd.R_drew)); exact HO_11.out))) (Kd.R_lt (by (with_reducible repeat (first | apply Kd.R_alloc | apply Kd.R_drewN | apply Kd.R_drew)); exact HO_12.out))) (Kd.R_lt (by (with_reducible repeat (first | apply Kd.R_alloc | apply Kd.R_drewN | apply Kd.R_drew)); exact HO351.out))) (Kd.R_lt (by (with_reducible repeat (first | apply Kd.R_alloc | apply Kd.R_drewN | apply Kd.R_drew)); exact HO354.out))) (g := gb330) (o := .cells #[.int .i64 a2_0, .int .i64 a2_1, .int .i64 a2_2, .int .i64 a2_3] 23 (0, 0)) (by (with_reducible repeat (first | refine blk_drewN ?_ _ | refine blk_drew ?_ | refine blk_alloc ?_ _)); exact BK330.out)) (below_size (by repeat (first | (with_reducible first | exact HB.out | apply below_alloc | apply pw_below_drewN | apply below_drew1 | refine below_set ?_ GE330.out) | exact HB.out)))); have n5_ := Aside0.mk (blk_below (g := gb330) (o := .cells #[.int .i64 a2_0, .int .i64 a2_1, .int .i64 a2_2, .int .i64 a2_3] 23 (0, 0)) (by (with_reducible repeat (first | refine blk_drewN ?_ _ | refine blk_drew ?_ | refine blk_alloc ?_ _)); exact BK330.out) hb); have n6_ := Aside0.mk (below_step (by repeat (first | (with_reducible first | exact HB.out | apply below_alloc | apply pw_below_drewN | apply below_drew1 | refine below_set ?_ GE330.out) | exact HB.out)) hb); clear HO_11; clear HO_12; clear HO351; clear HO354; clear BK330; clear HB; have HO_11 := n0_; have HO_12 := n1_; have HO351 := n2_; have HO354 := n3_; have HO358 := n4_; have BK330 := n5_; have HB := n6_; clear n0_ n1_ n2_ n3_ n4_ n5_ n6_; (try clear hb); (try clear hb2); (try clear hk); (try clear hi); (try clear ho0)) | (go_at_call 37; (with_reducible refine (tableauref08_Make.calls kj15 _ _ l0 _ _ l1 1 t359 _ ?side1 ?side2 ?side3 ?side4 A44.out).mono ?_); (case side1 => repeat (first | exact (Kd.C_below HR0.out HB.out) | (with_reducible refine Kd.C_alloc ?_ _) | (with_reducible refine Kd.C_drewN ?_ _) | (with_reducible refine Kd.C_drew ?_))); (case side2 => exact HC0.out); (case side3 => repeat (first | exact (Kd.C_below HR1.out HB.out) | (with_reducible refine Kd.C_alloc ?_ _) | (with_reducible refine Kd.C_drewN ?_ _) | (with_reducible refine Kd.C_drew ?_))); (case side4 => exact HC1.out); rintro e w71 ⟨v360, rfl, ho0, hb⟩; have n0_ := Aside0.mk (Kd.R_elder' (by (with_reducible repeat (first | apply Kd.R_alloc | apply Kd.R_drewN | apply Kd.R_drew)); exact HO_11.out) (Kd.R_base ho0) hb); have n1_ := Aside0.mk (Kd.R_elder' (by (with_reducible repeat (first | apply Kd.R_alloc | apply Kd.R_drewN | apply Kd.R_drew)); exact HO_12.out) (Kd.R_base ho0) hb); have n2_ := Aside0.mk (Kd.R_elder' (by (with_reducible repeat (first | apply Kd.R_alloc | apply Kd.R_drewN | apply Kd.R_drew)); exact HO351.out) (Kd.R_base ho0) hb); have n3_ := Aside0.mk (Kd.R_elder' (by (with_reducible repeat (first | apply Kd.R_alloc | apply Kd.R_drewN | apply Kd.R_drew)); exact HO354.out) (Kd.R_base ho0) hb); have n4_ := Aside0.mk (Kd.R_elder' (by (with_reducible repeat (first | apply Kd.R_alloc | apply Kd.R_drewN | apply Kd.R_drew)); exact HO358.out) (Kd.R_base ho0) hb); have n5_ := Aside0.mk (Kd.R_lower (Kd.R_newB (Kd.R_new' (Kd.R_new' (Kd.R_new' (Kd.R_new' (Kd.R_new' ho0 (Kd.R_lt (by (with_reducible repeat (first | apply Kd.R_alloc | apply Kd.R_drewN | apply Kd.R_drew)); exact HO_11.out))) (Kd.R_lt (by (with_reducible repeat (first | apply Kd.R_alloc | apply Kd.R_drewN | apply Kd.R_drew)); exact HO_12.out))) (Kd.R_lt (by (with_reducible repeat (first | apply Kd.R_alloc | apply Kd.R_drewN | apply Kd.R_drew)); exact HO351.out))) (Kd.R_lt (by (with_reducible repeat (first | apply Kd.R_alloc | apply Kd.R_drewN | apply Kd.R_drew)); exact HO354.out))) (Kd.R_lt (by (with_reducible repeat (first | apply Kd.R_alloc | apply Kd.R_drewN | apply Kd.R_drew)); exact HO358.out))) (g := gb330) (o := .cells #[.int .i64 a2_0, .int .i64 a2_1, .int .i64 a2_2, .int .i64 a2_3] 23 (0, 0)) (by (with_reducible repeat (first | refine blk_drewN ?_ _ | refine blk_drew ?_ | refine blk_alloc ?_ _)); exact BK330.out)) (below_size (by repeat (first | (with_reducible first | exact HB.out | apply below_alloc | apply pw_below_drewN | apply below_drew1 | refine below_set ?_ GE330.out) | exact HB.out)))); have n6_ := Aside0.mk (blk_below (g := gb330) (o := .cells #[.int .i64 a2_0, .int .i64 a2_1, .int .i64 a2_2, .int .i64 a2_3] 23 (0, 0)) (by (with_reducible repeat (first | refine blk_drewN ?_ _ | refine blk_drew ?_ | refine blk_alloc ?_ _)); exact BK330.out) hb); have n7_ := Aside0.mk (below_step (by repeat (first | (with_reducible first | exact HB.out | apply below_alloc | apply pw_below_drewN | apply below_drew1 | refine below_set ?_ GE330.out) | exact HB.out)) hb); clear HO_11; clear HO_12; clear HO351; clear HO354; clear HO358; clear BK330; clear HB; have HO_11 := n0_; have HO_12 := n1_; have HO351 := n2_; have HO354 := n3_; have HO358 := n4_; have HO361 := n5_; have BK330 := n6_; have HB := n7_; clear n0_ n1_ n2_ n3_ n4_ n5_ n6_ n7_; (try clear hb); (try clear hb2); (try clear hk); (try clear hi); (try clear ho0); obtain ⟨Ao72, co72, eo72⟩ := Kd.R_slice HO358.out; subst eo72; obtain ⟨Ao73, co73, eo73⟩ := Kd.R_slice HO361.out; subst eo73) | (go_at_call 20; (with_reducible refine (tableaulaw00_SameRects.calls kj15 _ _ t356 _ _ t359 false _ ?side1 ?side2 ?side3 ?side4 A45.out).mono ?_); (case side1 => repeat (first | exact (Kd.R_reads' HO358.out).2.2 | (with_reducible refine Kd.C_alloc ?_ _) | (with_reducible refine Kd.C_drewN ?_ _) | (with_reducible refine Kd.C_drew ?_))); (case side2 => exact (Kd.R_reads' HO358.out).2.1); (case side3 => repeat (first | exact (Kd.R_reads' HO361.out).2.2 | (with_reducible refine Kd.C_alloc ?_ _) | (with_reducible refine Kd.C_drewN ?_ _) | (with_reducible refine Kd.C_drew ?_))); (case side4 => exact (Kd.R_reads' HO361.out).2.1); rintro e w' ⟨rfl, ⟨nd, rfl⟩⟩))
                    go_meet
                    case rel => exact ⟨_, (false), (by first | rfl | (simp; done) | (simp [*]; done)), H', ⟨by have := HJ5.out; have := HJ15.out; first | omega | exact Nat.le_refl _⟩, ⟨by (with_reducible repeat (first | apply Kd.R_alloc | apply Kd.R_drewN | apply Kd.R_drew)); exact Kd.R_mono HO_11.out (fun _ hk => hk.1.1.1.1.2)⟩, ⟨by (with_reducible repeat (first | refine blk_drewN ?_ _ | refine blk_drew ?_ | refine blk_alloc ?_ _)); exact BK330.out⟩, ⟨by repeat (first | (with_reducible first | exact HB.out | apply below_alloc | apply pw_below_drewN | apply below_drew1 | refine below_set ?_ GE330.out) | exact HB.out)⟩⟩
                · replace c42 := Bool.eq_false_iff.mpr c42
                  subst c42
                  have H1 : (tableaulaw08_RegionAll.j2 kj15 l0 a3 a4 t334 false) = some r := by rw [if_neg (show ¬ (false = true) by decide)] at H; exact H
                  clear H
                  have H := H1
                  clear H1
                  have H' := Aside0.mk H
                  clear H
                  obtain ⟨Ao74, co74, eo74⟩ := Kd.R_slice HO_11.out
                  subst eo74
                  obtain ⟨Ao75, co75, eo75⟩ := Kd.R_slice HO_12.out
                  subst eo75
                  go_wp2_with (first | ((with_reducible refine gate_callee (f := 18) rfl ?_); refine goesL_ (some 42) rfl rfl Try.func18 (by kernel_rfl) rfl #[.slice Ao74 t334.length co74, .slice Ao75 t337.length co75] rfl (by (try simp only [List.map_toArray, List.map_cons, List.map_nil]); first | done | rfl | (simp only [List.length_drop, List.length_take]; rfl)) ?_; (with_reducible refine (region_Union.calls _ _ t334 _ _ t337 t349 _ ?side1 ?side2 ?side3 ?side4 A39.out).mono ?_); (case side1 => repeat (first | exact (Kd.R_reads' HO_11.out).2.2 | (with_reducible refine Kd.C_alloc ?_ _) | (with_reducible refine Kd.C_drewN ?_ _) | (with_reducible refine Kd.C_drew ?_))); (case side2 => exact (Kd.R_reads' HO_11.out).2.1); (case side3 => repeat (first | exact (Kd.R_reads' HO_12.out).2.2 | (with_reducible refine Kd.C_alloc ?_ _) | (with_reducible refine Kd.C_drewN ?_ _) | (with_reducible refine Kd.C_drew ?_))); (case side4 => exact (Kd.R_reads' HO_12.out).2.1); rintro e w76 ⟨v350, rfl, ho0, hb⟩; refine ⟨_, rfl, ?_⟩; have n0_ := Aside0.mk (Kd.R_elder' (by (with_reducible repeat (first | apply Kd.R_alloc | apply Kd.R_drewN | apply Kd.R_drew)); exact HO_11.out) (Kd.R_base ho0) hb); have n1_ := Aside0.mk (Kd.R_elder' (by (with_reducible repeat (first | apply Kd.R_alloc | apply Kd.R_drewN | apply Kd.R_drew)); exact HO_12.out) (Kd.R_base ho0) hb); have n2_ := Aside0.mk (Kd.R_lower (Kd.R_newB (Kd.R_new' (Kd.R_new' ho0 (Kd.R_lt (by (with_reducible repeat (first | apply Kd.R_alloc | apply Kd.R_drewN | apply Kd.R_drew)); exact HO_11.out))) (Kd.R_lt (by (with_reducible repeat (first | apply Kd.R_alloc | apply Kd.R_drewN | apply Kd.R_drew)); exact HO_12.out))) (g := gb330) (o := .cells #[.int .i64 a2_0, .int .i64 a2_1, .int .i64 a2_2, .int .i64 a2_3] 23 (0, 0)) (by (with_reducible repeat (first | refine blk_drewN ?_ _ | refine blk_drew ?_ | refine blk_alloc ?_ _)); exact BK330.out)) (below_size (by repeat (first | (with_reducible first | exact HB.out | apply below_alloc | apply pw_below_drewN | apply below_drew1 | refine below_set ?_ GE330.out) | exact HB.out)))); have n3_ := Aside0.mk (blk_below (g := gb330) (o := .cells #[.int .i64 a2_0, .int .i64 a2_1, .int .i64 a2_2, .int .i64 a2_3] 23 (0, 0)) (by (with_reducible repeat (first | refine blk_drewN ?_ _ | refine blk_drew ?_ | refine blk_alloc ?_ _)); exact BK330.out) hb); have n4_ := Aside0.mk (below_step (by repeat (first | (with_reducible first | exact HB.out | apply below_alloc | apply pw_below_drewN | apply below_drew1 | refine below_set ?_ GE330.out) | exact HB.out)) hb); clear HO_11; clear HO_12; clear BK330; clear HB; have HO_11 := n0_; have HO_12 := n1_; have HO351 := n2_; have BK330 := n3_; have HB := n4_; clear n0_ n1_ n2_ n3_ n4_; (try clear hb); (try clear hb2); (try clear hk); (try clear hi); (try clear ho0)) | ((with_reducible refine gate_callee (f := 37) rfl ?_); refine goesL_ (some 45) rfl rfl Try.func37 (by kernel_rfl) rfl #[.slice A0 l0.length c0, .slice A1 l1.length c1, .int .i64 0] rfl (by (try simp only [List.map_toArray, List.map_cons, List.map_nil]); first | done | rfl | (simp only [List.length_drop, List.length_take]; rfl)) ?_; (with_reducible refine (tableauref08_Make.calls kj15 _ _ l0 _ _ l1 0 t352 _ ?side1 ?side2 ?side3 ?side4 A40.out).mono ?_); (case side1 => repeat (first | exact (Kd.C_below HR0.out HB.out) | (with_reducible refine Kd.C_alloc ?_ _) | (with_reducible refine Kd.C_drewN ?_ _) | (with_reducible refine Kd.C_drew ?_))); (case side2 => exact HC0.out); (case side3 => repeat (first | exact (Kd.C_below HR1.out HB.out) | (with_reducible refine Kd.C_alloc ?_ _) | (with_reducible refine Kd.C_drewN ?_ _) | (with_reducible refine Kd.C_drew ?_))); (case side4 => exact HC1.out); rintro e w77 ⟨v353, rfl, ho0, hb⟩; refine ⟨_, rfl, ?_⟩; have n0_ := Aside0.mk (Kd.R_elder' (by (with_reducible repeat (first | apply Kd.R_alloc | apply Kd.R_drewN | apply Kd.R_drew)); exact HO_11.out) (Kd.R_base ho0) hb); have n1_ := Aside0.mk (Kd.R_elder' (by (with_reducible repeat (first | apply Kd.R_alloc | apply Kd.R_drewN | apply Kd.R_drew)); exact HO_12.out) (Kd.R_base ho0) hb); have n2_ := Aside0.mk (Kd.R_elder' (by (with_reducible repeat (first | apply Kd.R_alloc | apply Kd.R_drewN | apply Kd.R_drew)); exact HO351.out) (Kd.R_base ho0) hb); have n3_ := Aside0.mk (Kd.R_lower (Kd.R_newB (Kd.R_new' (Kd.R_new' (Kd.R_new' ho0 (Kd.R_lt (by (with_reducible repeat (first | apply Kd.R_alloc | apply Kd.R_drewN | apply Kd.R_drew)); exact HO_11.out))) (Kd.R_lt (by (with_reducible repeat (first | apply Kd.R_alloc | apply Kd.R_drewN | apply Kd.R_drew)); exact HO_12.out))) (Kd.R_lt (by (with_reducible repeat (first | apply Kd.R_alloc | apply Kd.R_drewN | apply Kd.R_drew)); exact HO351.out))) (g := gb330) (o := .cells #[.int .i64 a2_0, .int .i64 a2_1, .int .i64 a2_2, .int .i64 a2_3] 23 (0, 0)) (by (with_reducible repeat (first | refine blk_drewN ?_ _ | refine blk_drew ?_ | refine blk_alloc ?_ _)); exact BK330.out)) (below_size (by repeat (first | (with_reducible first | exact HB.out | apply below_alloc | apply pw_below_drewN | apply below_drew1 | refine below_set ?_ GE330.out) | exact HB.out)))); have n4_ := Aside0.mk (blk_below (g := gb330) (o := .cells #[.int .i64 a2_0, .int .i64 a2_1, .int .i64 a2_2, .int .i64 a2_3] 23 (0, 0)) (by (with_reducible repeat (first | refine blk_drewN ?_ _ | refine blk_drew ?_ | refine blk_alloc ?_ _)); exact BK330.out) hb); have n5_ := Aside0.mk (below_step (by repeat (first | (with_reducible first | exact HB.out | apply below_alloc | apply pw_below_drewN | apply below_drew1 | refine below_set ?_ GE330.out) | exact HB.out)) hb); clear HO_11; clear HO_12; clear HO351; clear BK330; clear HB; have HO_11 := n0_; have HO_12 := n1_; have HO351 := n2_; have HO354 := n3_; have BK330 := n4_; have HB := n5_; clear n0_ n1_ n2_ n3_ n4_ n5_; (try clear hb); (try clear hb2); (try clear hk); (try clear hi); (try clear ho0); obtain ⟨Ao78, co78, eo78⟩ := Kd.R_slice HO351.out; subst eo78; obtain ⟨Ao79, co79, eo79⟩ := Kd.R_slice HO354.out; subst eo79) | ((with_reducible refine gate_callee (f := 20) rfl ?_); refine goesL_ (some 46) rfl rfl Try.func20 (by kernel_rfl) rfl #[.slice Ao78 t349.length co78, .slice Ao79 t352.length co79] rfl (by (try simp only [List.map_toArray, List.map_cons, List.map_nil]); first | done | rfl | (simp only [List.length_drop, List.length_take]; rfl)) ?_; (with_reducible refine (tableaulaw00_SameRects.calls kj15 _ _ t349 _ _ t352 false _ ?side1 ?side2 ?side3 ?side4 A41.out).mono ?_); (case side1 => repeat (first | exact (Kd.R_reads' HO351.out).2.2 | (with_reducible refine Kd.C_alloc ?_ _) | (with_reducible refine Kd.C_drewN ?_ _) | (with_reducible refine Kd.C_drew ?_))); (case side2 => exact (Kd.R_reads' HO351.out).2.1); (case side3 => repeat (first | exact (Kd.R_reads' HO354.out).2.2 | (with_reducible refine Kd.C_alloc ?_ _) | (with_reducible refine Kd.C_drewN ?_ _) | (with_reducible refine Kd.C_drew ?_))); (case side4 => exact (Kd.R_reads' HO354.out).2.1); rintro e w' ⟨rfl, ⟨nd, rfl⟩⟩; refine ⟨_, rfl, ?_⟩))
                  go_meet
                  case rel => exact ⟨_, (false), (by first | rfl | (simp; done) | (simp [*]; done)), H', ⟨by have := HJ5.out; have := HJ15.out; first | omega | exact Nat.le_refl _⟩, ⟨by (with_reducible repeat (first | apply Kd.R_alloc | apply Kd.R_drewN | apply Kd.R_drew)); exact Kd.R_mono HO_11.out (fun _ hk => hk.1.1.2)⟩, ⟨by (with_reducible repeat (first | refine blk_drewN ?_ _ | refine blk_drew ?_ | refine blk_alloc ?_ _)); exact BK330.out⟩, ⟨by repeat (first | (with_reducible first | exact HB.out | apply below_alloc | apply pw_below_drewN | apply below_drew1 | refine below_set ?_ GE330.out) | exact HB.out)⟩⟩
              case rest =>
                clear HC38
                try clear c1
                try clear c2
                try clear p2
                try clear c3
                try clear c4
                try clear c9
                try clear c11
                try clear c14
                try clear c16
                try clear c17
                try clear c18
                try clear c20
                try clear c21
                try clear c21b0
                try clear c21b1
                try clear c21b2
                try clear c35
                try clear c36
                try clear c37
                try clear c42
                try clear c46
                try clear c48
                try clear c49
                try clear p2
                obtain ⟨kq, x13_37, rfl, HA, HJ37, HO_11, BK330, HB⟩ := hcut
                cases kq with
                | zero => exact absurd HA.out (by simp [tableaulaw08_RegionAll.j2])
                | succ kj37 =>
                  have H := HA.out
                  clear HA
                  simp only [tableaulaw08_RegionAll.j2] at H
                  by_cases c80 : x13_37 = true
                  · subst c80
                    have H1 : ((region_Shift.f t334 a3 a4).bind fun t370 => ((tableauref08_Shift.f kj37 l0 a3 a4).bind fun t373 => ((tableaulaw00_SameRects.f kj37 t370 t373).bind fun t376 => (if t376 = true then ((region_Cover.f kj37 t334).bind fun bt377 => ((tableauref08_Cover.f kj37 l0).bind fun bt381 => (if (bt377.1 == bt381.1 && (bt377.2.1 == bt381.2.1 && (bt377.2.2.1 == bt381.2.2.1 && (bt377.2.2.2 == bt381.2.2.2)))) = true then ((region_Area.f kj37 t334).bind fun t385 => ((tableauref08_Area.f kj37 l0).bind fun t386 => (if t385 = t386 then ((region_Has.f t334 a3 a4).bind fun t387 => ((tableauref08_Check.f kj37 l0).bind fun t388 => (if t388 = true then ((tableauref08_Has.f kj37 l0 a3 a4).bind fun t389 => (if (t387 == t389) = true then ((tableaulaw00_SameRects.f kj37 t334 l0).bind fun t390 => (if t390 = true then ((tableaulaw08_awake.f kj37).bind fun t391 => (some t391)) else (some false))) else (some false))) else (if (t387 == false) = true then ((tableaulaw00_SameRects.f kj37 t334 l0).bind fun t392 => (if t392 = true then ((tableaulaw08_awake.f kj37).bind fun t393 => (some t393)) else (some false))) else (some false))))) else (some false)))) else (some false)))) else (some false))))) = some r := by rw [if_pos rfl] at H; exact H
                    clear H
                    have H := H1
                    clear H1
                    replace H := Option.bind_eq_some_iff.mp H
                    obtain ⟨t370, A810, H⟩ := H
                    replace H : ((tableauref08_Shift.f kj37 l0 a3 a4).bind fun t373 => ((tableaulaw00_SameRects.f kj37 t370 t373).bind fun t376 => (if t376 = true then ((region_Cover.f kj37 t334).bind fun bt377 => ((tableauref08_Cover.f kj37 l0).bind fun bt381 => (if (bt377.1 == bt381.1 && (bt377.2.1 == bt381.2.1 && (bt377.2.2.1 == bt381.2.2.1 && (bt377.2.2.2 == bt381.2.2.2)))) = true then ((region_Area.f kj37 t334).bind fun t385 => ((tableauref08_Area.f kj37 l0).bind fun t386 => (if t385 = t386 then ((region_Has.f t334 a3 a4).bind fun t387 => ((tableauref08_Check.f kj37 l0).bind fun t388 => (if t388 = true then ((tableauref08_Has.f kj37 l0 a3 a4).bind fun t389 => (if (t387 == t389) = true then ((tableaulaw00_SameRects.f kj37 t334 l0).bind fun t390 => (if t390 = true then ((tableaulaw08_awake.f kj37).bind fun t391 => (some t391)) else (some false))) else (some false))) else (if (t387 == false) = true then ((tableaulaw00_SameRects.f kj37 t334 l0).bind fun t392 => (if t392 = true then ((tableaulaw08_awake.f kj37).bind fun t393 => (some t393)) else (some false))) else (some false))))) else (some false)))) else (some false)))) else (some false)))) = some r := H
                    have A81 := Aside0.mk A810
                    clear A810
                    replace H := Option.bind_eq_some_iff.mp H
                    obtain ⟨t373, A820, H⟩ := H
                    replace H : ((tableaulaw00_SameRects.f kj37 t370 t373).bind fun t376 => (if t376 = true then ((region_Cover.f kj37 t334).bind fun bt377 => ((tableauref08_Cover.f kj37 l0).bind fun bt381 => (if (bt377.1 == bt381.1 && (bt377.2.1 == bt381.2.1 && (bt377.2.2.1 == bt381.2.2.1 && (bt377.2.2.2 == bt381.2.2.2)))) = true then ((region_Area.f kj37 t334).bind fun t385 => ((tableauref08_Area.f kj37 l0).bind fun t386 => (if t385 = t386 then ((region_Has.f t334 a3 a4).bind fun t387 => ((tableauref08_Check.f kj37 l0).bind fun t388 => (if t388 = true then ((tableauref08_Has.f kj37 l0 a3 a4).bind fun t389 => (if (t387 == t389) = true then ((tableaulaw00_SameRects.f kj37 t334 l0).bind fun t390 => (if t390 = true then ((tableaulaw08_awake.f kj37).bind fun t391 => (some t391)) else (some false))) else (some false))) else (if (t387 == false) = true then ((tableaulaw00_SameRects.f kj37 t334 l0).bind fun t392 => (if t392 = true then ((tableaulaw08_awake.f kj37).bind fun t393 => (some t393)) else (some false))) else (some false))))) else (some false)))) else (some false)))) else (some false))) = some r := H
                    have A82 := Aside0.mk A820
                    clear A820
                    replace H := Option.bind_eq_some_iff.mp H
                    obtain ⟨t376, A830, H⟩ := H
                    replace H : (if t376 = true then ((region_Cover.f kj37 t334).bind fun bt377 => ((tableauref08_Cover.f kj37 l0).bind fun bt381 => (if (bt377.1 == bt381.1 && (bt377.2.1 == bt381.2.1 && (bt377.2.2.1 == bt381.2.2.1 && (bt377.2.2.2 == bt381.2.2.2)))) = true then ((region_Area.f kj37 t334).bind fun t385 => ((tableauref08_Area.f kj37 l0).bind fun t386 => (if t385 = t386 then ((region_Has.f t334 a3 a4).bind fun t387 => ((tableauref08_Check.f kj37 l0).bind fun t388 => (if t388 = true then ((tableauref08_Has.f kj37 l0 a3 a4).bind fun t389 => (if (t387 == t389) = true then ((tableaulaw00_SameRects.f kj37 t334 l0).bind fun t390 => (if t390 = true then ((tableaulaw08_awake.f kj37).bind fun t391 => (some t391)) else (some false))) else (some false))) else (if (t387 == false) = true then ((tableaulaw00_SameRects.f kj37 t334 l0).bind fun t392 => (if t392 = true then ((tableaulaw08_awake.f kj37).bind fun t393 => (some t393)) else (some false))) else (some false))))) else (some false)))) else (some false)))) else (some false)) = some r := H
                    have A83 := Aside0.mk A830
                    clear A830
                    by_cases c84 : t376 = true
                    · subst c84
                      have H1 : ((region_Cover.f kj37 t334).bind fun bt377 => ((tableauref08_Cover.f kj37 l0).bind fun bt381 => (if (bt377.1 == bt381.1 && (bt377.2.1 == bt381.2.1 && (bt377.2.2.1 == bt381.2.2.1 && (bt377.2.2.2 == bt381.2.2.2)))) = true then ((region_Area.f kj37 t334).bind fun t385 => ((tableauref08_Area.f kj37 l0).bind fun t386 => (if t385 = t386 then ((region_Has.f t334 a3 a4).bind fun t387 => ((tableauref08_Check.f kj37 l0).bind fun t388 => (if t388 = true then ((tableauref08_Has.f kj37 l0 a3 a4).bind fun t389 => (if (t387 == t389) = true then ((tableaulaw00_SameRects.f kj37 t334 l0).bind fun t390 => (if t390 = true then ((tableaulaw08_awake.f kj37).bind fun t391 => (some t391)) else (some false))) else (some false))) else (if (t387 == false) = true then ((tableaulaw00_SameRects.f kj37 t334 l0).bind fun t392 => (if t392 = true then ((tableaulaw08_awake.f kj37).bind fun t393 => (some t393)) else (some false))) else (some false))))) else (some false)))) else (some false)))) = some r := by rw [if_pos rfl] at H; exact H
                      clear H
                      have H := H1
                      clear H1
                      replace H := Option.bind_eq_some_iff.mp H
                      obtain ⟨⟨t377, t378, t379, t380⟩, A850, H⟩ := H
                      replace H : ((tableauref08_Cover.f kj37 l0).bind fun bt381 => (if (t377 == bt381.1 && (t378 == bt381.2.1 && (t379 == bt381.2.2.1 && (t380 == bt381.2.2.2)))) = true then ((region_Area.f kj37 t334).bind fun t385 => ((tableauref08_Area.f kj37 l0).bind fun t386 => (if t385 = t386 then ((region_Has.f t334 a3 a4).bind fun t387 => ((tableauref08_Check.f kj37 l0).bind fun t388 => (if t388 = true then ((tableauref08_Has.f kj37 l0 a3 a4).bind fun t389 => (if (t387 == t389) = true then ((tableaulaw00_SameRects.f kj37 t334 l0).bind fun t390 => (if t390 = true then ((tableaulaw08_awake.f kj37).bind fun t391 => (some t391)) else (some false))) else (some false))) else (if (t387 == false) = true then ((tableaulaw00_SameRects.f kj37 t334 l0).bind fun t392 => (if t392 = true then ((tableaulaw08_awake.f kj37).bind fun t393 => (some t393)) else (some false))) else (some false))))) else (some false)))) else (some false))) = some r := H
                      have A85 := Aside0.mk A850
                      clear A850
                      replace H := Option.bind_eq_some_iff.mp H
                      obtain ⟨⟨t381, t382, t383, t384⟩, A860, H⟩ := H
                      replace H : (if (t377 == t381 && (t378 == t382 && (t379 == t383 && (t380 == t384)))) = true then ((region_Area.f kj37 t334).bind fun t385 => ((tableauref08_Area.f kj37 l0).bind fun t386 => (if t385 = t386 then ((region_Has.f t334 a3 a4).bind fun t387 => ((tableauref08_Check.f kj37 l0).bind fun t388 => (if t388 = true then ((tableauref08_Has.f kj37 l0 a3 a4).bind fun t389 => (if (t387 == t389) = true then ((tableaulaw00_SameRects.f kj37 t334 l0).bind fun t390 => (if t390 = true then ((tableaulaw08_awake.f kj37).bind fun t391 => (some t391)) else (some false))) else (some false))) else (if (t387 == false) = true then ((tableaulaw00_SameRects.f kj37 t334 l0).bind fun t392 => (if t392 = true then ((tableaulaw08_awake.f kj37).bind fun t393 => (some t393)) else (some false))) else (some false))))) else (some false)))) else (some false)) = some r := H
                      have A86 := Aside0.mk A860
                      clear A860
                      by_cases c87 : (t377 == t381 && (t378 == t382 && (t379 == t383 && (t380 == t384)))) = true
                      · rw [if_pos c87] at H
                        have c87b0 : (t377 == t381 && (t378 == t382 && (t379 == t383 && (t380 == t384)))) = true := c87
                        (try (have c87b1 : decide (t377 = t381 && (t378 == t382 && (t379 == t383 && (t380 == t384)))) = true := by simpa using c87))
                        (try (have c87b2 : (t377 == t381 && (t378 == t382 && (t379 == t383 && (t380 == t384)))) = true := by simpa using c87))
                        clear c87
                        replace H := Option.bind_eq_some_iff.mp H
                        obtain ⟨t385, A880, H⟩ := H
                        replace H : ((tableauref08_Area.f kj37 l0).bind fun t386 => (if t385 = t386 then ((region_Has.f t334 a3 a4).bind fun t387 => ((tableauref08_Check.f kj37 l0).bind fun t388 => (if t388 = true then ((tableauref08_Has.f kj37 l0 a3 a4).bind fun t389 => (if (t387 == t389) = true then ((tableaulaw00_SameRects.f kj37 t334 l0).bind fun t390 => (if t390 = true then ((tableaulaw08_awake.f kj37).bind fun t391 => (some t391)) else (some false))) else (some false))) else (if (t387 == false) = true then ((tableaulaw00_SameRects.f kj37 t334 l0).bind fun t392 => (if t392 = true then ((tableaulaw08_awake.f kj37).bind fun t393 => (some t393)) else (some false))) else (some false))))) else (some false))) = some r := H
                        have A88 := Aside0.mk A880
                        clear A880
                        replace H := Option.bind_eq_some_iff.mp H
                        obtain ⟨t386, A890, H⟩ := H
                        replace H : (if t385 = t386 then ((region_Has.f t334 a3 a4).bind fun t387 => ((tableauref08_Check.f kj37 l0).bind fun t388 => (if t388 = true then ((tableauref08_Has.f kj37 l0 a3 a4).bind fun t389 => (if (t387 == t389) = true then ((tableaulaw00_SameRects.f kj37 t334 l0).bind fun t390 => (if t390 = true then ((tableaulaw08_awake.f kj37).bind fun t391 => (some t391)) else (some false))) else (some false))) else (if (t387 == false) = true then ((tableaulaw00_SameRects.f kj37 t334 l0).bind fun t392 => (if t392 = true then ((tableaulaw08_awake.f kj37).bind fun t393 => (some t393)) else (some false))) else (some false))))) else (some false)) = some r := H
                        have A89 := Aside0.mk A890
                        clear A890
                        by_cases c90 : t385 = t386
                        · rw [if_pos c90] at H
                          have c90b0 : (t385 == t386) = true := beq_iff_eq.mpr c90
                          have c90b1 : (t385 != t386) = false := bne_eq_false_iff_eq.mpr c90
                          clear c90
                          replace H := Option.bind_eq_some_iff.mp H
                          obtain ⟨t387, A910, H⟩ := H
                          replace H : ((tableauref08_Check.f kj37 l0).bind fun t388 => (if t388 = true then ((tableauref08_Has.f kj37 l0 a3 a4).bind fun t389 => (if (t387 == t389) = true then ((tableaulaw00_SameRects.f kj37 t334 l0).bind fun t390 => (if t390 = true then ((tableaulaw08_awake.f kj37).bind fun t391 => (some t391)) else (some false))) else (some false))) else (if (t387 == false) = true then ((tableaulaw00_SameRects.f kj37 t334 l0).bind fun t392 => (if t392 = true then ((tableaulaw08_awake.f kj37).bind fun t393 => (some t393)) else (some false))) else (some false)))) = some r := H
                          have A91 := Aside0.mk A910
                          clear A910
                          replace H := Option.bind_eq_some_iff.mp H
                          obtain ⟨t388, A920, H⟩ := H
                          replace H : (if t388 = true then ((tableauref08_Has.f kj37 l0 a3 a4).bind fun t389 => (if (t387 == t389) = true then ((tableaulaw00_SameRects.f kj37 t334 l0).bind fun t390 => (if t390 = true then ((tableaulaw08_awake.f kj37).bind fun t391 => (some t391)) else (some false))) else (some false))) else (if (t387 == false) = true then ((tableaulaw00_SameRects.f kj37 t334 l0).bind fun t392 => (if t392 = true then ((tableaulaw08_awake.f kj37).bind fun t393 => (some t393)) else (some false))) else (some false))) = some r := H
                          have A92 := Aside0.mk A920
                          clear A920
                          by_cases c93 : t388 = true
                          · subst c93
                            have H1 : ((tableauref08_Has.f kj37 l0 a3 a4).bind fun t389 => (if (t387 == t389) = true then ((tableaulaw00_SameRects.f kj37 t334 l0).bind fun t390 => (if t390 = true then ((tableaulaw08_awake.f kj37).bind fun t391 => (some t391)) else (some false))) else (some false))) = some r := by rw [if_pos rfl] at H; exact H
                            clear H
                            have H := H1
                            clear H1
                            replace H := Option.bind_eq_some_iff.mp H
                            obtain ⟨t389, A940, H⟩ := H
                            replace H : (if (t387 == t389) = true then ((tableaulaw00_SameRects.f kj37 t334 l0).bind fun t390 => (if t390 = true then ((tableaulaw08_awake.f kj37).bind fun t391 => (some t391)) else (some false))) else (some false)) = some r := H
                            have A94 := Aside0.mk A940
                            clear A940
                            by_cases c95 : (t387 == t389) = true
                            · rw [if_pos c95] at H
                              have c95b0 : (t387 == t389) = true := c95
                              (try (have c95b1 : decide (t387 = t389) = true := by simpa using c95))
                              (try (have c95b2 : (t387 == t389) = true := by simpa using c95))
                              clear c95
                              replace H := Option.bind_eq_some_iff.mp H
                              obtain ⟨t390, A960, H⟩ := H
                              replace H : (if t390 = true then ((tableaulaw08_awake.f kj37).bind fun t391 => (some t391)) else (some false)) = some r := H
                              have A96 := Aside0.mk A960
                              clear A960
                              by_cases c97 : t390 = true
                              · subst c97
                                have H1 : ((tableaulaw08_awake.f kj37).bind fun t391 => (some t391)) = some r := by rw [if_pos rfl] at H; exact H
                                clear H
                                have H := H1
                                clear H1
                                replace H := Option.bind_eq_some_iff.mp H
                                obtain ⟨t391, A980, H⟩ := H
                                replace H : (some t391) = some r := H
                                have A98 := Aside0.mk A980
                                clear A980
                                obtain rfl := Option.some.inj H
                                obtain ⟨Ao99, co99, eo99⟩ := Kd.R_slice HO_11.out
                                subst eo99
                                go_wp2_with (first | (go_at_call 29; (with_reducible refine (region_Shift.calls _ _ t334 a3 a4 t370 _ ?side1 ?side2 A81.out).mono ?_); (case side1 => repeat (first | exact (Kd.R_reads' HO_11.out).2.2 | (with_reducible refine Kd.C_alloc ?_ _) | (with_reducible refine Kd.C_drewN ?_ _) | (with_reducible refine Kd.C_drew ?_))); (case side2 => exact (Kd.R_reads' HO_11.out).2.1); rintro e w100 ⟨v371, rfl, ho0, hb⟩; have n0_ := Aside0.mk (Kd.R_elder' (by (with_reducible repeat (first | apply Kd.R_alloc | apply Kd.R_drewN | apply Kd.R_drew)); exact HO_11.out) (Kd.R_base ho0) hb); have n1_ := Aside0.mk (Kd.R_lower (Kd.R_newB (Kd.R_new' ho0 (Kd.R_lt (by (with_reducible repeat (first | apply Kd.R_alloc | apply Kd.R_drewN | apply Kd.R_drew)); exact HO_11.out))) (g := gb330) (o := .cells #[.int .i64 a2_0, .int .i64 a2_1, .int .i64 a2_2, .int .i64 a2_3] 23 (0, 0)) (by (with_reducible repeat (first | refine blk_drewN ?_ _ | refine blk_drew ?_ | refine blk_alloc ?_ _)); exact BK330.out)) (below_size (by repeat (first | (with_reducible first | exact HB.out | apply below_alloc | apply pw_below_drewN | apply below_drew1 | refine below_set ?_ GE330.out) | exact HB.out)))); have n2_ := Aside0.mk (blk_below (g := gb330) (o := .cells #[.int .i64 a2_0, .int .i64 a2_1, .int .i64 a2_2, .int .i64 a2_3] 23 (0, 0)) (by (with_reducible repeat (first | refine blk_drewN ?_ _ | refine blk_drew ?_ | refine blk_alloc ?_ _)); exact BK330.out) hb); have n3_ := Aside0.mk (below_step (by repeat (first | (with_reducible first | exact HB.out | apply below_alloc | apply pw_below_drewN | apply below_drew1 | refine below_set ?_ GE330.out) | exact HB.out)) hb); clear HO_11; clear BK330; clear HB; have HO_11 := n0_; have HO372 := n1_; have BK330 := n2_; have HB := n3_; clear n0_ n1_ n2_ n3_; (try clear hb); (try clear hb2); (try clear hk); (try clear hi); (try clear ho0)) | (go_at_call 38; (with_reducible refine (tableauref08_Shift.calls kj37 _ _ l0 a3 a4 t373 _ ?side1 ?side2 A82.out).mono ?_); (case side1 => repeat (first | exact (Kd.C_below HR0.out HB.out) | (with_reducible refine Kd.C_alloc ?_ _) | (with_reducible refine Kd.C_drewN ?_ _) | (with_reducible refine Kd.C_drew ?_))); (case side2 => exact HC0.out); rintro e w101 ⟨v374, rfl, ho0, hb⟩; have n0_ := Aside0.mk (Kd.R_elder' (by (with_reducible repeat (first | apply Kd.R_alloc | apply Kd.R_drewN | apply Kd.R_drew)); exact HO_11.out) (Kd.R_base ho0) hb); have n1_ := Aside0.mk (Kd.R_elder' (by (with_reducible repeat (first | apply Kd.R_alloc | apply Kd.R_drewN | apply Kd.R_drew)); exact HO372.out) (Kd.R_base ho0) hb); have n2_ := Aside0.mk (Kd.R_lower (Kd.R_newB (Kd.R_new' (Kd.R_new' ho0 (Kd.R_lt (by (with_reducible repeat (first | apply Kd.R_alloc | apply Kd.R_drewN | apply Kd.R_drew)); exact HO_11.out))) (Kd.R_lt (by (with_reducible repeat (first | apply Kd.R_alloc | apply Kd.R_drewN | apply Kd.R_drew)); exact HO372.out))) (g := gb330) (o := .cells #[.int .i64 a2_0, .int .i64 a2_1, .int .i64 a2_2, .int .i64 a2_3] 23 (0, 0)) (by (with_reducible repeat (first | refine blk_drewN ?_ _ | refine blk_drew ?_ | refine blk_alloc ?_ _)); exact BK330.out)) (below_size (by repeat (first | (with_reducible first | exact HB.out | apply below_alloc | apply pw_below_drewN | apply below_drew1 | refine below_set ?_ GE330.out) | exact HB.out)))); have n3_ := Aside0.mk (blk_below (g := gb330) (o := .cells #[.int .i64 a2_0, .int .i64 a2_1, .int .i64 a2_2, .int .i64 a2_3] 23 (0, 0)) (by (with_reducible repeat (first | refine blk_drewN ?_ _ | refine blk_drew ?_ | refine blk_alloc ?_ _)); exact BK330.out) hb); have n4_ := Aside0.mk (below_step (by repeat (first | (with_reducible first | exact HB.out | apply below_alloc | apply pw_below_drewN | apply below_drew1 | refine below_set ?_ GE330.out) | exact HB.out)) hb); clear HO_11; clear HO372; clear BK330; clear HB; have HO_11 := n0_; have HO372 := n1_; have HO375 := n2_; have BK330 := n3_; have HB := n4_; clear n0_ n1_ n2_ n3_ n4_; (try clear hb); (try clear hb2); (try clear hk); (try clear hi); (try clear ho0); obtain ⟨Ao102, co102, eo102⟩ := Kd.R_slice HO372.out; subst eo102; obtain ⟨Ao103, co103, eo103⟩ := Kd.R_slice HO375.out; subst eo103) | (go_at_call 20; (with_reducible refine (tableaulaw00_SameRects.calls kj37 _ _ t370 _ _ t373 true _ ?side1 ?side2 ?side3 ?side4 A83.out).mono ?_); (case side1 => repeat (first | exact (Kd.R_reads' HO372.out).2.2 | (with_reducible refine Kd.C_alloc ?_ _) | (with_reducible refine Kd.C_drewN ?_ _) | (with_reducible refine Kd.C_drew ?_))); (case side2 => exact (Kd.R_reads' HO372.out).2.1); (case side3 => repeat (first | exact (Kd.R_reads' HO375.out).2.2 | (with_reducible refine Kd.C_alloc ?_ _) | (with_reducible refine Kd.C_drewN ?_ _) | (with_reducible refine Kd.C_drew ?_))); (case side4 => exact (Kd.R_reads' HO375.out).2.1); rintro e w' ⟨rfl, ⟨nd, rfl⟩⟩) | (go_at_call 39; (with_reducible refine (region_Cover.calls kj37 _ _ t334 t377 t378 t379 t380 _ ?side1 ?side2 A85.out).mono ?_); (case side1 => repeat (first | exact (Kd.R_reads' HO_11.out).2.2 | (with_reducible refine Kd.C_alloc ?_ _) | (with_reducible refine Kd.C_drewN ?_ _) | (with_reducible refine Kd.C_drew ?_))); (case side2 => exact (Kd.R_reads' HO_11.out).2.1); rintro e w104 ⟨rfl, hb⟩; have n0_ := Aside0.mk (Kd.R_below (by (with_reducible repeat (first | apply Kd.R_alloc | apply Kd.R_drewN | apply Kd.R_drew)); exact HO_11.out) hb); have n1_ := Aside0.mk (Kd.R_below (by (with_reducible repeat (first | apply Kd.R_alloc | apply Kd.R_drewN | apply Kd.R_drew)); exact HO372.out) hb); have n2_ := Aside0.mk (Kd.R_below (by (with_reducible repeat (first | apply Kd.R_alloc | apply Kd.R_drewN | apply Kd.R_drew)); exact HO375.out) hb); have n3_ := Aside0.mk (blk_below (g := gb330) (o := .cells #[.int .i64 a2_0, .int .i64 a2_1, .int .i64 a2_2, .int .i64 a2_3] 23 (0, 0)) (by (with_reducible repeat (first | refine blk_drewN ?_ _ | refine blk_drew ?_ | refine blk_alloc ?_ _)); exact BK330.out) hb); have n4_ := Aside0.mk (below_step (by repeat (first | (with_reducible first | exact HB.out | apply below_alloc | apply pw_below_drewN | apply below_drew1 | refine below_set ?_ GE330.out) | exact HB.out)) hb); clear HO_11; clear HO372; clear HO375; clear BK330; clear HB; have HO_11 := n0_; have HO372 := n1_; have HO375 := n2_; have BK330 := n3_; have HB := n4_; clear n0_ n1_ n2_ n3_ n4_; (try clear hb); (try clear hb2); (try clear hk); (try clear hi)) | (go_at_call 40; (with_reducible refine (tableauref08_Cover.calls kj37 _ _ l0 t381 t382 t383 t384 _ ?side1 ?side2 A86.out).mono ?_); (case side1 => repeat (first | exact (Kd.C_below HR0.out HB.out) | (with_reducible refine Kd.C_alloc ?_ _) | (with_reducible refine Kd.C_drewN ?_ _) | (with_reducible refine Kd.C_drew ?_))); (case side2 => exact HC0.out); rintro e w105 ⟨rfl, hb⟩; have n0_ := Aside0.mk (Kd.R_below (by (with_reducible repeat (first | apply Kd.R_alloc | apply Kd.R_drewN | apply Kd.R_drew)); exact HO_11.out) hb); have n1_ := Aside0.mk (Kd.R_below (by (with_reducible repeat (first | apply Kd.R_alloc | apply Kd.R_drewN | apply Kd.R_drew)); exact HO372.out) hb); have n2_ := Aside0.mk (Kd.R_below (by (with_reducible repeat (first | apply Kd.R_alloc | apply Kd.R_drewN | apply Kd.R_drew)); exact HO375.out) hb); have n3_ := Aside0.mk (blk_below (g := gb330) (o := .cells #[.int .i64 a2_0, .int .i64 a2_1, .int .i64 a2_2, .int .i64 a2_3] 23 (0, 0)) (by (with_reducible repeat (first | refine blk_drewN ?_ _ | refine blk_drew ?_ | refine blk_alloc ?_ _)); exact BK330.out) hb); have n4_ := Aside0.mk (below_step (by repeat (first | (with_reducible first | exact HB.out | apply below_alloc | apply pw_below_drewN | apply below_drew1 | refine below_set ?_ GE330.out) | exact HB.out)) hb); clear HO_11; clear HO372; clear HO375; clear BK330; clear HB; have HO_11 := n0_; have HO372 := n1_; have HO375 := n2_; have BK330 := n3_; have HB := n4_; clear n0_ n1_ n2_ n3_ n4_; (try clear hb); (try clear hb2); (try clear hk); (try clear hi)) | (go_at_call 21; (with_reducible refine (region_Area.calls kj37 _ _ t334 t385 _ ?side1 ?side2 A88.out).mono ?_); (case side1 => repeat (first | exact (Kd.R_reads' HO_11.out).2.2 | (with_reducible refine Kd.C_alloc ?_ _) | (with_reducible refine Kd.C_drewN ?_ _) | (with_reducible refine Kd.C_drew ?_))); (case side2 => exact (Kd.R_reads' HO_11.out).2.1); rintro e w106 ⟨rfl, hb⟩; have n0_ := Aside0.mk (Kd.R_below (by (with_reducible repeat (first | apply Kd.R_alloc | apply Kd.R_drewN | apply Kd.R_drew)); exact HO_11.out) hb); have n1_ := Aside0.mk (Kd.R_below (by (with_reducible repeat (first | apply Kd.R_alloc | apply Kd.R_drewN | apply Kd.R_drew)); exact HO372.out) hb); have n2_ := Aside0.mk (Kd.R_below (by (with_reducible repeat (first | apply Kd.R_alloc | apply Kd.R_drewN | apply Kd.R_drew)); exact HO375.out) hb); have n3_ := Aside0.mk (blk_below (g := gb330) (o := .cells #[.int .i64 a2_0, .int .i64 a2_1, .int .i64 a2_2, .int .i64 a2_3] 23 (0, 0)) (by (with_reducible repeat (first | refine blk_drewN ?_ _ | refine blk_drew ?_ | refine blk_alloc ?_ _)); exact BK330.out) hb); have n4_ := Aside0.mk (below_step (by repeat (first | (with_reducible first | exact HB.out | apply below_alloc | apply pw_below_drewN | apply below_drew1 | refine below_set ?_ GE330.out) | exact HB.out)) hb); clear HO_11; clear HO372; clear HO375; clear BK330; clear HB; have HO_11 := n0_; have HO372 := n1_; have HO375 := n2_; have BK330 := n3_; have HB := n4_; clear n0_ n1_ n2_ n3_ n4_; (try clear hb); (try clear hb2); (try clear hk); (try clear hi)) | (go_at_call 41; (with_reducible refine (tableauref08_Area.calls kj37 _ _ l0 t386 _ ?side1 ?side2 A89.out).mono ?_); (case side1 => repeat (first | exact (Kd.C_below HR0.out HB.out) | (with_reducible refine Kd.C_alloc ?_ _) | (with_reducible refine Kd.C_drewN ?_ _) | (with_reducible refine Kd.C_drew ?_))); (case side2 => exact HC0.out); rintro e w107 ⟨rfl, hb⟩; have n0_ := Aside0.mk (Kd.R_below (by (with_reducible repeat (first | apply Kd.R_alloc | apply Kd.R_drewN | apply Kd.R_drew)); exact HO_11.out) hb); have n1_ := Aside0.mk (Kd.R_below (by (with_reducible repeat (first | apply Kd.R_alloc | apply Kd.R_drewN | apply Kd.R_drew)); exact HO372.out) hb); have n2_ := Aside0.mk (Kd.R_below (by (with_reducible repeat (first | apply Kd.R_alloc | apply Kd.R_drewN | apply Kd.R_drew)); exact HO375.out) hb); have n3_ := Aside0.mk (blk_below (g := gb330) (o := .cells #[.int .i64 a2_0, .int .i64 a2_1, .int .i64 a2_2, .int .i64 a2_3] 23 (0, 0)) (by (with_reducible repeat (first | refine blk_drewN ?_ _ | refine blk_drew ?_ | refine blk_alloc ?_ _)); exact BK330.out) hb); have n4_ := Aside0.mk (below_step (by repeat (first | (with_reducible first | exact HB.out | apply below_alloc | apply pw_below_drewN | apply below_drew1 | refine below_set ?_ GE330.out) | exact HB.out)) hb); clear HO_11; clear HO372; clear HO375; clear BK330; clear HB; have HO_11 := n0_; have HO372 := n1_; have HO375 := n2_; have BK330 := n3_; have HB := n4_; clear n0_ n1_ n2_ n3_ n4_; (try clear hb); (try clear hb2); (try clear hk); (try clear hi)) | (go_at_call 19; (with_reducible refine (region_Has.calls _ _ t334 a3 a4 t387 _ ?side1 ?side2 A91.out).mono ?_); (case side1 => repeat (first | exact (Kd.R_reads' HO_11.out).2.2 | (with_reducible refine Kd.C_alloc ?_ _) | (with_reducible refine Kd.C_drewN ?_ _) | (with_reducible refine Kd.C_drew ?_))); (case side2 => exact (Kd.R_reads' HO_11.out).2.1); rintro e w108 ⟨rfl, hb⟩; have n0_ := Aside0.mk (Kd.R_below (by (with_reducible repeat (first | apply Kd.R_alloc | apply Kd.R_drewN | apply Kd.R_drew)); exact HO_11.out) hb); have n1_ := Aside0.mk (Kd.R_below (by (with_reducible repeat (first | apply Kd.R_alloc | apply Kd.R_drewN | apply Kd.R_drew)); exact HO372.out) hb); have n2_ := Aside0.mk (Kd.R_below (by (with_reducible repeat (first | apply Kd.R_alloc | apply Kd.R_drewN | apply Kd.R_drew)); exact HO375.out) hb); have n3_ := Aside0.mk (blk_below (g := gb330) (o := .cells #[.int .i64 a2_0, .int .i64 a2_1, .int .i64 a2_2, .int .i64 a2_3] 23 (0, 0)) (by (with_reducible repeat (first | refine blk_drewN ?_ _ | refine blk_drew ?_ | refine blk_alloc ?_ _)); exact BK330.out) hb); have n4_ := Aside0.mk (below_step (by repeat (first | (with_reducible first | exact HB.out | apply below_alloc | apply pw_below_drewN | apply below_drew1 | refine below_set ?_ GE330.out) | exact HB.out)) hb); clear HO_11; clear HO372; clear HO375; clear BK330; clear HB; have HO_11 := n0_; have HO372 := n1_; have HO375 := n2_; have BK330 := n3_; have HB := n4_; clear n0_ n1_ n2_ n3_ n4_; (try clear hb); (try clear hb2); (try clear hk); (try clear hi)) | (go_at_call 35; (with_reducible refine (tableauref08_Check.calls kj37 _ _ l0 true _ ?side1 ?side2 A92.out).mono ?_); (case side1 => repeat (first | exact (Kd.C_below HR0.out HB.out) | (with_reducible refine Kd.C_alloc ?_ _) | (with_reducible refine Kd.C_drewN ?_ _) | (with_reducible refine Kd.C_drew ?_))); (case side2 => exact HC0.out); rintro e w109 ⟨rfl, hb⟩; have n0_ := Aside0.mk (Kd.R_below (by (with_reducible repeat (first | apply Kd.R_alloc | apply Kd.R_drewN | apply Kd.R_drew)); exact HO_11.out) hb); have n1_ := Aside0.mk (Kd.R_below (by (with_reducible repeat (first | apply Kd.R_alloc | apply Kd.R_drewN | apply Kd.R_drew)); exact HO372.out) hb); have n2_ := Aside0.mk (Kd.R_below (by (with_reducible repeat (first | apply Kd.R_alloc | apply Kd.R_drewN | apply Kd.R_drew)); exact HO375.out) hb); have n3_ := Aside0.mk (blk_below (g := gb330) (o := .cells #[.int .i64 a2_0, .int .i64 a2_1, .int .i64 a2_2, .int .i64 a2_3] 23 (0, 0)) (by (with_reducible repeat (first | refine blk_drewN ?_ _ | refine blk_drew ?_ | refine blk_alloc ?_ _)); exact BK330.out) hb); have n4_ := Aside0.mk (below_step (by repeat (first | (with_reducible first | exact HB.out | apply below_alloc | apply pw_below_drewN | apply below_drew1 | refine below_set ?_ GE330.out) | exact HB.out)) hb); clear HO_11; clear HO372; clear HO375; clear BK330; clear HB; have HO_11 := n0_; have HO372 := n1_; have HO375 := n2_; have BK330 := n3_; have HB := n4_; clear n0_ n1_ n2_ n3_ n4_; (try clear hb); (try clear hb2); (try clear hk); (try clear hi)) | (go_at_call 26; (with_reducible refine (tableauref08_Has.calls kj37 _ _ l0 a3 a4 t389 _ ?side1 ?side2 A94.out).mono ?_); (case side1 => repeat (first | exact (Kd.C_below HR0.out HB.out) | (with_reducible refine Kd.C_alloc ?_ _) | (with_reducible refine Kd.C_drewN ?_ _) | (with_reducible refine Kd.C_drew ?_))); (case side2 => exact HC0.out); rintro e w110 ⟨rfl, hb⟩; have n0_ := Aside0.mk (Kd.R_below (by (with_reducible repeat (first | apply Kd.R_alloc | apply Kd.R_drewN | apply Kd.R_drew)); exact HO_11.out) hb); have n1_ := Aside0.mk (Kd.R_below (by (with_reducible repeat (first | apply Kd.R_alloc | apply Kd.R_drewN | apply Kd.R_drew)); exact HO372.out) hb); have n2_ := Aside0.mk (Kd.R_below (by (with_reducible repeat (first | apply Kd.R_alloc | apply Kd.R_drewN | apply Kd.R_drew)); exact HO375.out) hb); have n3_ := Aside0.mk (blk_below (g := gb330) (o := .cells #[.int .i64 a2_0, .int .i64 a2_1, .int .i64 a2_2, .int .i64 a2_3] 23 (0, 0)) (by (with_reducible repeat (first | refine blk_drewN ?_ _ | refine blk_drew ?_ | refine blk_alloc ?_ _)); exact BK330.out) hb); have n4_ := Aside0.mk (below_step (by repeat (first | (with_reducible first | exact HB.out | apply below_alloc | apply pw_below_drewN | apply below_drew1 | refine below_set ?_ GE330.out) | exact HB.out)) hb); clear HO_11; clear HO372; clear HO375; clear BK330; clear HB; have HO_11 := n0_; have HO372 := n1_; have HO375 := n2_; have BK330 := n3_; have HB := n4_; clear n0_ n1_ n2_ n3_ n4_; (try clear hb); (try clear hb2); (try clear hk); (try clear hi)) | (go_at_call 20; (with_reducible refine (tableaulaw00_SameRects.calls kj37 _ _ t334 _ _ l0 true _ ?side1 ?side2 ?side3 ?side4 A96.out).mono ?_); (case side1 => repeat (first | exact (Kd.R_reads' HO_11.out).2.2 | (with_reducible refine Kd.C_alloc ?_ _) | (with_reducible refine Kd.C_drewN ?_ _) | (with_reducible refine Kd.C_drew ?_))); (case side2 => exact (Kd.R_reads' HO_11.out).2.1); (case side3 => repeat (first | exact (Kd.C_below HR0.out HB.out) | (with_reducible refine Kd.C_alloc ?_ _) | (with_reducible refine Kd.C_drewN ?_ _) | (with_reducible refine Kd.C_drew ?_))); (case side4 => exact HC0.out); rintro e w' ⟨rfl, ⟨nd, rfl⟩⟩) | (go_at_call 17; (with_reducible refine (tableaulaw08_awake.calls kj37  t391 _ A98.out).mono ?_); rintro e w111 ⟨rfl, hb⟩; have n0_ := Aside0.mk (Kd.R_below (by (with_reducible repeat (first | apply Kd.R_alloc | apply Kd.R_drewN | apply Kd.R_drew)); exact HO_11.out) hb); have n1_ := Aside0.mk (Kd.R_below (by (with_reducible repeat (first | apply Kd.R_alloc | apply Kd.R_drewN | apply Kd.R_drew)); exact HO372.out) hb); have n2_ := Aside0.mk (Kd.R_below (by (with_reducible repeat (first | apply Kd.R_alloc | apply Kd.R_drewN | apply Kd.R_drew)); exact HO375.out) hb); have n3_ := Aside0.mk (blk_below (g := gb330) (o := .cells #[.int .i64 a2_0, .int .i64 a2_1, .int .i64 a2_2, .int .i64 a2_3] 23 (0, 0)) (by (with_reducible repeat (first | refine blk_drewN ?_ _ | refine blk_drew ?_ | refine blk_alloc ?_ _)); exact BK330.out) hb); have n4_ := Aside0.mk (below_step (by repeat (first | (with_reducible first | exact HB.out | apply below_alloc | apply pw_below_drewN | apply below_drew1 | refine below_set ?_ GE330.out) | exact HB.out)) hb); clear HO_11; clear HO372; clear HO375; clear BK330; clear HB; have HO_11 := n0_; have HO372 := n1_; have HO375 := n2_; have BK330 := n3_; have HB := n4_; clear n0_ n1_ n2_ n3_ n4_; (try clear hb); (try clear hb2); (try clear hk); (try clear hi)))
                                go_ret
                                exact ⟨by first | rfl | (simp [errW_none, errW_some] <;> rfl) | (simp [*, errW_none, errW_some] <;> rfl), by repeat (first | (with_reducible first | exact HB.out | apply below_alloc | apply pw_below_drewN | apply below_drew1 | refine below_set ?_ GE330.out) | exact HB.out)⟩
                              · replace c97 := Bool.eq_false_iff.mpr c97
                                subst c97
                                have H1 : (some false) = some r := by rw [if_neg (show ¬ (false = true) by decide)] at H; exact H
                                clear H
                                have H := H1
                                clear H1
                                exact absurd H (by rw [HT.out]; simp)
                            · rw [if_neg c95] at H
                              have c95b0 : (t387 == t389) = false := by simpa using c95
                              (try (have c95b1 : decide (t387 = t389) = false := by simpa using c95))
                              (try (have c95b2 : (t387 == t389) = false := by simpa using c95))
                              (try (have c95b3 : ¬ (t387 = t389) := by simpa using c95))
                              clear c95
                              exact absurd H (by rw [HT.out]; simp)
                          · replace c93 := Bool.eq_false_iff.mpr c93
                            subst c93
                            have H1 : (if (t387 == false) = true then ((tableaulaw00_SameRects.f kj37 t334 l0).bind fun t392 => (if t392 = true then ((tableaulaw08_awake.f kj37).bind fun t393 => (some t393)) else (some false))) else (some false)) = some r := by rw [if_neg (show ¬ (false = true) by decide)] at H; exact H
                            clear H
                            have H := H1
                            clear H1
                            by_cases c112 : (t387 == false) = true
                            · rw [if_pos c112] at H
                              have c112b0 : (t387 == false) = true := c112
                              (try (have c112b1 : decide (t387 = false) = true := by simpa using c112))
                              (try (have c112b2 : (t387 == false) = true := by simpa using c112))
                              clear c112
                              replace H := Option.bind_eq_some_iff.mp H
                              obtain ⟨t392, A1130, H⟩ := H
                              replace H : (if t392 = true then ((tableaulaw08_awake.f kj37).bind fun t393 => (some t393)) else (some false)) = some r := H
                              have A113 := Aside0.mk A1130
                              clear A1130
                              by_cases c114 : t392 = true
                              · subst c114
                                have H1 : ((tableaulaw08_awake.f kj37).bind fun t393 => (some t393)) = some r := by rw [if_pos rfl] at H; exact H
                                clear H
                                have H := H1
                                clear H1
                                replace H := Option.bind_eq_some_iff.mp H
                                obtain ⟨t393, A1150, H⟩ := H
                                replace H : (some t393) = some r := H
                                have A115 := Aside0.mk A1150
                                clear A1150
                                obtain rfl := Option.some.inj H
                                obtain ⟨Ao116, co116, eo116⟩ := Kd.R_slice HO_11.out
                                subst eo116
                                go_wp2_with (first | (go_at_call 29; (with_reducible refine (region_Shift.calls _ _ t334 a3 a4 t370 _ ?side1 ?side2 A81.out).mono ?_); (case side1 => repeat (first | exact (Kd.R_reads' HO_11.out).2.2 | (with_reducible refine Kd.C_alloc ?_ _) | (with_reducible refine Kd.C_drewN ?_ _) | (with_reducible refine Kd.C_drew ?_))); (case side2 => exact (Kd.R_reads' HO_11.out).2.1); rintro e w117 ⟨v371, rfl, ho0, hb⟩; have n0_ := Aside0.mk (Kd.R_elder' (by (with_reducible repeat (first | apply Kd.R_alloc | apply Kd.R_drewN | apply Kd.R_drew)); exact HO_11.out) (Kd.R_base ho0) hb); have n1_ := Aside0.mk (Kd.R_lower (Kd.R_newB (Kd.R_new' ho0 (Kd.R_lt (by (with_reducible repeat (first | apply Kd.R_alloc | apply Kd.R_drewN | apply Kd.R_drew)); exact HO_11.out))) (g := gb330) (o := .cells #[.int .i64 a2_0, .int .i64 a2_1, .int .i64 a2_2, .int .i64 a2_3] 23 (0, 0)) (by (with_reducible repeat (first | refine blk_drewN ?_ _ | refine blk_drew ?_ | refine blk_alloc ?_ _)); exact BK330.out)) (below_size (by repeat (first | (with_reducible first | exact HB.out | apply below_alloc | apply pw_below_drewN | apply below_drew1 | refine below_set ?_ GE330.out) | exact HB.out)))); have n2_ := Aside0.mk (blk_below (g := gb330) (o := .cells #[.int .i64 a2_0, .int .i64 a2_1, .int .i64 a2_2, .int .i64 a2_3] 23 (0, 0)) (by (with_reducible repeat (first | refine blk_drewN ?_ _ | refine blk_drew ?_ | refine blk_alloc ?_ _)); exact BK330.out) hb); have n3_ := Aside0.mk (below_step (by repeat (first | (with_reducible first | exact HB.out | apply below_alloc | apply pw_below_drewN | apply below_drew1 | refine below_set ?_ GE330.out) | exact HB.out)) hb); clear HO_11; clear BK330; clear HB; have HO_11 := n0_; have HO372 := n1_; have BK330 := n2_; have HB := n3_; clear n0_ n1_ n2_ n3_; (try clear hb); (try clear hb2); (try clear hk); (try clear hi); (try clear ho0)) | (go_at_call 38; (with_reducible refine (tableauref08_Shift.calls kj37 _ _ l0 a3 a4 t373 _ ?side1 ?side2 A82.out).mono ?_); (case side1 => repeat (first | exact (Kd.C_below HR0.out HB.out) | (with_reducible refine Kd.C_alloc ?_ _) | (with_reducible refine Kd.C_drewN ?_ _) | (with_reducible refine Kd.C_drew ?_))); (case side2 => exact HC0.out); rintro e w118 ⟨v374, rfl, ho0, hb⟩; have n0_ := Aside0.mk (Kd.R_elder' (by (with_reducible repeat (first | apply Kd.R_alloc | apply Kd.R_drewN | apply Kd.R_drew)); exact HO_11.out) (Kd.R_base ho0) hb); have n1_ := Aside0.mk (Kd.R_elder' (by (with_reducible repeat (first | apply Kd.R_alloc | apply Kd.R_drewN | apply Kd.R_drew)); exact HO372.out) (Kd.R_base ho0) hb); have n2_ := Aside0.mk (Kd.R_lower (Kd.R_newB (Kd.R_new' (Kd.R_new' ho0 (Kd.R_lt (by (with_reducible repeat (first | apply Kd.R_alloc | apply Kd.R_drewN | apply Kd.R_drew)); exact HO_11.out))) (Kd.R_lt (by (with_reducible repeat (first | apply Kd.R_alloc | apply Kd.R_drewN | apply Kd.R_drew)); exact HO372.out))) (g := gb330) (o := .cells #[.int .i64 a2_0, .int .i64 a2_1, .int .i64 a2_2, .int .i64 a2_3] 23 (0, 0)) (by (with_reducible repeat (first | refine blk_drewN ?_ _ | refine blk_drew ?_ | refine blk_alloc ?_ _)); exact BK330.out)) (below_size (by repeat (first | (with_reducible first | exact HB.out | apply below_alloc | apply pw_below_drewN | apply below_drew1 | refine below_set ?_ GE330.out) | exact HB.out)))); have n3_ := Aside0.mk (blk_below (g := gb330) (o := .cells #[.int .i64 a2_0, .int .i64 a2_1, .int .i64 a2_2, .int .i64 a2_3] 23 (0, 0)) (by (with_reducible repeat (first | refine blk_drewN ?_ _ | refine blk_drew ?_ | refine blk_alloc ?_ _)); exact BK330.out) hb); have n4_ := Aside0.mk (below_step (by repeat (first | (with_reducible first | exact HB.out | apply below_alloc | apply pw_below_drewN | apply below_drew1 | refine below_set ?_ GE330.out) | exact HB.out)) hb); clear HO_11; clear HO372; clear BK330; clear HB; have HO_11 := n0_; have HO372 := n1_; have HO375 := n2_; have BK330 := n3_; have HB := n4_; clear n0_ n1_ n2_ n3_ n4_; (try clear hb); (try clear hb2); (try clear hk); (try clear hi); (try clear ho0); obtain ⟨Ao119, co119, eo119⟩ := Kd.R_slice HO372.out; subst eo119; obtain ⟨Ao120, co120, eo120⟩ := Kd.R_slice HO375.out; subst eo120) | (go_at_call 20; (with_reducible refine (tableaulaw00_SameRects.calls kj37 _ _ t370 _ _ t373 true _ ?side1 ?side2 ?side3 ?side4 A83.out).mono ?_); (case side1 => repeat (first | exact (Kd.R_reads' HO372.out).2.2 | (with_reducible refine Kd.C_alloc ?_ _) | (with_reducible refine Kd.C_drewN ?_ _) | (with_reducible refine Kd.C_drew ?_))); (case side2 => exact (Kd.R_reads' HO372.out).2.1); (case side3 => repeat (first | exact (Kd.R_reads' HO375.out).2.2 | (with_reducible refine Kd.C_alloc ?_ _) | (with_reducible refine Kd.C_drewN ?_ _) | (with_reducible refine Kd.C_drew ?_))); (case side4 => exact (Kd.R_reads' HO375.out).2.1); rintro e w' ⟨rfl, ⟨nd, rfl⟩⟩) | (go_at_call 39; (with_reducible refine (region_Cover.calls kj37 _ _ t334 t377 t378 t379 t380 _ ?side1 ?side2 A85.out).mono ?_); (case side1 => repeat (first | exact (Kd.R_reads' HO_11.out).2.2 | (with_reducible refine Kd.C_alloc ?_ _) | (with_reducible refine Kd.C_drewN ?_ _) | (with_reducible refine Kd.C_drew ?_))); (case side2 => exact (Kd.R_reads' HO_11.out).2.1); rintro e w121 ⟨rfl, hb⟩; have n0_ := Aside0.mk (Kd.R_below (by (with_reducible repeat (first | apply Kd.R_alloc | apply Kd.R_drewN | apply Kd.R_drew)); exact HO_11.out) hb); have n1_ := Aside0.mk (Kd.R_below (by (with_reducible repeat (first | apply Kd.R_alloc | apply Kd.R_drewN | apply Kd.R_drew)); exact HO372.out) hb); have n2_ := Aside0.mk (Kd.R_below (by (with_reducible repeat (first | apply Kd.R_alloc | apply Kd.R_drewN | apply Kd.R_drew)); exact HO375.out) hb); have n3_ := Aside0.mk (blk_below (g := gb330) (o := .cells #[.int .i64 a2_0, .int .i64 a2_1, .int .i64 a2_2, .int .i64 a2_3] 23 (0, 0)) (by (with_reducible repeat (first | refine blk_drewN ?_ _ | refine blk_drew ?_ | refine blk_alloc ?_ _)); exact BK330.out) hb); have n4_ := Aside0.mk (below_step (by repeat (first | (with_reducible first | exact HB.out | apply below_alloc | apply pw_below_drewN | apply below_drew1 | refine below_set ?_ GE330.out) | exact HB.out)) hb); clear HO_11; clear HO372; clear HO375; clear BK330; clear HB; have HO_11 := n0_; have HO372 := n1_; have HO375 := n2_; have BK330 := n3_; have HB := n4_; clear n0_ n1_ n2_ n3_ n4_; (try clear hb); (try clear hb2); (try clear hk); (try clear hi)) | (go_at_call 40; (with_reducible refine (tableauref08_Cover.calls kj37 _ _ l0 t381 t382 t383 t384 _ ?side1 ?side2 A86.out).mono ?_); (case side1 => repeat (first | exact (Kd.C_below HR0.out HB.out) | (with_reducible refine Kd.C_alloc ?_ _) | (with_reducible refine Kd.C_drewN ?_ _) | (with_reducible refine Kd.C_drew ?_))); (case side2 => exact HC0.out); rintro e w122 ⟨rfl, hb⟩; have n0_ := Aside0.mk (Kd.R_below (by (with_reducible repeat (first | apply Kd.R_alloc | apply Kd.R_drewN | apply Kd.R_drew)); exact HO_11.out) hb); have n1_ := Aside0.mk (Kd.R_below (by (with_reducible repeat (first | apply Kd.R_alloc | apply Kd.R_drewN | apply Kd.R_drew)); exact HO372.out) hb); have n2_ := Aside0.mk (Kd.R_below (by (with_reducible repeat (first | apply Kd.R_alloc | apply Kd.R_drewN | apply Kd.R_drew)); exact HO375.out) hb); have n3_ := Aside0.mk (blk_below (g := gb330) (o := .cells #[.int .i64 a2_0, .int .i64 a2_1, .int .i64 a2_2, .int .i64 a2_3] 23 (0, 0)) (by (with_reducible repeat (first | refine blk_drewN ?_ _ | refine blk_drew ?_ | refine blk_alloc ?_ _)); exact BK330.out) hb); have n4_ := Aside0.mk (below_step (by repeat (first | (with_reducible first | exact HB.out | apply below_alloc | apply pw_below_drewN | apply below_drew1 | refine below_set ?_ GE330.out) | exact HB.out)) hb); clear HO_11; clear HO372; clear HO375; clear BK330; clear HB; have HO_11 := n0_; have HO372 := n1_; have HO375 := n2_; have BK330 := n3_; have HB := n4_; clear n0_ n1_ n2_ n3_ n4_; (try clear hb); (try clear hb2); (try clear hk); (try clear hi)) | (go_at_call 21; (with_reducible refine (region_Area.calls kj37 _ _ t334 t385 _ ?side1 ?side2 A88.out).mono ?_); (case side1 => repeat (first | exact (Kd.R_reads' HO_11.out).2.2 | (with_reducible refine Kd.C_alloc ?_ _) | (with_reducible refine Kd.C_drewN ?_ _) | (with_reducible refine Kd.C_drew ?_))); (case side2 => exact (Kd.R_reads' HO_11.out).2.1); rintro e w123 ⟨rfl, hb⟩; have n0_ := Aside0.mk (Kd.R_below (by (with_reducible repeat (first | apply Kd.R_alloc | apply Kd.R_drewN | apply Kd.R_drew)); exact HO_11.out) hb); have n1_ := Aside0.mk (Kd.R_below (by (with_reducible repeat (first | apply Kd.R_alloc | apply Kd.R_drewN | apply Kd.R_drew)); exact HO372.out) hb); have n2_ := Aside0.mk (Kd.R_below (by (with_reducible repeat (first | apply Kd.R_alloc | apply Kd.R_drewN | apply Kd.R_drew)); exact HO375.out) hb); have n3_ := Aside0.mk (blk_below (g := gb330) (o := .cells #[.int .i64 a2_0, .int .i64 a2_1, .int .i64 a2_2, .int .i64 a2_3] 23 (0, 0)) (by (with_reducible repeat (first | refine blk_drewN ?_ _ | refine blk_drew ?_ | refine blk_alloc ?_ _)); exact BK330.out) hb); have n4_ := Aside0.mk (below_step (by repeat (first | (with_reducible first | exact HB.out | apply below_alloc | apply pw_below_drewN | apply below_drew1 | refine below_set ?_ GE330.out) | exact HB.out)) hb); clear HO_11; clear HO372; clear HO375; clear BK330; clear HB; have HO_11 := n0_; have HO372 := n1_; have HO375 := n2_; have BK330 := n3_; have HB := n4_; clear n0_ n1_ n2_ n3_ n4_; (try clear hb); (try clear hb2); (try clear hk); (try clear hi)) | (go_at_call 41; (with_reducible refine (tableauref08_Area.calls kj37 _ _ l0 t386 _ ?side1 ?side2 A89.out).mono ?_); (case side1 => repeat (first | exact (Kd.C_below HR0.out HB.out) | (with_reducible refine Kd.C_alloc ?_ _) | (with_reducible refine Kd.C_drewN ?_ _) | (with_reducible refine Kd.C_drew ?_))); (case side2 => exact HC0.out); rintro e w124 ⟨rfl, hb⟩; have n0_ := Aside0.mk (Kd.R_below (by (with_reducible repeat (first | apply Kd.R_alloc | apply Kd.R_drewN | apply Kd.R_drew)); exact HO_11.out) hb); have n1_ := Aside0.mk (Kd.R_below (by (with_reducible repeat (first | apply Kd.R_alloc | apply Kd.R_drewN | apply Kd.R_drew)); exact HO372.out) hb); have n2_ := Aside0.mk (Kd.R_below (by (with_reducible repeat (first | apply Kd.R_alloc | apply Kd.R_drewN | apply Kd.R_drew)); exact HO375.out) hb); have n3_ := Aside0.mk (blk_below (g := gb330) (o := .cells #[.int .i64 a2_0, .int .i64 a2_1, .int .i64 a2_2, .int .i64 a2_3] 23 (0, 0)) (by (with_reducible repeat (first | refine blk_drewN ?_ _ | refine blk_drew ?_ | refine blk_alloc ?_ _)); exact BK330.out) hb); have n4_ := Aside0.mk (below_step (by repeat (first | (with_reducible first | exact HB.out | apply below_alloc | apply pw_below_drewN | apply below_drew1 | refine below_set ?_ GE330.out) | exact HB.out)) hb); clear HO_11; clear HO372; clear HO375; clear BK330; clear HB; have HO_11 := n0_; have HO372 := n1_; have HO375 := n2_; have BK330 := n3_; have HB := n4_; clear n0_ n1_ n2_ n3_ n4_; (try clear hb); (try clear hb2); (try clear hk); (try clear hi)) | (go_at_call 19; (with_reducible refine (region_Has.calls _ _ t334 a3 a4 t387 _ ?side1 ?side2 A91.out).mono ?_); (case side1 => repeat (first | exact (Kd.R_reads' HO_11.out).2.2 | (with_reducible refine Kd.C_alloc ?_ _) | (with_reducible refine Kd.C_drewN ?_ _) | (with_reducible refine Kd.C_drew ?_))); (case side2 => exact (Kd.R_reads' HO_11.out).2.1); rintro e w125 ⟨rfl, hb⟩; have n0_ := Aside0.mk (Kd.R_below (by (with_reducible repeat (first | apply Kd.R_alloc | apply Kd.R_drewN | apply Kd.R_drew)); exact HO_11.out) hb); have n1_ := Aside0.mk (Kd.R_below (by (with_reducible repeat (first | apply Kd.R_alloc | apply Kd.R_drewN | apply Kd.R_drew)); exact HO372.out) hb); have n2_ := Aside0.mk (Kd.R_below (by (with_reducible repeat (first | apply Kd.R_alloc | apply Kd.R_drewN | apply Kd.R_drew)); exact HO375.out) hb); have n3_ := Aside0.mk (blk_below (g := gb330) (o := .cells #[.int .i64 a2_0, .int .i64 a2_1, .int .i64 a2_2, .int .i64 a2_3] 23 (0, 0)) (by (with_reducible repeat (first | refine blk_drewN ?_ _ | refine blk_drew ?_ | refine blk_alloc ?_ _)); exact BK330.out) hb); have n4_ := Aside0.mk (below_step (by repeat (first | (with_reducible first | exact HB.out | apply below_alloc | apply pw_below_drewN | apply below_drew1 | refine below_set ?_ GE330.out) | exact HB.out)) hb); clear HO_11; clear HO372; clear HO375; clear BK330; clear HB; have HO_11 := n0_; have HO372 := n1_; have HO375 := n2_; have BK330 := n3_; have HB := n4_; clear n0_ n1_ n2_ n3_ n4_; (try clear hb); (try clear hb2); (try clear hk); (try clear hi)) | (go_at_call 35; (with_reducible refine (tableauref08_Check.calls kj37 _ _ l0 false _ ?side1 ?side2 A92.out).mono ?_); (case side1 => repeat (first | exact (Kd.C_below HR0.out HB.out) | (with_reducible refine Kd.C_alloc ?_ _) | (with_reducible refine Kd.C_drewN ?_ _) | (with_reducible refine Kd.C_drew ?_))); (case side2 => exact HC0.out); rintro e w126 ⟨rfl, hb⟩; have n0_ := Aside0.mk (Kd.R_below (by (with_reducible repeat (first | apply Kd.R_alloc | apply Kd.R_drewN | apply Kd.R_drew)); exact HO_11.out) hb); have n1_ := Aside0.mk (Kd.R_below (by (with_reducible repeat (first | apply Kd.R_alloc | apply Kd.R_drewN | apply Kd.R_drew)); exact HO372.out) hb); have n2_ := Aside0.mk (Kd.R_below (by (with_reducible repeat (first | apply Kd.R_alloc | apply Kd.R_drewN | apply Kd.R_drew)); exact HO375.out) hb); have n3_ := Aside0.mk (blk_below (g := gb330) (o := .cells #[.int .i64 a2_0, .int .i64 a2_1, .int .i64 a2_2, .int .i64 a2_3] 23 (0, 0)) (by (with_reducible repeat (first | refine blk_drewN ?_ _ | refine blk_drew ?_ | refine blk_alloc ?_ _)); exact BK330.out) hb); have n4_ := Aside0.mk (below_step (by repeat (first | (with_reducible first | exact HB.out | apply below_alloc | apply pw_below_drewN | apply below_drew1 | refine below_set ?_ GE330.out) | exact HB.out)) hb); clear HO_11; clear HO372; clear HO375; clear BK330; clear HB; have HO_11 := n0_; have HO372 := n1_; have HO375 := n2_; have BK330 := n3_; have HB := n4_; clear n0_ n1_ n2_ n3_ n4_; (try clear hb); (try clear hb2); (try clear hk); (try clear hi)) | (go_at_call 20; (with_reducible refine (tableaulaw00_SameRects.calls kj37 _ _ t334 _ _ l0 true _ ?side1 ?side2 ?side3 ?side4 A113.out).mono ?_); (case side1 => repeat (first | exact (Kd.R_reads' HO_11.out).2.2 | (with_reducible refine Kd.C_alloc ?_ _) | (with_reducible refine Kd.C_drewN ?_ _) | (with_reducible refine Kd.C_drew ?_))); (case side2 => exact (Kd.R_reads' HO_11.out).2.1); (case side3 => repeat (first | exact (Kd.C_below HR0.out HB.out) | (with_reducible refine Kd.C_alloc ?_ _) | (with_reducible refine Kd.C_drewN ?_ _) | (with_reducible refine Kd.C_drew ?_))); (case side4 => exact HC0.out); rintro e w' ⟨rfl, ⟨nd, rfl⟩⟩) | (go_at_call 17; (with_reducible refine (tableaulaw08_awake.calls kj37  t393 _ A115.out).mono ?_); rintro e w127 ⟨rfl, hb⟩; have n0_ := Aside0.mk (Kd.R_below (by (with_reducible repeat (first | apply Kd.R_alloc | apply Kd.R_drewN | apply Kd.R_drew)); exact HO_11.out) hb); have n1_ := Aside0.mk (Kd.R_below (by (with_reducible repeat (first | apply Kd.R_alloc | apply Kd.R_drewN | apply Kd.R_drew)); exact HO372.out) hb); have n2_ := Aside0.mk (Kd.R_below (by (with_reducible repeat (first | apply Kd.R_alloc | apply Kd.R_drewN | apply Kd.R_drew)); exact HO375.out) hb); have n3_ := Aside0.mk (blk_below (g := gb330) (o := .cells #[.int .i64 a2_0, .int .i64 a2_1, .int .i64 a2_2, .int .i64 a2_3] 23 (0, 0)) (by (with_reducible repeat (first | refine blk_drewN ?_ _ | refine blk_drew ?_ | refine blk_alloc ?_ _)); exact BK330.out) hb); have n4_ := Aside0.mk (below_step (by repeat (first | (with_reducible first | exact HB.out | apply below_alloc | apply pw_below_drewN | apply below_drew1 | refine below_set ?_ GE330.out) | exact HB.out)) hb); clear HO_11; clear HO372; clear HO375; clear BK330; clear HB; have HO_11 := n0_; have HO372 := n1_; have HO375 := n2_; have BK330 := n3_; have HB := n4_; clear n0_ n1_ n2_ n3_ n4_; (try clear hb); (try clear hb2); (try clear hk); (try clear hi)))
                                go_ret
                                exact ⟨by first | rfl | (simp [errW_none, errW_some] <;> rfl) | (simp [*, errW_none, errW_some] <;> rfl), by repeat (first | (with_reducible first | exact HB.out | apply below_alloc | apply pw_below_drewN | apply below_drew1 | refine below_set ?_ GE330.out) | exact HB.out)⟩
                              · replace c114 := Bool.eq_false_iff.mpr c114
                                subst c114
                                have H1 : (some false) = some r := by rw [if_neg (show ¬ (false = true) by decide)] at H; exact H
                                clear H
                                have H := H1
                                clear H1
                                exact absurd H (by rw [HT.out]; simp)
                            · rw [if_neg c112] at H
                              have c112b0 : (t387 == false) = false := by simpa using c112
                              (try (have c112b1 : decide (t387 = false) = false := by simpa using c112))
                              (try (have c112b2 : (t387 == false) = false := by simpa using c112))
                              (try (have c112b3 : ¬ (t387 = false) := by simpa using c112))
                              clear c112
                              exact absurd H (by rw [HT.out]; simp)
                        · rw [if_neg c90] at H
                          have c90b0 : (t385 == t386) = false := beq_eq_false_iff_ne.mpr c90
                          have c90b1 : (t385 != t386) = true := bne_iff_ne.mpr c90
                          exact absurd H (by rw [HT.out]; simp)
                      · rw [if_neg c87] at H
                        have c87b0 : (t377 == t381 && (t378 == t382 && (t379 == t383 && (t380 == t384)))) = false := by simpa using c87
                        (try (have c87b1 : decide (t377 = t381 && (t378 == t382 && (t379 == t383 && (t380 == t384)))) = false := by simpa using c87))
                        (try (have c87b2 : (t377 == t381 && (t378 == t382 && (t379 == t383 && (t380 == t384)))) = false := by simpa using c87))
                        (try (have c87b3 : ¬ (t377 = t381 && (t378 == t382 && (t379 == t383 && (t380 == t384)))) := by simpa using c87))
                        clear c87
                        exact absurd H (by rw [HT.out]; simp)
                    · replace c84 := Bool.eq_false_iff.mpr c84
                      subst c84
                      have H1 : (some false) = some r := by rw [if_neg (show ¬ (false = true) by decide)] at H; exact H
                      clear H
                      have H := H1
                      clear H1
                      exact absurd H (by rw [HT.out]; simp)
                  · replace c80 := Bool.eq_false_iff.mpr c80
                    subst c80
                    have H1 : (some false) = some r := by rw [if_neg (show ¬ (false = true) by decide)] at H; exact H
                    clear H
                    have H := H1
                    clear H1
                    exact absurd H (by rw [HT.out]; simp)

end Go.Proofs.Ytogcokfildbodaa.PM
