-- PRINTED BY print.sh 35421559b90ae4d0a3588c463048766b98c2df88dd9212a6774a882060cdf62d: not written by this session
import Derived.Test.YtghgngfmmncomaaPRectCoversx0
import Derived.Test.YtghgngfmmncomaaPRectCoversx1
import Derived.Test.YtghgngfmmncomaaPRectCoversx2
import Derived.Test.YtghgngfmmncomaaPRectCoversx3
namespace Go.Proofs.Ytghgngfmmncomaa.PRectCovers
open Go.RowKit Go.Proofs.YtghgngfmmncomaaW.PrintWords Go.Proofs.YtghgngfmmncomaaW.PrintLast Go.Proofs.YtghgngfmmncomaaW.PrintMore
attribute [local go_sem] max2_int min2_int max_two min_two max_three min_three max_four min_four   -- for this text's walks alone
set_option linter.unusedVariables false
set_option linter.unusedSimpArgs false

attribute [local go_sem high] eqA23
/-! ### tableaulaw07_RectCovers: function 7 -/
mutual
def tableaulaw07_RectCovers.j1 : Nat → List (S23) → Int → Int → Int → Int → Int → Int → Int → Int → Int → Int → Option (Bool)
  | 0, _, _, _, _, _, _, _, _, _, _, _ => none
  | k + 1, x0, x1, x7, x141000, x141001, x141002, x141003, x142000, x142001, x142002, x142003 => tableaulaw07_RectCovers.l1 k x0 x1 x7 0 x141000 x141001 x141002 x141003 x142000 x142001 x142002 x142003
def tableaulaw07_RectCovers.l1 : Nat → List (S23) → Int → Int → Int → Int → Int → Int → Int → Int → Int → Int → Int → Option (Bool)
  | 0, _, _, _, _, _, _, _, _, _, _, _, _ => none
  | k + 1, x0, x1, x7, x8, x141000, x141001, x141002, x141003, x142000, x142001, x142002, x142003 => if x8 < x7 then (if 0 ≤ x8 then (if x8 < (x0.length : Int) then ((tableaulaw07_may.f ((rd_T23 x0 x8).f0) ((rd_T23 x0 x8).f1) ((rd_T23 x0 x8).f2) ((rd_T23 x0 x8).f3)).bind fun t143 => (if t143 = true then (tableaulaw07_RectCovers.l1 k x0 x1 x7 (wrap64 (x8 + 1)) x141000 x141001 x141002 x141003 x142000 x142001 x142002 x142003) else ((tableaulaw07_awake.f).bind fun t144 => (some t144)))) else (none)) else (none)) else (tableaulaw07_RectCovers.l2 k x0 x1 x7 0 x141000 x141001 x141002 x141003 x142000 x142001 x142002 x142003)
def tableaulaw07_RectCovers.l2 : Nat → List (S23) → Int → Int → Int → Int → Int → Int → Int → Int → Int → Int → Int → Option (Bool)
  | 0, _, _, _, _, _, _, _, _, _, _, _, _ => none
  | k + 1, x0, x1, x7, x9, x141000, x141001, x141002, x141003, x142000, x142001, x142002, x142003 => if x9 < x7 then (if 0 ≤ x9 then (if x9 < (x0.length : Int) then ((rect_Cover.f k x141000 x141001 x141002 x141003 ((rd_T23 x0 x9).f0) ((rd_T23 x0 x9).f1) ((rd_T23 x0 x9).f2) ((rd_T23 x0 x9).f3)).bind fun bt146 => ((tableaulaw00_Place.f x1 x7).bind fun t150 => (if x7 = 0 then (none) else (if 0 ≤ (Int.tmod (wrap64 (x9 + t150)) x7) then (if (Int.tmod (wrap64 (x9 + t150)) x7) < (x0.length : Int) then ((rect_Cover.f k x142000 x142001 x142002 x142003 ((rd_T23 x0 (Int.tmod (wrap64 (x9 + t150)) x7)).f0) ((rd_T23 x0 (Int.tmod (wrap64 (x9 + t150)) x7)).f1) ((rd_T23 x0 (Int.tmod (wrap64 (x9 + t150)) x7)).f2) ((rd_T23 x0 (Int.tmod (wrap64 (x9 + t150)) x7)).f3)).bind fun bt152 => (tableaulaw07_RectCovers.l2 k x0 x1 x7 (wrap64 (x9 + 1)) bt146.1 bt146.2.1 bt146.2.2.1 bt146.2.2.2 bt152.1 bt152.2.1 bt152.2.2.1 bt152.2.2.2)) else (none)) else (none))))) else (none)) else (none)) else (if (x141000 == x142000 && (x141001 == x142001 && (x141002 == x142002 && (x141003 == x142003)))) = true then ((tableaulaw07_awake.f).bind fun t156 => (some t156)) else (some false))
def tableaulaw07_RectCovers.l0 : Nat → List (S23) → Int → Int → Int → Int → Int → Int → Int → Int → Int → Int → Option (Bool)
  | 0, _, _, _, _, _, _, _, _, _, _, _ => none
  | k + 1, x0, x1, x7, x141000, x141001, x141002, x141003, x142000, x142001, x142002, x142003 => if x7 < (x0.length : Int) then (if x7 < 20 then (tableaulaw07_RectCovers.l0 k x0 x1 (wrap64 (x7 + 1)) x141000 x141001 x141002 x141003 x142000 x142001 x142002 x142003) else (tableaulaw07_RectCovers.j1 k x0 x1 x7 x141000 x141001 x141002 x141003 x142000 x142001 x142002 x142003)) else (tableaulaw07_RectCovers.j1 k x0 x1 x7 x141000 x141001 x141002 x141003 x142000 x142001 x142002 x142003)
end
def tableaulaw07_RectCovers.f (k : Nat) (l0 : List (S23)) (a1 : Int) : Option (Bool) := tableaulaw07_RectCovers.l0 k l0 a1 0 0 0 0 0 0 0 0 0
theorem tableaulaw07_RectCovers.mono_l : ∀ k, (∀ y0 y1 y2 y3 y4 y5 y6 y7 y8 y9 y10, LeO (tableaulaw07_RectCovers.j1 k y0 y1 y2 y3 y4 y5 y6 y7 y8 y9 y10) (tableaulaw07_RectCovers.j1 (k + 1) y0 y1 y2 y3 y4 y5 y6 y7 y8 y9 y10)) ∧ (∀ y0 y1 y2 y3 y4 y5 y6 y7 y8 y9 y10 y11, LeO (tableaulaw07_RectCovers.l1 k y0 y1 y2 y3 y4 y5 y6 y7 y8 y9 y10 y11) (tableaulaw07_RectCovers.l1 (k + 1) y0 y1 y2 y3 y4 y5 y6 y7 y8 y9 y10 y11)) ∧ (∀ y0 y1 y2 y3 y4 y5 y6 y7 y8 y9 y10 y11, LeO (tableaulaw07_RectCovers.l2 k y0 y1 y2 y3 y4 y5 y6 y7 y8 y9 y10 y11) (tableaulaw07_RectCovers.l2 (k + 1) y0 y1 y2 y3 y4 y5 y6 y7 y8 y9 y10 y11)) ∧ (∀ y0 y1 y2 y3 y4 y5 y6 y7 y8 y9 y10, LeO (tableaulaw07_RectCovers.l0 k y0 y1 y2 y3 y4 y5 y6 y7 y8 y9 y10) (tableaulaw07_RectCovers.l0 (k + 1) y0 y1 y2 y3 y4 y5 y6 y7 y8 y9 y10))
  | 0 => ⟨fun _ _ _ _ _ _ _ _ _ _ _ r h => by simp [tableaulaw07_RectCovers.j1] at h, fun _ _ _ _ _ _ _ _ _ _ _ _ r h => by simp [tableaulaw07_RectCovers.l1] at h, fun _ _ _ _ _ _ _ _ _ _ _ _ r h => by simp [tableaulaw07_RectCovers.l2] at h, fun _ _ _ _ _ _ _ _ _ _ _ r h => by simp [tableaulaw07_RectCovers.l0] at h⟩
  | k + 1 => by
    obtain ⟨ih0, ih1, ih2, ih3⟩ := tableaulaw07_RectCovers.mono_l k
    refine ⟨?_, ?_, ?_, ?_⟩
    · intro y0 y1 y2 y3 y4 y5 y6 y7 y8 y9 y10
      unfold tableaulaw07_RectCovers.j1
      repeat' first
      | (with_reducible exact ih0 _ _ _ _ _ _ _ _ _ _ _)
      | (with_reducible exact ih1 _ _ _ _ _ _ _ _ _ _ _ _)
      | (with_reducible exact ih2 _ _ _ _ _ _ _ _ _ _ _ _)
      | (with_reducible exact ih3 _ _ _ _ _ _ _ _ _ _ _)
      | (with_reducible exact rect_Cover.mono _ _ _ _ _ _ _ _ _)
      | (with_reducible exact LeO.refl _)
      | (with_reducible exact LeO.none _)
      | (with_reducible refine LeO.ite ?_ ?_)
      | (with_reducible refine LeO.bind ?_ (fun _ => ?_))
      | exact ih0 _ _ _ _ _ _ _ _ _ _ _
      | exact ih1 _ _ _ _ _ _ _ _ _ _ _ _
      | exact ih2 _ _ _ _ _ _ _ _ _ _ _ _
      | exact ih3 _ _ _ _ _ _ _ _ _ _ _
      | exact rect_Cover.mono _ _ _ _ _ _ _ _ _
      | exact LeO.none _
      | refine LeO.ite ?_ ?_
      | refine LeO.bind ?_ (fun _ => ?_)
    · intro y0 y1 y2 y3 y4 y5 y6 y7 y8 y9 y10 y11
      unfold tableaulaw07_RectCovers.l1
      repeat' first
      | (with_reducible exact ih0 _ _ _ _ _ _ _ _ _ _ _)
      | (with_reducible exact ih1 _ _ _ _ _ _ _ _ _ _ _ _)
      | (with_reducible exact ih2 _ _ _ _ _ _ _ _ _ _ _ _)
      | (with_reducible exact ih3 _ _ _ _ _ _ _ _ _ _ _)
      | (with_reducible exact rect_Cover.mono _ _ _ _ _ _ _ _ _)
      | (with_reducible exact LeO.refl _)
      | (with_reducible exact LeO.none _)
      | (with_reducible refine LeO.ite ?_ ?_)
      | (with_reducible refine LeO.bind ?_ (fun _ => ?_))
      | exact ih0 _ _ _ _ _ _ _ _ _ _ _
      | exact ih1 _ _ _ _ _ _ _ _ _ _ _ _
      | exact ih2 _ _ _ _ _ _ _ _ _ _ _ _
      | exact ih3 _ _ _ _ _ _ _ _ _ _ _
      | exact rect_Cover.mono _ _ _ _ _ _ _ _ _
      | exact LeO.none _
      | refine LeO.ite ?_ ?_
      | refine LeO.bind ?_ (fun _ => ?_)
    · intro y0 y1 y2 y3 y4 y5 y6 y7 y8 y9 y10 y11
      unfold tableaulaw07_RectCovers.l2
      repeat' first
      | (with_reducible exact ih0 _ _ _ _ _ _ _ _ _ _ _)
      | (with_reducible exact ih1 _ _ _ _ _ _ _ _ _ _ _ _)
      | (with_reducible exact ih2 _ _ _ _ _ _ _ _ _ _ _ _)
      | (with_reducible exact ih3 _ _ _ _ _ _ _ _ _ _ _)
      | (with_reducible exact rect_Cover.mono _ _ _ _ _ _ _ _ _)
      | (with_reducible exact LeO.refl _)
      | (with_reducible exact LeO.none _)
      | (with_reducible refine LeO.ite ?_ ?_)
      | (with_reducible refine LeO.bind ?_ (fun _ => ?_))
      | exact ih0 _ _ _ _ _ _ _ _ _ _ _
      | exact ih1 _ _ _ _ _ _ _ _ _ _ _ _
      | exact ih2 _ _ _ _ _ _ _ _ _ _ _ _
      | exact ih3 _ _ _ _ _ _ _ _ _ _ _
      | exact rect_Cover.mono _ _ _ _ _ _ _ _ _
      | exact LeO.none _
      | refine LeO.ite ?_ ?_
      | refine LeO.bind ?_ (fun _ => ?_)
    · intro y0 y1 y2 y3 y4 y5 y6 y7 y8 y9 y10
      unfold tableaulaw07_RectCovers.l0
      repeat' first
      | (with_reducible exact ih0 _ _ _ _ _ _ _ _ _ _ _)
      | (with_reducible exact ih1 _ _ _ _ _ _ _ _ _ _ _ _)
      | (with_reducible exact ih2 _ _ _ _ _ _ _ _ _ _ _ _)
      | (with_reducible exact ih3 _ _ _ _ _ _ _ _ _ _ _)
      | (with_reducible exact rect_Cover.mono _ _ _ _ _ _ _ _ _)
      | (with_reducible exact LeO.refl _)
      | (with_reducible exact LeO.none _)
      | (with_reducible refine LeO.ite ?_ ?_)
      | (with_reducible refine LeO.bind ?_ (fun _ => ?_))
      | exact ih0 _ _ _ _ _ _ _ _ _ _ _
      | exact ih1 _ _ _ _ _ _ _ _ _ _ _ _
      | exact ih2 _ _ _ _ _ _ _ _ _ _ _ _
      | exact ih3 _ _ _ _ _ _ _ _ _ _ _
      | exact rect_Cover.mono _ _ _ _ _ _ _ _ _
      | exact LeO.none _
      | refine LeO.ite ?_ ?_
      | refine LeO.bind ?_ (fun _ => ?_)
theorem tableaulaw07_RectCovers.mono : ∀ a0 a1 k, LeO (tableaulaw07_RectCovers.f k a0 a1) (tableaulaw07_RectCovers.f (k + 1) a0 a1) := by
  intro a0 a1 k
  obtain ⟨ih0, ih1, ih2, ih3⟩ := tableaulaw07_RectCovers.mono_l k
  unfold tableaulaw07_RectCovers.f
  repeat' first
      | (with_reducible exact ih0 _ _ _ _ _ _ _ _ _ _ _)
      | (with_reducible exact ih1 _ _ _ _ _ _ _ _ _ _ _ _)
      | (with_reducible exact ih2 _ _ _ _ _ _ _ _ _ _ _ _)
      | (with_reducible exact ih3 _ _ _ _ _ _ _ _ _ _ _)
      | (with_reducible exact rect_Cover.mono _ _ _ _ _ _ _ _ _)
      | (with_reducible exact LeO.refl _)
      | (with_reducible exact LeO.none _)
      | (with_reducible refine LeO.ite ?_ ?_)
      | (with_reducible refine LeO.bind ?_ (fun _ => ?_))
      | exact ih0 _ _ _ _ _ _ _ _ _ _ _
      | exact ih1 _ _ _ _ _ _ _ _ _ _ _ _
      | exact ih2 _ _ _ _ _ _ _ _ _ _ _ _
      | exact ih3 _ _ _ _ _ _ _ _ _ _ _
      | exact rect_Cover.mono _ _ _ _ _ _ _ _ _
      | exact LeO.none _
      | refine LeO.ite ?_ ?_
      | refine LeO.bind ?_ (fun _ => ?_)
def tableaulaw07_RectCovers.T14 : Bool × List (List Nat × List Nat) := (true, [([], []), ([], []), ([], []), ([], []), ([], []), ([3, 4], [3, 4]), ([2, 5], [2, 5]), ([], []), ([6, 7], [6, 7]), ([1, 8], [1, 8]), ([9], [9]), ([0, 10, 5], [0, 10]), ([11, 11, 0, 1, 2, 3, 4, 5, 6, 7, 8, 9, 10, 11], [11])])
def tableaulaw07_RectCovers.B14 : List Nat := [0, 0, 0, 0, 0, 24, 60, 0, 252, 510, 1022, 2047, 4095]
theorem tableaulaw07_RectCovers.tab14 : rtab .any (opsOf Try.f7 14) = tableaulaw07_RectCovers.T14 := by kernel_rfl
theorem tableaulaw07_RectCovers.bits14 : waitsOk tableaulaw07_RectCovers.T14.2 tableaulaw07_RectCovers.B14 = true := by kernel_rfl
set_option maxHeartbeats 8000000 in
set_option maxRecDepth 100000 in
theorem tableaulaw07_RectCovers.calls (k : Nat) (A0 : Option Addr) (c0 : Nat) (l0 : List (S23)) (a1 : Int) (r : Bool) (w : World) (hr0 : Kd.C k23 w A0 l0.length l0) (hc0 : l0.length ≤ c0) (h : tableaulaw07_RectCovers.f k l0 a1 = some r) :
    Calls Try.prog 7 #[.slice A0 l0.length c0, .int .i64 a1] w fun e w' => e = .returned (.bool r) ∧ Below w.heap.size w w' := by
  have hu23 := Try.underlying23
  have HR0 := Aside0.mk hr0
  have HC0 := Aside0.mk hc0
  clear hr0 hc0
  have HB := Aside0.mk (Below.refl w.heap.size w)
  have H : (tableaulaw07_RectCovers.l0 k l0 a1 0 0 0 0 0 0 0 0 0) = some r := h
  clear h
  have HC3 := Aside0.mk H
  clear H
  go_enter Try.func7, Try.ntmps7
  go_upto_block 0 with (first | ((with_reducible refine gate_dst (N := 5) rfl ?_); refine box_event ?hg (N := 5) ?hd (cs := #[.int .i64 0, .int .i64 0, .int .i64 0, .int .i64 0]) (t := 23) ?hr ?_; (case hd => rfl); (case hg => rfl); (case hr => first | (go_simp; done) | (go_simp; rfl)); intro gb140 hg w4 hbox hb; have n0_ := Aside0.mk (below_step (by repeat (first | (with_reducible first | exact HB.out | apply below_alloc | apply pw_below_drewN | apply below_drew1) | exact HB.out)) hb); have n1_ := Aside0.mk (hbox); have n2_ := Aside0.mk ((by rw [hg]; exact (below_size (by repeat (first | (with_reducible first | exact HB.out | apply below_alloc | apply pw_below_drewN | apply below_drew1) | exact HB.out))) : w.heap.size ≤ gb140)); have n3_ := Aside0.mk ((by rw [hg]; exact (below_size (by repeat (first | (with_reducible first | exact HB.out | apply below_alloc | apply pw_below_drewN | apply below_drew1) | exact HB.out))) : w.heap.size ≤ gb140)); clear HB; have HB := n0_; have BK140 := n1_; have GW140 := n2_; have GE140 := n3_; clear n0_ n1_ n2_ n3_; clear hb hbox hg) | ((with_reducible refine gate_dst (N := 6) rfl ?_); refine box_event ?hg (N := 6) ?hd (cs := #[.int .i64 0, .int .i64 0, .int .i64 0, .int .i64 0]) (t := 23) ?hr ?_; (case hd => rfl); (case hg => rfl); (case hr => first | (go_simp; done) | (go_simp; rfl)); intro gb141 hg w5 hbox hb; have n0_ := Aside0.mk (blk_below (g := gb140) (o := .cells #[.int .i64 0, .int .i64 0, .int .i64 0, .int .i64 0] 23 (0, 0)) (by (with_reducible repeat (first | refine blk_drewN ?_ _ | refine blk_drew ?_ | refine blk_alloc ?_ _)); exact BK140.out) hb); have n1_ := Aside0.mk (below_step (by repeat (first | (with_reducible first | exact HB.out | apply below_alloc | apply pw_below_drewN | apply below_drew1 | refine below_set ?_ GE140.out) | exact HB.out)) hb); have n2_ := Aside0.mk (hbox); have n3_ := Aside0.mk ((by rw [hg]; exact (below_size (by repeat (first | (with_reducible first | exact HB.out | apply below_alloc | apply pw_below_drewN | apply below_drew1 | refine below_set ?_ GE140.out) | exact HB.out))) : w.heap.size ≤ gb141)); have n4_ := Aside0.mk ((by rw [hg]; exact (below_size (by repeat (first | (with_reducible first | exact HB.out | apply below_alloc | apply pw_below_drewN | apply below_drew1 | refine below_set ?_ GE140.out) | exact HB.out))) : w.heap.size ≤ gb141)); have n5_ := Aside0.mk ((by rw [hg]; exact Nat.ne_of_lt (blk_lt (g := gb140) (o := .cells #[.int .i64 0, .int .i64 0, .int .i64 0, .int .i64 0] 23 (0, 0)) (by (with_reducible repeat (first | refine blk_drewN ?_ _ | refine blk_drew ?_ | refine blk_alloc ?_ _)); exact BK140.out)) : gb140 ≠ gb141)); have n6_ := Aside0.mk ((by rw [hg]; exact Nat.ne_of_gt (blk_lt (g := gb140) (o := .cells #[.int .i64 0, .int .i64 0, .int .i64 0, .int .i64 0] 23 (0, 0)) (by (with_reducible repeat (first | refine blk_drewN ?_ _ | refine blk_drew ?_ | refine blk_alloc ?_ _)); exact BK140.out)) : gb141 ≠ gb140)); clear BK140; clear HB; have BK140 := n0_; have HB := n1_; have BK141 := n2_; have GW141 := n3_; have GE141 := n4_; have NB140_141 := n5_; have NB141_140 := n6_; clear n0_ n1_ n2_ n3_ n4_ n5_ n6_; clear hb hbox hg; have hnb6 := NB140_141.out; have hnc6 := NB141_140.out; have hcz7_0 : w5.cell? ⟨gb140, 0, none⟩ = some (.int .i64 0) := (blk_cell BK140.out 0).trans rfl; have hcz7_1 : w5.cell? ⟨gb140, 1, none⟩ = some (.int .i64 0) := (blk_cell BK140.out 1).trans rfl; have hcz7_2 : w5.cell? ⟨gb140, 2, none⟩ = some (.int .i64 0) := (blk_cell BK140.out 2).trans rfl; have hcz7_3 : w5.cell? ⟨gb140, 3, none⟩ = some (.int .i64 0) := (blk_cell BK140.out 3).trans rfl; have hfz7_0 := blk_frozen BK140.out 0; have hfz7_1 := blk_frozen BK140.out 1; have hfz7_2 := blk_frozen BK140.out 2; have hfz7_3 := blk_frozen BK140.out 3; have hcz8_0 : w5.cell? ⟨gb141, 0, none⟩ = some (.int .i64 0) := (blk_cell BK141.out 0).trans rfl; have hcz8_1 : w5.cell? ⟨gb141, 1, none⟩ = some (.int .i64 0) := (blk_cell BK141.out 1).trans rfl; have hcz8_2 : w5.cell? ⟨gb141, 2, none⟩ = some (.int .i64 0) := (blk_cell BK141.out 2).trans rfl; have hcz8_3 : w5.cell? ⟨gb141, 3, none⟩ = some (.int .i64 0) := (blk_cell BK141.out 3).trans rfl; have hfz8_0 := blk_frozen BK141.out 0; have hfz8_1 := blk_frozen BK141.out 1; have hfz8_2 := blk_frozen BK141.out 2; have hfz8_3 := blk_frozen BK141.out 3))
  (try simp only [Act.put, List.setIfInBounds_toArray, List.set_cons_zero, List.set_cons_succ])
  go_cut [7] (fun v7 wc => ∃ (kq : Nat) (x7_2 : Int), v7 = .int .i64 x7_2 ∧ Aside0 (tableaulaw07_RectCovers.j1 kq l0 a1 x7_2 0 0 0 0 0 0 0 0 = some r) ∧ Aside0 (kq ≤ k) ∧ Aside0 (wc.heap[gb140]? = some (.cells #[.int .i64 0, .int .i64 0, .int .i64 0, .int .i64 0] 23 (0, 0))) ∧ Aside0 (wc.heap[gb141]? = some (.cells #[.int .i64 0, .int .i64 0, .int .i64 0, .int .i64 0] 23 (0, 0))) ∧ Aside0 (Below w.heap.size w wc))
  case first =>
    have H := HC3.out
    clear HC3
    have H' := Aside0.mk H
    clear H
    go_wp2
    go_loopg [7] k (fun kq v7 w' => ∃ (x7_1 : Int), v7 = .int .i64 x7_1 ∧ Aside0 (tableaulaw07_RectCovers.l0 kq l0 a1 x7_1 0 0 0 0 0 0 0 0 = some r) ∧ Aside0 (kq ≤ k) ∧ Aside0 (w'.heap[gb140]? = some (.cells #[.int .i64 0, .int .i64 0, .int .i64 0, .int .i64 0] 23 (0, 0))) ∧ Aside0 (w'.heap[gb141]? = some (.cells #[.int .i64 0, .int .i64 0, .int .i64 0, .int .i64 0] 23 (0, 0))) ∧ Aside0 (Below w.heap.size w w'))
    case atStart => exact ⟨(0), (by first | rfl | (simp; done) | (simp [*]; done)), H', ⟨Nat.le_refl _⟩, ⟨by (with_reducible repeat (first | refine blk_drewN ?_ _ | refine blk_drew ?_ | refine blk_alloc ?_ _)); refine blk_far ?_ NB140_141.out _; (with_reducible repeat (first | refine blk_drewN ?_ _ | refine blk_drew ?_ | refine blk_alloc ?_ _)); refine blk_far ?_ NB140_141.out _; (with_reducible repeat (first | refine blk_drewN ?_ _ | refine blk_drew ?_ | refine blk_alloc ?_ _)); refine blk_far ?_ NB140_141.out _; (with_reducible repeat (first | refine blk_drewN ?_ _ | refine blk_drew ?_ | refine blk_alloc ?_ _)); refine blk_far ?_ NB140_141.out _; (with_reducible repeat (first | refine blk_drewN ?_ _ | refine blk_drew ?_ | refine blk_alloc ?_ _)); refine blk_put (cs := #[.int .i64 0, .int .i64 0, .int .i64 0, .int .i64 0]) ?_ 3 _ rfl; (with_reducible repeat (first | refine blk_drewN ?_ _ | refine blk_drew ?_ | refine blk_alloc ?_ _)); refine blk_put (cs := #[.int .i64 0, .int .i64 0, .int .i64 0, .int .i64 0]) ?_ 2 _ rfl; (with_reducible repeat (first | refine blk_drewN ?_ _ | refine blk_drew ?_ | refine blk_alloc ?_ _)); refine blk_put (cs := #[.int .i64 0, .int .i64 0, .int .i64 0, .int .i64 0]) ?_ 1 _ rfl; (with_reducible repeat (first | refine blk_drewN ?_ _ | refine blk_drew ?_ | refine blk_alloc ?_ _)); refine blk_put (cs := #[.int .i64 0, .int .i64 0, .int .i64 0, .int .i64 0]) ?_ 0 _ rfl; (with_reducible repeat (first | refine blk_drewN ?_ _ | refine blk_drew ?_ | refine blk_alloc ?_ _)); exact BK140.out⟩, ⟨by (with_reducible repeat (first | refine blk_drewN ?_ _ | refine blk_drew ?_ | refine blk_alloc ?_ _)); refine blk_put (cs := #[.int .i64 0, .int .i64 0, .int .i64 0, .int .i64 0]) ?_ 3 _ rfl; (with_reducible repeat (first | refine blk_drewN ?_ _ | refine blk_drew ?_ | refine blk_alloc ?_ _)); refine blk_put (cs := #[.int .i64 0, .int .i64 0, .int .i64 0, .int .i64 0]) ?_ 2 _ rfl; (with_reducible repeat (first | refine blk_drewN ?_ _ | refine blk_drew ?_ | refine blk_alloc ?_ _)); refine blk_put (cs := #[.int .i64 0, .int .i64 0, .int .i64 0, .int .i64 0]) ?_ 1 _ rfl; (with_reducible repeat (first | refine blk_drewN ?_ _ | refine blk_drew ?_ | refine blk_alloc ?_ _)); refine blk_put (cs := #[.int .i64 0, .int .i64 0, .int .i64 0, .int .i64 0]) ?_ 0 _ rfl; (with_reducible repeat (first | refine blk_drewN ?_ _ | refine blk_drew ?_ | refine blk_alloc ?_ _)); refine blk_far ?_ NB141_140.out _; (with_reducible repeat (first | refine blk_drewN ?_ _ | refine blk_drew ?_ | refine blk_alloc ?_ _)); refine blk_far ?_ NB141_140.out _; (with_reducible repeat (first | refine blk_drewN ?_ _ | refine blk_drew ?_ | refine blk_alloc ?_ _)); refine blk_far ?_ NB141_140.out _; (with_reducible repeat (first | refine blk_drewN ?_ _ | refine blk_drew ?_ | refine blk_alloc ?_ _)); refine blk_far ?_ NB141_140.out _; (with_reducible repeat (first | refine blk_drewN ?_ _ | refine blk_drew ?_ | refine blk_alloc ?_ _)); exact BK141.out⟩, ⟨by repeat (first | (with_reducible first | exact HB.out | apply below_alloc | apply pw_below_drewN | apply below_drew1 | refine below_set ?_ GE140.out | refine below_set ?_ GE141.out) | exact HB.out)⟩⟩
    case round =>
      clear H'
      try clear p2
      try clear c6
      try clear c7
      try clear hcz7_0
      try clear hcz7_1
      try clear hcz7_2
      try clear hcz7_3
      try clear hcz8_0
      try clear hcz8_1
      try clear hcz8_2
      try clear hcz8_3
      try clear hfz7_0
      try clear hfz7_1
      try clear hfz7_2
      try clear hfz7_3
      try clear hfz8_0
      try clear hfz8_1
      try clear hfz8_2
      try clear hfz8_3
      obtain ⟨x7_1, rfl, HA, HK1, BK140, BK141, HB⟩ := hrel
      cases gk with
      | zero => exact absurd HA.out (by simp [tableaulaw07_RectCovers.l0])
      | succ k1 =>
        have H := HA.out
        clear HA
        simp only [tableaulaw07_RectCovers.l0] at H
        by_cases c9 : x7_1 < (l0.length : Int)
        · rw [if_pos c9] at H
          have c9b0 : decide (x7_1 < (l0.length : Int)) = true := decide_eq_true c9
          clear c9
          (first | rw [c9b0] | (simp only [i64_w, i32_w]; rw [c9b0]) | skip)
          by_cases c10 : x7_1 < 20
          · rw [if_pos c10] at H
            have c10b0 : decide (x7_1 < 20) = true := decide_eq_true c10
            clear c10
            have H' := Aside0.mk H
            clear H
            go_wp2
            go_roundg k1
            case measure => have := HK1.out; omega
            case rel => exact ⟨(wrap64 (x7_1 + 1)), (by first | rfl | (simp; done) | (simp [*]; done)), H', ⟨by have := HK1.out; omega⟩, ⟨by (with_reducible repeat (first | refine blk_drewN ?_ _ | refine blk_drew ?_ | refine blk_alloc ?_ _)); exact BK140.out⟩, ⟨by (with_reducible repeat (first | refine blk_drewN ?_ _ | refine blk_drew ?_ | refine blk_alloc ?_ _)); exact BK141.out⟩, ⟨by repeat (first | (with_reducible first | exact HB.out | apply below_alloc | apply pw_below_drewN | apply below_drew1 | refine below_set ?_ GE140.out | refine below_set ?_ GE141.out) | exact HB.out)⟩⟩
          · rw [if_neg c10] at H
            have c10b0 : decide (x7_1 < 20) = false := decide_eq_false c10
            clear c10
            have H' := Aside0.mk H
            clear H
            go_wp2
            go_meet
            case rel => exact ⟨_, (x7_1), (by first | rfl | (simp; done) | (simp [*]; done)), H', ⟨by have := HK1.out; first | omega | exact Nat.le_refl _⟩, ⟨by (with_reducible repeat (first | refine blk_drewN ?_ _ | refine blk_drew ?_ | refine blk_alloc ?_ _)); exact BK140.out⟩, ⟨by (with_reducible repeat (first | refine blk_drewN ?_ _ | refine blk_drew ?_ | refine blk_alloc ?_ _)); exact BK141.out⟩, ⟨by repeat (first | (with_reducible first | exact HB.out | apply below_alloc | apply pw_below_drewN | apply below_drew1 | refine below_set ?_ GE140.out | refine below_set ?_ GE141.out) | exact HB.out)⟩⟩
        · rw [if_neg c9] at H
          have c9b0 : decide (x7_1 < (l0.length : Int)) = false := decide_eq_false c9
          clear c9
          (first | rw [c9b0] | (simp only [i64_w, i32_w]; rw [c9b0]) | skip)
          have H' := Aside0.mk H
          clear H
          go_wp2
          go_meet
          case rel => exact ⟨_, (x7_1), (by first | rfl | (simp; done) | (simp [*]; done)), H', ⟨by have := HK1.out; first | omega | exact Nat.le_refl _⟩, ⟨by (with_reducible repeat (first | refine blk_drewN ?_ _ | refine blk_drew ?_ | refine blk_alloc ?_ _)); exact BK140.out⟩, ⟨by (with_reducible repeat (first | refine blk_drewN ?_ _ | refine blk_drew ?_ | refine blk_alloc ?_ _)); exact BK141.out⟩, ⟨by repeat (first | (with_reducible first | exact HB.out | apply below_alloc | apply pw_below_drewN | apply below_drew1 | refine below_set ?_ GE140.out | refine below_set ?_ GE141.out) | exact HB.out)⟩⟩
  case rest =>
    clear HC3
    try clear c1
    try clear p2
    try clear c6
    try clear p6
    try clear c7
    try clear c9
    try clear c9b0
    try clear c10
    try clear c10b0
    try clear hcz7_0
    try clear hcz7_1
    try clear hcz7_2
    try clear hcz7_3
    try clear hcz8_0
    try clear hcz8_1
    try clear hcz8_2
    try clear hcz8_3
    try clear hfz7_0
    try clear hfz7_1
    try clear hfz7_2
    try clear hfz7_3
    try clear hfz8_0
    try clear hfz8_1
    try clear hfz8_2
    try clear hfz8_3
    try clear p2
    obtain ⟨kq, x7_2, rfl, HA, HJ2, BK140, BK141, HB⟩ := hcut
    cases kq with
    | zero => exact absurd HA.out (by simp [tableaulaw07_RectCovers.j1])
    | succ kj2 =>
      have H := HA.out
      clear HA
      simp only [tableaulaw07_RectCovers.j1] at H
      have H' := Aside0.mk H
      clear H
      go_wp2
      go_loopg [8] kj2 (fun kq v8 w' => ∃ (x8_2 : Int), v8 = .int .i64 x8_2 ∧ Aside0 (tableaulaw07_RectCovers.l1 kq l0 a1 x7_2 x8_2 0 0 0 0 0 0 0 0 = some r) ∧ Aside0 (kq ≤ kj2) ∧ Aside0 (w'.heap[gb140]? = some (.cells #[.int .i64 0, .int .i64 0, .int .i64 0, .int .i64 0] 23 (0, 0))) ∧ Aside0 (w'.heap[gb141]? = some (.cells #[.int .i64 0, .int .i64 0, .int .i64 0, .int .i64 0] 23 (0, 0))) ∧ Aside0 (Below w.heap.size w w'))
      case atStart => exact ⟨(0), (by first | rfl | (simp; done) | (simp [*]; done)), H', ⟨Nat.le_refl _⟩, ⟨by (with_reducible repeat (first | refine blk_drewN ?_ _ | refine blk_drew ?_ | refine blk_alloc ?_ _)); exact BK140.out⟩, ⟨by (with_reducible repeat (first | refine blk_drewN ?_ _ | refine blk_drew ?_ | refine blk_alloc ?_ _)); exact BK141.out⟩, ⟨by repeat (first | (with_reducible first | exact HB.out | apply below_alloc | apply pw_below_drewN | apply below_drew1 | refine below_set ?_ GE140.out | refine below_set ?_ GE141.out) | exact HB.out)⟩⟩
      case round =>
        clear H'
        try clear c1
        try clear p2
        try clear c6
        try clear p6
        try clear c7
        try clear c9
        try clear c9b0
        try clear c10
        try clear c10b0
        try clear hcz7_0
        try clear hcz7_1
        try clear hcz7_2
        try clear hcz7_3
        try clear hcz8_0
        try clear hcz8_1
        try clear hcz8_2
        try clear hcz8_3
        try clear hfz7_0
        try clear hfz7_1
        try clear hfz7_2
        try clear hfz7_3
        try clear hfz8_0
        try clear hfz8_1
        try clear hfz8_2
        try clear hfz8_3
        try clear p2
        try clear p6
        obtain ⟨x8_2, rfl, HA, HK2, BK140, BK141, HB⟩ := hrel
        cases gk with
        | zero => exact absurd HA.out (by simp [tableaulaw07_RectCovers.l1])
        | succ k2 =>
          have H := HA.out
          clear HA
          simp only [tableaulaw07_RectCovers.l1] at H
          by_cases c11 : x8_2 < x7_2
          · rw [if_pos c11] at H
            have c11b0 : decide (x8_2 < x7_2) = true := decide_eq_true c11
            clear c11
            by_cases c12 : 0 ≤ x8_2
            · rw [if_pos c12] at H
              have c12b0 : decide (0 ≤ x8_2) = true := decide_eq_true c12
              clear c12
              by_cases c13 : x8_2 < (l0.length : Int)
              · rw [if_pos c13] at H
                have c13b0 : decide (x8_2 < (l0.length : Int)) = true := decide_eq_true c13
                clear c13
                replace H := Option.bind_eq_some_iff.mp H
                obtain ⟨t143, A140, H⟩ := H
                replace H : (if t143 = true then (tableaulaw07_RectCovers.l1 k2 l0 a1 x7_2 (wrap64 (x8_2 + 1)) 0 0 0 0 0 0 0 0) else ((tableaulaw07_awake.f).bind fun t144 => (some t144))) = some r := H
                have A14 := Aside0.mk A140
                clear A140
                by_cases c15 : t143 = true
                · subst c15
                  have H1 : (tableaulaw07_RectCovers.l1 k2 l0 a1 x7_2 (wrap64 (x8_2 + 1)) 0 0 0 0 0 0 0 0) = some r := by rw [if_pos rfl] at H; exact H
                  clear H
                  have H := H1
                  clear H1
                  have H' := Aside0.mk H
                  clear H
                  have p142 : 0 ≤ (x8_2 : Int) := of_decide_eq_true (by first | (with_reducible assumption) | assumption)
                  have q142 : x8_2 < (l0.length : Int) := of_decide_eq_true (by first | (with_reducible assumption) | assumption)
                  obtain ⟨ad142, e142, hx142_0, hx142_1, hx142_2, hx142_3⟩ := at_T23 HR0.out x8_2 p142 q142
                  cases e142
                  replace hx142_0 := (HB.out.cell (World.block_lt_of_cell? w _ hx142_0)).trans hx142_0
                  replace hx142_1 := (HB.out.cell (World.block_lt_of_cell? w _ hx142_1)).trans hx142_1
                  replace hx142_2 := (HB.out.cell (World.block_lt_of_cell? w _ hx142_2)).trans hx142_2
                  replace hx142_3 := (HB.out.cell (World.block_lt_of_cell? w _ hx142_3)).trans hx142_3
                  replace p142 := eq_true p142
                  replace q142 := eq_true q142
                  go_wp2_with (first | ((with_reducible refine gate_callee (f := 25) rfl ?_); refine goesL_ (some 31) rfl rfl Try.func25 (by kernel_rfl) rfl #[.agg #[.int .i64 ((rd_T23 l0 x8_2).f0), .int .i64 ((rd_T23 l0 x8_2).f1), .int .i64 ((rd_T23 l0 x8_2).f2), .int .i64 ((rd_T23 l0 x8_2).f3)]] rfl (by (try simp only [List.map_toArray, List.map_cons, List.map_nil]); first | done | rfl | (simp only [List.length_drop, List.length_take]; rfl)) ?_; (with_reducible refine (tableaulaw07_may.calls ((rd_T23 l0 x8_2).f0) ((rd_T23 l0 x8_2).f1) ((rd_T23 l0 x8_2).f2) ((rd_T23 l0 x8_2).f3) true _ A14.out).mono ?_); rintro e w16 ⟨rfl, hb⟩; refine ⟨_, rfl, ?_⟩; have n0_ := Aside0.mk (blk_below (g := gb140) (o := .cells #[.int .i64 0, .int .i64 0, .int .i64 0, .int .i64 0] 23 (0, 0)) (by (with_reducible repeat (first | refine blk_drewN ?_ _ | refine blk_drew ?_ | refine blk_alloc ?_ _)); exact BK140.out) hb); have n1_ := Aside0.mk (blk_below (g := gb141) (o := .cells #[.int .i64 0, .int .i64 0, .int .i64 0, .int .i64 0] 23 (0, 0)) (by (with_reducible repeat (first | refine blk_drewN ?_ _ | refine blk_drew ?_ | refine blk_alloc ?_ _)); exact BK141.out) hb); have n2_ := Aside0.mk (below_step (by repeat (first | (with_reducible first | exact HB.out | apply below_alloc | apply pw_below_drewN | apply below_drew1 | refine below_set ?_ GE140.out | refine below_set ?_ GE141.out) | exact HB.out)) hb); clear BK140; clear BK141; clear HB; have BK140 := n0_; have BK141 := n1_; have HB := n2_; clear n0_ n1_ n2_; (try clear hb); (try clear hb2); (try clear hk); (try clear hi)))
                  go_roundg k2
                  case measure => have := HJ2.out; have := HK2.out; omega
                  case rel => exact ⟨(wrap64 (x8_2 + 1)), (by first | rfl | (simp; done) | (simp [*]; done)), H', ⟨by have := HJ2.out; have := HK2.out; omega⟩, ⟨by (with_reducible repeat (first | refine blk_drewN ?_ _ | refine blk_drew ?_ | refine blk_alloc ?_ _)); exact BK140.out⟩, ⟨by (with_reducible repeat (first | refine blk_drewN ?_ _ | refine blk_drew ?_ | refine blk_alloc ?_ _)); exact BK141.out⟩, ⟨by repeat (first | (with_reducible first | exact HB.out | apply below_alloc | apply pw_below_drewN | apply below_drew1 | refine below_set ?_ GE140.out | refine below_set ?_ GE141.out) | exact HB.out)⟩⟩
                · replace c15 := Bool.eq_false_iff.mpr c15
                  subst c15
                  have H1 : ((tableaulaw07_awake.f).bind fun t144 => (some t144)) = some r := by rw [if_neg (show ¬ (false = true) by decide)] at H; exact H
                  clear H
                  have H := H1
                  clear H1
                  replace H := Option.bind_eq_some_iff.mp H
                  obtain ⟨t144, A170, H⟩ := H
                  replace H : (some t144) = some r := H
                  have A17 := Aside0.mk A170
                  clear A170
                  obtain rfl := Option.some.inj H
                  have p142 : 0 ≤ (x8_2 : Int) := of_decide_eq_true (by first | (with_reducible assumption) | assumption)
                  have q142 : x8_2 < (l0.length : Int) := of_decide_eq_true (by first | (with_reducible assumption) | assumption)
                  obtain ⟨ad142, e142, hx142_0, hx142_1, hx142_2, hx142_3⟩ := at_T23 HR0.out x8_2 p142 q142
                  cases e142
                  replace hx142_0 := (HB.out.cell (World.block_lt_of_cell? w _ hx142_0)).trans hx142_0
                  replace hx142_1 := (HB.out.cell (World.block_lt_of_cell? w _ hx142_1)).trans hx142_1
                  replace hx142_2 := (HB.out.cell (World.block_lt_of_cell? w _ hx142_2)).trans hx142_2
                  replace hx142_3 := (HB.out.cell (World.block_lt_of_cell? w _ hx142_3)).trans hx142_3
                  replace p142 := eq_true p142
                  replace q142 := eq_true q142
                  go_wp2_with (first | ((with_reducible refine gate_callee (f := 25) rfl ?_); refine goesL_ (some 31) rfl rfl Try.func25 (by kernel_rfl) rfl #[.agg #[.int .i64 ((rd_T23 l0 x8_2).f0), .int .i64 ((rd_T23 l0 x8_2).f1), .int .i64 ((rd_T23 l0 x8_2).f2), .int .i64 ((rd_T23 l0 x8_2).f3)]] rfl (by (try simp only [List.map_toArray, List.map_cons, List.map_nil]); first | done | rfl | (simp only [List.length_drop, List.length_take]; rfl)) ?_; (with_reducible refine (tableaulaw07_may.calls ((rd_T23 l0 x8_2).f0) ((rd_T23 l0 x8_2).f1) ((rd_T23 l0 x8_2).f2) ((rd_T23 l0 x8_2).f3) false _ A14.out).mono ?_); rintro e w18 ⟨rfl, hb⟩; refine ⟨_, rfl, ?_⟩; have n0_ := Aside0.mk (blk_below (g := gb140) (o := .cells #[.int .i64 0, .int .i64 0, .int .i64 0, .int .i64 0] 23 (0, 0)) (by (with_reducible repeat (first | refine blk_drewN ?_ _ | refine blk_drew ?_ | refine blk_alloc ?_ _)); exact BK140.out) hb); have n1_ := Aside0.mk (blk_below (g := gb141) (o := .cells #[.int .i64 0, .int .i64 0, .int .i64 0, .int .i64 0] 23 (0, 0)) (by (with_reducible repeat (first | refine blk_drewN ?_ _ | refine blk_drew ?_ | refine blk_alloc ?_ _)); exact BK141.out) hb); have n2_ := Aside0.mk (below_step (by repeat (first | (with_reducible first | exact HB.out | apply below_alloc | apply pw_below_drewN | apply below_drew1 | refine below_set ?_ GE140.out | refine below_set ?_ GE141.out) | exact HB.out)) hb); clear BK140; clear BK141; clear HB; have BK140 := n0_; have BK141 := n1_; have HB := n2_; clear n0_ n1_ n2_; (try clear hb); (try clear hb2); (try clear hk); (try clear hi)) | ((with_reducible refine gate_callee (f := 17) rfl ?_); refine goesL_ (some 33) rfl rfl Try.func17 (by kernel_rfl) rfl #[] rfl (by (try simp only [List.map_toArray, List.map_cons, List.map_nil]); first | done | rfl | (simp only [List.length_drop, List.length_take]; rfl)) ?_; (with_reducible refine (tableaulaw07_awake.calls  t144 _ A17.out).mono ?_); rintro e w19 ⟨rfl, hb⟩; refine ⟨_, rfl, ?_⟩; have n0_ := Aside0.mk (blk_below (g := gb140) (o := .cells #[.int .i64 0, .int .i64 0, .int .i64 0, .int .i64 0] 23 (0, 0)) (by (with_reducible repeat (first | refine blk_drewN ?_ _ | refine blk_drew ?_ | refine blk_alloc ?_ _)); exact BK140.out) hb); have n1_ := Aside0.mk (blk_below (g := gb141) (o := .cells #[.int .i64 0, .int .i64 0, .int .i64 0, .int .i64 0] 23 (0, 0)) (by (with_reducible repeat (first | refine blk_drewN ?_ _ | refine blk_drew ?_ | refine blk_alloc ?_ _)); exact BK141.out) hb); have n2_ := Aside0.mk (below_step (by repeat (first | (with_reducible first | exact HB.out | apply below_alloc | apply pw_below_drewN | apply below_drew1 | refine below_set ?_ GE140.out | refine below_set ?_ GE141.out) | exact HB.out)) hb); clear BK140; clear BK141; clear HB; have BK140 := n0_; have BK141 := n1_; have HB := n2_; clear n0_ n1_ n2_; (try clear hb); (try clear hb2); (try clear hk); (try clear hi)))
                  go_ret
                  exact ⟨by first | rfl | (simp [errW_none, errW_some] <;> rfl) | (simp [*, errW_none, errW_some] <;> rfl), by repeat (first | (with_reducible first | exact HB.out | apply below_alloc | apply pw_below_drewN | apply below_drew1 | refine below_set ?_ GE140.out | refine below_set ?_ GE141.out) | exact HB.out)⟩
              · rw [if_neg c13] at H
                exact absurd H (by simp)
            · rw [if_neg c12] at H
              exact absurd H (by simp)
          · rw [if_neg c11] at H
            have c11b0 : decide (x8_2 < x7_2) = false := decide_eq_false c11
            clear c11
            have H' := Aside0.mk H
            clear H
            go_wp2
            go_loopg [9] k2 (fun kq v9 w' => ∃ (x9_3 : Int) (x141000_3 : Int) (x141001_3 : Int) (x141002_3 : Int) (x141003_3 : Int) (x142000_3 : Int) (x142001_3 : Int) (x142002_3 : Int) (x142003_3 : Int), v9 = .int .i64 x9_3 ∧ Aside0 (tableaulaw07_RectCovers.l2 kq l0 a1 x7_2 x9_3 x141000_3 x141001_3 x141002_3 x141003_3 x142000_3 x142001_3 x142002_3 x142003_3 = some r) ∧ Aside0 (kq ≤ k2) ∧ Aside0 (w'.heap[gb140]? = some (.cells #[.int .i64 x141000_3, .int .i64 x141001_3, .int .i64 x141002_3, .int .i64 x141003_3] 23 (0, 0))) ∧ Aside0 (w'.heap[gb141]? = some (.cells #[.int .i64 x142000_3, .int .i64 x142001_3, .int .i64 x142002_3, .int .i64 x142003_3] 23 (0, 0))) ∧ Aside0 (Below w.heap.size w w'))
            case atStart => exact ⟨(0), (0), (0), (0), (0), (0), (0), (0), (0), (by first | rfl | (simp; done) | (simp [*]; done)), H', ⟨Nat.le_refl _⟩, ⟨by (with_reducible repeat (first | refine blk_drewN ?_ _ | refine blk_drew ?_ | refine blk_alloc ?_ _)); exact BK140.out⟩, ⟨by (with_reducible repeat (first | refine blk_drewN ?_ _ | refine blk_drew ?_ | refine blk_alloc ?_ _)); exact BK141.out⟩, ⟨by repeat (first | (with_reducible first | exact HB.out | apply below_alloc | apply pw_below_drewN | apply below_drew1 | refine below_set ?_ GE140.out | refine below_set ?_ GE141.out) | exact HB.out)⟩⟩
            case round =>
              clear H'
              try clear c1
              try clear p1
              try clear q1
              try clear hx1
              try clear c2
              try clear p2
              try clear c6
              try clear p6
              try clear c7
              try clear c9
              try clear c9b0
              try clear c10
              try clear c10b0
              try clear c11
              try clear c11b0
              try clear c12
              try clear c12b0
              try clear c13
              try clear c13b0
              try clear p14
              try clear q14
              try clear hx14
              try clear c15
              try clear c17
              try clear hcz7_0
              try clear hcz7_1
              try clear hcz7_2
              try clear hcz7_3
              try clear hcz8_0
              try clear hcz8_1
              try clear hcz8_2
              try clear hcz8_3
              try clear hfz7_0
              try clear hfz7_1
              try clear hfz7_2
              try clear hfz7_3
              try clear hfz8_0
              try clear hfz8_1
              try clear hfz8_2
              try clear hfz8_3
              try clear hx142_0
              try clear hx142_1
              try clear hx142_2
              try clear hx142_3
              try clear p142
              try clear p2
              try clear p6
              try clear q142
              obtain ⟨x9_3, x141000_3, x141001_3, x141002_3, x141003_3, x142000_3, x142001_3, x142002_3, x142003_3, rfl, HA, HK3, BK140, BK141, HB⟩ := hrel
              cases gk with
              | zero => exact absurd HA.out (by simp [tableaulaw07_RectCovers.l2])
              | succ k3 =>
                have H := HA.out
                clear HA
                simp only [tableaulaw07_RectCovers.l2] at H
                by_cases c20 : x9_3 < x7_2
                · rw [if_pos c20] at H
                  have c20b0 : decide (x9_3 < x7_2) = true := decide_eq_true c20
                  clear c20
                  by_cases c21 : 0 ≤ x9_3
                  · rw [if_pos c21] at H
                    have c21b0 : decide (0 ≤ x9_3) = true := decide_eq_true c21
                    clear c21
                    by_cases c22 : x9_3 < (l0.length : Int)
                    · rw [if_pos c22] at H
                      have c22b0 : decide (x9_3 < (l0.length : Int)) = true := decide_eq_true c22
                      clear c22
                      replace H := Option.bind_eq_some_iff.mp H
                      obtain ⟨⟨t146, t147, t148, t149⟩, A230, H⟩ := H
                      replace H : ((tableaulaw00_Place.f a1 x7_2).bind fun t150 => (if x7_2 = 0 then (none) else (if 0 ≤ (Int.tmod (wrap64 (x9_3 + t150)) x7_2) then (if (Int.tmod (wrap64 (x9_3 + t150)) x7_2) < (l0.length : Int) then ((rect_Cover.f k3 x142000_3 x142001_3 x142002_3 x142003_3 ((rd_T23 l0 (Int.tmod (wrap64 (x9_3 + t150)) x7_2)).f0) ((rd_T23 l0 (Int.tmod (wrap64 (x9_3 + t150)) x7_2)).f1) ((rd_T23 l0 (Int.tmod (wrap64 (x9_3 + t150)) x7_2)).f2) ((rd_T23 l0 (Int.tmod (wrap64 (x9_3 + t150)) x7_2)).f3)).bind fun bt152 => (tableaulaw07_RectCovers.l2 k3 l0 a1 x7_2 (wrap64 (x9_3 + 1)) t146 t147 t148 t149 bt152.1 bt152.2.1 bt152.2.2.1 bt152.2.2.2)) else (none)) else (none)))) = some r := H
                      have A23 := Aside0.mk A230
                      clear A230
                      replace H := Option.bind_eq_some_iff.mp H
                      obtain ⟨t150, A240, H⟩ := H
                      replace H : (if x7_2 = 0 then (none) else (if 0 ≤ (Int.tmod (wrap64 (x9_3 + t150)) x7_2) then (if (Int.tmod (wrap64 (x9_3 + t150)) x7_2) < (l0.length : Int) then ((rect_Cover.f k3 x142000_3 x142001_3 x142002_3 x142003_3 ((rd_T23 l0 (Int.tmod (wrap64 (x9_3 + t150)) x7_2)).f0) ((rd_T23 l0 (Int.tmod (wrap64 (x9_3 + t150)) x7_2)).f1) ((rd_T23 l0 (Int.tmod (wrap64 (x9_3 + t150)) x7_2)).f2) ((rd_T23 l0 (Int.tmod (wrap64 (x9_3 + t150)) x7_2)).f3)).bind fun bt152 => (tableaulaw07_RectCovers.l2 k3 l0 a1 x7_2 (wrap64 (x9_3 + 1)) t146 t147 t148 t149 bt152.1 bt152.2.1 bt152.2.2.1 bt152.2.2.2)) else (none)) else (none))) = some r := H
                      have A24 := Aside0.mk A240
                      clear A240
                      by_cases c25 : x7_2 = 0
                      · rw [if_pos c25] at H
                        exact absurd H (by simp)
                      · rw [if_neg c25] at H
                        have c25b0 : (x7_2 == 0) = false := beq_eq_false_iff_ne.mpr c25
                        have c25b1 : (x7_2 != 0) = true := bne_iff_ne.mpr c25
                        obtain ⟨ji26, hji26⟩ : ∃ j_ : Int, (Int.tmod (wrap64 (x9_3 + t150)) x7_2) = j_ := ⟨_, rfl⟩
                        replace H : (if 0 ≤ (ji26) then (if (ji26) < (l0.length : Int) then ((rect_Cover.f k3 x142000_3 x142001_3 x142002_3 x142003_3 ((rd_T23 l0 (ji26)).f0) ((rd_T23 l0 (ji26)).f1) ((rd_T23 l0 (ji26)).f2) ((rd_T23 l0 (ji26)).f3)).bind fun bt152 => (tableaulaw07_RectCovers.l2 k3 l0 a1 x7_2 (wrap64 (x9_3 + 1)) t146 t147 t148 t149 bt152.1 bt152.2.1 bt152.2.2.1 bt152.2.2.2)) else (none)) else (none)) = some r := by first | (rw [hji26] at H; exact H) | (simp only [hji26] at H ⊢; exact H)
                        (try rw [hji26] at A23)
                        (try rw [hji26] at A24)
                        by_cases c27 : 0 ≤ (ji26)
                        · rw [if_pos c27] at H
                          have c27b0 : decide (0 ≤ (ji26)) = true := decide_eq_true c27
                          clear c27
                          by_cases c28 : (ji26) < (l0.length : Int)
                          · rw [if_pos c28] at H
                            have c28b0 : decide ((ji26) < (l0.length : Int)) = true := decide_eq_true c28
                            clear c28
                            replace H := Option.bind_eq_some_iff.mp H
                            obtain ⟨⟨t152, t153, t154, t155⟩, A290, H⟩ := H
                            replace H : (tableaulaw07_RectCovers.l2 k3 l0 a1 x7_2 (wrap64 (x9_3 + 1)) t146 t147 t148 t149 t152 t153 t154 t155) = some r := H
                            have A29 := Aside0.mk A290
                            clear A290
                            have H' := Aside0.mk H
                            clear H
                            try go_wp2
                            have n0_ := Aside0.mk (blk_drew BK140.out)
                            have n1_ := Aside0.mk (blk_drew BK141.out)
                            have n2_ := Aside0.mk (below_drew1 HB.out)
                            clear BK140
                            clear BK141
                            clear HB
                            have BK140 := n0_
                            have BK141 := n1_
                            have HB := n2_
                            clear n0_ n1_ n2_
                            have p145 : 0 ≤ (x9_3 : Int) := of_decide_eq_true (by first | (with_reducible assumption) | assumption)
                            have q145 : x9_3 < (l0.length : Int) := of_decide_eq_true (by first | (with_reducible assumption) | assumption)
                            obtain ⟨ad145, e145, hx145_0, hx145_1, hx145_2, hx145_3⟩ := at_T23 HR0.out x9_3 p145 q145
                            have hw145_3 := hx145_3
                            have hw145_2 := hx145_2
                            have hw145_1 := hx145_1
                            have hw145_0 := hx145_0
                            cases e145
                            replace hx145_0 := (HB.out.cell (World.block_lt_of_cell? w _ hx145_0)).trans hx145_0
                            replace hx145_1 := (HB.out.cell (World.block_lt_of_cell? w _ hx145_1)).trans hx145_1
                            replace hx145_2 := (HB.out.cell (World.block_lt_of_cell? w _ hx145_2)).trans hx145_2
                            replace hx145_3 := (HB.out.cell (World.block_lt_of_cell? w _ hx145_3)).trans hx145_3
                            replace p145 := eq_true p145
                            replace q145 := eq_true q145
                            refine start_ (n := 7) (S := fun w' => w'.cell? ⟨gb140, 0, none⟩ = some (.int .i64 x141000_3) ∧ w'.cell? ⟨gb140, 1, none⟩ = some (.int .i64 x141001_3) ∧ w'.cell? ⟨gb140, 2, none⟩ = some (.int .i64 x141002_3) ∧ w'.cell? ⟨gb140, 3, none⟩ = some (.int .i64 x141003_3) ∧ w'.cell? (ad145.add ((x9_3).toNat * 4)) = some (.int .i64 ((rd_T23 l0 x9_3).f0)) ∧ w'.cell? ⟨(ad145.add ((x9_3).toNat * 4)).block, (ad145.add ((x9_3).toNat * 4)).off + 1, none⟩ = some (.int .i64 ((rd_T23 l0 x9_3).f1)) ∧ w'.cell? ⟨(ad145.add ((x9_3).toNat * 4)).block, (ad145.add ((x9_3).toNat * 4)).off + 2, none⟩ = some (.int .i64 ((rd_T23 l0 x9_3).f2)) ∧ w'.cell? ⟨(ad145.add ((x9_3).toNat * 4)).block, (ad145.add ((x9_3).toNat * 4)).off + 3, none⟩ = some (.int .i64 ((rd_T23 l0 x9_3).f3))) (ds := [6]) #[false, false, false, false, false, false, false] (by kernel_rfl) rfl rfl ⟨(blk_cell BK140.out 0).trans rfl, (blk_cell BK140.out 1).trans rfl, (blk_cell BK140.out 2).trans rfl, (blk_cell BK140.out 3).trans rfl, ((HB.out.cell (World.block_lt_of_cell? w _ hw145_0)).trans hw145_0), ((HB.out.cell (World.block_lt_of_cell? w _ hw145_1)).trans hw145_1), ((HB.out.cell (World.block_lt_of_cell? w _ hw145_2)).trans hw145_2), ((HB.out.cell (World.block_lt_of_cell? w _ hw145_3)).trans hw145_3)⟩ (fun hHeld => ?_)
                            generalize wr.drew = w30 at BK140 BK141 HB hx145_0 hx145_1 hx145_2 hx145_3 hHeld ⊢
                            refine pure_ (i := 1) (N := some 40) (v := ?_) (a' := ?_) #[false, true, false, false, false, false, false] rfl rfl (by kernel_rfl) (fun _ _ _ h => h) (Or.inl ⟨by rfl, ?_⟩) ?_ ?_
                            rotate_left
                            · intro w'
                              go_simp
                              with_reducible rfl
                            rotate_left
                            · simp only [Act.put, List.setIfInBounds_toArray, List.set_cons_zero, List.set_cons_succ, i64_w, i32_w]
                              rfl
                            refine pure_ (i := 2) (N := some 41) (v := ?_) (a' := ?_) #[false, true, true, false, false, false, false] rfl rfl (by kernel_rfl) (fun _ _ _ h => h) (Or.inl ⟨by rfl, ?_⟩) ?_ ?_
                            rotate_left
                            · intro w'
                              go_simp
                              with_reducible rfl
                            rotate_left
                            · simp only [Act.put, List.setIfInBounds_toArray, List.set_cons_zero, List.set_cons_succ, i64_w, i32_w]
                              rfl
                            refine pure_ (i := 3) (N := some 42) (v := ?_) (a' := ?_) #[false, true, true, true, false, false, false] rfl rfl (by kernel_rfl) (fun _ _ _ h => h) (Or.inl ⟨by rfl, ?_⟩) ?_ ?_
                            rotate_left
                            · intro w'
                              go_simp
                              with_reducible rfl
                            rotate_left
                            · simp only [Act.put, List.setIfInBounds_toArray, List.set_cons_zero, List.set_cons_succ, i64_w, i32_w]
                              rfl
                            refine take_ (i := 0) (N := some 39) (v := ?_) (a' := ?_) #[true, true, true, true, false, false, false] rfl rfl (by kernel_rfl) (fun _ _ _ h => h) (Or.inl ⟨by rfl, ?_⟩) hHeld ?_ ?_
                            rotate_left
                            · rintro w' ⟨s0, s1, s2, s3, s4, s5, s6, s7⟩
                              go_simp
                              with_reducible rfl
                            rotate_left
                            · simp only [Act.put, List.setIfInBounds_toArray, List.set_cons_zero, List.set_cons_succ, i64_w, i32_w]
                              rfl
                            refine take_ (i := 4) (N := some 43) (v := ?_) (a' := ?_) #[true, true, true, true, true, false, false] rfl rfl (by kernel_rfl) (fun _ _ _ h => h) (Or.inl ⟨by rfl, ?_⟩) hHeld ?_ ?_
                            rotate_left
                            · rintro w' ⟨s0, s1, s2, s3, s4, s5, s6, s7⟩
                              go_simp
                              with_reducible rfl
                            rotate_left
                            · simp only [Act.put, List.setIfInBounds_toArray, List.set_cons_zero, List.set_cons_succ, i64_w, i32_w]
                              rfl
                            refine one_ (i := 5) (N := some 44) #[true, true, true, true, true, true, false] rfl rfl (by kernel_rfl) (by decide) (fun K hK => ?_)
                            refine goes_ Try.func26 (by kernel_rfl) rfl #[.agg #[.int .i64 x141000_3, .int .i64 x141001_3, .int .i64 x141002_3, .int .i64 x141003_3], .agg #[.int .i64 ((rd_T23 l0 x9_3).f0), .int .i64 ((rd_T23 l0 x9_3).f1), .int .i64 ((rd_T23 l0 x9_3).f2), .int .i64 ((rd_T23 l0 x9_3).f3)]] (by rfl) rfl rfl (by (try simp only [List.map_toArray, List.map_cons, List.map_nil]); first | done | rfl | (simp only [List.length_drop, List.length_take]; rfl)) ?_
                            with_reducible refine (rect_Cover.calls k3 x141000_3 x141001_3 x141002_3 x141003_3 ((rd_T23 l0 x9_3).f0) ((rd_T23 l0 x9_3).f1) ((rd_T23 l0 x9_3).f2) ((rd_T23 l0 x9_3).f3) t146 t147 t148 t149 _ A23.out).mono ?_
                            rintro e w31 ⟨rfl, hb⟩
                            refine ⟨_, rfl, ?_⟩
                            have n0_ := Aside0.mk (blk_below (g := gb140) (o := .cells #[.int .i64 x141000_3, .int .i64 x141001_3, .int .i64 x141002_3, .int .i64 x141003_3] 23 (0, 0)) (by (with_reducible repeat (first | refine blk_drewN ?_ _ | refine blk_drew ?_ | refine blk_alloc ?_ _)); exact BK140.out) hb)
                            have n1_ := Aside0.mk (blk_below (g := gb141) (o := .cells #[.int .i64 x142000_3, .int .i64 x142001_3, .int .i64 x142002_3, .int .i64 x142003_3] 23 (0, 0)) (by (with_reducible repeat (first | refine blk_drewN ?_ _ | refine blk_drew ?_ | refine blk_alloc ?_ _)); exact BK141.out) hb)
                            have n2_ := Aside0.mk (below_step (by repeat (first | (with_reducible first | exact HB.out | apply below_alloc | apply pw_below_drewN | apply below_drew1 | refine below_set ?_ GE140.out | refine below_set ?_ GE141.out) | exact HB.out)) hb)
                            clear BK140
                            clear BK141
                            clear HB
                            have BK140 := n0_
                            have BK141 := n1_
                            have HB := n2_
                            clear n0_ n1_ n2_
                            (try clear hb)
                            (try clear hb2)
                            (try clear hk)
                            (try clear hi)
                            refine hK.out _ _ ⟨(blk_cell BK140.out 0).trans rfl, (blk_cell BK140.out 1).trans rfl, (blk_cell BK140.out 2).trans rfl, (blk_cell BK140.out 3).trans rfl, ((HB.out.cell (World.block_lt_of_cell? w _ hw145_0)).trans hw145_0), ((HB.out.cell (World.block_lt_of_cell? w _ hw145_1)).trans hw145_1), ((HB.out.cell (World.block_lt_of_cell? w _ hw145_2)).trans hw145_2), ((HB.out.cell (World.block_lt_of_cell? w _ hw145_3)).trans hw145_3)⟩ (fun hHeld => ?_)
                            clear hK K
                            refine norm_ (a' := ?_) ?_ ?_
                            rotate_left
                            · show Act.put _ (some 44) _ = _
                              simp only [Act.put, List.setIfInBounds_toArray, List.set_cons_zero, List.set_cons_succ, i64_w, i32_w]
                              rfl
                            refine last_ (i := 6) (N := none) #[true, true, true, true, true, true, true] rfl rfl (by kernel_rfl) (by decide) (fun K hK => ?_)
                            have hs32 : w31.cell? ⟨gb140, 0, none⟩ = some (.int .i64 x141000_3) := (blk_cell BK140.out 0).trans rfl
                            have hfs32 := blk_frozen BK140.out 0
                            have hns32_1 := NB141_140.out
                            have hms32_1 := NB140_141.out
                            have hs33 : w31.cell? ⟨gb140, 1, none⟩ = some (.int .i64 x141001_3) := (blk_cell BK140.out 1).trans rfl
                            have hfs33 := blk_frozen BK140.out 1
                            have hns33_1 := NB141_140.out
                            have hms33_1 := NB140_141.out
                            have hs34 : w31.cell? ⟨gb140, 2, none⟩ = some (.int .i64 x141002_3) := (blk_cell BK140.out 2).trans rfl
                            have hfs34 := blk_frozen BK140.out 2
                            have hns34_1 := NB141_140.out
                            have hms34_1 := NB140_141.out
                            have hs35 : w31.cell? ⟨gb140, 3, none⟩ = some (.int .i64 x141003_3) := (blk_cell BK140.out 3).trans rfl
                            have hfs35 := blk_frozen BK140.out 3
                            have hns35_1 := NB141_140.out
                            have hms35_1 := NB140_141.out
                            refine skip_ (w1 := ?_) (by rfl) rfl ?_ ?_
                            rotate_left
                            · go_simp
                              rfl
                            refine hK.out _ _ ?_
                            clear hK K
                            refine done_ (by kernel_rfl) ?_
                            try go_wp2
                            have n0_ : Aside0 (((((w31.setCell ⟨gb140, 0, none⟩ (.int .i64 t146)).setCell ⟨gb140, 1, none⟩ (.int .i64 t147)).setCell ⟨gb140, 2, none⟩ (.int .i64 t148)).setCell ⟨gb140, 3, none⟩ (.int .i64 t149)).heap[gb140]? = some (.cells #[.int .i64 t146, .int .i64 t147, .int .i64 t148, .int .i64 t149] 23 (0, 0))) := ⟨by (with_reducible repeat (first | refine blk_drewN ?_ _ | refine blk_drew ?_ | refine blk_alloc ?_ _)); refine blk_put (cs := #[.int .i64 t146, .int .i64 t147, .int .i64 t148, .int .i64 x141003_3]) ?_ 3 _ rfl; (with_reducible repeat (first | refine blk_drewN ?_ _ | refine blk_drew ?_ | refine blk_alloc ?_ _)); refine blk_put (cs := #[.int .i64 t146, .int .i64 t147, .int .i64 x141002_3, .int .i64 x141003_3]) ?_ 2 _ rfl; (with_reducible repeat (first | refine blk_drewN ?_ _ | refine blk_drew ?_ | refine blk_alloc ?_ _)); refine blk_put (cs := #[.int .i64 t146, .int .i64 x141001_3, .int .i64 x141002_3, .int .i64 x141003_3]) ?_ 1 _ rfl; (with_reducible repeat (first | refine blk_drewN ?_ _ | refine blk_drew ?_ | refine blk_alloc ?_ _)); refine blk_put (cs := #[.int .i64 x141000_3, .int .i64 x141001_3, .int .i64 x141002_3, .int .i64 x141003_3]) ?_ 0 _ rfl; (with_reducible repeat (first | refine blk_drewN ?_ _ | refine blk_drew ?_ | refine blk_alloc ?_ _)); exact BK140.out⟩
                            have n1_ : Aside0 (((((w31.setCell ⟨gb140, 0, none⟩ (.int .i64 t146)).setCell ⟨gb140, 1, none⟩ (.int .i64 t147)).setCell ⟨gb140, 2, none⟩ (.int .i64 t148)).setCell ⟨gb140, 3, none⟩ (.int .i64 t149)).heap[gb141]? = some (.cells #[.int .i64 x142000_3, .int .i64 x142001_3, .int .i64 x142002_3, .int .i64 x142003_3] 23 (0, 0))) := ⟨by (with_reducible repeat (first | refine blk_drewN ?_ _ | refine blk_drew ?_ | refine blk_alloc ?_ _)); refine blk_far ?_ NB141_140.out _; (with_reducible repeat (first | refine blk_drewN ?_ _ | refine blk_drew ?_ | refine blk_alloc ?_ _)); refine blk_far ?_ NB141_140.out _; (with_reducible repeat (first | refine blk_drewN ?_ _ | refine blk_drew ?_ | refine blk_alloc ?_ _)); refine blk_far ?_ NB141_140.out _; (with_reducible repeat (first | refine blk_drewN ?_ _ | refine blk_drew ?_ | refine blk_alloc ?_ _)); refine blk_far ?_ NB141_140.out _; (with_reducible repeat (first | refine blk_drewN ?_ _ | refine blk_drew ?_ | refine blk_alloc ?_ _)); exact BK141.out⟩
                            have n2_ : Aside0 (Below w.heap.size w ((((w31.setCell ⟨gb140, 0, none⟩ (.int .i64 t146)).setCell ⟨gb140, 1, none⟩ (.int .i64 t147)).setCell ⟨gb140, 2, none⟩ (.int .i64 t148)).setCell ⟨gb140, 3, none⟩ (.int .i64 t149))) := ⟨by repeat (first | (with_reducible first | exact HB.out | apply below_alloc | apply pw_below_drewN | apply below_drew1 | refine below_set ?_ GE140.out | refine below_set ?_ GE141.out) | exact HB.out)⟩
                            (try clear BK140)
                            (try clear BK141)
                            (try clear HB)
                            generalize ((((w31.setCell ⟨gb140, 0, none⟩ (.int .i64 t146)).setCell ⟨gb140, 1, none⟩ (.int .i64 t147)).setCell ⟨gb140, 2, none⟩ (.int .i64 t148)).setCell ⟨gb140, 3, none⟩ (.int .i64 t149)) = w36 at n0_ n1_ n2_ ⊢
                            have BK140 := n0_
                            have BK141 := n1_
                            have HB := n2_
                            clear n0_ n1_ n2_
                            have n0_ := Aside0.mk (blk_drew BK140.out)
                            have n1_ := Aside0.mk (blk_drew BK141.out)
                            have n2_ := Aside0.mk (below_drew1 HB.out)
                            clear BK140
                            clear BK141
                            clear HB
                            have BK140 := n0_
                            have BK141 := n1_
                            have HB := n2_
                            clear n0_ n1_ n2_
                            have p151 : 0 ≤ ((ji26) : Int) := of_decide_eq_true (by first | (with_reducible assumption) | assumption)
                            have q151 : (ji26) < (l0.length : Int) := of_decide_eq_true (by first | (with_reducible assumption) | assumption)
                            obtain ⟨ad151, e151, hx151_0, hx151_1, hx151_2, hx151_3⟩ := at_T23 HR0.out (ji26) p151 q151
                            have hw151_3 := hx151_3
                            have hw151_2 := hx151_2
                            have hw151_1 := hx151_1
                            have hw151_0 := hx151_0
                            obtain rfl : ad145 = ad151 := (by injection e151)
                            replace hx151_0 := (HB.out.cell (World.block_lt_of_cell? w _ hx151_0)).trans hx151_0
                            replace hx151_1 := (HB.out.cell (World.block_lt_of_cell? w _ hx151_1)).trans hx151_1
                            replace hx151_2 := (HB.out.cell (World.block_lt_of_cell? w _ hx151_2)).trans hx151_2
                            replace hx151_3 := (HB.out.cell (World.block_lt_of_cell? w _ hx151_3)).trans hx151_3
                            replace p151 := eq_true p151
                            replace q151 := eq_true q151
                            refine start_ (n := 13) (S := fun w' => w'.cell? ⟨gb141, 0, none⟩ = some (.int .i64 x142000_3) ∧ w'.cell? ⟨gb141, 1, none⟩ = some (.int .i64 x142001_3) ∧ w'.cell? ⟨gb141, 2, none⟩ = some (.int .i64 x142002_3) ∧ w'.cell? ⟨gb141, 3, none⟩ = some (.int .i64 x142003_3) ∧ w'.cell? (ad145.add (((ji26)).toNat * 4)) = some (.int .i64 ((rd_T23 l0 (ji26)).f0)) ∧ w'.cell? ⟨(ad145.add (((ji26)).toNat * 4)).block, (ad145.add (((ji26)).toNat * 4)).off + 1, none⟩ = some (.int .i64 ((rd_T23 l0 (ji26)).f1)) ∧ w'.cell? ⟨(ad145.add (((ji26)).toNat * 4)).block, (ad145.add (((ji26)).toNat * 4)).off + 2, none⟩ = some (.int .i64 ((rd_T23 l0 (ji26)).f2)) ∧ w'.cell? ⟨(ad145.add (((ji26)).toNat * 4)).block, (ad145.add (((ji26)).toNat * 4)).off + 3, none⟩ = some (.int .i64 ((rd_T23 l0 (ji26)).f3))) (ds := [12]) #[false, false, false, false, false, false, false, false, false, false, false, false, false] (by kernel_rfl) rfl rfl ⟨(blk_cell BK141.out 0).trans rfl, (blk_cell BK141.out 1).trans rfl, (blk_cell BK141.out 2).trans rfl, (blk_cell BK141.out 3).trans rfl, ((HB.out.cell (World.block_lt_of_cell? w _ hw151_0)).trans hw151_0), ((HB.out.cell (World.block_lt_of_cell? w _ hw151_1)).trans hw151_1), ((HB.out.cell (World.block_lt_of_cell? w _ hw151_2)).trans hw151_2), ((HB.out.cell (World.block_lt_of_cell? w _ hw151_3)).trans hw151_3)⟩ (fun hHeld => ?_); refine with_tabW tableaulaw07_RectCovers.tab14 tableaulaw07_RectCovers.bits14 (fun HT_ HW_ => ?_)
                            generalize w36.drew = w37 at BK140 BK141 HB hx151_0 hx151_1 hx151_2 hx151_3 hHeld ⊢
                            refine pure_ (i := 1) (N := some 46) (v := ?_) (a' := ?_) #[false, true, false, false, false, false, false, false, false, false, false, false, false] rfl rfl (any_of HT_.out (by kernel_rfl)) (fun _ _ _ h => h) (Or.inl ⟨by rfl, ?_⟩) ?_ ?_
                            rotate_left
                            · intro w'
                              go_simp
                              with_reducible rfl
                            rotate_left
                            · simp only [Act.put, List.setIfInBounds_toArray, List.set_cons_zero, List.set_cons_succ, i64_w, i32_w]
                              rfl
                            refine pure_ (i := 2) (N := some 47) (v := ?_) (a' := ?_) #[false, true, true, false, false, false, false, false, false, false, false, false, false] rfl rfl (any_of HT_.out (by kernel_rfl)) (fun _ _ _ h => h) (Or.inl ⟨by rfl, ?_⟩) ?_ ?_
                            rotate_left
                            · intro w'
                              go_simp
                              with_reducible rfl
                            rotate_left
                            · simp only [Act.put, List.setIfInBounds_toArray, List.set_cons_zero, List.set_cons_succ, i64_w, i32_w]
                              rfl
                            refine pure_ (i := 3) (N := some 48) (v := ?_) (a' := ?_) #[false, true, true, true, false, false, false, false, false, false, false, false, false] rfl rfl (any_of HT_.out (by kernel_rfl)) (fun _ _ _ h => h) (Or.inl ⟨by rfl, ?_⟩) ?_ ?_
                            rotate_left
                            · intro w'
                              go_simp
                              with_reducible rfl
                            rotate_left
                            · simp only [Act.put, List.setIfInBounds_toArray, List.set_cons_zero, List.set_cons_succ, i64_w, i32_w]
                              rfl
                            refine pure_ (i := 4) (N := some 49) (v := ?_) (a' := ?_) #[false, true, true, true, true, false, false, false, false, false, false, false, false] rfl rfl (any_of HT_.out (by kernel_rfl)) (fun _ _ _ h => h) (Or.inl ⟨by rfl, ?_⟩) ?_ ?_
                            rotate_left
                            · intro w'
                              go_simp
                              with_reducible rfl
                            rotate_left
                            · simp only [Act.put, List.setIfInBounds_toArray, List.set_cons_zero, List.set_cons_succ, i64_w, i32_w]
                              rfl
                            refine pure_ (i := 7) (N := some 52) (v := ?_) (a' := ?_) #[false, true, true, true, true, false, false, true, false, false, false, false, false] rfl rfl (any_of HT_.out (by kernel_rfl)) (fun _ _ _ h => h) (Or.inl ⟨by rfl, ?_⟩) ?_ ?_
                            rotate_left
                            · intro w'
                              go_simp
                              with_reducible rfl
                            rotate_left
                            · simp only [Act.put, List.setIfInBounds_toArray, List.set_cons_zero, List.set_cons_succ, i64_w, i32_w]
                              rfl
                            refine take_ (i := 0) (N := some 45) (v := ?_) (a' := ?_) #[true, true, true, true, true, false, false, true, false, false, false, false, false] rfl rfl (take_ofW HT_.out HW_.out (by kernel_rfl)) (fun _ _ _ h => h) (Or.inl ⟨by rfl, ?_⟩) hHeld ?_ ?_
                            rotate_left
                            · rintro w' ⟨s0, s1, s2, s3, s4, s5, s6, s7⟩
                              go_simp
                              with_reducible rfl
                            rotate_left
                            · simp only [Act.put, List.setIfInBounds_toArray, List.set_cons_zero, List.set_cons_succ, i64_w, i32_w]
                              rfl
                            refine one_ (i := 5) (N := some 50) #[true, true, true, true, true, true, false, true, false, false, false, false, false] rfl rfl (one_of HT_.out (by kernel_rfl)) (by decide) (fun K hK => ?_)
                            refine goes_ Try.func19 (by kernel_rfl) rfl #[.int .i64 a1, .int .i64 x7_2] (by rfl) rfl rfl (by (try simp only [List.map_toArray, List.map_cons, List.map_nil]); first | done | rfl | (simp only [List.length_drop, List.length_take]; rfl)) ?_
                            with_reducible refine (tableaulaw00_Place.calls a1 x7_2 t150 _ A24.out).mono ?_
                            rintro e w' ⟨rfl, ⟨nd, rfl⟩⟩
                            refine ⟨_, rfl, ?_⟩
                            refine hK.out _ _ ⟨(blk_cell BK141.out 0).trans rfl, (blk_cell BK141.out 1).trans rfl, (blk_cell BK141.out 2).trans rfl, (blk_cell BK141.out 3).trans rfl, ((HB.out.cell (World.block_lt_of_cell? w _ hw151_0)).trans hw151_0), ((HB.out.cell (World.block_lt_of_cell? w _ hw151_1)).trans hw151_1), ((HB.out.cell (World.block_lt_of_cell? w _ hw151_2)).trans hw151_2), ((HB.out.cell (World.block_lt_of_cell? w _ hw151_3)).trans hw151_3)⟩ (fun hHeld => ?_)
                            clear hK K
                            refine norm_ (a' := ?_) ?_ ?_
                            rotate_left
                            · show Act.put _ (some 50) _ = _
                              simp only [Act.put, List.setIfInBounds_toArray, List.set_cons_zero, List.set_cons_succ, i64_w, i32_w]
                              rfl
                            refine pure_ (i := 6) (N := some 51) (v := ?_) (a' := ?_) #[true, true, true, true, true, true, true, true, false, false, false, false, false] rfl rfl (any_of HT_.out (by kernel_rfl)) (fun _ _ _ h => h) (Or.inl ⟨by rfl, ?_⟩) ?_ ?_
                            rotate_left
                            · intro w'
                              go_simp
                              with_reducible rfl
                            rotate_left
                            · simp only [Act.put, List.setIfInBounds_toArray, List.set_cons_zero, List.set_cons_succ, i64_w, i32_w]
                              rfl
                            refine pure_ (i := 8) (N := some 53) (v := ?_) (a' := ?_) #[true, true, true, true, true, true, true, true, true, false, false, false, false] rfl rfl (any_of HT_.out (by kernel_rfl)) (fun _ _ _ h => h) (Or.inl ⟨by rfl, ?_⟩) ?_ ?_
                            rotate_left
                            · intro w'
                              go_simp
                              with_reducible rfl
                            rotate_left
                            · simp only [Act.put, List.setIfInBounds_toArray, List.set_cons_zero, List.set_cons_succ, i64_w, i32_w]
                              rfl
                            refine pure_ (i := 9) (N := some 54) (v := ?_) (a' := ?_) #[true, true, true, true, true, true, true, true, true, true, false, false, false] rfl rfl (any_of HT_.out (by kernel_rfl)) (fun _ _ _ h => h) (Or.inl ⟨by rfl, ?_⟩) ?_ ?_
                            rotate_left
                            · intro w'
                              go_simp
                              with_reducible rfl
                            rotate_left
                            · simp only [Act.put, List.setIfInBounds_toArray, List.set_cons_zero, List.set_cons_succ, i64_w, i32_w]
                              rfl
                            refine take_ (i := 10) (N := some 55) (v := ?_) (a' := ?_) #[true, true, true, true, true, true, true, true, true, true, true, false, false] rfl rfl (take_ofW HT_.out HW_.out (by kernel_rfl)) (fun _ _ _ h => h) (Or.inl ⟨by rfl, ?_⟩) hHeld ?_ ?_
                            rotate_left
                            · rintro w' ⟨s0, s1, s2, s3, s4, s5, s6, s7⟩
                              go_simp
                              with_reducible rfl
                            rotate_left
                            · simp only [Act.put, List.setIfInBounds_toArray, List.set_cons_zero, List.set_cons_succ, i64_w, i32_w]
                              rfl
                            refine one_ (i := 11) (N := some 56) #[true, true, true, true, true, true, true, true, true, true, true, true, false] rfl rfl (one_of HT_.out (by kernel_rfl)) (by decide) (fun K hK => ?_)
                            refine goes_ Try.func26 (by kernel_rfl) rfl #[.agg #[.int .i64 x142000_3, .int .i64 x142001_3, .int .i64 x142002_3, .int .i64 x142003_3], .agg #[.int .i64 ((rd_T23 l0 (ji26)).f0), .int .i64 ((rd_T23 l0 (ji26)).f1), .int .i64 ((rd_T23 l0 (ji26)).f2), .int .i64 ((rd_T23 l0 (ji26)).f3)]] (by rfl) rfl rfl (by (try simp only [List.map_toArray, List.map_cons, List.map_nil]); first | done | (simp only [hji26]; rfl) | rfl | (simp only [List.length_drop, List.length_take]; rfl)) ?_
                            with_reducible refine (rect_Cover.calls k3 x142000_3 x142001_3 x142002_3 x142003_3 ((rd_T23 l0 (ji26)).f0) ((rd_T23 l0 (ji26)).f1) ((rd_T23 l0 (ji26)).f2) ((rd_T23 l0 (ji26)).f3) t152 t153 t154 t155 _ A29.out).mono ?_
                            rintro e w38 ⟨rfl, hb⟩
                            refine ⟨_, rfl, ?_⟩
                            have n0_ := Aside0.mk (blk_below (g := gb140) (o := .cells #[.int .i64 t146, .int .i64 t147, .int .i64 t148, .int .i64 t149] 23 (0, 0)) (by (with_reducible repeat (first | refine blk_drewN ?_ _ | refine blk_drew ?_ | refine blk_alloc ?_ _)); exact BK140.out) hb)
                            have n1_ := Aside0.mk (blk_below (g := gb141) (o := .cells #[.int .i64 x142000_3, .int .i64 x142001_3, .int .i64 x142002_3, .int .i64 x142003_3] 23 (0, 0)) (by (with_reducible repeat (first | refine blk_drewN ?_ _ | refine blk_drew ?_ | refine blk_alloc ?_ _)); exact BK141.out) hb)
                            have n2_ := Aside0.mk (below_step (by repeat (first | (with_reducible first | exact HB.out | apply below_alloc | apply pw_below_drewN | apply below_drew1 | refine below_set ?_ GE140.out | refine below_set ?_ GE141.out) | exact HB.out)) hb)
                            clear BK140
                            clear BK141
                            clear HB
                            have BK140 := n0_
                            have BK141 := n1_
                            have HB := n2_
                            clear n0_ n1_ n2_
                            (try clear hb)
                            (try clear hb2)
                            (try clear hk)
                            (try clear hi)
                            refine hK.out _ _ ⟨(blk_cell BK141.out 0).trans rfl, (blk_cell BK141.out 1).trans rfl, (blk_cell BK141.out 2).trans rfl, (blk_cell BK141.out 3).trans rfl, ((HB.out.cell (World.block_lt_of_cell? w _ hw151_0)).trans hw151_0), ((HB.out.cell (World.block_lt_of_cell? w _ hw151_1)).trans hw151_1), ((HB.out.cell (World.block_lt_of_cell? w _ hw151_2)).trans hw151_2), ((HB.out.cell (World.block_lt_of_cell? w _ hw151_3)).trans hw151_3)⟩ (fun hHeld => ?_)
                            clear hK K
                            refine norm_ (a' := ?_) ?_ ?_
                            rotate_left
                            · show Act.put _ (some 56) _ = _
                              simp only [Act.put, List.setIfInBounds_toArray, List.set_cons_zero, List.set_cons_succ, i64_w, i32_w]
                              rfl
                            refine last_ (i := 12) (N := none) #[true, true, true, true, true, true, true, true, true, true, true, true, true] rfl rfl (one_of HT_.out (by kernel_rfl)) (by decide) (fun K hK => ?_)
                            have hs39 : w38.cell? ⟨gb141, 0, none⟩ = some (.int .i64 x142000_3) := (blk_cell BK141.out 0).trans rfl
                            have hfs39 := blk_frozen BK141.out 0
                            have hns39_0 := NB140_141.out
                            have hms39_0 := NB141_140.out
                            have hs40 : w38.cell? ⟨gb141, 1, none⟩ = some (.int .i64 x142001_3) := (blk_cell BK141.out 1).trans rfl
                            have hfs40 := blk_frozen BK141.out 1
                            have hns40_0 := NB140_141.out
                            have hms40_0 := NB141_140.out
                            have hs41 : w38.cell? ⟨gb141, 2, none⟩ = some (.int .i64 x142002_3) := (blk_cell BK141.out 2).trans rfl
                            have hfs41 := blk_frozen BK141.out 2
                            have hns41_0 := NB140_141.out
                            have hms41_0 := NB141_140.out
                            have hs42 : w38.cell? ⟨gb141, 3, none⟩ = some (.int .i64 x142003_3) := (blk_cell BK141.out 3).trans rfl
                            have hfs42 := blk_frozen BK141.out 3
                            have hns42_0 := NB140_141.out
                            have hms42_0 := NB141_140.out
                            refine skip_ (w1 := ?_) (by rfl) rfl ?_ ?_
                            rotate_left
                            · go_simp
                              rfl
                            refine hK.out _ _ ?_
                            clear hK K
                            refine done_ (done_of HT_.out (by kernel_rfl)) ?_
                            try go_wp2
                            go_roundg k3
                            case measure => have := HJ2.out; have := HK2.out; have := HK3.out; omega
                            case rel => exact ⟨(wrap64 (x9_3 + 1)), (t146), (t147), (t148), (t149), (t152), (t153), (t154), (t155), (by first | rfl | (simp; done) | (simp [*]; done)), H', ⟨by have := HJ2.out; have := HK2.out; have := HK3.out; omega⟩, ⟨by (with_reducible repeat (first | refine blk_drewN ?_ _ | refine blk_drew ?_ | refine blk_alloc ?_ _)); refine blk_far ?_ NB140_141.out _; (with_reducible repeat (first | refine blk_drewN ?_ _ | refine blk_drew ?_ | refine blk_alloc ?_ _)); refine blk_far ?_ NB140_141.out _; (with_reducible repeat (first | refine blk_drewN ?_ _ | refine blk_drew ?_ | refine blk_alloc ?_ _)); refine blk_far ?_ NB140_141.out _; (with_reducible repeat (first | refine blk_drewN ?_ _ | refine blk_drew ?_ | refine blk_alloc ?_ _)); refine blk_far ?_ NB140_141.out _; (with_reducible repeat (first | refine blk_drewN ?_ _ | refine blk_drew ?_ | refine blk_alloc ?_ _)); exact BK140.out⟩, ⟨by (with_reducible repeat (first | refine blk_drewN ?_ _ | refine blk_drew ?_ | refine blk_alloc ?_ _)); refine blk_put (cs := #[.int .i64 t152, .int .i64 t153, .int .i64 t154, .int .i64 x142003_3]) ?_ 3 _ rfl; (with_reducible repeat (first | refine blk_drewN ?_ _ | refine blk_drew ?_ | refine blk_alloc ?_ _)); refine blk_put (cs := #[.int .i64 t152, .int .i64 t153, .int .i64 x142002_3, .int .i64 x142003_3]) ?_ 2 _ rfl; (with_reducible repeat (first | refine blk_drewN ?_ _ | refine blk_drew ?_ | refine blk_alloc ?_ _)); refine blk_put (cs := #[.int .i64 t152, .int .i64 x142001_3, .int .i64 x142002_3, .int .i64 x142003_3]) ?_ 1 _ rfl; (with_reducible repeat (first | refine blk_drewN ?_ _ | refine blk_drew ?_ | refine blk_alloc ?_ _)); refine blk_put (cs := #[.int .i64 x142000_3, .int .i64 x142001_3, .int .i64 x142002_3, .int .i64 x142003_3]) ?_ 0 _ rfl; (with_reducible repeat (first | refine blk_drewN ?_ _ | refine blk_drew ?_ | refine blk_alloc ?_ _)); exact BK141.out⟩, ⟨by repeat (first | (with_reducible first | exact HB.out | apply below_alloc | apply pw_below_drewN | apply below_drew1 | refine below_set ?_ GE140.out | refine below_set ?_ GE141.out) | exact HB.out)⟩⟩
                          · rw [if_neg c28] at H
                            exact absurd H (by simp)
                        · rw [if_neg c27] at H
                          exact absurd H (by simp)
                    · rw [if_neg c22] at H
                      exact absurd H (by simp)
                  · rw [if_neg c21] at H
                    exact absurd H (by simp)
                · rw [if_neg c20] at H
                  have c20b0 : decide (x9_3 < x7_2) = false := decide_eq_false c20
                  clear c20
                  by_cases c43 : (x141000_3 == x142000_3 && (x141001_3 == x142001_3 && (x141002_3 == x142002_3 && (x141003_3 == x142003_3)))) = true
                  · rw [if_pos c43] at H
                    have c43b0 : (x141000_3 == x142000_3 && (x141001_3 == x142001_3 && (x141002_3 == x142002_3 && (x141003_3 == x142003_3)))) = true := c43
                    (try (have c43b1 : decide (x141000_3 = x142000_3 && (x141001_3 == x142001_3 && (x141002_3 == x142002_3 && (x141003_3 == x142003_3)))) = true := by simpa using c43))
                    (try (have c43b2 : (x141000_3 == x142000_3 && (x141001_3 == x142001_3 && (x141002_3 == x142002_3 && (x141003_3 == x142003_3)))) = true := by simpa using c43))
                    clear c43
                    replace H := Option.bind_eq_some_iff.mp H
                    obtain ⟨t156, A440, H⟩ := H
                    replace H : (some t156) = some r := H
                    have A44 := Aside0.mk A440
                    clear A440
                    obtain rfl := Option.some.inj H
                    have hnb45 := NB140_141.out
                    have hnc45 := NB141_140.out
                    have hcz46_0 : wr.cell? ⟨gb140, 0, none⟩ = some (.int .i64 x141000_3) := (blk_cell BK140.out 0).trans rfl
                    have hcz46_1 : wr.cell? ⟨gb140, 1, none⟩ = some (.int .i64 x141001_3) := (blk_cell BK140.out 1).trans rfl
                    have hcz46_2 : wr.cell? ⟨gb140, 2, none⟩ = some (.int .i64 x141002_3) := (blk_cell BK140.out 2).trans rfl
                    have hcz46_3 : wr.cell? ⟨gb140, 3, none⟩ = some (.int .i64 x141003_3) := (blk_cell BK140.out 3).trans rfl
                    have hfz46_0 := blk_frozen BK140.out 0
                    have hfz46_1 := blk_frozen BK140.out 1
                    have hfz46_2 := blk_frozen BK140.out 2
                    have hfz46_3 := blk_frozen BK140.out 3
                    have hcz47_0 : wr.cell? ⟨gb141, 0, none⟩ = some (.int .i64 x142000_3) := (blk_cell BK141.out 0).trans rfl
                    have hcz47_1 : wr.cell? ⟨gb141, 1, none⟩ = some (.int .i64 x142001_3) := (blk_cell BK141.out 1).trans rfl
                    have hcz47_2 : wr.cell? ⟨gb141, 2, none⟩ = some (.int .i64 x142002_3) := (blk_cell BK141.out 2).trans rfl
                    have hcz47_3 : wr.cell? ⟨gb141, 3, none⟩ = some (.int .i64 x142003_3) := (blk_cell BK141.out 3).trans rfl
                    have hfz47_0 := blk_frozen BK141.out 0
                    have hfz47_1 := blk_frozen BK141.out 1
                    have hfz47_2 := blk_frozen BK141.out 2
                    have hfz47_3 := blk_frozen BK141.out 3
                    go_wp2_with (first | (go_at_call 17; (with_reducible refine (tableaulaw07_awake.calls  t156 _ A44.out).mono ?_); rintro e w48 ⟨rfl, hb⟩; have n0_ := Aside0.mk (blk_below (g := gb140) (o := .cells #[.int .i64 x141000_3, .int .i64 x141001_3, .int .i64 x141002_3, .int .i64 x141003_3] 23 (0, 0)) (by (with_reducible repeat (first | refine blk_drewN ?_ _ | refine blk_drew ?_ | refine blk_alloc ?_ _)); exact BK140.out) hb); have n1_ := Aside0.mk (blk_below (g := gb141) (o := .cells #[.int .i64 x142000_3, .int .i64 x142001_3, .int .i64 x142002_3, .int .i64 x142003_3] 23 (0, 0)) (by (with_reducible repeat (first | refine blk_drewN ?_ _ | refine blk_drew ?_ | refine blk_alloc ?_ _)); exact BK141.out) hb); have n2_ := Aside0.mk (below_step (by repeat (first | (with_reducible first | exact HB.out | apply below_alloc | apply pw_below_drewN | apply below_drew1 | refine below_set ?_ GE140.out | refine below_set ?_ GE141.out) | exact HB.out)) hb); clear BK140; clear BK141; clear HB; have BK140 := n0_; have BK141 := n1_; have HB := n2_; clear n0_ n1_ n2_; (try clear hb); (try clear hb2); (try clear hk); (try clear hi)))
                    go_ret
                    exact ⟨by first | rfl | (simp [errW_none, errW_some] <;> rfl) | (simp [*, errW_none, errW_some] <;> rfl), by repeat (first | (with_reducible first | exact HB.out | apply below_alloc | apply pw_below_drewN | apply below_drew1 | refine below_set ?_ GE140.out | refine below_set ?_ GE141.out) | exact HB.out)⟩
                  · rw [if_neg c43] at H
                    have c43b0 : (x141000_3 == x142000_3 && (x141001_3 == x142001_3 && (x141002_3 == x142002_3 && (x141003_3 == x142003_3)))) = false := by simpa using c43
                    (try (have c43b1 : decide (x141000_3 = x142000_3 && (x141001_3 == x142001_3 && (x141002_3 == x142002_3 && (x141003_3 == x142003_3)))) = false := by simpa using c43))
                    (try (have c43b2 : (x141000_3 == x142000_3 && (x141001_3 == x142001_3 && (x141002_3 == x142002_3 && (x141003_3 == x142003_3)))) = false := by simpa using c43))
                    (try (have c43b3 : ¬ (x141000_3 = x142000_3 && (x141001_3 == x142001_3 && (x141002_3 == x142002_3 && (x141003_3 == x142003_3)))) := by simpa using c43))
                    clear c43
                    obtain rfl := Option.some.inj H
                    have hnb49 := NB140_141.out
                    have hnc49 := NB141_140.out
                    have hcz50_0 : wr.cell? ⟨gb140, 0, none⟩ = some (.int .i64 x141000_3) := (blk_cell BK140.out 0).trans rfl
                    have hcz50_1 : wr.cell? ⟨gb140, 1, none⟩ = some (.int .i64 x141001_3) := (blk_cell BK140.out 1).trans rfl
                    have hcz50_2 : wr.cell? ⟨gb140, 2, none⟩ = some (.int .i64 x141002_3) := (blk_cell BK140.out 2).trans rfl
                    have hcz50_3 : wr.cell? ⟨gb140, 3, none⟩ = some (.int .i64 x141003_3) := (blk_cell BK140.out 3).trans rfl
                    have hfz50_0 := blk_frozen BK140.out 0
                    have hfz50_1 := blk_frozen BK140.out 1
                    have hfz50_2 := blk_frozen BK140.out 2
                    have hfz50_3 := blk_frozen BK140.out 3
                    have hcz51_0 : wr.cell? ⟨gb141, 0, none⟩ = some (.int .i64 x142000_3) := (blk_cell BK141.out 0).trans rfl
                    have hcz51_1 : wr.cell? ⟨gb141, 1, none⟩ = some (.int .i64 x142001_3) := (blk_cell BK141.out 1).trans rfl
                    have hcz51_2 : wr.cell? ⟨gb141, 2, none⟩ = some (.int .i64 x142002_3) := (blk_cell BK141.out 2).trans rfl
                    have hcz51_3 : wr.cell? ⟨gb141, 3, none⟩ = some (.int .i64 x142003_3) := (blk_cell BK141.out 3).trans rfl
                    have hfz51_0 := blk_frozen BK141.out 0
                    have hfz51_1 := blk_frozen BK141.out 1
                    have hfz51_2 := blk_frozen BK141.out 2
                    have hfz51_3 := blk_frozen BK141.out 3
                    go_wp2
                    go_ret
                    exact ⟨by first | rfl | (simp [errW_none, errW_some] <;> rfl) | (simp [*, errW_none, errW_some] <;> rfl), by repeat (first | (with_reducible first | exact HB.out | apply below_alloc | apply pw_below_drewN | apply below_drew1 | refine below_set ?_ GE140.out | refine below_set ?_ GE141.out) | exact HB.out)⟩

end Go.Proofs.Ytghgngfmmncomaa.PRectCovers
