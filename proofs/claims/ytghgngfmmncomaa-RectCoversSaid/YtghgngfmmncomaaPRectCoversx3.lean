-- PRINTED BY print.sh 35421559b90ae4d0a3588c463048766b98c2df88dd9212a6774a882060cdf62d: not written by this session
import Derived.Test.YtghgngfmmncomaaPRectCoversx0
import Derived.Test.YtghgngfmmncomaaPRectCoversx1
import Derived.Test.YtghgngfmmncomaaPRectCoversx2
namespace Go.Proofs.Ytghgngfmmncomaa.PRectCovers
open Go.RowKit Go.Proofs.YtghgngfmmncomaaW.PrintWords Go.Proofs.YtghgngfmmncomaaW.PrintLast Go.Proofs.YtghgngfmmncomaaW.PrintMore
attribute [local go_sem] max2_int min2_int max_two min_two max_three min_three max_four min_four   -- for this text's walks alone
set_option linter.unusedVariables false
set_option linter.unusedSimpArgs false

attribute [local go_sem high] eqA23
/-! ### rect_Cover: function 26 -/
mutual
def rect_Cover.j0 : Nat → Int → Int → Int → Int → Int → Int → Int → Int → Option (Int × Int × Int × Int)
  | 0, _, _, _, _, _, _, _, _ => none
  | k + 1, x132000, x132001, x132002, x132003, x133000, x133001, x133002, x133003 => (rect_Empty.f x133000 x133001 x133002 x133003).bind fun t135 => (if t135 = true then (rect_Cover.j1 k x132000 x132001 x132002 x132003 0 0 0 0) else (rect_Cover.j1 k x132000 x132001 x132002 x132003 x133000 x133001 x133002 x133003))
def rect_Cover.j1 : Nat → Int → Int → Int → Int → Int → Int → Int → Int → Option (Int × Int × Int × Int)
  | 0, _, _, _, _, _, _, _, _ => none
  | k + 1, x132000, x132001, x132002, x132003, x133000, x133001, x133002, x133003 => if (x132000 == 0 && (x132001 == 0 && (x132002 == 0 && (x132003 == 0)))) = true then (some (x133000, x133001, x133002, x133003)) else (if (x133000 == 0 && (x133001 == 0 && (x133002 == 0 && (x133003 == 0)))) = true then (some (x132000, x132001, x132002, x132003)) else ((rect_of.f (mn x132000 x133000) (mn x132001 x133001) (mx (wrap64 (x132000 + x132002)) (wrap64 (x133000 + x133002))) (mx (wrap64 (x132001 + x132003)) (wrap64 (x133001 + x133003)))).bind fun bt136 => (some (bt136.1, bt136.2.1, bt136.2.2.1, bt136.2.2.2))))
end
def rect_Cover.f (k : Nat) (a0_0 : Int) (a0_1 : Int) (a0_2 : Int) (a0_3 : Int) (a1_0 : Int) (a1_1 : Int) (a1_2 : Int) (a1_3 : Int) : Option (Int × Int × Int × Int) := (rect_Empty.f a0_0 a0_1 a0_2 a0_3).bind fun t134 => (if t134 = true then (rect_Cover.j0 k 0 0 0 0 a1_0 a1_1 a1_2 a1_3) else (rect_Cover.j0 k a0_0 a0_1 a0_2 a0_3 a1_0 a1_1 a1_2 a1_3))
theorem rect_Cover.mono_l : ∀ k, (∀ y0 y1 y2 y3 y4 y5 y6 y7, LeO (rect_Cover.j0 k y0 y1 y2 y3 y4 y5 y6 y7) (rect_Cover.j0 (k + 1) y0 y1 y2 y3 y4 y5 y6 y7)) ∧ (∀ y0 y1 y2 y3 y4 y5 y6 y7, LeO (rect_Cover.j1 k y0 y1 y2 y3 y4 y5 y6 y7) (rect_Cover.j1 (k + 1) y0 y1 y2 y3 y4 y5 y6 y7))
  | 0 => ⟨fun _ _ _ _ _ _ _ _ r h => by simp [rect_Cover.j0] at h, fun _ _ _ _ _ _ _ _ r h => by simp [rect_Cover.j1] at h⟩
  | k + 1 => by
    obtain ⟨ih0, ih1⟩ := rect_Cover.mono_l k
    refine ⟨?_, ?_⟩
    · intro y0 y1 y2 y3 y4 y5 y6 y7
      unfold rect_Cover.j0
      repeat' first
      | (with_reducible exact ih0 _ _ _ _ _ _ _ _)
      | (with_reducible exact ih1 _ _ _ _ _ _ _ _)
      | (with_reducible exact LeO.refl _)
      | (with_reducible exact LeO.none _)
      | (with_reducible refine LeO.ite ?_ ?_)
      | (with_reducible refine LeO.bind ?_ (fun _ => ?_))
      | exact ih0 _ _ _ _ _ _ _ _
      | exact ih1 _ _ _ _ _ _ _ _
      | exact LeO.none _
      | refine LeO.ite ?_ ?_
      | refine LeO.bind ?_ (fun _ => ?_)
    · intro y0 y1 y2 y3 y4 y5 y6 y7
      unfold rect_Cover.j1
      repeat' first
      | (with_reducible exact ih0 _ _ _ _ _ _ _ _)
      | (with_reducible exact ih1 _ _ _ _ _ _ _ _)
      | (with_reducible exact LeO.refl _)
      | (with_reducible exact LeO.none _)
      | (with_reducible refine LeO.ite ?_ ?_)
      | (with_reducible refine LeO.bind ?_ (fun _ => ?_))
      | exact ih0 _ _ _ _ _ _ _ _
      | exact ih1 _ _ _ _ _ _ _ _
      | exact LeO.none _
      | refine LeO.ite ?_ ?_
      | refine LeO.bind ?_ (fun _ => ?_)
theorem rect_Cover.mono : ∀ a0 a1 a2 a3 a4 a5 a6 a7 k, LeO (rect_Cover.f k a0 a1 a2 a3 a4 a5 a6 a7) (rect_Cover.f (k + 1) a0 a1 a2 a3 a4 a5 a6 a7) := by
  intro a0 a1 a2 a3 a4 a5 a6 a7 k
  obtain ⟨ih0, ih1⟩ := rect_Cover.mono_l k
  unfold rect_Cover.f
  repeat' first
      | (with_reducible exact ih0 _ _ _ _ _ _ _ _)
      | (with_reducible exact ih1 _ _ _ _ _ _ _ _)
      | (with_reducible exact LeO.refl _)
      | (with_reducible exact LeO.none _)
      | (with_reducible refine LeO.ite ?_ ?_)
      | (with_reducible refine LeO.bind ?_ (fun _ => ?_))
      | exact ih0 _ _ _ _ _ _ _ _
      | exact ih1 _ _ _ _ _ _ _ _
      | exact LeO.none _
      | refine LeO.ite ?_ ?_
      | refine LeO.bind ?_ (fun _ => ?_)
set_option maxHeartbeats 8000000 in
set_option maxRecDepth 100000 in
theorem rect_Cover.calls (k : Nat) (a0_0 : Int) (a0_1 : Int) (a0_2 : Int) (a0_3 : Int) (a1_0 : Int) (a1_1 : Int) (a1_2 : Int) (a1_3 : Int) (r1 : Int) (r2 : Int) (r3 : Int) (r4 : Int) (w : World) (h : rect_Cover.f k a0_0 a0_1 a0_2 a0_3 a1_0 a1_1 a1_2 a1_3 = some (r1, r2, r3, r4)) :
    Calls Try.prog 26 #[.agg #[.int .i64 a0_0, .int .i64 a0_1, .int .i64 a0_2, .int .i64 a0_3], .agg #[.int .i64 a1_0, .int .i64 a1_1, .int .i64 a1_2, .int .i64 a1_3]] w fun e w' => e = .returned (.agg #[.int .i64 r1, .int .i64 r2, .int .i64 r3, .int .i64 r4]) ∧ Below w.heap.size w w' := by
  have hu23 := Try.underlying23
  have HB := Aside0.mk (Below.refl w.heap.size w)
  have H : ((rect_Empty.f a0_0 a0_1 a0_2 a0_3).bind fun t134 => (if t134 = true then (rect_Cover.j0 k 0 0 0 0 a1_0 a1_1 a1_2 a1_3) else (rect_Cover.j0 k a0_0 a0_1 a0_2 a0_3 a1_0 a1_1 a1_2 a1_3))) = some (r1, r2, r3, r4) := h
  clear h
  replace H := Option.bind_eq_some_iff.mp H
  obtain ⟨t134, A30, H⟩ := H
  replace H : (if t134 = true then (rect_Cover.j0 k 0 0 0 0 a1_0 a1_1 a1_2 a1_3) else (rect_Cover.j0 k a0_0 a0_1 a0_2 a0_3 a1_0 a1_1 a1_2 a1_3)) = some (r1, r2, r3, r4) := H
  have A3 := Aside0.mk A30
  clear A30
  have HC4 := Aside0.mk H
  clear H
  go_enter Try.func26, Try.ntmps26
  go_upto_if 6 with (first | ((with_reducible refine gate_dst (N := 2) rfl ?_); refine box_event ?hg (N := 2) ?hd (cs := #[.int .i64 a0_0, .int .i64 a0_1, .int .i64 a0_2, .int .i64 a0_3]) (t := 23) ?hr ?_; (case hd => rfl); (case hg => rfl); (case hr => first | (go_simp; done) | (go_simp; rfl)); intro gb131 hg w5 hbox hb; have n0_ := Aside0.mk (below_step (by repeat (first | (with_reducible first | exact HB.out | apply below_alloc | apply pw_below_drewN | apply below_drew1) | exact HB.out)) hb); have n1_ := Aside0.mk (hbox); have n2_ := Aside0.mk ((by rw [hg]; exact (below_size (by repeat (first | (with_reducible first | exact HB.out | apply below_alloc | apply pw_below_drewN | apply below_drew1) | exact HB.out))) : w.heap.size ≤ gb131)); have n3_ := Aside0.mk ((by rw [hg]; exact (below_size (by repeat (first | (with_reducible first | exact HB.out | apply below_alloc | apply pw_below_drewN | apply below_drew1) | exact HB.out))) : w.heap.size ≤ gb131)); clear HB; have HB := n0_; have BK131 := n1_; have GW131 := n2_; have GE131 := n3_; clear n0_ n1_ n2_ n3_; clear hb hbox hg) | ((with_reducible refine gate_dst (N := 3) rfl ?_); refine box_event ?hg (N := 3) ?hd (cs := #[.int .i64 a1_0, .int .i64 a1_1, .int .i64 a1_2, .int .i64 a1_3]) (t := 23) ?hr ?_; (case hd => rfl); (case hg => rfl); (case hr => first | (go_simp; done) | (go_simp; rfl)); intro gb132 hg w6 hbox hb; have n0_ := Aside0.mk (blk_below (g := gb131) (o := .cells #[.int .i64 a0_0, .int .i64 a0_1, .int .i64 a0_2, .int .i64 a0_3] 23 (0, 0)) (by (with_reducible repeat (first | refine blk_drewN ?_ _ | refine blk_drew ?_ | refine blk_alloc ?_ _)); exact BK131.out) hb); have n1_ := Aside0.mk (below_step (by repeat (first | (with_reducible first | exact HB.out | apply below_alloc | apply pw_below_drewN | apply below_drew1 | refine below_set ?_ GE131.out) | exact HB.out)) hb); have n2_ := Aside0.mk (hbox); have n3_ := Aside0.mk ((by rw [hg]; exact (below_size (by repeat (first | (with_reducible first | exact HB.out | apply below_alloc | apply pw_below_drewN | apply below_drew1 | refine below_set ?_ GE131.out) | exact HB.out))) : w.heap.size ≤ gb132)); have n4_ := Aside0.mk ((by rw [hg]; exact (below_size (by repeat (first | (with_reducible first | exact HB.out | apply below_alloc | apply pw_below_drewN | apply below_drew1 | refine below_set ?_ GE131.out) | exact HB.out))) : w.heap.size ≤ gb132)); have n5_ := Aside0.mk ((by rw [hg]; exact Nat.ne_of_lt (blk_lt (g := gb131) (o := .cells #[.int .i64 a0_0, .int .i64 a0_1, .int .i64 a0_2, .int .i64 a0_3] 23 (0, 0)) (by (with_reducible repeat (first | refine blk_drewN ?_ _ | refine blk_drew ?_ | refine blk_alloc ?_ _)); exact BK131.out)) : gb131 ≠ gb132)); have n6_ := Aside0.mk ((by rw [hg]; exact Nat.ne_of_gt (blk_lt (g := gb131) (o := .cells #[.int .i64 a0_0, .int .i64 a0_1, .int .i64 a0_2, .int .i64 a0_3] 23 (0, 0)) (by (with_reducible repeat (first | refine blk_drewN ?_ _ | refine blk_drew ?_ | refine blk_alloc ?_ _)); exact BK131.out)) : gb132 ≠ gb131)); clear BK131; clear HB; have BK131 := n0_; have HB := n1_; have BK132 := n2_; have GW132 := n3_; have GE132 := n4_; have NB131_132 := n5_; have NB132_131 := n6_; clear n0_ n1_ n2_ n3_ n4_ n5_ n6_; clear hb hbox hg) | ((with_reducible refine gate_dst (N := 4) rfl ?_); refine box_event ?hg (N := 4) ?hd (cs := #[.int .i64 0, .int .i64 0, .int .i64 0, .int .i64 0]) (t := 23) ?hr ?_; (case hd => rfl); (case hg => rfl); (case hr => first | (go_simp; done) | (go_simp; rfl)); intro gb133 hg w7 hbox hb; have n0_ := Aside0.mk (blk_below (g := gb131) (o := .cells #[.int .i64 a0_0, .int .i64 a0_1, .int .i64 a0_2, .int .i64 a0_3] 23 (0, 0)) (by (with_reducible repeat (first | refine blk_drewN ?_ _ | refine blk_drew ?_ | refine blk_alloc ?_ _)); exact BK131.out) hb); have n1_ := Aside0.mk (blk_below (g := gb132) (o := .cells #[.int .i64 a1_0, .int .i64 a1_1, .int .i64 a1_2, .int .i64 a1_3] 23 (0, 0)) (by (with_reducible repeat (first | refine blk_drewN ?_ _ | refine blk_drew ?_ | refine blk_alloc ?_ _)); exact BK132.out) hb); have n2_ := Aside0.mk (below_step (by repeat (first | (with_reducible first | exact HB.out | apply below_alloc | apply pw_below_drewN | apply below_drew1 | refine below_set ?_ GE131.out | refine below_set ?_ GE132.out) | exact HB.out)) hb); have n3_ := Aside0.mk (hbox); have n4_ := Aside0.mk ((by rw [hg]; exact (below_size (by repeat (first | (with_reducible first | exact HB.out | apply below_alloc | apply pw_below_drewN | apply below_drew1 | refine below_set ?_ GE131.out | refine below_set ?_ GE132.out) | exact HB.out))) : w.heap.size ≤ gb133)); have n5_ := Aside0.mk ((by rw [hg]; exact (below_size (by repeat (first | (with_reducible first | exact HB.out | apply below_alloc | apply pw_below_drewN | apply below_drew1 | refine below_set ?_ GE131.out | refine below_set ?_ GE132.out) | exact HB.out))) : w.heap.size ≤ gb133)); have n6_ := Aside0.mk ((by rw [hg]; exact Nat.ne_of_lt (blk_lt (g := gb131) (o := .cells #[.int .i64 a0_0, .int .i64 a0_1, .int .i64 a0_2, .int .i64 a0_3] 23 (0, 0)) (by (with_reducible repeat (first | refine blk_drewN ?_ _ | refine blk_drew ?_ | refine blk_alloc ?_ _)); exact BK131.out)) : gb131 ≠ gb133)); have n7_ := Aside0.mk ((by rw [hg]; exact Nat.ne_of_gt (blk_lt (g := gb131) (o := .cells #[.int .i64 a0_0, .int .i64 a0_1, .int .i64 a0_2, .int .i64 a0_3] 23 (0, 0)) (by (with_reducible repeat (first | refine blk_drewN ?_ _ | refine blk_drew ?_ | refine blk_alloc ?_ _)); exact BK131.out)) : gb133 ≠ gb131)); have n8_ := Aside0.mk ((by rw [hg]; exact Nat.ne_of_lt (blk_lt (g := gb132) (o := .cells #[.int .i64 a1_0, .int .i64 a1_1, .int .i64 a1_2, .int .i64 a1_3] 23 (0, 0)) (by (with_reducible repeat (first | refine blk_drewN ?_ _ | refine blk_drew ?_ | refine blk_alloc ?_ _)); exact BK132.out)) : gb132 ≠ gb133)); have n9_ := Aside0.mk ((by rw [hg]; exact Nat.ne_of_gt (blk_lt (g := gb132) (o := .cells #[.int .i64 a1_0, .int .i64 a1_1, .int .i64 a1_2, .int .i64 a1_3] 23 (0, 0)) (by (with_reducible repeat (first | refine blk_drewN ?_ _ | refine blk_drew ?_ | refine blk_alloc ?_ _)); exact BK132.out)) : gb133 ≠ gb132)); clear BK131; clear BK132; clear HB; have BK131 := n0_; have BK132 := n1_; have HB := n2_; have BK133 := n3_; have GW133 := n4_; have GE133 := n5_; have NB131_133 := n6_; have NB133_131 := n7_; have NB132_133 := n8_; have NB133_132 := n9_; clear n0_ n1_ n2_ n3_ n4_ n5_ n6_ n7_ n8_ n9_; clear hb hbox hg; have hnb8 := NB131_132.out; have hnc8 := NB132_131.out; have hnb9 := NB131_133.out; have hnc9 := NB133_131.out; have hcz10_0 : w7.cell? ⟨gb131, 0, none⟩ = some (.int .i64 a0_0) := (blk_cell BK131.out 0).trans rfl; have hcz10_1 : w7.cell? ⟨gb131, 1, none⟩ = some (.int .i64 a0_1) := (blk_cell BK131.out 1).trans rfl; have hcz10_2 : w7.cell? ⟨gb131, 2, none⟩ = some (.int .i64 a0_2) := (blk_cell BK131.out 2).trans rfl; have hcz10_3 : w7.cell? ⟨gb131, 3, none⟩ = some (.int .i64 a0_3) := (blk_cell BK131.out 3).trans rfl; have hfz10_0 := blk_frozen BK131.out 0; have hfz10_1 := blk_frozen BK131.out 1; have hfz10_2 := blk_frozen BK131.out 2; have hfz10_3 := blk_frozen BK131.out 3) | ((with_reducible refine gate_callee (f := 35) rfl ?_); refine goesL_ (some 6) rfl rfl Try.func35 (by kernel_rfl) rfl #[.agg #[.int .i64 a0_0, .int .i64 a0_1, .int .i64 a0_2, .int .i64 a0_3]] rfl (by (try simp only [List.map_toArray, List.map_cons, List.map_nil]); first | done | rfl | (simp only [List.length_drop, List.length_take]; rfl)) ?_; (with_reducible refine (rect_Empty.calls a0_0 a0_1 a0_2 a0_3 t134 _ A3.out).mono ?_); rintro e w11 ⟨rfl, hb⟩; refine ⟨_, rfl, ?_⟩; have n0_ := Aside0.mk (blk_below (g := gb131) (o := .cells #[.int .i64 a0_0, .int .i64 a0_1, .int .i64 a0_2, .int .i64 a0_3] 23 (0, 0)) (by (with_reducible repeat (first | refine blk_drewN ?_ _ | refine blk_drew ?_ | refine blk_alloc ?_ _)); exact BK131.out) hb); have n1_ := Aside0.mk (blk_below (g := gb132) (o := .cells #[.int .i64 a1_0, .int .i64 a1_1, .int .i64 a1_2, .int .i64 a1_3] 23 (0, 0)) (by (with_reducible repeat (first | refine blk_drewN ?_ _ | refine blk_drew ?_ | refine blk_alloc ?_ _)); exact BK132.out) hb); have n2_ := Aside0.mk (blk_below (g := gb133) (o := .cells #[.int .i64 0, .int .i64 0, .int .i64 0, .int .i64 0] 23 (0, 0)) (by (with_reducible repeat (first | refine blk_drewN ?_ _ | refine blk_drew ?_ | refine blk_alloc ?_ _)); exact BK133.out) hb); have n3_ := Aside0.mk (below_step (by repeat (first | (with_reducible first | exact HB.out | apply below_alloc | apply pw_below_drewN | apply below_drew1 | refine below_set ?_ GE131.out | refine below_set ?_ GE132.out | refine below_set ?_ GE133.out) | exact HB.out)) hb); clear BK131; clear BK132; clear BK133; clear HB; have BK131 := n0_; have BK132 := n1_; have BK133 := n2_; have HB := n3_; clear n0_ n1_ n2_ n3_; (try clear hb); (try clear hb2); (try clear hk); (try clear hi)))
  (try simp only [Act.put, List.setIfInBounds_toArray, List.set_cons_zero, List.set_cons_succ])
  go_cut [] (fun wc => ∃ (kq : Nat) (x132000_3 : Int) (x132001_3 : Int) (x132002_3 : Int) (x132003_3 : Int), Aside0 (rect_Cover.j0 kq x132000_3 x132001_3 x132002_3 x132003_3 a1_0 a1_1 a1_2 a1_3 = some (r1, r2, r3, r4)) ∧ Aside0 (kq ≤ k) ∧ Aside0 (wc.heap[gb131]? = some (.cells #[.int .i64 x132000_3, .int .i64 x132001_3, .int .i64 x132002_3, .int .i64 x132003_3] 23 (0, 0))) ∧ Aside0 (wc.heap[gb132]? = some (.cells #[.int .i64 a1_0, .int .i64 a1_1, .int .i64 a1_2, .int .i64 a1_3] 23 (0, 0))) ∧ Aside0 (wc.heap[gb133]? = some (.cells #[.int .i64 0, .int .i64 0, .int .i64 0, .int .i64 0] 23 (0, 0))) ∧ Aside0 (Below w.heap.size w wc))
  case first =>
    have H := HC4.out
    clear HC4
    by_cases c12 : t134 = true
    · subst c12
      have H1 : (rect_Cover.j0 k 0 0 0 0 a1_0 a1_1 a1_2 a1_3) = some (r1, r2, r3, r4) := by rw [if_pos rfl] at H; exact H
      clear H
      have H := H1
      clear H1
      have H' := Aside0.mk H
      clear H
      have hnb13 := NB131_132.out
      have hnc13 := NB132_131.out
      have hnb14 := NB131_133.out
      have hnc14 := NB133_131.out
      have hcz15_0 : w11.cell? ⟨gb131, 0, none⟩ = some (.int .i64 a0_0) := (blk_cell BK131.out 0).trans rfl
      have hcz15_1 : w11.cell? ⟨gb131, 1, none⟩ = some (.int .i64 a0_1) := (blk_cell BK131.out 1).trans rfl
      have hcz15_2 : w11.cell? ⟨gb131, 2, none⟩ = some (.int .i64 a0_2) := (blk_cell BK131.out 2).trans rfl
      have hcz15_3 : w11.cell? ⟨gb131, 3, none⟩ = some (.int .i64 a0_3) := (blk_cell BK131.out 3).trans rfl
      have hfz15_0 := blk_frozen BK131.out 0
      have hfz15_1 := blk_frozen BK131.out 1
      have hfz15_2 := blk_frozen BK131.out 2
      have hfz15_3 := blk_frozen BK131.out 3
      go_wp2
      go_meet
      case rel => exact ⟨_, (0), (0), (0), (0), H', ⟨by first | omega | exact Nat.le_refl _⟩, ⟨by (with_reducible repeat (first | refine blk_drewN ?_ _ | refine blk_drew ?_ | refine blk_alloc ?_ _)); refine blk_put (cs := #[.int .i64 0, .int .i64 0, .int .i64 0, .int .i64 a0_3]) ?_ 3 _ rfl; (with_reducible repeat (first | refine blk_drewN ?_ _ | refine blk_drew ?_ | refine blk_alloc ?_ _)); refine blk_put (cs := #[.int .i64 0, .int .i64 0, .int .i64 a0_2, .int .i64 a0_3]) ?_ 2 _ rfl; (with_reducible repeat (first | refine blk_drewN ?_ _ | refine blk_drew ?_ | refine blk_alloc ?_ _)); refine blk_put (cs := #[.int .i64 0, .int .i64 a0_1, .int .i64 a0_2, .int .i64 a0_3]) ?_ 1 _ rfl; (with_reducible repeat (first | refine blk_drewN ?_ _ | refine blk_drew ?_ | refine blk_alloc ?_ _)); refine blk_put (cs := #[.int .i64 a0_0, .int .i64 a0_1, .int .i64 a0_2, .int .i64 a0_3]) ?_ 0 _ rfl; (with_reducible repeat (first | refine blk_drewN ?_ _ | refine blk_drew ?_ | refine blk_alloc ?_ _)); exact BK131.out⟩, ⟨by (with_reducible repeat (first | refine blk_drewN ?_ _ | refine blk_drew ?_ | refine blk_alloc ?_ _)); refine blk_far ?_ NB132_131.out _; (with_reducible repeat (first | refine blk_drewN ?_ _ | refine blk_drew ?_ | refine blk_alloc ?_ _)); refine blk_far ?_ NB132_131.out _; (with_reducible repeat (first | refine blk_drewN ?_ _ | refine blk_drew ?_ | refine blk_alloc ?_ _)); refine blk_far ?_ NB132_131.out _; (with_reducible repeat (first | refine blk_drewN ?_ _ | refine blk_drew ?_ | refine blk_alloc ?_ _)); refine blk_far ?_ NB132_131.out _; (with_reducible repeat (first | refine blk_drewN ?_ _ | refine blk_drew ?_ | refine blk_alloc ?_ _)); exact BK132.out⟩, ⟨by (with_reducible repeat (first | refine blk_drewN ?_ _ | refine blk_drew ?_ | refine blk_alloc ?_ _)); refine blk_far ?_ NB133_131.out _; (with_reducible repeat (first | refine blk_drewN ?_ _ | refine blk_drew ?_ | refine blk_alloc ?_ _)); refine blk_far ?_ NB133_131.out _; (with_reducible repeat (first | refine blk_drewN ?_ _ | refine blk_drew ?_ | refine blk_alloc ?_ _)); refine blk_far ?_ NB133_131.out _; (with_reducible repeat (first | refine blk_drewN ?_ _ | refine blk_drew ?_ | refine blk_alloc ?_ _)); refine blk_far ?_ NB133_131.out _; (with_reducible repeat (first | refine blk_drewN ?_ _ | refine blk_drew ?_ | refine blk_alloc ?_ _)); exact BK133.out⟩, ⟨by repeat (first | (with_reducible first | exact HB.out | apply below_alloc | apply pw_below_drewN | apply below_drew1 | refine below_set ?_ GE131.out | refine below_set ?_ GE132.out | refine below_set ?_ GE133.out) | exact HB.out)⟩⟩
    · replace c12 := Bool.eq_false_iff.mpr c12
      subst c12
      have H1 : (rect_Cover.j0 k a0_0 a0_1 a0_2 a0_3 a1_0 a1_1 a1_2 a1_3) = some (r1, r2, r3, r4) := by rw [if_neg (show ¬ (false = true) by decide)] at H; exact H
      clear H
      have H := H1
      clear H1
      have H' := Aside0.mk H
      clear H
      go_wp2
      go_meet
      case rel => exact ⟨_, (a0_0), (a0_1), (a0_2), (a0_3), H', ⟨by first | omega | exact Nat.le_refl _⟩, ⟨by (with_reducible repeat (first | refine blk_drewN ?_ _ | refine blk_drew ?_ | refine blk_alloc ?_ _)); exact BK131.out⟩, ⟨by (with_reducible repeat (first | refine blk_drewN ?_ _ | refine blk_drew ?_ | refine blk_alloc ?_ _)); exact BK132.out⟩, ⟨by (with_reducible repeat (first | refine blk_drewN ?_ _ | refine blk_drew ?_ | refine blk_alloc ?_ _)); exact BK133.out⟩, ⟨by repeat (first | (with_reducible first | exact HB.out | apply below_alloc | apply pw_below_drewN | apply below_drew1 | refine below_set ?_ GE131.out | refine below_set ?_ GE132.out | refine below_set ?_ GE133.out) | exact HB.out)⟩⟩
  case rest =>
    clear HC4
    try clear c1
    try clear c2
    try clear p2
    try clear c3
    try clear c8
    try clear c9
    try clear c12
    try clear c13
    try clear c14
    try clear hcz10_0
    try clear hcz10_1
    try clear hcz10_2
    try clear hcz10_3
    try clear hcz15_0
    try clear hcz15_1
    try clear hcz15_2
    try clear hcz15_3
    try clear hfz10_0
    try clear hfz10_1
    try clear hfz10_2
    try clear hfz10_3
    try clear hfz15_0
    try clear hfz15_1
    try clear hfz15_2
    try clear hfz15_3
    obtain ⟨kq, x132000_3, x132001_3, x132002_3, x132003_3, HA, HJ3, BK131, BK132, BK133, HB⟩ := hcut
    cases kq with
    | zero => exact absurd HA.out (by simp [rect_Cover.j0])
    | succ kj3 =>
      have H := HA.out
      clear HA
      simp only [rect_Cover.j0] at H
      replace H := Option.bind_eq_some_iff.mp H
      obtain ⟨t135, A160, H⟩ := H
      replace H : (if t135 = true then (rect_Cover.j1 kj3 x132000_3 x132001_3 x132002_3 x132003_3 0 0 0 0) else (rect_Cover.j1 kj3 x132000_3 x132001_3 x132002_3 x132003_3 a1_0 a1_1 a1_2 a1_3)) = some (r1, r2, r3, r4) := H
      have A16 := Aside0.mk A160
      clear A160
      have HC17 := Aside0.mk H
      clear H
      have hnb18 := NB132_131.out
      have hnc18 := NB131_132.out
      have hnb19 := NB132_133.out
      have hnc19 := NB133_132.out
      have hcz20_0 : wc.cell? ⟨gb132, 0, none⟩ = some (.int .i64 a1_0) := (blk_cell BK132.out 0).trans rfl
      have hcz20_1 : wc.cell? ⟨gb132, 1, none⟩ = some (.int .i64 a1_1) := (blk_cell BK132.out 1).trans rfl
      have hcz20_2 : wc.cell? ⟨gb132, 2, none⟩ = some (.int .i64 a1_2) := (blk_cell BK132.out 2).trans rfl
      have hcz20_3 : wc.cell? ⟨gb132, 3, none⟩ = some (.int .i64 a1_3) := (blk_cell BK132.out 3).trans rfl
      have hfz20_0 := blk_frozen BK132.out 0
      have hfz20_1 := blk_frozen BK132.out 1
      have hfz20_2 := blk_frozen BK132.out 2
      have hfz20_3 := blk_frozen BK132.out 3
      go_upto_if 9 with (first | ((with_reducible refine gate_callee (f := 35) rfl ?_); refine goesL_ (some 9) rfl rfl Try.func35 (by kernel_rfl) rfl #[.agg #[.int .i64 a1_0, .int .i64 a1_1, .int .i64 a1_2, .int .i64 a1_3]] rfl (by (try simp only [List.map_toArray, List.map_cons, List.map_nil]); first | done | rfl | (simp only [List.length_drop, List.length_take]; rfl)) ?_; (with_reducible refine (rect_Empty.calls a1_0 a1_1 a1_2 a1_3 t135 _ A16.out).mono ?_); rintro e w21 ⟨rfl, hb⟩; refine ⟨_, rfl, ?_⟩; have n0_ := Aside0.mk (blk_below (g := gb131) (o := .cells #[.int .i64 x132000_3, .int .i64 x132001_3, .int .i64 x132002_3, .int .i64 x132003_3] 23 (0, 0)) (by (with_reducible repeat (first | refine blk_drewN ?_ _ | refine blk_drew ?_ | refine blk_alloc ?_ _)); exact BK131.out) hb); have n1_ := Aside0.mk (blk_below (g := gb132) (o := .cells #[.int .i64 a1_0, .int .i64 a1_1, .int .i64 a1_2, .int .i64 a1_3] 23 (0, 0)) (by (with_reducible repeat (first | refine blk_drewN ?_ _ | refine blk_drew ?_ | refine blk_alloc ?_ _)); exact BK132.out) hb); have n2_ := Aside0.mk (blk_below (g := gb133) (o := .cells #[.int .i64 0, .int .i64 0, .int .i64 0, .int .i64 0] 23 (0, 0)) (by (with_reducible repeat (first | refine blk_drewN ?_ _ | refine blk_drew ?_ | refine blk_alloc ?_ _)); exact BK133.out) hb); have n3_ := Aside0.mk (below_step (by repeat (first | (with_reducible first | exact HB.out | apply below_alloc | apply pw_below_drewN | apply below_drew1 | refine below_set ?_ GE131.out | refine below_set ?_ GE132.out | refine below_set ?_ GE133.out) | exact HB.out)) hb); clear BK131; clear BK132; clear BK133; clear HB; have BK131 := n0_; have BK132 := n1_; have BK133 := n2_; have HB := n3_; clear n0_ n1_ n2_ n3_; (try clear hb); (try clear hb2); (try clear hk); (try clear hi)))
      (try simp only [Act.put, List.setIfInBounds_toArray, List.set_cons_zero, List.set_cons_succ])
      go_cut [] (fun wc => ∃ (kq : Nat) (x133000_16 : Int) (x133001_16 : Int) (x133002_16 : Int) (x133003_16 : Int), Aside0 (rect_Cover.j1 kq x132000_3 x132001_3 x132002_3 x132003_3 x133000_16 x133001_16 x133002_16 x133003_16 = some (r1, r2, r3, r4)) ∧ Aside0 (kq ≤ kj3) ∧ Aside0 (wc.heap[gb131]? = some (.cells #[.int .i64 x132000_3, .int .i64 x132001_3, .int .i64 x132002_3, .int .i64 x132003_3] 23 (0, 0))) ∧ Aside0 (wc.heap[gb132]? = some (.cells #[.int .i64 x133000_16, .int .i64 x133001_16, .int .i64 x133002_16, .int .i64 x133003_16] 23 (0, 0))) ∧ Aside0 (wc.heap[gb133]? = some (.cells #[.int .i64 0, .int .i64 0, .int .i64 0, .int .i64 0] 23 (0, 0))) ∧ Aside0 (Below w.heap.size w wc))
      case first =>
        have H := HC17.out
        clear HC17
        by_cases c22 : t135 = true
        · subst c22
          have H1 : (rect_Cover.j1 kj3 x132000_3 x132001_3 x132002_3 x132003_3 0 0 0 0) = some (r1, r2, r3, r4) := by rw [if_pos rfl] at H; exact H
          clear H
          have H := H1
          clear H1
          have H' := Aside0.mk H
          clear H
          have hnb23 := NB132_131.out
          have hnc23 := NB131_132.out
          have hnb24 := NB132_133.out
          have hnc24 := NB133_132.out
          have hcz25_0 : w21.cell? ⟨gb132, 0, none⟩ = some (.int .i64 a1_0) := (blk_cell BK132.out 0).trans rfl
          have hcz25_1 : w21.cell? ⟨gb132, 1, none⟩ = some (.int .i64 a1_1) := (blk_cell BK132.out 1).trans rfl
          have hcz25_2 : w21.cell? ⟨gb132, 2, none⟩ = some (.int .i64 a1_2) := (blk_cell BK132.out 2).trans rfl
          have hcz25_3 : w21.cell? ⟨gb132, 3, none⟩ = some (.int .i64 a1_3) := (blk_cell BK132.out 3).trans rfl
          have hfz25_0 := blk_frozen BK132.out 0
          have hfz25_1 := blk_frozen BK132.out 1
          have hfz25_2 := blk_frozen BK132.out 2
          have hfz25_3 := blk_frozen BK132.out 3
          go_wp2
          go_meet
          case rel => exact ⟨_, (0), (0), (0), (0), H', ⟨by have := HJ3.out; first | omega | exact Nat.le_refl _⟩, ⟨by (with_reducible repeat (first | refine blk_drewN ?_ _ | refine blk_drew ?_ | refine blk_alloc ?_ _)); refine blk_far ?_ NB131_132.out _; (with_reducible repeat (first | refine blk_drewN ?_ _ | refine blk_drew ?_ | refine blk_alloc ?_ _)); refine blk_far ?_ NB131_132.out _; (with_reducible repeat (first | refine blk_drewN ?_ _ | refine blk_drew ?_ | refine blk_alloc ?_ _)); refine blk_far ?_ NB131_132.out _; (with_reducible repeat (first | refine blk_drewN ?_ _ | refine blk_drew ?_ | refine blk_alloc ?_ _)); refine blk_far ?_ NB131_132.out _; (with_reducible repeat (first | refine blk_drewN ?_ _ | refine blk_drew ?_ | refine blk_alloc ?_ _)); exact BK131.out⟩, ⟨by (with_reducible repeat (first | refine blk_drewN ?_ _ | refine blk_drew ?_ | refine blk_alloc ?_ _)); refine blk_put (cs := #[.int .i64 0, .int .i64 0, .int .i64 0, .int .i64 a1_3]) ?_ 3 _ rfl; (with_reducible repeat (first | refine blk_drewN ?_ _ | refine blk_drew ?_ | refine blk_alloc ?_ _)); refine blk_put (cs := #[.int .i64 0, .int .i64 0, .int .i64 a1_2, .int .i64 a1_3]) ?_ 2 _ rfl; (with_reducible repeat (first | refine blk_drewN ?_ _ | refine blk_drew ?_ | refine blk_alloc ?_ _)); refine blk_put (cs := #[.int .i64 0, .int .i64 a1_1, .int .i64 a1_2, .int .i64 a1_3]) ?_ 1 _ rfl; (with_reducible repeat (first | refine blk_drewN ?_ _ | refine blk_drew ?_ | refine blk_alloc ?_ _)); refine blk_put (cs := #[.int .i64 a1_0, .int .i64 a1_1, .int .i64 a1_2, .int .i64 a1_3]) ?_ 0 _ rfl; (with_reducible repeat (first | refine blk_drewN ?_ _ | refine blk_drew ?_ | refine blk_alloc ?_ _)); exact BK132.out⟩, ⟨by (with_reducible repeat (first | refine blk_drewN ?_ _ | refine blk_drew ?_ | refine blk_alloc ?_ _)); refine blk_far ?_ NB133_132.out _; (with_reducible repeat (first | refine blk_drewN ?_ _ | refine blk_drew ?_ | refine blk_alloc ?_ _)); refine blk_far ?_ NB133_132.out _; (with_reducible repeat (first | refine blk_drewN ?_ _ | refine blk_drew ?_ | refine blk_alloc ?_ _)); refine blk_far ?_ NB133_132.out _; (with_reducible repeat (first | refine blk_drewN ?_ _ | refine blk_drew ?_ | refine blk_alloc ?_ _)); refine blk_far ?_ NB133_132.out _; (with_reducible repeat (first | refine blk_drewN ?_ _ | refine blk_drew ?_ | refine blk_alloc ?_ _)); exact BK133.out⟩, ⟨by repeat (first | (with_reducible first | exact HB.out | apply below_alloc | apply pw_below_drewN | apply below_drew1 | refine below_set ?_ GE131.out | refine below_set ?_ GE132.out | refine below_set ?_ GE133.out) | exact HB.out)⟩⟩
        · replace c22 := Bool.eq_false_iff.mpr c22
          subst c22
          have H1 : (rect_Cover.j1 kj3 x132000_3 x132001_3 x132002_3 x132003_3 a1_0 a1_1 a1_2 a1_3) = some (r1, r2, r3, r4) := by rw [if_neg (show ¬ (false = true) by decide)] at H; exact H
          clear H
          have H := H1
          clear H1
          have H' := Aside0.mk H
          clear H
          go_wp2
          go_meet
          case rel => exact ⟨_, (a1_0), (a1_1), (a1_2), (a1_3), H', ⟨by have := HJ3.out; first | omega | exact Nat.le_refl _⟩, ⟨by (with_reducible repeat (first | refine blk_drewN ?_ _ | refine blk_drew ?_ | refine blk_alloc ?_ _)); exact BK131.out⟩, ⟨by (with_reducible repeat (first | refine blk_drewN ?_ _ | refine blk_drew ?_ | refine blk_alloc ?_ _)); exact BK132.out⟩, ⟨by (with_reducible repeat (first | refine blk_drewN ?_ _ | refine blk_drew ?_ | refine blk_alloc ?_ _)); exact BK133.out⟩, ⟨by repeat (first | (with_reducible first | exact HB.out | apply below_alloc | apply pw_below_drewN | apply below_drew1 | refine below_set ?_ GE131.out | refine below_set ?_ GE132.out | refine below_set ?_ GE133.out) | exact HB.out)⟩⟩
      case rest =>
        clear HC17
        try clear c1
        try clear c2
        try clear p2
        try clear c3
        try clear c8
        try clear c9
        try clear c12
        try clear c13
        try clear c14
        try clear c18
        try clear c19
        try clear c22
        try clear c23
        try clear c24
        try clear hcz10_0
        try clear hcz10_1
        try clear hcz10_2
        try clear hcz10_3
        try clear hcz15_0
        try clear hcz15_1
        try clear hcz15_2
        try clear hcz15_3
        try clear hcz20_0
        try clear hcz20_1
        try clear hcz20_2
        try clear hcz20_3
        try clear hcz25_0
        try clear hcz25_1
        try clear hcz25_2
        try clear hcz25_3
        try clear hfz10_0
        try clear hfz10_1
        try clear hfz10_2
        try clear hfz10_3
        try clear hfz15_0
        try clear hfz15_1
        try clear hfz15_2
        try clear hfz15_3
        try clear hfz20_0
        try clear hfz20_1
        try clear hfz20_2
        try clear hfz20_3
        try clear hfz25_0
        try clear hfz25_1
        try clear hfz25_2
        try clear hfz25_3
        try clear p2
        obtain ⟨kq, x133000_16, x133001_16, x133002_16, x133003_16, HA, HJ16, BK131, BK132, BK133, HB⟩ := hcut
        cases kq with
        | zero => exact absurd HA.out (by simp [rect_Cover.j1])
        | succ kj16 =>
          have H := HA.out
          clear HA
          simp only [rect_Cover.j1] at H
          by_cases c26 : (x132000_3 == 0 && (x132001_3 == 0 && (x132002_3 == 0 && (x132003_3 == 0)))) = true
          · rw [if_pos c26] at H
            have c26b0 : (x132000_3 == 0 && (x132001_3 == 0 && (x132002_3 == 0 && (x132003_3 == 0)))) = true := c26
            (try (have c26b1 : decide (x132000_3 = 0 && (x132001_3 == 0 && (x132002_3 == 0 && (x132003_3 == 0)))) = true := by simpa using c26))
            (try (have c26b2 : (x132000_3 == 0 && (x132001_3 == 0 && (x132002_3 == 0 && (x132003_3 == 0)))) = true := by simpa using c26))
            clear c26
            simp only [Option.some.injEq, Prod.mk.injEq] at H
            obtain ⟨rfl, rfl, rfl, rfl⟩ := H
            have hnb27 := NB131_132.out
            have hnc27 := NB132_131.out
            have hnb28 := NB131_133.out
            have hnc28 := NB133_131.out
            have hcz29_0 : wc.cell? ⟨gb131, 0, none⟩ = some (.int .i64 x132000_3) := (blk_cell BK131.out 0).trans rfl
            have hcz29_1 : wc.cell? ⟨gb131, 1, none⟩ = some (.int .i64 x132001_3) := (blk_cell BK131.out 1).trans rfl
            have hcz29_2 : wc.cell? ⟨gb131, 2, none⟩ = some (.int .i64 x132002_3) := (blk_cell BK131.out 2).trans rfl
            have hcz29_3 : wc.cell? ⟨gb131, 3, none⟩ = some (.int .i64 x132003_3) := (blk_cell BK131.out 3).trans rfl
            have hfz29_0 := blk_frozen BK131.out 0
            have hfz29_1 := blk_frozen BK131.out 1
            have hfz29_2 := blk_frozen BK131.out 2
            have hfz29_3 := blk_frozen BK131.out 3
            have hnb30 := NB132_133.out
            have hnc30 := NB133_132.out
            have hcz31_0 : wc.cell? ⟨gb132, 0, none⟩ = some (.int .i64 x133000_16) := (blk_cell BK132.out 0).trans rfl
            have hcz31_1 : wc.cell? ⟨gb132, 1, none⟩ = some (.int .i64 x133001_16) := (blk_cell BK132.out 1).trans rfl
            have hcz31_2 : wc.cell? ⟨gb132, 2, none⟩ = some (.int .i64 x133002_16) := (blk_cell BK132.out 2).trans rfl
            have hcz31_3 : wc.cell? ⟨gb132, 3, none⟩ = some (.int .i64 x133003_16) := (blk_cell BK132.out 3).trans rfl
            have hfz31_0 := blk_frozen BK132.out 0
            have hfz31_1 := blk_frozen BK132.out 1
            have hfz31_2 := blk_frozen BK132.out 2
            have hfz31_3 := blk_frozen BK132.out 3
            have hcz32_0 : wc.cell? ⟨gb133, 0, none⟩ = some (.int .i64 0) := (blk_cell BK133.out 0).trans rfl
            have hcz32_1 : wc.cell? ⟨gb133, 1, none⟩ = some (.int .i64 0) := (blk_cell BK133.out 1).trans rfl
            have hcz32_2 : wc.cell? ⟨gb133, 2, none⟩ = some (.int .i64 0) := (blk_cell BK133.out 2).trans rfl
            have hcz32_3 : wc.cell? ⟨gb133, 3, none⟩ = some (.int .i64 0) := (blk_cell BK133.out 3).trans rfl
            have hfz32_0 := blk_frozen BK133.out 0
            have hfz32_1 := blk_frozen BK133.out 1
            have hfz32_2 := blk_frozen BK133.out 2
            have hfz32_3 := blk_frozen BK133.out 3
            go_wp2
            refine bodyPost_ret (results_cell_row rfl _ _ gb133 23 #[.int .i64 x133000_16, .int .i64 x133001_16, .int .i64 x133002_16, .int .i64 x133003_16] (0, 0) _ rfl (by (with_reducible repeat (first | refine blk_drewN ?_ _ | refine blk_drew ?_ | refine blk_alloc ?_ _)); refine blk_put (cs := #[.int .i64 x133000_16, .int .i64 x133001_16, .int .i64 x133002_16, .int .i64 0]) ?_ 3 _ rfl; (with_reducible repeat (first | refine blk_drewN ?_ _ | refine blk_drew ?_ | refine blk_alloc ?_ _)); refine blk_put (cs := #[.int .i64 x133000_16, .int .i64 x133001_16, .int .i64 0, .int .i64 0]) ?_ 2 _ rfl; (with_reducible repeat (first | refine blk_drewN ?_ _ | refine blk_drew ?_ | refine blk_alloc ?_ _)); refine blk_put (cs := #[.int .i64 x133000_16, .int .i64 0, .int .i64 0, .int .i64 0]) ?_ 1 _ rfl; (with_reducible repeat (first | refine blk_drewN ?_ _ | refine blk_drew ?_ | refine blk_alloc ?_ _)); refine blk_put (cs := #[.int .i64 0, .int .i64 0, .int .i64 0, .int .i64 0]) ?_ 0 _ rfl; (with_reducible repeat (first | refine blk_drewN ?_ _ | refine blk_drew ?_ | refine blk_alloc ?_ _)); exact BK133.out) Try.underlying23 rfl (by kernel_rfl)) rfl ?_
            exact ⟨by first | rfl | (simp [errW_none, errW_some] <;> rfl) | (simp [*, errW_none, errW_some] <;> rfl), by repeat (first | (with_reducible first | exact HB.out | apply below_alloc | apply pw_below_drewN | apply below_drew1 | refine below_set ?_ GE131.out | refine below_set ?_ GE132.out | refine below_set ?_ GE133.out) | exact HB.out)⟩
          · rw [if_neg c26] at H
            have c26b0 : (x132000_3 == 0 && (x132001_3 == 0 && (x132002_3 == 0 && (x132003_3 == 0)))) = false := by simpa using c26
            (try (have c26b1 : decide (x132000_3 = 0 && (x132001_3 == 0 && (x132002_3 == 0 && (x132003_3 == 0)))) = false := by simpa using c26))
            (try (have c26b2 : (x132000_3 == 0 && (x132001_3 == 0 && (x132002_3 == 0 && (x132003_3 == 0)))) = false := by simpa using c26))
            (try (have c26b3 : ¬ (x132000_3 = 0 && (x132001_3 == 0 && (x132002_3 == 0 && (x132003_3 == 0)))) := by simpa using c26))
            clear c26
            by_cases c33 : (x133000_16 == 0 && (x133001_16 == 0 && (x133002_16 == 0 && (x133003_16 == 0)))) = true
            · rw [if_pos c33] at H
              have c33b0 : (x133000_16 == 0 && (x133001_16 == 0 && (x133002_16 == 0 && (x133003_16 == 0)))) = true := c33
              (try (have c33b1 : decide (x133000_16 = 0 && (x133001_16 == 0 && (x133002_16 == 0 && (x133003_16 == 0)))) = true := by simpa using c33))
              (try (have c33b2 : (x133000_16 == 0 && (x133001_16 == 0 && (x133002_16 == 0 && (x133003_16 == 0)))) = true := by simpa using c33))
              clear c33
              simp only [Option.some.injEq, Prod.mk.injEq] at H
              obtain ⟨rfl, rfl, rfl, rfl⟩ := H
              have hnb34 := NB131_132.out
              have hnc34 := NB132_131.out
              have hnb35 := NB131_133.out
              have hnc35 := NB133_131.out
              have hcz36_0 : wc.cell? ⟨gb131, 0, none⟩ = some (.int .i64 x132000_3) := (blk_cell BK131.out 0).trans rfl
              have hcz36_1 : wc.cell? ⟨gb131, 1, none⟩ = some (.int .i64 x132001_3) := (blk_cell BK131.out 1).trans rfl
              have hcz36_2 : wc.cell? ⟨gb131, 2, none⟩ = some (.int .i64 x132002_3) := (blk_cell BK131.out 2).trans rfl
              have hcz36_3 : wc.cell? ⟨gb131, 3, none⟩ = some (.int .i64 x132003_3) := (blk_cell BK131.out 3).trans rfl
              have hfz36_0 := blk_frozen BK131.out 0
              have hfz36_1 := blk_frozen BK131.out 1
              have hfz36_2 := blk_frozen BK131.out 2
              have hfz36_3 := blk_frozen BK131.out 3
              have hnb37 := NB132_133.out
              have hnc37 := NB133_132.out
              have hcz38_0 : wc.cell? ⟨gb132, 0, none⟩ = some (.int .i64 x133000_16) := (blk_cell BK132.out 0).trans rfl
              have hcz38_1 : wc.cell? ⟨gb132, 1, none⟩ = some (.int .i64 x133001_16) := (blk_cell BK132.out 1).trans rfl
              have hcz38_2 : wc.cell? ⟨gb132, 2, none⟩ = some (.int .i64 x133002_16) := (blk_cell BK132.out 2).trans rfl
              have hcz38_3 : wc.cell? ⟨gb132, 3, none⟩ = some (.int .i64 x133003_16) := (blk_cell BK132.out 3).trans rfl
              have hfz38_0 := blk_frozen BK132.out 0
              have hfz38_1 := blk_frozen BK132.out 1
              have hfz38_2 := blk_frozen BK132.out 2
              have hfz38_3 := blk_frozen BK132.out 3
              have hcz39_0 : wc.cell? ⟨gb133, 0, none⟩ = some (.int .i64 0) := (blk_cell BK133.out 0).trans rfl
              have hcz39_1 : wc.cell? ⟨gb133, 1, none⟩ = some (.int .i64 0) := (blk_cell BK133.out 1).trans rfl
              have hcz39_2 : wc.cell? ⟨gb133, 2, none⟩ = some (.int .i64 0) := (blk_cell BK133.out 2).trans rfl
              have hcz39_3 : wc.cell? ⟨gb133, 3, none⟩ = some (.int .i64 0) := (blk_cell BK133.out 3).trans rfl
              have hfz39_0 := blk_frozen BK133.out 0
              have hfz39_1 := blk_frozen BK133.out 1
              have hfz39_2 := blk_frozen BK133.out 2
              have hfz39_3 := blk_frozen BK133.out 3
              go_wp2
              refine bodyPost_ret (results_cell_row rfl _ _ gb133 23 #[.int .i64 x132000_3, .int .i64 x132001_3, .int .i64 x132002_3, .int .i64 x132003_3] (0, 0) _ rfl (by (with_reducible repeat (first | refine blk_drewN ?_ _ | refine blk_drew ?_ | refine blk_alloc ?_ _)); refine blk_put (cs := #[.int .i64 x132000_3, .int .i64 x132001_3, .int .i64 x132002_3, .int .i64 0]) ?_ 3 _ rfl; (with_reducible repeat (first | refine blk_drewN ?_ _ | refine blk_drew ?_ | refine blk_alloc ?_ _)); refine blk_put (cs := #[.int .i64 x132000_3, .int .i64 x132001_3, .int .i64 0, .int .i64 0]) ?_ 2 _ rfl; (with_reducible repeat (first | refine blk_drewN ?_ _ | refine blk_drew ?_ | refine blk_alloc ?_ _)); refine blk_put (cs := #[.int .i64 x132000_3, .int .i64 0, .int .i64 0, .int .i64 0]) ?_ 1 _ rfl; (with_reducible repeat (first | refine blk_drewN ?_ _ | refine blk_drew ?_ | refine blk_alloc ?_ _)); refine blk_put (cs := #[.int .i64 0, .int .i64 0, .int .i64 0, .int .i64 0]) ?_ 0 _ rfl; (with_reducible repeat (first | refine blk_drewN ?_ _ | refine blk_drew ?_ | refine blk_alloc ?_ _)); exact BK133.out) Try.underlying23 rfl (by kernel_rfl)) rfl ?_
              exact ⟨by first | rfl | (simp [errW_none, errW_some] <;> rfl) | (simp [*, errW_none, errW_some] <;> rfl), by repeat (first | (with_reducible first | exact HB.out | apply below_alloc | apply pw_below_drewN | apply below_drew1 | refine below_set ?_ GE131.out | refine below_set ?_ GE132.out | refine below_set ?_ GE133.out) | exact HB.out)⟩
            · rw [if_neg c33] at H
              have c33b0 : (x133000_16 == 0 && (x133001_16 == 0 && (x133002_16 == 0 && (x133003_16 == 0)))) = false := by simpa using c33
              (try (have c33b1 : decide (x133000_16 = 0 && (x133001_16 == 0 && (x133002_16 == 0 && (x133003_16 == 0)))) = false := by simpa using c33))
              (try (have c33b2 : (x133000_16 == 0 && (x133001_16 == 0 && (x133002_16 == 0 && (x133003_16 == 0)))) = false := by simpa using c33))
              (try (have c33b3 : ¬ (x133000_16 = 0 && (x133001_16 == 0 && (x133002_16 == 0 && (x133003_16 == 0)))) := by simpa using c33))
              clear c33
              obtain ⟨ji40, hji40⟩ : ∃ j_ : Int, (mn x132000_3 x133000_16) = j_ := ⟨_, rfl⟩
              replace H : ((rect_of.f (ji40) (mn x132001_3 x133001_16) (mx (wrap64 (x132000_3 + x132002_3)) (wrap64 (x133000_16 + x133002_16))) (mx (wrap64 (x132001_3 + x132003_3)) (wrap64 (x133001_16 + x133003_16)))).bind fun bt136 => (some (bt136.1, bt136.2.1, bt136.2.2.1, bt136.2.2.2))) = some (r1, r2, r3, r4) := by first | (rw [hji40] at H; exact H) | (simp only [hji40] at H ⊢; exact H)
              have hji40_ : (if x133000_16 < x132000_3 then x133000_16 else x132000_3) = ji40 := hji40
              obtain ⟨ji41, hji41⟩ : ∃ j_ : Int, (mn x132001_3 x133001_16) = j_ := ⟨_, rfl⟩
              replace H : ((rect_of.f (ji40) (ji41) (mx (wrap64 (x132000_3 + x132002_3)) (wrap64 (x133000_16 + x133002_16))) (mx (wrap64 (x132001_3 + x132003_3)) (wrap64 (x133001_16 + x133003_16)))).bind fun bt136 => (some (bt136.1, bt136.2.1, bt136.2.2.1, bt136.2.2.2))) = some (r1, r2, r3, r4) := by first | (rw [hji41] at H; exact H) | (simp only [hji41] at H ⊢; exact H)
              have hji41_ : (if x133001_16 < x132001_3 then x133001_16 else x132001_3) = ji41 := hji41
              obtain ⟨ji42, hji42⟩ : ∃ j_ : Int, (mx (wrap64 (x132000_3 + x132002_3)) (wrap64 (x133000_16 + x133002_16))) = j_ := ⟨_, rfl⟩
              replace H : ((rect_of.f (ji40) (ji41) (ji42) (mx (wrap64 (x132001_3 + x132003_3)) (wrap64 (x133001_16 + x133003_16)))).bind fun bt136 => (some (bt136.1, bt136.2.1, bt136.2.2.1, bt136.2.2.2))) = some (r1, r2, r3, r4) := by first | (rw [hji42] at H; exact H) | (simp only [hji42] at H ⊢; exact H)
              have hji42_ : (if (wrap64 (x132000_3 + x132002_3)) < (wrap64 (x133000_16 + x133002_16)) then (wrap64 (x133000_16 + x133002_16)) else (wrap64 (x132000_3 + x132002_3))) = ji42 := hji42
              obtain ⟨ji43, hji43⟩ : ∃ j_ : Int, (mx (wrap64 (x132001_3 + x132003_3)) (wrap64 (x133001_16 + x133003_16))) = j_ := ⟨_, rfl⟩
              replace H : ((rect_of.f (ji40) (ji41) (ji42) (ji43)).bind fun bt136 => (some (bt136.1, bt136.2.1, bt136.2.2.1, bt136.2.2.2))) = some (r1, r2, r3, r4) := by first | (rw [hji43] at H; exact H) | (simp only [hji43] at H ⊢; exact H)
              have hji43_ : (if (wrap64 (x132001_3 + x132003_3)) < (wrap64 (x133001_16 + x133003_16)) then (wrap64 (x133001_16 + x133003_16)) else (wrap64 (x132001_3 + x132003_3))) = ji43 := hji43
              replace H := Option.bind_eq_some_iff.mp H
              obtain ⟨⟨t136, t137, t138, t139⟩, A440, H⟩ := H
              replace H : (some (t136, t137, t138, t139)) = some (r1, r2, r3, r4) := H
              have A44 := Aside0.mk A440
              clear A440
              simp only [Option.some.injEq, Prod.mk.injEq] at H
              obtain ⟨rfl, rfl, rfl, rfl⟩ := H
              have hnb45 := NB131_132.out
              have hnc45 := NB132_131.out
              have hnb46 := NB131_133.out
              have hnc46 := NB133_131.out
              have hcz47_0 : wc.cell? ⟨gb131, 0, none⟩ = some (.int .i64 x132000_3) := (blk_cell BK131.out 0).trans rfl
              have hcz47_1 : wc.cell? ⟨gb131, 1, none⟩ = some (.int .i64 x132001_3) := (blk_cell BK131.out 1).trans rfl
              have hcz47_2 : wc.cell? ⟨gb131, 2, none⟩ = some (.int .i64 x132002_3) := (blk_cell BK131.out 2).trans rfl
              have hcz47_3 : wc.cell? ⟨gb131, 3, none⟩ = some (.int .i64 x132003_3) := (blk_cell BK131.out 3).trans rfl
              have hfz47_0 := blk_frozen BK131.out 0
              have hfz47_1 := blk_frozen BK131.out 1
              have hfz47_2 := blk_frozen BK131.out 2
              have hfz47_3 := blk_frozen BK131.out 3
              have hnb48 := NB132_133.out
              have hnc48 := NB133_132.out
              have hcz49_0 : wc.cell? ⟨gb132, 0, none⟩ = some (.int .i64 x133000_16) := (blk_cell BK132.out 0).trans rfl
              have hcz49_1 : wc.cell? ⟨gb132, 1, none⟩ = some (.int .i64 x133001_16) := (blk_cell BK132.out 1).trans rfl
              have hcz49_2 : wc.cell? ⟨gb132, 2, none⟩ = some (.int .i64 x133002_16) := (blk_cell BK132.out 2).trans rfl
              have hcz49_3 : wc.cell? ⟨gb132, 3, none⟩ = some (.int .i64 x133003_16) := (blk_cell BK132.out 3).trans rfl
              have hfz49_0 := blk_frozen BK132.out 0
              have hfz49_1 := blk_frozen BK132.out 1
              have hfz49_2 := blk_frozen BK132.out 2
              have hfz49_3 := blk_frozen BK132.out 3
              go_wp2_with (first | ((with_reducible refine gate_callee (f := 49) rfl ?_); refine goesL_ (some 51) rfl rfl Try.func49 (by kernel_rfl) rfl #[.int .i64 ji40, .int .i64 ji41, .int .i64 ji42, .int .i64 ji43] rfl (by (try simp only [List.map_toArray, List.map_cons, List.map_nil]); first | done | (simp only [hji40, hji41, hji42, hji43]; rfl) | rfl | (simp only [List.length_drop, List.length_take]; rfl)) ?_; (with_reducible refine (rect_of.calls ji40 ji41 ji42 ji43 t136 t137 t138 t139 _ A44.out).mono ?_); rintro e w50 ⟨rfl, hb⟩; refine ⟨_, rfl, ?_⟩; have n0_ := Aside0.mk (blk_below (g := gb131) (o := .cells #[.int .i64 x132000_3, .int .i64 x132001_3, .int .i64 x132002_3, .int .i64 x132003_3] 23 (0, 0)) (by (with_reducible repeat (first | refine blk_drewN ?_ _ | refine blk_drew ?_ | refine blk_alloc ?_ _)); exact BK131.out) hb); have n1_ := Aside0.mk (blk_below (g := gb132) (o := .cells #[.int .i64 x133000_16, .int .i64 x133001_16, .int .i64 x133002_16, .int .i64 x133003_16] 23 (0, 0)) (by (with_reducible repeat (first | refine blk_drewN ?_ _ | refine blk_drew ?_ | refine blk_alloc ?_ _)); exact BK132.out) hb); have n2_ := Aside0.mk (blk_below (g := gb133) (o := .cells #[.int .i64 0, .int .i64 0, .int .i64 0, .int .i64 0] 23 (0, 0)) (by (with_reducible repeat (first | refine blk_drewN ?_ _ | refine blk_drew ?_ | refine blk_alloc ?_ _)); exact BK133.out) hb); have n3_ := Aside0.mk (below_step (by repeat (first | (with_reducible first | exact HB.out | apply below_alloc | apply pw_below_drewN | apply below_drew1 | refine below_set ?_ GE131.out | refine below_set ?_ GE132.out | refine below_set ?_ GE133.out) | exact HB.out)) hb); clear BK131; clear BK132; clear BK133; clear HB; have BK131 := n0_; have BK132 := n1_; have BK133 := n2_; have HB := n3_; clear n0_ n1_ n2_ n3_; (try clear hb); (try clear hb2); (try clear hk); (try clear hi); have hcz51_0 : w50.cell? ⟨gb133, 0, none⟩ = some (.int .i64 0) := (blk_cell BK133.out 0).trans rfl; have hcz51_1 : w50.cell? ⟨gb133, 1, none⟩ = some (.int .i64 0) := (blk_cell BK133.out 1).trans rfl; have hcz51_2 : w50.cell? ⟨gb133, 2, none⟩ = some (.int .i64 0) := (blk_cell BK133.out 2).trans rfl; have hcz51_3 : w50.cell? ⟨gb133, 3, none⟩ = some (.int .i64 0) := (blk_cell BK133.out 3).trans rfl; have hfz51_0 := blk_frozen BK133.out 0; have hfz51_1 := blk_frozen BK133.out 1; have hfz51_2 := blk_frozen BK133.out 2; have hfz51_3 := blk_frozen BK133.out 3))
              refine bodyPost_ret (results_cell_row rfl _ _ gb133 23 #[.int .i64 t136, .int .i64 t137, .int .i64 t138, .int .i64 t139] (0, 0) _ rfl (by (with_reducible repeat (first | refine blk_drewN ?_ _ | refine blk_drew ?_ | refine blk_alloc ?_ _)); refine blk_put (cs := #[.int .i64 t136, .int .i64 t137, .int .i64 t138, .int .i64 0]) ?_ 3 _ rfl; (with_reducible repeat (first | refine blk_drewN ?_ _ | refine blk_drew ?_ | refine blk_alloc ?_ _)); refine blk_put (cs := #[.int .i64 t136, .int .i64 t137, .int .i64 0, .int .i64 0]) ?_ 2 _ rfl; (with_reducible repeat (first | refine blk_drewN ?_ _ | refine blk_drew ?_ | refine blk_alloc ?_ _)); refine blk_put (cs := #[.int .i64 t136, .int .i64 0, .int .i64 0, .int .i64 0]) ?_ 1 _ rfl; (with_reducible repeat (first | refine blk_drewN ?_ _ | refine blk_drew ?_ | refine blk_alloc ?_ _)); refine blk_put (cs := #[.int .i64 0, .int .i64 0, .int .i64 0, .int .i64 0]) ?_ 0 _ rfl; (with_reducible repeat (first | refine blk_drewN ?_ _ | refine blk_drew ?_ | refine blk_alloc ?_ _)); exact BK133.out) Try.underlying23 rfl (by kernel_rfl)) rfl ?_
              exact ⟨by first | rfl | (simp [errW_none, errW_some] <;> rfl) | (simp only [← hji40, ← hji41, ← hji42, ← hji43]; first | rfl | (simp [errW_none, errW_some] <;> rfl)) | (simp [*, errW_none, errW_some] <;> rfl), by repeat (first | (with_reducible first | exact HB.out | apply below_alloc | apply pw_below_drewN | apply below_drew1 | refine below_set ?_ GE131.out | refine below_set ?_ GE132.out | refine below_set ?_ GE133.out) | exact HB.out)⟩

end Go.Proofs.Ytghgngfmmncomaa.PRectCovers
