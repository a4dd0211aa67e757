-- Printed for this claim by a program over the kit's print.
import Derived.Test.YtclpppejabfbbaaPFx0
import Derived.Test.YtclpppejabfbbaaPFx3
import Derived.Test.YtclpppejabfbbaaPFGivenT
import Derived.Test.YtclpppejabfbbaaCut3
namespace Go.Proofs.Ytclpppejabfbbaa.PF
open Go.RowKit Go.Proofs.YtclpppejabfbbaaW.PrintWords Go.Proofs.YtclpppejabfbbaaW.PrintLast Go.Proofs.YtclpppejabfbbaaW.PrintMore
attribute [local go_sem] max2_int min2_int max_two min_two max_three min_three max_four min_four   -- for this text's walks alone
set_option linter.unusedVariables false
set_option linter.unusedSimpArgs false


/-! ### tableaulaw24_dirt: function 40 -/
def tableaulaw24_dirt.l0 : Nat → List (S75) → List (S52) → Int → Option ((List (S52)) × Bool)
 | 0, _, _, _ => none
 | k + 1, x0, x4, x5 => if x5 < (x0.length : Int) then (if (x0.length : Int) > 8 then (some (([] : List (S52)), false)) else (if 0 ≤ x5 then (if (((rd_T75 x0 x5).f1).length : Int) > 8 then (some (([] : List (S52)), false)) else ((tableaulaw00_Rects.f ((rd_T75 x0 x5).f1)).bind fun t106 => (if x4.length < 4398046511104 then (tableaulaw24_dirt.l0 k x0 (x4 ++ [(⟨(rd_T75 x0 x5).f0, t106⟩ : S52)]) (wrap64 (x5 + 1))) else (none)))) else (none))) else (some (x4, true))
def tableaulaw24_dirt.f (k : Nat) (l0 : List (S75)) : Option ((List (S52)) × Bool) := tableaulaw24_dirt.l0 k l0 ([] : List (S52)) 0
theorem tableaulaw24_dirt.mono_l : ∀ k, (∀ y0 y1 y2, LeO (tableaulaw24_dirt.l0 k y0 y1 y2) (tableaulaw24_dirt.l0 (k + 1) y0 y1 y2))
 | 0 => fun _ _ _ r h => by simp [tableaulaw24_dirt.l0] at h
 | k + 1 => by
  have ih0 := tableaulaw24_dirt.mono_l k
  · intro y0 y1 y2
    unfold tableaulaw24_dirt.l0
    repeat' first
    | (with_reducible exact ih0 _ _ _)
    | (with_reducible exact LeO.refl _)
    | (with_reducible exact LeO.none _)
    | (with_reducible refine LeO.ite ?_ ?_)
    | (with_reducible refine LeO.bind ?_ (fun _ => ?_))
    | exact ih0 _ _ _
    | exact LeO.none _
    | refine LeO.ite ?_ ?_
    | refine LeO.bind ?_ (fun _ => ?_)
theorem tableaulaw24_dirt.mono : ∀ a0 k, LeO (tableaulaw24_dirt.f k a0) (tableaulaw24_dirt.f (k + 1) a0) := by
 intro a0 k
 have ih0 := tableaulaw24_dirt.mono_l k
 unfold tableaulaw24_dirt.f
 repeat' first
  | (with_reducible exact ih0 _ _ _)
  | (with_reducible exact LeO.refl _)
  | (with_reducible exact LeO.none _)
  | (with_reducible refine LeO.ite ?_ ?_)
  | (with_reducible refine LeO.bind ?_ (fun _ => ?_))
  | exact ih0 _ _ _
  | exact LeO.none _
  | refine LeO.ite ?_ ?_
  | refine LeO.bind ?_ (fun _ => ?_)
def tableaulaw24_dirt.T7 : Bool × List (List Nat × List Nat) := (true, [([], []), ([], []), ([], []), ([1, 2], [1, 2]), ([3], [3]), ([4], [4]), ([], []), ([], []), ([6, 7], [6, 7]), ([8], [8]), ([9], [9]), ([10], [10]), ([5, 11], [5, 11]), ([12], [12]), ([0, 13, 11], [0, 13]), ([14, 14, 0, 1, 2, 3, 4, 5, 6, 7, 8, 9, 10, 11, 12, 13, 14], [0, 14])])
def tableaulaw24_dirt.B7 : List Nat := [0, 0, 0, 6, 14, 30, 0, 0, 192, 448, 960, 1984, 4094, 8190, 16383, 32767]
theorem tableaulaw24_dirt.tab7 : rtab .any (opsOf Try.f40 7) = tableaulaw24_dirt.T7 := by kernel_rfl
theorem tableaulaw24_dirt.bits7 : waitsOk tableaulaw24_dirt.T7.2 tableaulaw24_dirt.B7 = true := by kernel_rfl
set_option maxHeartbeats 8000000 in
set_option maxRecDepth 100000 in
theorem tableaulaw24_dirt.calls (k : Nat) (A0 : Option Addr) (c0 : Nat) (l0 : List (S75)) (r1 : List (S52)) (r2 : Bool) (w : World) (hr0 : Kd.C k75 w A0 l0.length l0) (hc0 : l0.length ≤ c0) (h : tableaulaw24_dirt.f k l0 = some (r1, r2)) :
 Calls Try.prog 40 #[.slice A0 l0.length c0] w fun e w' => ∃ v0_ : Value, e = .returned (.tuple #[v0_, .bool r2]) ∧ Kd.S k52 52 w' w.heap.size (fun _ => True) v0_ r1 ∧ Below w.heap.size w w' := by
 have hu52 := Try.underlying52
 have HR0 := Aside0.mk hr0
 have HC0 := Aside0.mk hc0
 clear hr0 hc0
 have HB := Aside0.mk (Below.refl w.heap.size w)
 have H : (tableaulaw24_dirt.l0 k l0 ([] : List (S52)) 0) = some (r1, r2) := h
 clear h
 have H' := Aside0.mk H
 clear H
 go_enter Try.func40, Try.ntmps40
 go_wp2
 go_loopg [4, 5] k (fun kq v4 v5 w' => ∃ (x4_1 : List (S52)) (x5_1 : Int), v5 = .int .i64 x5_1 ∧ Aside0 (tableaulaw24_dirt.l0 kq l0 x4_1 x5_1 = some (r1, r2)) ∧ Aside0 (kq ≤ k) ∧ Aside0 (Kd.S k52 52 w' w.heap.size (fun _ => True) v4 x4_1) ∧ Aside0 (Below w.heap.size w w'))
 case atStart => exact ⟨(([] : List (S52))), (0), (by first | rfl | (simp; done) | (simp [*]; done)), H', ⟨Nat.le_refl _⟩, ⟨by first | exact Kd.S_nil _ _ _ _ _ | exact Kd.N_nil _ _ _ _ _ | exact Kd.V_nil _ _ _ _ _ | exact Kd.Q_nil _ _ _ _ _ | exact Kd.R_nil _ _ _ _ _⟩, ⟨by repeat (first | (with_reducible first | exact HB.out | apply pbA | apply pbN | apply pbD) | exact HB.out)⟩⟩
 case round =>
  clear H'
  obtain ⟨x4_1, x5_1, rfl, HA, HK1, HO_4, HB⟩ := hrel
  cases gk with
  | zero => exact absurd HA.out (by simp [tableaulaw24_dirt.l0])
  | succ k1 =>
   have H := HA.out
   clear HA
   simp only [tableaulaw24_dirt.l0] at H
   by_cases c2 : x5_1 < (l0.length : Int)
   · rw [if_pos c2] at H
     have c2b0 : decide (x5_1 < (l0.length : Int)) = true := decide_eq_true c2
     clear c2
     by_cases c3 : (l0.length : Int) > 8
     · rw [if_pos c3] at H
       have c3b0 : decide (8 < (l0.length : Int)) = true := decide_eq_true c3
       have c3b1 : decide (8 < l0.length) = true := decide_eq_true (by omega)
       clear c3
       simp only [Option.some.injEq, Prod.mk.injEq] at H
       obtain ⟨rfl, rfl⟩ := H
       go_wp2
       go_ret2
       exact ⟨_, by first | rfl | (simp [errW_none, errW_some] <;> rfl) | (simp [*, errW_none, errW_some] <;> rfl), by first | exact Kd.S_nil _ _ _ _ _ | exact Kd.N_nil _ _ _ _ _ | exact Kd.V_nil _ _ _ _ _ | exact Kd.Q_nil _ _ _ _ _ | exact Kd.R_nil _ _ _ _ _, by repeat (first | (with_reducible first | exact HB.out | apply pbA | apply pbN | apply pbD) | exact HB.out)⟩
     · rw [if_neg c3] at H
       have c3b0 : decide (8 < (l0.length : Int)) = false := decide_eq_false c3
       have c3b1 : decide (8 < l0.length) = false := decide_eq_false (by omega)
       clear c3
       by_cases c4 : 0 ≤ x5_1
       · rw [if_pos c4] at H
         have c4b0 : decide (0 ≤ x5_1) = true := decide_eq_true c4
         clear c4
         by_cases c5 : (((rd_T75 l0 x5_1).f1).length : Int) > 8
         · rw [if_pos c5] at H
           have c5b0 : decide (8 < (((rd_T75 l0 x5_1).f1).length : Int)) = true := decide_eq_true c5
           have c5b1 : decide (8 < ((rd_T75 l0 x5_1).f1).length) = true := decide_eq_true (by omega)
           clear c5
           simp only [Option.some.injEq, Prod.mk.injEq] at H
           obtain ⟨rfl, rfl⟩ := H
           have p103 : 0 ≤ (x5_1 : Int) := of_decide_eq_true (by first | (with_reducible assumption) | assumption)
           have q103 : x5_1 < (l0.length : Int) := of_decide_eq_true (by first | (with_reducible assumption) | assumption)
           obtain ⟨ad103, A103_1, c103_1, e103, hx103_0, hx103_1, hl103_1, hi103_1⟩ := at_T75 HR0.out x5_1 p103 q103
           cases e103
           replace hx103_0 := (HB.out.cell (World.block_lt_of_cell? w _ hx103_0)).trans hx103_0
           replace hx103_1 := (HB.out.cell (World.block_lt_of_cell? w _ hx103_1)).trans hx103_1
           have HR103_1 := Aside0.mk hi103_1
           have HC103_1 := Aside0.mk hl103_1
           clear hi103_1 hl103_1
           replace p103 := eq_true p103
           replace q103 := eq_true q103
           go_wp2
           go_ret2
           exact ⟨_, by first | rfl | (simp [errW_none, errW_some] <;> rfl) | (simp [*, errW_none, errW_some] <;> rfl), by first | exact Kd.S_nil _ _ _ _ _ | exact Kd.N_nil _ _ _ _ _ | exact Kd.V_nil _ _ _ _ _ | exact Kd.Q_nil _ _ _ _ _ | exact Kd.R_nil _ _ _ _ _, by repeat (first | (with_reducible first | exact HB.out | apply pbA | apply pbN | apply pbD) | exact HB.out)⟩
         · rw [if_neg c5] at H
           have c5b0 : decide (8 < (((rd_T75 l0 x5_1).f1).length : Int)) = false := decide_eq_false c5
           have c5b1 : decide (8 < ((rd_T75 l0 x5_1).f1).length) = false := decide_eq_false (by omega)
           clear c5
           replace H := Option.bind_eq_some_iff.mp H
           obtain ⟨t106, A60, H⟩ := H
           replace H : (if x4_1.length < 4398046511104 then (tableaulaw24_dirt.l0 k1 l0 (x4_1 ++ [(⟨(rd_T75 l0 x5_1).f0, t106⟩ : S52)]) (wrap64 (x5_1 + 1))) else (none)) = some (r1, r2) := H
           have A6 := Aside0.mk A60
           clear A60
           by_cases c7 : x4_1.length < 4398046511104
           · rw [if_pos c7] at H
             have LMc7 := Aside0.mk c7
             clear c7
             obtain ⟨y109, hy109⟩ : ∃ y_ : List (S52), y_ = (x4_1 ++ [(⟨(rd_T75 l0 x5_1).f0, t106⟩ : S52)]) := ⟨_, rfl⟩
             replace H : (tableaulaw24_dirt.l0 k1 l0 y109 (wrap64 (x5_1 + 1))) = some (r1, r2) := by first | (rw [hy109]; with_reducible exact H) | (have H2_ := (Option.bind_some _ _).symm.trans H; rw [hy109]; with_reducible exact H2_) | (have H2_ := (Option.bind_some _ _).symm.trans H; with_reducible exact H2_) | with_reducible exact H | (rw [hy109]; exact H) | exact H
             have Ny109 := Aside0.mk hy109
             clear hy109
             have H' := Aside0.mk H
             clear H
             have p103 : 0 ≤ (x5_1 : Int) := of_decide_eq_true (by first | (with_reducible assumption) | assumption)
             have q103 : x5_1 < (l0.length : Int) := of_decide_eq_true (by first | (with_reducible assumption) | assumption)
             obtain ⟨ad103, A103_1, c103_1, e103, hx103_0, hx103_1, hl103_1, hi103_1⟩ := at_T75 HR0.out x5_1 p103 q103
             cases e103
             replace hx103_0 := (HB.out.cell (World.block_lt_of_cell? w _ hx103_0)).trans hx103_0
             replace hx103_1 := (HB.out.cell (World.block_lt_of_cell? w _ hx103_1)).trans hx103_1
             have HR103_1 := Aside0.mk hi103_1
             have HC103_1 := Aside0.mk hl103_1
             clear hi103_1 hl103_1
             replace p103 := eq_true p103
             replace q103 := eq_true q103
             try go_wp2
             have n0_ := Aside0.mk (Kd.S_drew HO_4.out)
             have n1_ := Aside0.mk (pbD HB.out)
             clear HO_4
             clear HB
             have HO_4 := n0_
             have HB := n1_
             clear n0_ n1_
             have p104 : 0 ≤ (x5_1 : Int) := of_decide_eq_true (by first | (with_reducible assumption) | assumption)
             have q104 : x5_1 < (l0.length : Int) := of_decide_eq_true (by first | (with_reducible assumption) | assumption)
             obtain ⟨ad104, A104_1, c104_1, e104, hx104_0, hx104_1, hl104_1, hi104_1⟩ := at_T75 HR0.out x5_1 p104 q104
             have hw104_1 := hx104_1
             have hw104_0 := hx104_0
             obtain rfl : ad103 = ad104 := (by injection e104)
             replace hx104_0 := (HB.out.cell (World.block_lt_of_cell? w _ hx104_0)).trans hx104_0
             replace hx104_1 := (HB.out.cell (World.block_lt_of_cell? w _ hx104_1)).trans hx104_1
             have HR104_1 := Aside0.mk hi104_1
             have HC104_1 := Aside0.mk hl104_1
             clear hi104_1 hl104_1
             replace p104 := eq_true p104
             replace q104 := eq_true q104
             have p105 : 0 ≤ (x5_1 : Int) := of_decide_eq_true (by first | (with_reducible assumption) | assumption)
             have q105 : x5_1 < (l0.length : Int) := of_decide_eq_true (by first | (with_reducible assumption) | assumption)
             obtain ⟨ad105, A105_1, c105_1, e105, hx105_0, hx105_1, hl105_1, hi105_1⟩ := at_T75 HR0.out x5_1 p105 q105
             have hw105_1 := hx105_1
             have hw105_0 := hx105_0
             obtain rfl : ad103 = ad105 := (by injection e105)
             replace hx105_0 := (HB.out.cell (World.block_lt_of_cell? w _ hx105_0)).trans hx105_0
             replace hx105_1 := (HB.out.cell (World.block_lt_of_cell? w _ hx105_1)).trans hx105_1
             have HR105_1 := Aside0.mk hi105_1
             have HC105_1 := Aside0.mk hl105_1
             clear hi105_1 hl105_1
             replace p105 := eq_true p105
             replace q105 := eq_true q105
             have ea_ := Option.some.inj (hx104_1.symm.trans hx105_1)
             injection ea_ with ea_ en_ ec_
             subst ea_
             subst ec_
             clear en_
             refine start_ (n := 16) (S := fun w' => w'.cell? (ad103.add ((x5_1).toNat * 2)) = some (.int .i64 ((rd_T75 l0 x5_1).f0)) ∧ w'.cell? ⟨(ad103.add ((x5_1).toNat * 2)).block, (ad103.add ((x5_1).toNat * 2)).off + 1, none⟩ = some (.slice A104_1 ((rd_T75 l0 x5_1).f1).length c104_1) ∧ w'.cell? (ad103.add ((x5_1).toNat * 2)) = some (.int .i64 ((rd_T75 l0 x5_1).f0)) ∧ w'.cell? ⟨(ad103.add ((x5_1).toNat * 2)).block, (ad103.add ((x5_1).toNat * 2)).off + 1, none⟩ = some (.slice A104_1 ((rd_T75 l0 x5_1).f1).length c104_1)) (ds := []) #[false, false, false, false, false, false, false, false, false, false, false, false, false, false, false, false] (by kernel_rfl) rfl rfl ⟨((HB.out.cell (World.block_lt_of_cell? w _ hw104_0)).trans hw104_0), ((HB.out.cell (World.block_lt_of_cell? w _ hw104_1)).trans hw104_1), ((HB.out.cell (World.block_lt_of_cell? w _ hw105_0)).trans hw105_0), ((HB.out.cell (World.block_lt_of_cell? w _ hw105_1)).trans hw105_1)⟩ (fun hHeld => ?_); refine with_tabW tableaulaw24_dirt.tab7 tableaulaw24_dirt.bits7 (fun HT_ HW_ => ?_)
             generalize wr.drew = w8 at HO_4 HB HR104_1 HR105_1 hx104_0 hx104_1 hx105_0 hx105_1 hHeld ⊢
             refine pure_ (i := 0) (N := some 24) (v := ?_) (a' := ?_) #[true, false, false, false, false, false, false, false, false, false, false, false, false, false, false, false] rfl rfl (any_of HT_.out (by kernel_rfl)) (fun _ _ _ h => h) (Or.inl ⟨by rfl, ?_⟩) ?_ ?_
             rotate_left
             · intro w'
               go_simp
               with_reducible rfl
             rotate_left
             · simp only [Act.put, List.setIfInBounds_toArray, List.set_cons_zero, List.set_cons_succ, i64_w, i32_w]
               rfl
             refine pure_ (i := 1) (N := some 25) (v := ?_) (a' := ?_) #[true, true, false, false, false, false, false, false, false, false, false, false, false, false, false, false] rfl rfl (any_of HT_.out (by kernel_rfl)) (fun _ _ _ h => h) (Or.inl ⟨by rfl, ?_⟩) ?_ ?_
             rotate_left
             · intro w'
               go_simp
               with_reducible rfl
             rotate_left
             · simp only [Act.put, List.setIfInBounds_toArray, List.set_cons_zero, List.set_cons_succ, i64_w, i32_w]
               rfl
             refine pure_ (i := 2) (N := some 26) (v := ?_) (a' := ?_) #[true, true, true, false, false, false, false, false, false, false, false, false, false, false, false, false] rfl rfl (any_of HT_.out (by kernel_rfl)) (fun _ _ _ h => h) (Or.inl ⟨by rfl, ?_⟩) ?_ ?_
             rotate_left
             · intro w'
               go_simp
               with_reducible rfl
             rotate_left
             · simp only [Act.put, List.setIfInBounds_toArray, List.set_cons_zero, List.set_cons_succ, i64_w, i32_w]
               rfl
             refine pure_ (i := 3) (N := some 27) (v := ?_) (a' := ?_) #[true, true, true, true, false, false, false, false, false, false, false, false, false, false, false, false] rfl rfl (any_of HT_.out (by kernel_rfl)) (fun _ _ _ h => h) (Or.inl ⟨by rfl, ?_⟩) ?_ ?_
             rotate_left
             · intro w'
               go_simp
               with_reducible rfl
             rotate_left
             · simp only [Act.put, List.setIfInBounds_toArray, List.set_cons_zero, List.set_cons_succ, i64_w, i32_w]
               rfl
             refine pure_ (i := 4) (N := some 28) (v := ?_) (a' := ?_) #[true, true, true, true, true, false, false, false, false, false, false, false, false, false, false, false] rfl rfl (any_of HT_.out (by kernel_rfl)) (fun _ _ _ h => h) (Or.inl ⟨by rfl, ?_⟩) ?_ ?_
             rotate_left
             · intro w'
               go_simp
               with_reducible rfl
             rotate_left
             · simp only [Act.put, List.setIfInBounds_toArray, List.set_cons_zero, List.set_cons_succ, i64_w, i32_w]
               rfl
             refine pure_ (i := 6) (N := some 30) (v := ?_) (a' := ?_) #[true, true, true, true, true, false, true, false, false, false, false, false, false, false, false, false] rfl rfl (any_of HT_.out (by kernel_rfl)) (fun _ _ _ h => h) (Or.inl ⟨by rfl, ?_⟩) ?_ ?_
             rotate_left
             · intro w'
               go_simp
               with_reducible rfl
             rotate_left
             · simp only [Act.put, List.setIfInBounds_toArray, List.set_cons_zero, List.set_cons_succ, i64_w, i32_w]
               rfl
             refine pure_ (i := 7) (N := some 31) (v := ?_) (a' := ?_) #[true, true, true, true, true, false, true, true, false, false, false, false, false, false, false, false] rfl rfl (any_of HT_.out (by kernel_rfl)) (fun _ _ _ h => h) (Or.inl ⟨by rfl, ?_⟩) ?_ ?_
             rotate_left
             · intro w'
               go_simp
               with_reducible rfl
             rotate_left
             · simp only [Act.put, List.setIfInBounds_toArray, List.set_cons_zero, List.set_cons_succ, i64_w, i32_w]
               rfl
             refine pure_ (i := 8) (N := some 32) (v := ?_) (a' := ?_) #[true, true, true, true, true, false, true, true, true, false, false, false, false, false, false, false] rfl rfl (any_of HT_.out (by kernel_rfl)) (fun _ _ _ h => h) (Or.inl ⟨by rfl, ?_⟩) ?_ ?_
             rotate_left
             · intro w'
               go_simp
               with_reducible rfl
             rotate_left
             · simp only [Act.put, List.setIfInBounds_toArray, List.set_cons_zero, List.set_cons_succ, i64_w, i32_w]
               rfl
             refine pure_ (i := 9) (N := some 33) (v := ?_) (a' := ?_) #[true, true, true, true, true, false, true, true, true, true, false, false, false, false, false, false] rfl rfl (any_of HT_.out (by kernel_rfl)) (fun _ _ _ h => h) (Or.inl ⟨by rfl, ?_⟩) ?_ ?_
             rotate_left
             · intro w'
               go_simp
               with_reducible rfl
             rotate_left
             · simp only [Act.put, List.setIfInBounds_toArray, List.set_cons_zero, List.set_cons_succ, i64_w, i32_w]
               rfl
             refine take_ (i := 5) (N := some 29) (v := ?_) (a' := ?_) #[true, true, true, true, true, true, true, true, true, true, false, false, false, false, false, false] rfl rfl (take_ofW HT_.out HW_.out (by kernel_rfl)) (fun _ _ _ h => h) (Or.inl ⟨by rfl, ?_⟩) hHeld ?_ ?_
             rotate_left
             · rintro w' ⟨s0, s1, s2, s3⟩
               go_simp
               with_reducible rfl
             rotate_left
             · simp only [Act.put, List.setIfInBounds_toArray, List.set_cons_zero, List.set_cons_succ, i64_w, i32_w]
               rfl
             refine take_ (i := 10) (N := some 34) (v := ?_) (a' := ?_) #[true, true, true, true, true, true, true, true, true, true, true, false, false, false, false, false] rfl rfl (take_ofW HT_.out HW_.out (by kernel_rfl)) (fun _ _ _ h => h) (Or.inl ⟨by rfl, ?_⟩) hHeld ?_ ?_
             rotate_left
             · rintro w' ⟨s0, s1, s2, s3⟩
               go_simp
               with_reducible rfl
             rotate_left
             · simp only [Act.put, List.setIfInBounds_toArray, List.set_cons_zero, List.set_cons_succ, i64_w, i32_w]
               rfl
             refine one_ (i := 11) (N := some 35) #[true, true, true, true, true, true, true, true, true, true, true, true, false, false, false, false] rfl rfl (one_of HT_.out (by kernel_rfl)) (by decide) (fun K hK => ?_)
             refine goes_ Try.func22 (by kernel_rfl) rfl #[.slice A104_1 ((rd_T75 l0 x5_1).f1).length c104_1] (by rfl) rfl rfl (by (try simp only [List.map_toArray, List.map_cons, List.map_nil]); first | done | rfl | (simp only [List.length_drop, List.length_take]; rfl)) ?_
             with_reducible refine (tableaulaw00_Rects.calls _ _ ((rd_T75 l0 x5_1).f1) t106 _ ?side1 ?side2 A6.out).mono ?_
             (case side1 => repeat (first | exact (Kd.C_below HR105_1.out HB.out) | (with_reducible refine Kd.C_alloc ?_ _) | (with_reducible refine Kd.C_drewN ?_ _) | (with_reducible refine Kd.C_drew ?_)))
             (case side2 => exact HC105_1.out)
             rintro e w9 ⟨v107, rfl, ho0, hb⟩
             refine ⟨_, rfl, ?_⟩
             have n0_ := Aside0.mk (Kd.S_elder' (by (with_reducible repeat (first | apply Kd.S_alloc | apply Kd.S_drewN | apply Kd.S_drew)); exact HO_4.out) (Kd.R_base ho0) hb)
             have n1_ := Aside0.mk (Kd.R_lower ho0 (pbZ (by repeat (first | (with_reducible first | exact HB.out | apply pbA | apply pbN | apply pbD) | exact HB.out))))
             have n2_ := Aside0.mk (pbP (by repeat (first | (with_reducible first | exact HB.out | apply pbA | apply pbN | apply pbD) | exact HB.out)) hb)
             clear HO_4
             clear HB
             have HO_4 := n0_
             have HO108 := n1_
             have HB := n2_
             clear n0_ n1_ n2_
             (try clear hb)
             (try clear hb2)
             (try clear hk)
             (try clear hi)
             (try clear ho0)
             obtain ⟨Ao10, co10, eo10⟩ := Kd.R_slice HO108.out
             (first | subst eo10 | (injection eo10 with f1_ f2_ f3_; have f4_ := f1_.symm; have f5_ := f3_.symm; clear f1_ f2_ f3_; subst f4_; subst f5_))
             refine hK.out _ _ ⟨((HB.out.cell (World.block_lt_of_cell? w _ hw104_0)).trans hw104_0), ((HB.out.cell (World.block_lt_of_cell? w _ hw104_1)).trans hw104_1), ((HB.out.cell (World.block_lt_of_cell? w _ hw105_0)).trans hw105_0), ((HB.out.cell (World.block_lt_of_cell? w _ hw105_1)).trans hw105_1)⟩ (fun hHeld => ?_)
             clear hK K
             refine norm_ (a' := ?_) ?_ ?_
             rotate_left
             · show Act.put _ (some 35) _ = _
               simp only [Act.put, List.setIfInBounds_toArray, List.set_cons_zero, List.set_cons_succ, i64_w, i32_w]
               rfl
             refine pure_ (i := 12) (N := some 36) (v := ?_) (a' := ?_) #[true, true, true, true, true, true, true, true, true, true, true, true, true, false, false, false] rfl rfl (any_of HT_.out (by kernel_rfl)) (fun _ _ _ h => h) (Or.inl ⟨by rfl, ?_⟩) ?_ ?_
             rotate_left
             · intro w'
               go_simp
               with_reducible rfl
             rotate_left
             · simp only [Act.put, List.setIfInBounds_toArray, List.set_cons_zero, List.set_cons_succ, i64_w, i32_w]
               rfl
             refine one_ (i := 13) (N := some 37) #[true, true, true, true, true, true, true, true, true, true, true, true, true, true, false, false] rfl rfl (one_of HT_.out (by kernel_rfl)) (by decide) (fun K hK => ?_)
             refine value_ (w1 := ?_) (v := ?_) (by rfl) rfl ?_ ?_
             rotate_left 2
             · go_simp
               constructor
               · rfl
               · rfl
             refine hK.out _ _ ⟨(World.cell?_alloc_lt _ _ _ (World.block_lt_of_cell? _ _ (((HB.out.cell (World.block_lt_of_cell? w _ hw104_0)).trans hw104_0)))).trans (((HB.out.cell (World.block_lt_of_cell? w _ hw104_0)).trans hw104_0)), (World.cell?_alloc_lt _ _ _ (World.block_lt_of_cell? _ _ (((HB.out.cell (World.block_lt_of_cell? w _ hw104_1)).trans hw104_1)))).trans (((HB.out.cell (World.block_lt_of_cell? w _ hw104_1)).trans hw104_1)), (World.cell?_alloc_lt _ _ _ (World.block_lt_of_cell? _ _ (((HB.out.cell (World.block_lt_of_cell? w _ hw105_0)).trans hw105_0)))).trans (((HB.out.cell (World.block_lt_of_cell? w _ hw105_0)).trans hw105_0)), (World.cell?_alloc_lt _ _ _ (World.block_lt_of_cell? _ _ (((HB.out.cell (World.block_lt_of_cell? w _ hw105_1)).trans hw105_1)))).trans (((HB.out.cell (World.block_lt_of_cell? w _ hw105_1)).trans hw105_1))⟩ (fun hHeld => ?_)
             clear hK K
             refine norm_ (a' := ?_) ?_ ?_
             rotate_left
             · show Act.put _ (some 37) _ = _
               simp only [Act.put, List.setIfInBounds_toArray, List.set_cons_zero, List.set_cons_succ, i64_w, i32_w]
               rfl
             refine one_ (i := 14) (N := some 38) #[true, true, true, true, true, true, true, true, true, true, true, true, true, true, true, false] rfl rfl (one_of HT_.out (by kernel_rfl)) (by decide) (fun K hK => ?_)
             refine Kd.S_append_step k52 (w0 := w) w.heap.size (by rfl) (.tmp 24) (.tmp 37) 44 52 (.agg #[(.int .i64 0), (.slice none 0 0)]) 32 rfl Try.underlying44 info52 rfl (by decide) (by omega) u4 x4_1 (⟨(rd_T75 l0 x5_1).f0, t106⟩ : S52) [.int .i64 ((rd_T75 l0 x5_1).f0), .slice Ao10 t106.length co10] (fun _ => True) (fun k_ => some k_ = (.slice Ao10 t106.length co10 : Value).ownBlock) rfl rfl ?aP (fun k_ hk_ => ((Kd.R_mono (ok' := fun k_ => ((fun _ => True)) k_ ∧ some k_ ≠ (u4 : Value).ownBlock) (Kd.R_apart' (HO108.out) (Kd.S_typed HO_4.out) (by decide)) (fun k_ hk => ⟨trivial, hk.2⟩))).1 k_ hk_.symm) ?aF ?aO ?aB ?aS ?aL ?_
             (case aP => exact k52_mkM _ _ _ (⟨(rd_T75 l0 x5_1).f0, t106⟩ : S52) (Kd.R_mono (Kd.R_tight rfl (Kd.R_mono (ok' := fun k_ => ((fun _ => True)) k_ ∧ some k_ ≠ (u4 : Value).ownBlock) (Kd.R_apart' (HO108.out) (Kd.S_typed HO_4.out) (by decide)) (fun k_ hk => ⟨trivial, hk.2⟩))) (fun _ h_ => h_)))
             (case aB => exact (by repeat (first | (with_reducible first | exact HB.out | apply pbA | apply pbN | apply pbD) | exact HB.out)))
             (case aF => exact (fun _ _ => trivial))
             (case aO => exact (by (with_reducible repeat (first | apply Kd.S_alloc | apply Kd.S_drewN | apply Kd.S_drew)); exact Kd.S_mono HO_4.out (fun k_ hk => ⟨trivial, fun e_ => hk.2 e_⟩)))
             (case aS => exact (pbZ (by repeat (first | (with_reducible first | exact HB.out | apply pbA | apply pbN | apply pbD) | exact HB.out))))
             (case aL => have := LMc7.out; omega)
             intro v110 w11 ho hb hg hat
             rw [← Ny109.out] at ho
             have n0_ := Aside0.mk (hb)
             have n1_ := Aside0.mk (ho)
             clear HB
             clear HO_4
             clear HO108
             have HB := n0_
             have HO111 := n1_
             clear n0_ n1_
             clear ho hb hg hat
             refine hK.out _ _ ⟨((HB.out.cell (World.block_lt_of_cell? w _ hw104_0)).trans hw104_0), ((HB.out.cell (World.block_lt_of_cell? w _ hw104_1)).trans hw104_1), ((HB.out.cell (World.block_lt_of_cell? w _ hw105_0)).trans hw105_0), ((HB.out.cell (World.block_lt_of_cell? w _ hw105_1)).trans hw105_1)⟩ (fun hHeld => ?_)
             clear hK K
             refine norm_ (a' := ?_) ?_ ?_
             rotate_left
             · show Act.put _ (some 38) _ = _
               simp only [Act.put, List.setIfInBounds_toArray, List.set_cons_zero, List.set_cons_succ, i64_w, i32_w]
               rfl
             refine pure_ (i := 15) (N := some 4) (v := ?_) (a' := ?_) #[true, true, true, true, true, true, true, true, true, true, true, true, true, true, true, true] rfl rfl (any_of HT_.out (by kernel_rfl)) (fun _ _ _ h => h) (Or.inl ⟨by rfl, ?_⟩) ?_ ?_
             rotate_left
             · intro w'
               go_simp
               with_reducible rfl
             rotate_left
             · simp only [Act.put, List.setIfInBounds_toArray, List.set_cons_zero, List.set_cons_succ, i64_w, i32_w]
               rfl
             refine done_ (done_of HT_.out (by kernel_rfl)) ?_
             try go_wp2
             go_roundg k1
             case measure => have := HK1.out; omega
             case rel => exact ⟨(y109), (wrap64 (x5_1 + 1)), (by first | rfl | (simp; done) | (simp [*]; done)), H', ⟨by have := HK1.out; omega⟩, ⟨by (with_reducible repeat (first | apply Kd.S_alloc | apply Kd.S_drewN | apply Kd.S_drew)); exact HO111.out⟩, ⟨by repeat (first | (with_reducible first | exact HB.out | apply pbA | apply pbN | apply pbD) | exact HB.out)⟩⟩
           · rw [if_neg c7] at H
             exact absurd H (by simp)
       · rw [if_neg c4] at H
         exact absurd H (by simp)
   · rw [if_neg c2] at H
     have c2b0 : decide (x5_1 < (l0.length : Int)) = false := decide_eq_false c2
     clear c2
     simp only [Option.some.injEq, Prod.mk.injEq] at H
     obtain ⟨rfl, rfl⟩ := H
     go_wp2
     go_ret2
     exact ⟨_, by first | rfl | (simp [errW_none, errW_some] <;> rfl) | (simp [*, errW_none, errW_some] <;> rfl), by (with_reducible repeat (first | apply Kd.S_alloc | apply Kd.S_drewN | apply Kd.S_drew)); exact HO_4.out, by repeat (first | (with_reducible first | exact HB.out | apply pbA | apply pbN | apply pbD) | exact HB.out)⟩

/-! ### region_Of: function 31 -/
def region_Of.f (a0_0 : Int) (a0_1 : Int) (a0_2 : Int) (a0_3 : Int) : Option ((List (S26))) := (rect_Bound.f a0_0 a0_1 a0_2 a0_3).bind fun bt116 => ((rect_Empty.f bt116.1 bt116.2.1 bt116.2.2.1 bt116.2.2.2).bind fun t120 => (if t120 = true then (some ([] : List (S26))) else (some (([(⟨bt116.1, bt116.2.1, bt116.2.2.1, bt116.2.2.2⟩ : S26)] : List (S26))))))
set_option maxHeartbeats 8000000 in
set_option maxRecDepth 100000 in
theorem region_Of.calls (a0_0 : Int) (a0_1 : Int) (a0_2 : Int) (a0_3 : Int) (r : List (S26)) (w : World) (h : region_Of.f a0_0 a0_1 a0_2 a0_3 = some r) :
 Calls Try.prog 31 #[.agg #[.int .i64 a0_0, .int .i64 a0_1, .int .i64 a0_2, .int .i64 a0_3]] w fun e w' => ∃ v0_ : Value, e = .returned (v0_) ∧ Kd.R k26 26 w' w.heap.size (fun _ => True) v0_ r ∧ Below w.heap.size w w' := by
 have hu26 := Try.underlying26
 have HB := Aside0.mk (Below.refl w.heap.size w)
 have H : ((rect_Bound.f a0_0 a0_1 a0_2 a0_3).bind fun bt116 => ((rect_Empty.f bt116.1 bt116.2.1 bt116.2.2.1 bt116.2.2.2).bind fun t120 => (if t120 = true then (some ([] : List (S26))) else (some (([(⟨bt116.1, bt116.2.1, bt116.2.2.1, bt116.2.2.2⟩ : S26)] : List (S26))))))) = some r := h
 clear h
 replace H := Option.bind_eq_some_iff.mp H
 obtain ⟨⟨t116, t117, t118, t119⟩, A20, H⟩ := H
 replace H : ((rect_Empty.f t116 t117 t118 t119).bind fun t120 => (if t120 = true then (some ([] : List (S26))) else (some (([(⟨t116, t117, t118, t119⟩ : S26)] : List (S26)))))) = some r := H
 have A2 := Aside0.mk A20
 clear A20
 replace H := Option.bind_eq_some_iff.mp H
 obtain ⟨t120, A30, H⟩ := H
 replace H : (if t120 = true then (some ([] : List (S26))) else (some (([(⟨t116, t117, t118, t119⟩ : S26)] : List (S26))))) = some r := H
 have A3 := Aside0.mk A30
 clear A30
 by_cases c4 : t120 = true
 · subst c4
   have H1 : (some ([] : List (S26))) = some r := by rw [if_pos rfl] at H; exact H
   clear H
   have H := H1
   clear H1
   obtain rfl := Option.some.inj H
   go_enter Try.func31, Try.ntmps31
   go_wp2_with (first | ((with_reducible refine gate_dst (N := 1) rfl ?_); refine box_event ?hg (N := 1) ?hd (cs := #[.int .i64 a0_0, .int .i64 a0_1, .int .i64 a0_2, .int .i64 a0_3]) (t := 26) ?hr ?_; (case hd => rfl); (case hg => rfl); (case hr => first | (go_simp; done) | (go_simp; rfl)); intro gb115 hg w5 hbox hb; have n0_ := Aside0.mk (pbP (by repeat (first | (with_reducible first | exact HB.out | apply pbA | apply pbN | apply pbD) | exact HB.out)) hb); have n1_ := Aside0.mk (hbox); have n2_ := Aside0.mk ((by rw [hg]; exact (pbZ (by repeat (first | (with_reducible first | exact HB.out | apply pbA | apply pbN | apply pbD) | exact HB.out))) : w.heap.size ≤ gb115)); have n3_ := Aside0.mk ((by rw [hg]; exact (pbZ (by repeat (first | (with_reducible first | exact HB.out | apply pbA | apply pbN | apply pbD) | exact HB.out))) : w.heap.size ≤ gb115)); clear HB; have HB := n0_; have BK115 := n1_; have GW115 := n2_; have GE115 := n3_; clear n0_ n1_ n2_ n3_; clear hb hbox hg; have hcz6_0 : w5.cell? ⟨gb115, 0, none⟩ = some (.int .i64 a0_0) := (bkC BK115.out 0).trans rfl; have hcz6_1 : w5.cell? ⟨gb115, 1, none⟩ = some (.int .i64 a0_1) := (bkC BK115.out 1).trans rfl; have hcz6_2 : w5.cell? ⟨gb115, 2, none⟩ = some (.int .i64 a0_2) := (bkC BK115.out 2).trans rfl; have hcz6_3 : w5.cell? ⟨gb115, 3, none⟩ = some (.int .i64 a0_3) := (bkC BK115.out 3).trans rfl; have hfz6_0 := bkF BK115.out 0; have hfz6_1 := bkF BK115.out 1; have hfz6_2 := bkF BK115.out 2; have hfz6_3 := bkF BK115.out 3) | ((with_reducible refine gate_callee (f := 59) rfl ?_); refine goesL_ (some 4) rfl rfl Try.func59 (by kernel_rfl) rfl #[.agg #[.int .i64 a0_0, .int .i64 a0_1, .int .i64 a0_2, .int .i64 a0_3]] rfl (by (try simp only [List.map_toArray, List.map_cons, List.map_nil]); first | done | rfl | (simp only [List.length_drop, List.length_take]; rfl)) ?_; (with_reducible refine (rect_Bound.calls a0_0 a0_1 a0_2 a0_3 t116 t117 t118 t119 _ A2.out).mono ?_); rintro e w7 ⟨rfl, hb⟩; refine ⟨_, rfl, ?_⟩; have n0_ := Aside0.mk (bkB (g := gb115) (o := .cells #[.int .i64 a0_0, .int .i64 a0_1, .int .i64 a0_2, .int .i64 a0_3] 26 (0, 0)) (by (with_reducible repeat (first | refine bkN ?_ _ | refine bkD ?_ | refine bkA ?_ _)); exact BK115.out) hb); have n1_ := Aside0.mk (pbP (by repeat (first | (with_reducible first | exact HB.out | apply pbA | apply pbN | apply pbD | refine pbS ?_ GE115.out) | exact HB.out)) hb); clear BK115; clear HB; have BK115 := n0_; have HB := n1_; clear n0_ n1_; (try clear hb); (try clear hb2); (try clear hk); (try clear hi); have hcz8_0 : w7.cell? ⟨gb115, 0, none⟩ = some (.int .i64 a0_0) := (bkC BK115.out 0).trans rfl; have hcz8_1 : w7.cell? ⟨gb115, 1, none⟩ = some (.int .i64 a0_1) := (bkC BK115.out 1).trans rfl; have hcz8_2 : w7.cell? ⟨gb115, 2, none⟩ = some (.int .i64 a0_2) := (bkC BK115.out 2).trans rfl; have hcz8_3 : w7.cell? ⟨gb115, 3, none⟩ = some (.int .i64 a0_3) := (bkC BK115.out 3).trans rfl; have hfz8_0 := bkF BK115.out 0; have hfz8_1 := bkF BK115.out 1; have hfz8_2 := bkF BK115.out 2; have hfz8_3 := bkF BK115.out 3) | ((with_reducible refine gate_callee (f := 60) rfl ?_); refine goesL_ (some 6) rfl rfl Try.func60 (by kernel_rfl) rfl #[.agg #[.int .i64 t116, .int .i64 t117, .int .i64 t118, .int .i64 t119]] rfl (by (try simp only [List.map_toArray, List.map_cons, List.map_nil]); first | done | rfl | (simp only [List.length_drop, List.length_take]; rfl)) ?_; (with_reducible refine (rect_Empty.calls t116 t117 t118 t119 true _ A3.out).mono ?_); rintro e w9 ⟨rfl, hb⟩; refine ⟨_, rfl, ?_⟩; have n0_ := Aside0.mk (bkB (g := gb115) (o := .cells #[.int .i64 t116, .int .i64 t117, .int .i64 t118, .int .i64 t119] 26 (0, 0)) (by (with_reducible repeat (first | refine bkN ?_ _ | refine bkD ?_ | refine bkA ?_ _)); refine blk_put (cs := #[.int .i64 t116, .int .i64 t117, .int .i64 t118, .int .i64 a0_3]) ?_ 3 _ rfl; (with_reducible repeat (first | refine bkN ?_ _ | refine bkD ?_ | refine bkA ?_ _)); refine blk_put (cs := #[.int .i64 t116, .int .i64 t117, .int .i64 a0_2, .int .i64 a0_3]) ?_ 2 _ rfl; (with_reducible repeat (first | refine bkN ?_ _ | refine bkD ?_ | refine bkA ?_ _)); refine blk_put (cs := #[.int .i64 t116, .int .i64 a0_1, .int .i64 a0_2, .int .i64 a0_3]) ?_ 1 _ rfl; (with_reducible repeat (first | refine bkN ?_ _ | refine bkD ?_ | refine bkA ?_ _)); refine blk_put (cs := #[.int .i64 a0_0, .int .i64 a0_1, .int .i64 a0_2, .int .i64 a0_3]) ?_ 0 _ rfl; (with_reducible repeat (first | refine bkN ?_ _ | refine bkD ?_ | refine bkA ?_ _)); exact BK115.out) hb); have n1_ := Aside0.mk (pbP (by repeat (first | (with_reducible first | exact HB.out | apply pbA | apply pbN | apply pbD | refine pbS ?_ GE115.out) | exact HB.out)) hb); clear BK115; clear HB; have BK115 := n0_; have HB := n1_; clear n0_ n1_; (try clear hb); (try clear hb2); (try clear hk); (try clear hi)))
   go_ret
   exact ⟨_, by first | rfl | (simp [errW_none, errW_some] <;> rfl) | (simp [*, errW_none, errW_some] <;> rfl), by first | exact Kd.R_nil _ _ _ _ _ | exact Kd.N_nil _ _ _ _ _ | exact Kd.V_nil _ _ _ _ _ | exact Kd.Q_nil _ _ _ _ _ | exact Kd.S_nil _ _ _ _ _, by repeat (first | (with_reducible first | exact HB.out | apply pbA | apply pbN | apply pbD | refine pbS ?_ GE115.out) | exact HB.out)⟩
 · replace c4 := Bool.eq_false_iff.mpr c4
   subst c4
   have H1 : (some (([(⟨t116, t117, t118, t119⟩ : S26)] : List (S26)))) = some r := by rw [if_neg (show ¬ (false = true) by decide)] at H; exact H
   clear H
   have H := H1
   clear H1
   obtain ⟨y121, hy121⟩ : ∃ y_ : List (S26), y_ = (([(⟨t116, t117, t118, t119⟩ : S26)] : List (S26))) := ⟨_, rfl⟩
   replace H : (some y121) = some r := by first | (rw [hy121]; with_reducible exact H) | (have H2_ := (Option.bind_some _ _).symm.trans H; rw [hy121]; with_reducible exact H2_) | (have H2_ := (Option.bind_some _ _).symm.trans H; with_reducible exact H2_) | with_reducible exact H | (rw [hy121]; exact H) | exact H
   have Ny121 := Aside0.mk hy121
   clear hy121
   obtain rfl := Option.some.inj H
   go_enter Try.func31, Try.ntmps31
   go_wp2_with (first | ((with_reducible refine gate_dst (N := 1) rfl ?_); refine box_event ?hg (N := 1) ?hd (cs := #[.int .i64 a0_0, .int .i64 a0_1, .int .i64 a0_2, .int .i64 a0_3]) (t := 26) ?hr ?_; (case hd => rfl); (case hg => rfl); (case hr => first | (go_simp; done) | (go_simp; rfl)); intro gb115 hg w10 hbox hb; have n0_ := Aside0.mk (pbP (by repeat (first | (with_reducible first | exact HB.out | apply pbA | apply pbN | apply pbD) | exact HB.out)) hb); have n1_ := Aside0.mk (hbox); have n2_ := Aside0.mk ((by rw [hg]; exact (pbZ (by repeat (first | (with_reducible first | exact HB.out | apply pbA | apply pbN | apply pbD) | exact HB.out))) : w.heap.size ≤ gb115)); have n3_ := Aside0.mk ((by rw [hg]; exact (pbZ (by repeat (first | (with_reducible first | exact HB.out | apply pbA | apply pbN | apply pbD) | exact HB.out))) : w.heap.size ≤ gb115)); clear HB; have HB := n0_; have BK115 := n1_; have GW115 := n2_; have GE115 := n3_; clear n0_ n1_ n2_ n3_; clear hb hbox hg; have hcz11_0 : w10.cell? ⟨gb115, 0, none⟩ = some (.int .i64 a0_0) := (bkC BK115.out 0).trans rfl; have hcz11_1 : w10.cell? ⟨gb115, 1, none⟩ = some (.int .i64 a0_1) := (bkC BK115.out 1).trans rfl; have hcz11_2 : w10.cell? ⟨gb115, 2, none⟩ = some (.int .i64 a0_2) := (bkC BK115.out 2).trans rfl; have hcz11_3 : w10.cell? ⟨gb115, 3, none⟩ = some (.int .i64 a0_3) := (bkC BK115.out 3).trans rfl; have hfz11_0 := bkF BK115.out 0; have hfz11_1 := bkF BK115.out 1; have hfz11_2 := bkF BK115.out 2; have hfz11_3 := bkF BK115.out 3) | ((with_reducible refine gate_callee (f := 59) rfl ?_); refine goesL_ (some 4) rfl rfl Try.func59 (by kernel_rfl) rfl #[.agg #[.int .i64 a0_0, .int .i64 a0_1, .int .i64 a0_2, .int .i64 a0_3]] rfl (by (try simp only [List.map_toArray, List.map_cons, List.map_nil]); first | done | rfl | (simp only [List.length_drop, List.length_take]; rfl)) ?_; (with_reducible refine (rect_Bound.calls a0_0 a0_1 a0_2 a0_3 t116 t117 t118 t119 _ A2.out).mono ?_); rintro e w12 ⟨rfl, hb⟩; refine ⟨_, rfl, ?_⟩; have n0_ := Aside0.mk (bkB (g := gb115) (o := .cells #[.int .i64 a0_0, .int .i64 a0_1, .int .i64 a0_2, .int .i64 a0_3] 26 (0, 0)) (by (with_reducible repeat (first | refine bkN ?_ _ | refine bkD ?_ | refine bkA ?_ _)); exact BK115.out) hb); have n1_ := Aside0.mk (pbP (by repeat (first | (with_reducible first | exact HB.out | apply pbA | apply pbN | apply pbD | refine pbS ?_ GE115.out) | exact HB.out)) hb); clear BK115; clear HB; have BK115 := n0_; have HB := n1_; clear n0_ n1_; (try clear hb); (try clear hb2); (try clear hk); (try clear hi); have hcz13_0 : w12.cell? ⟨gb115, 0, none⟩ = some (.int .i64 a0_0) := (bkC BK115.out 0).trans rfl; have hcz13_1 : w12.cell? ⟨gb115, 1, none⟩ = some (.int .i64 a0_1) := (bkC BK115.out 1).trans rfl; have hcz13_2 : w12.cell? ⟨gb115, 2, none⟩ = some (.int .i64 a0_2) := (bkC BK115.out 2).trans rfl; have hcz13_3 : w12.cell? ⟨gb115, 3, none⟩ = some (.int .i64 a0_3) := (bkC BK115.out 3).trans rfl; have hfz13_0 := bkF BK115.out 0; have hfz13_1 := bkF BK115.out 1; have hfz13_2 := bkF BK115.out 2; have hfz13_3 := bkF BK115.out 3) | ((with_reducible refine gate_callee (f := 60) rfl ?_); refine goesL_ (some 6) rfl rfl Try.func60 (by kernel_rfl) rfl #[.agg #[.int .i64 t116, .int .i64 t117, .int .i64 t118, .int .i64 t119]] rfl (by (try simp only [List.map_toArray, List.map_cons, List.map_nil]); first | done | rfl | (simp only [List.length_drop, List.length_take]; rfl)) ?_; (with_reducible refine (rect_Empty.calls t116 t117 t118 t119 false _ A3.out).mono ?_); rintro e w14 ⟨rfl, hb⟩; refine ⟨_, rfl, ?_⟩; have n0_ := Aside0.mk (bkB (g := gb115) (o := .cells #[.int .i64 t116, .int .i64 t117, .int .i64 t118, .int .i64 t119] 26 (0, 0)) (by (with_reducible repeat (first | refine bkN ?_ _ | refine bkD ?_ | refine bkA ?_ _)); refine blk_put (cs := #[.int .i64 t116, .int .i64 t117, .int .i64 t118, .int .i64 a0_3]) ?_ 3 _ rfl; (with_reducible repeat (first | refine bkN ?_ _ | refine bkD ?_ | refine bkA ?_ _)); refine blk_put (cs := #[.int .i64 t116, .int .i64 t117, .int .i64 a0_2, .int .i64 a0_3]) ?_ 2 _ rfl; (with_reducible repeat (first | refine bkN ?_ _ | refine bkD ?_ | refine bkA ?_ _)); refine blk_put (cs := #[.int .i64 t116, .int .i64 a0_1, .int .i64 a0_2, .int .i64 a0_3]) ?_ 1 _ rfl; (with_reducible repeat (first | refine bkN ?_ _ | refine bkD ?_ | refine bkA ?_ _)); refine blk_put (cs := #[.int .i64 a0_0, .int .i64 a0_1, .int .i64 a0_2, .int .i64 a0_3]) ?_ 0 _ rfl; (with_reducible repeat (first | refine bkN ?_ _ | refine bkD ?_ | refine bkA ?_ _)); exact BK115.out) hb); have n1_ := Aside0.mk (pbP (by repeat (first | (with_reducible first | exact HB.out | apply pbA | apply pbN | apply pbD | refine pbS ?_ GE115.out) | exact HB.out)) hb); clear BK115; clear HB; have BK115 := n0_; have HB := n1_; clear n0_ n1_; (try clear hb); (try clear hb2); (try clear hk); (try clear hi); have hcz15_0 : w14.cell? ⟨gb115, 0, none⟩ = some (.int .i64 t116) := (bkC BK115.out 0).trans rfl; have hcz15_1 : w14.cell? ⟨gb115, 1, none⟩ = some (.int .i64 t117) := (bkC BK115.out 1).trans rfl; have hcz15_2 : w14.cell? ⟨gb115, 2, none⟩ = some (.int .i64 t118) := (bkC BK115.out 2).trans rfl; have hcz15_3 : w14.cell? ⟨gb115, 3, none⟩ = some (.int .i64 t119) := (bkC BK115.out 3).trans rfl; have hfz15_0 := bkF BK115.out 0; have hfz15_1 := bkF BK115.out 1; have hfz15_2 := bkF BK115.out 2; have hfz15_3 := bkF BK115.out 3) | ((with_reducible refine gate_dst (N := 8) rfl ?_); refine Kd.R_lit k26 _ 26 ?hg (N := 8) ?hd (xs := ([(⟨t116, t117, t118, t119⟩ : S26)] : List (S26))) (inner := [.int .i64 t116, .int .i64 t117, .int .i64 t118, .int .i64 t119]) (ok := fun _ => True) (okp := fun _ => True) ?hr ?hp (fun _ hk => hk) trivial (Below.refl _ _) (Nat.le_refl _) (by simp) ?_; (case hd => rfl); (case hg => rfl); (case hr => first | (go_simp; done) | (go_simp; rfl)); (case hp => exact (Reps.c4 (show Kd.M k26 _ _ _ (⟨t116, t117, t118, t119⟩ : S26) [.int .i64 t116, .int .i64 t117, .int .i64 t118, .int .i64 t119] from (k26_mkM _ _ _ (⟨t116, t117, t118, t119⟩ : S26) )) (Reps.none _ _))); intro v122 w16 ho17 hb hg_ hnew_; clear hg_ hnew_; (first | rw [← Ny121.out] at ho17 | (simp only [Int.reduceToNat] at ho17; rw [← Ny121.out] at ho17)); have n0_ := Aside0.mk (Kd.R_lower (Kd.R_newB ho17 (g := gb115) (o := .cells #[.int .i64 t116, .int .i64 t117, .int .i64 t118, .int .i64 t119] 26 (0, 0)) (by (with_reducible repeat (first | refine bkN ?_ _ | refine bkD ?_ | refine bkA ?_ _)); exact BK115.out)) (pbZ (by repeat (first | (with_reducible first | exact HB.out | apply pbA | apply pbN | apply pbD | refine pbS ?_ GE115.out) | exact HB.out)))); have n1_ := Aside0.mk (bkB (g := gb115) (o := .cells #[.int .i64 t116, .int .i64 t117, .int .i64 t118, .int .i64 t119] 26 (0, 0)) (by (with_reducible repeat (first | refine bkN ?_ _ | refine bkD ?_ | refine bkA ?_ _)); exact BK115.out) hb); have n2_ := Aside0.mk (pbP (by repeat (first | (with_reducible first | exact HB.out | apply pbA | apply pbN | apply pbD | refine pbS ?_ GE115.out) | exact HB.out)) hb); clear BK115; clear HB; have HO123 := n0_; have BK115 := n1_; have HB := n2_; clear n0_ n1_ n2_; clear hb ho17))
   go_ret
   exact ⟨_, by first | rfl | (simp [errW_none, errW_some] <;> rfl) | (simp [*, errW_none, errW_some] <;> rfl), by (with_reducible repeat (first | apply Kd.R_alloc | apply Kd.R_drewN | apply Kd.R_drew)); exact Kd.R_mono HO123.out (fun _ hk => trivial), by repeat (first | (with_reducible first | exact HB.out | apply pbA | apply pbN | apply pbD | refine pbS ?_ GE115.out) | exact HB.out)⟩

/-! ### region_Cover: function 36 -/
def region_Cover.l0 : Nat → List (S26) → Int → Int → Int → Int → Int → Int → Option (Int × Int × Int × Int)
 | 0, _, _, _, _, _, _, _ => none
 | k + 1, x8, x9, x10, x126000, x126001, x126002, x126003 => if x10 < x9 then (if 0 ≤ x10 then (if x10 < (x8.length : Int) then ((rect_Cover.f x126000 x126001 x126002 x126003 ((rd_T26 x8 x10).f0) ((rd_T26 x8 x10).f1) ((rd_T26 x8 x10).f2) ((rd_T26 x8 x10).f3)).bind fun bt129 => (region_Cover.l0 k x8 x9 (wrap64 (x10 + 1)) bt129.1 bt129.2.1 bt129.2.2.1 bt129.2.2.2)) else (none)) else (none)) else (some (x126000, x126001, x126002, x126003))
def region_Cover.f (k : Nat) (l0 : List (S26)) : Option (Int × Int × Int × Int) := (region_Check.f l0).bind fun t126 => (if t126 = true then (region_Cover.l0 k l0 (l0.length : Int) 0 0 0 0 0) else (some (0, 0, 0, 0)))
theorem region_Cover.mono_l : ∀ k, (∀ y0 y1 y2 y3 y4 y5 y6, LeO (region_Cover.l0 k y0 y1 y2 y3 y4 y5 y6) (region_Cover.l0 (k + 1) y0 y1 y2 y3 y4 y5 y6))
 | 0 => fun _ _ _ _ _ _ _ r h => by simp [region_Cover.l0] at h
 | k + 1 => by
  have ih0 := region_Cover.mono_l k
  · intro y0 y1 y2 y3 y4 y5 y6
    unfold region_Cover.l0
    repeat' first
    | (with_reducible exact ih0 _ _ _ _ _ _ _)
    | (with_reducible exact LeO.refl _)
    | (with_reducible exact LeO.none _)
    | (with_reducible refine LeO.ite ?_ ?_)
    | (with_reducible refine LeO.bind ?_ (fun _ => ?_))
    | exact ih0 _ _ _ _ _ _ _
    | exact LeO.none _
    | refine LeO.ite ?_ ?_
    | refine LeO.bind ?_ (fun _ => ?_)
theorem region_Cover.mono : ∀ a0 k, LeO (region_Cover.f k a0) (region_Cover.f (k + 1) a0) := by
 intro a0 k
 have ih0 := region_Cover.mono_l k
 unfold region_Cover.f
 repeat' first
  | (with_reducible exact ih0 _ _ _ _ _ _ _)
  | (with_reducible exact LeO.refl _)
  | (with_reducible exact LeO.none _)
  | (with_reducible refine LeO.ite ?_ ?_)
  | (with_reducible refine LeO.bind ?_ (fun _ => ?_))
  | exact ih0 _ _ _ _ _ _ _
  | exact LeO.none _
  | refine LeO.ite ?_ ?_
  | refine LeO.bind ?_ (fun _ => ?_)
set_option maxHeartbeats 8000000 in
set_option maxRecDepth 100000 in
theorem region_Cover.calls (k : Nat) (A0 : Option Addr) (c0 : Nat) (l0 : List (S26)) (r1 : Int) (r2 : Int) (r3 : Int) (r4 : Int) (w : World) (hr0 : Kd.C k26 w A0 l0.length l0) (hc0 : l0.length ≤ c0) (h : region_Cover.f k l0 = some (r1, r2, r3, r4)) :
 Calls Try.prog 36 #[.slice A0 l0.length c0] w fun e w' => e = .returned (.agg #[.int .i64 r1, .int .i64 r2, .int .i64 r3, .int .i64 r4]) ∧ Below w.heap.size w w' := by
 have hu26 := Try.underlying26
 have HR0 := Aside0.mk hr0
 have HC0 := Aside0.mk hc0
 clear hr0 hc0
 have HB := Aside0.mk (Below.refl w.heap.size w)
 have H : ((region_Check.f l0).bind fun t126 => (if t126 = true then (region_Cover.l0 k l0 (l0.length : Int) 0 0 0 0 0) else (some (0, 0, 0, 0)))) = some (r1, r2, r3, r4) := h
 clear h
 replace H := Option.bind_eq_some_iff.mp H
 obtain ⟨t126, A20, H⟩ := H
 replace H : (if t126 = true then (region_Cover.l0 k l0 (l0.length : Int) 0 0 0 0 0) else (some (0, 0, 0, 0))) = some (r1, r2, r3, r4) := H
 have A2 := Aside0.mk A20
 clear A20
 by_cases c3 : t126 = true
 · subst c3
   have H1 : (region_Cover.l0 k l0 (l0.length : Int) 0 0 0 0 0) = some (r1, r2, r3, r4) := by rw [if_pos rfl] at H; exact H
   clear H
   have H := H1
   clear H1
   have H' := Aside0.mk H
   clear H
   go_enter Try.func36, Try.ntmps36
   go_wp2_with (first | ((with_reducible refine gate_dst (N := 2) rfl ?_); refine box_event ?hg (N := 2) ?hd (cs := #[.int .i64 0, .int .i64 0, .int .i64 0, .int .i64 0]) (t := 26) ?hr ?_; (case hd => rfl); (case hg => rfl); (case hr => first | (go_simp; done) | (go_simp; rfl)); intro gb124 hg w4 hbox hb; have n0_ := Aside0.mk (pbP (by repeat (first | (with_reducible first | exact HB.out | apply pbA | apply pbN | apply pbD) | exact HB.out)) hb); have n1_ := Aside0.mk (hbox); have n2_ := Aside0.mk ((by rw [hg]; exact (pbZ (by repeat (first | (with_reducible first | exact HB.out | apply pbA | apply pbN | apply pbD) | exact HB.out))) : w.heap.size ≤ gb124)); have n3_ := Aside0.mk ((by rw [hg]; exact (pbZ (by repeat (first | (with_reducible first | exact HB.out | apply pbA | apply pbN | apply pbD) | exact HB.out))) : w.heap.size ≤ gb124)); clear HB; have HB := n0_; have BK124 := n1_; have GW124 := n2_; have GE124 := n3_; clear n0_ n1_ n2_ n3_; clear hb hbox hg) | ((with_reducible refine gate_dst (N := 3) rfl ?_); refine box_event ?hg (N := 3) ?hd (cs := #[.int .i64 0, .int .i64 0, .int .i64 0, .int .i64 0]) (t := 26) ?hr ?_; (case hd => rfl); (case hg => rfl); (case hr => first | (go_simp; done) | (go_simp; rfl)); intro gb125 hg w5 hbox hb; have n0_ := Aside0.mk (bkB (g := gb124) (o := .cells #[.int .i64 0, .int .i64 0, .int .i64 0, .int .i64 0] 26 (0, 0)) (by (with_reducible repeat (first | refine bkN ?_ _ | refine bkD ?_ | refine bkA ?_ _)); exact BK124.out) hb); have n1_ := Aside0.mk (pbP (by repeat (first | (with_reducible first | exact HB.out | apply pbA | apply pbN | apply pbD | refine pbS ?_ GE124.out) | exact HB.out)) hb); have n2_ := Aside0.mk (hbox); have n3_ := Aside0.mk ((by rw [hg]; exact (pbZ (by repeat (first | (with_reducible first | exact HB.out | apply pbA | apply pbN | apply pbD | refine pbS ?_ GE124.out) | exact HB.out))) : w.heap.size ≤ gb125)); have n4_ := Aside0.mk ((by rw [hg]; exact (pbZ (by repeat (first | (with_reducible first | exact HB.out | apply pbA | apply pbN | apply pbD | refine pbS ?_ GE124.out) | exact HB.out))) : w.heap.size ≤ gb125)); have n5_ := Aside0.mk ((by rw [hg]; exact Nat.ne_of_lt (blk_lt (g := gb124) (o := .cells #[.int .i64 0, .int .i64 0, .int .i64 0, .int .i64 0] 26 (0, 0)) (by (with_reducible repeat (first | refine bkN ?_ _ | refine bkD ?_ | refine bkA ?_ _)); exact BK124.out)) : gb124 ≠ gb125)); have n6_ := Aside0.mk ((by rw [hg]; exact Nat.ne_of_gt (blk_lt (g := gb124) (o := .cells #[.int .i64 0, .int .i64 0, .int .i64 0, .int .i64 0] 26 (0, 0)) (by (with_reducible repeat (first | refine bkN ?_ _ | refine bkD ?_ | refine bkA ?_ _)); exact BK124.out)) : gb125 ≠ gb124)); clear BK124; clear HB; have BK124 := n0_; have HB := n1_; have BK125 := n2_; have GW125 := n3_; have GE125 := n4_; have NB124_125 := n5_; have NB125_124 := n6_; clear n0_ n1_ n2_ n3_ n4_ n5_ n6_; clear hb hbox hg) | ((with_reducible refine gate_callee (f := 15) rfl ?_); refine goesL_ (some 7) rfl rfl Try.func15 (by kernel_rfl) rfl #[.slice A0 l0.length c0] rfl (by (try simp only [List.map_toArray, List.map_cons, List.map_nil]); first | done | rfl | (simp only [List.length_drop, List.length_take]; rfl)) ?_; (with_reducible refine (region_Check.calls _ _ l0 true _ ?side1 ?side2 A2.out).mono ?_); (case side1 => repeat (first | exact (Kd.C_below HR0.out HB.out) | (with_reducible refine Kd.C_alloc ?_ _) | (with_reducible refine Kd.C_drewN ?_ _) | (with_reducible refine Kd.C_drew ?_))); (case side2 => exact HC0.out); rintro e w6 ⟨rfl, hb⟩; refine ⟨_, rfl, ?_⟩; have n0_ := Aside0.mk (bkB (g := gb124) (o := .cells #[.int .i64 0, .int .i64 0, .int .i64 0, .int .i64 0] 26 (0, 0)) (by (with_reducible repeat (first | refine bkN ?_ _ | refine bkD ?_ | refine bkA ?_ _)); exact BK124.out) hb); have n1_ := Aside0.mk (bkB (g := gb125) (o := .cells #[.int .i64 0, .int .i64 0, .int .i64 0, .int .i64 0] 26 (0, 0)) (by (with_reducible repeat (first | refine bkN ?_ _ | refine bkD ?_ | refine bkA ?_ _)); exact BK125.out) hb); have n2_ := Aside0.mk (pbP (by repeat (first | (with_reducible first | exact HB.out | apply pbA | apply pbN | apply pbD | refine pbS ?_ GE124.out | refine pbS ?_ GE125.out) | exact HB.out)) hb); clear BK124; clear BK125; clear HB; have BK124 := n0_; have BK125 := n1_; have HB := n2_; clear n0_ n1_ n2_; (try clear hb); (try clear hb2); (try clear hk); (try clear hi)))
   go_loopg [10] k (fun kq v10 w' => ∃ (x10_1 : Int) (x126000_1 : Int) (x126001_1 : Int) (x126002_1 : Int) (x126003_1 : Int), v10 = .int .i64 x10_1 ∧ Aside0 (region_Cover.l0 kq l0 (l0.length : Int) x10_1 x126000_1 x126001_1 x126002_1 x126003_1 = some (r1, r2, r3, r4)) ∧ Aside0 (kq ≤ k) ∧ Aside0 (w'.heap[gb124]? = some (.cells #[.int .i64 0, .int .i64 0, .int .i64 0, .int .i64 0] 26 (0, 0))) ∧ Aside0 (w'.heap[gb125]? = some (.cells #[.int .i64 x126000_1, .int .i64 x126001_1, .int .i64 x126002_1, .int .i64 x126003_1] 26 (0, 0))) ∧ Aside0 (Below w.heap.size w w'))
   case atStart => exact ⟨(0), (0), (0), (0), (0), (by first | rfl | (simp; done) | (simp [*]; done)), H', ⟨Nat.le_refl _⟩, ⟨by (with_reducible repeat (first | refine bkN ?_ _ | refine bkD ?_ | refine bkA ?_ _)); exact BK124.out⟩, ⟨by (with_reducible repeat (first | refine bkN ?_ _ | refine bkD ?_ | refine bkA ?_ _)); exact BK125.out⟩, ⟨by repeat (first | (with_reducible first | exact HB.out | apply pbA | apply pbN | apply pbD | refine pbS ?_ GE124.out | refine pbS ?_ GE125.out) | exact HB.out)⟩⟩
   case round =>
    clear H'
    try clear c1
    try clear p2
    try clear c3
    obtain ⟨x10_1, x126000_1, x126001_1, x126002_1, x126003_1, rfl, HA, HK1, BK124, BK125, HB⟩ := hrel
    cases gk with
    | zero => exact absurd HA.out (by simp [region_Cover.l0])
    | succ k1 =>
     have H := HA.out
     clear HA
     simp only [region_Cover.l0] at H
     by_cases c7 : x10_1 < (l0.length : Int)
     · rw [if_pos c7] at H
       have c7b0 : decide (x10_1 < (l0.length : Int)) = true := decide_eq_true c7
       clear c7
       by_cases c8 : 0 ≤ x10_1
       · rw [if_pos c8] at H
         have c8b0 : decide (0 ≤ x10_1) = true := decide_eq_true c8
         clear c8
         by_cases c9 : x10_1 < (l0.length : Int)
         · rw [if_pos c9] at H
           have c9b0 : decide (x10_1 < (l0.length : Int)) = true := decide_eq_true c9
           clear c9
           replace H := Option.bind_eq_some_iff.mp H
           obtain ⟨⟨t129, t130, t131, t132⟩, A100, H⟩ := H
           replace H : (region_Cover.l0 k1 l0 (l0.length : Int) (wrap64 (x10_1 + 1)) t129 t130 t131 t132) = some (r1, r2, r3, r4) := H
           have A10 := Aside0.mk A100
           clear A100
           have H' := Aside0.mk H
           clear H
           have p127 : 0 ≤ (x10_1 : Int) := of_decide_eq_true (by first | (with_reducible assumption) | assumption)
           have q127 : x10_1 < (l0.length : Int) := of_decide_eq_true (by first | (with_reducible assumption) | assumption)
           obtain ⟨ad127, e127, hx127_0, hx127_1, hx127_2, hx127_3⟩ := at_T26 HR0.out x10_1 p127 q127
           cases e127
           replace hx127_0 := (HB.out.cell (World.block_lt_of_cell? w _ hx127_0)).trans hx127_0
           replace hx127_1 := (HB.out.cell (World.block_lt_of_cell? w _ hx127_1)).trans hx127_1
           replace hx127_2 := (HB.out.cell (World.block_lt_of_cell? w _ hx127_2)).trans hx127_2
           replace hx127_3 := (HB.out.cell (World.block_lt_of_cell? w _ hx127_3)).trans hx127_3
           replace p127 := eq_true p127
           replace q127 := eq_true q127
           go_wp2_with (first | ((with_reducible refine gate_dst (N := 5) rfl ?_); refine box_event ?hg (N := 5) ?hd (cs := #[.int .i64 0, .int .i64 0, .int .i64 0, .int .i64 0]) (t := 26) ?hr ?_; (case hd => rfl); (case hg => rfl); (case hr => first | (go_simp; done) | (go_simp; rfl)); intro gb128 hg w11 hbox hb; have n0_ := Aside0.mk (bkB (g := gb124) (o := .cells #[.int .i64 0, .int .i64 0, .int .i64 0, .int .i64 0] 26 (0, 0)) (by (with_reducible repeat (first | refine bkN ?_ _ | refine bkD ?_ | refine bkA ?_ _)); exact BK124.out) hb); have n1_ := Aside0.mk (bkB (g := gb125) (o := .cells #[.int .i64 x126000_1, .int .i64 x126001_1, .int .i64 x126002_1, .int .i64 x126003_1] 26 (0, 0)) (by (with_reducible repeat (first | refine bkN ?_ _ | refine bkD ?_ | refine bkA ?_ _)); exact BK125.out) hb); have n2_ := Aside0.mk (pbP (by repeat (first | (with_reducible first | exact HB.out | apply pbA | apply pbN | apply pbD | refine pbS ?_ GE124.out | refine pbS ?_ GE125.out) | exact HB.out)) hb); have n3_ := Aside0.mk (hbox); have n4_ := Aside0.mk ((by rw [hg]; exact (pbZ (by repeat (first | (with_reducible first | exact HB.out | apply pbA | apply pbN | apply pbD | refine pbS ?_ GE124.out | refine pbS ?_ GE125.out) | exact HB.out))) : w.heap.size ≤ gb128)); have n5_ := Aside0.mk ((by rw [hg]; exact (pbZ (by repeat (first | (with_reducible first | exact HB.out | apply pbA | apply pbN | apply pbD | refine pbS ?_ GE124.out | refine pbS ?_ GE125.out) | exact HB.out))) : w.heap.size ≤ gb128)); have n6_ := Aside0.mk ((by rw [hg]; exact Nat.ne_of_lt (blk_lt (g := gb124) (o := .cells #[.int .i64 0, .int .i64 0, .int .i64 0, .int .i64 0] 26 (0, 0)) (by (with_reducible repeat (first | refine bkN ?_ _ | refine bkD ?_ | refine bkA ?_ _)); exact BK124.out)) : gb124 ≠ gb128)); have n7_ := Aside0.mk ((by rw [hg]; exact Nat.ne_of_gt (blk_lt (g := gb124) (o := .cells #[.int .i64 0, .int .i64 0, .int .i64 0, .int .i64 0] 26 (0, 0)) (by (with_reducible repeat (first | refine bkN ?_ _ | refine bkD ?_ | refine bkA ?_ _)); exact BK124.out)) : gb128 ≠ gb124)); have n8_ := Aside0.mk ((by rw [hg]; exact Nat.ne_of_lt (blk_lt (g := gb125) (o := .cells #[.int .i64 x126000_1, .int .i64 x126001_1, .int .i64 x126002_1, .int .i64 x126003_1] 26 (0, 0)) (by (with_reducible repeat (first | refine bkN ?_ _ | refine bkD ?_ | refine bkA ?_ _)); exact BK125.out)) : gb125 ≠ gb128)); have n9_ := Aside0.mk ((by rw [hg]; exact Nat.ne_of_gt (blk_lt (g := gb125) (o := .cells #[.int .i64 x126000_1, .int .i64 x126001_1, .int .i64 x126002_1, .int .i64 x126003_1] 26 (0, 0)) (by (with_reducible repeat (first | refine bkN ?_ _ | refine bkD ?_ | refine bkA ?_ _)); exact BK125.out)) : gb128 ≠ gb125)); clear BK124; clear BK125; clear HB; have BK124 := n0_; have BK125 := n1_; have HB := n2_; have BK128 := n3_; have GW128 := n4_; have GE128 := n5_; have NB124_128 := n6_; have NB128_124 := n7_; have NB125_128 := n8_; have NB128_125 := n9_; clear n0_ n1_ n2_ n3_ n4_ n5_ n6_ n7_ n8_ n9_; clear hb hbox hg; have hnb12 := NB128_124.out; have hnc12 := NB124_128.out; have hnb13 := NB128_125.out; have hnc13 := NB125_128.out; have hcz14_0 : w11.cell? ⟨gb128, 0, none⟩ = some (.int .i64 0) := (bkC BK128.out 0).trans rfl; have hcz14_1 : w11.cell? ⟨gb128, 1, none⟩ = some (.int .i64 0) := (bkC BK128.out 1).trans rfl; have hcz14_2 : w11.cell? ⟨gb128, 2, none⟩ = some (.int .i64 0) := (bkC BK128.out 2).trans rfl; have hcz14_3 : w11.cell? ⟨gb128, 3, none⟩ = some (.int .i64 0) := (bkC BK128.out 3).trans rfl; have hfz14_0 := bkF BK128.out 0; have hfz14_1 := bkF BK128.out 1; have hfz14_2 := bkF BK128.out 2; have hfz14_3 := bkF BK128.out 3; have hnb15 := NB125_124.out; have hnc15 := NB124_125.out; have hcz16_0 : w11.cell? ⟨gb125, 0, none⟩ = some (.int .i64 x126000_1) := (bkC BK125.out 0).trans rfl; have hcz16_1 : w11.cell? ⟨gb125, 1, none⟩ = some (.int .i64 x126001_1) := (bkC BK125.out 1).trans rfl; have hcz16_2 : w11.cell? ⟨gb125, 2, none⟩ = some (.int .i64 x126002_1) := (bkC BK125.out 2).trans rfl; have hcz16_3 : w11.cell? ⟨gb125, 3, none⟩ = some (.int .i64 x126003_1) := (bkC BK125.out 3).trans rfl; have hfz16_0 := bkF BK125.out 0; have hfz16_1 := bkF BK125.out 1; have hfz16_2 := bkF BK125.out 2; have hfz16_3 := bkF BK125.out 3) | ((with_reducible refine gate_callee (f := 67) rfl ?_); refine goesL_ (some 16) rfl rfl Try.func67 (by kernel_rfl) rfl #[.agg #[.int .i64 x126000_1, .int .i64 x126001_1, .int .i64 x126002_1, .int .i64 x126003_1], .agg #[.int .i64 ((rd_T26 l0 x10_1).f0), .int .i64 ((rd_T26 l0 x10_1).f1), .int .i64 ((rd_T26 l0 x10_1).f2), .int .i64 ((rd_T26 l0 x10_1).f3)]] rfl (by (try simp only [List.map_toArray, List.map_cons, List.map_nil]); first | done | rfl | (simp only [List.length_drop, List.length_take]; rfl)) ?_; (with_reducible refine (rect_Cover.calls x126000_1 x126001_1 x126002_1 x126003_1 ((rd_T26 l0 x10_1).f0) ((rd_T26 l0 x10_1).f1) ((rd_T26 l0 x10_1).f2) ((rd_T26 l0 x10_1).f3) t129 t130 t131 t132 _ A10.out).mono ?_); rintro e w17 ⟨rfl, hb⟩; refine ⟨_, rfl, ?_⟩; have n0_ := Aside0.mk (bkB (g := gb124) (o := .cells #[.int .i64 0, .int .i64 0, .int .i64 0, .int .i64 0] 26 (0, 0)) (by (with_reducible repeat (first | refine bkN ?_ _ | refine bkD ?_ | refine bkA ?_ _)); refine blk_far ?_ NB124_128.out _; (with_reducible repeat (first | refine bkN ?_ _ | refine bkD ?_ | refine bkA ?_ _)); refine blk_far ?_ NB124_128.out _; (with_reducible repeat (first | refine bkN ?_ _ | refine bkD ?_ | refine bkA ?_ _)); refine blk_far ?_ NB124_128.out _; (with_reducible repeat (first | refine bkN ?_ _ | refine bkD ?_ | refine bkA ?_ _)); refine blk_far ?_ NB124_128.out _; (with_reducible repeat (first | refine bkN ?_ _ | refine bkD ?_ | refine bkA ?_ _)); exact BK124.out) hb); have n1_ := Aside0.mk (bkB (g := gb125) (o := .cells #[.int .i64 x126000_1, .int .i64 x126001_1, .int .i64 x126002_1, .int .i64 x126003_1] 26 (0, 0)) (by (with_reducible repeat (first | refine bkN ?_ _ | refine bkD ?_ | refine bkA ?_ _)); refine blk_far ?_ NB125_128.out _; (with_reducible repeat (first | refine bkN ?_ _ | refine bkD ?_ | refine bkA ?_ _)); refine blk_far ?_ NB125_128.out _; (with_reducible repeat (first | refine bkN ?_ _ | refine bkD ?_ | refine bkA ?_ _)); refine blk_far ?_ NB125_128.out _; (with_reducible repeat (first | refine bkN ?_ _ | refine bkD ?_ | refine bkA ?_ _)); refine blk_far ?_ NB125_128.out _; (with_reducible repeat (first | refine bkN ?_ _ | refine bkD ?_ | refine bkA ?_ _)); exact BK125.out) hb); have n2_ := Aside0.mk (bkB (g := gb128) (o := .cells #[.int .i64 ((rd_T26 l0 x10_1).f0), .int .i64 ((rd_T26 l0 x10_1).f1), .int .i64 ((rd_T26 l0 x10_1).f2), .int .i64 ((rd_T26 l0 x10_1).f3)] 26 (0, 0)) (by (with_reducible repeat (first | refine bkN ?_ _ | refine bkD ?_ | refine bkA ?_ _)); refine blk_put (cs := #[.int .i64 ((rd_T26 l0 x10_1).f0), .int .i64 ((rd_T26 l0 x10_1).f1), .int .i64 ((rd_T26 l0 x10_1).f2), .int .i64 0]) ?_ 3 _ rfl; (with_reducible repeat (first | refine bkN ?_ _ | refine bkD ?_ | refine bkA ?_ _)); refine blk_put (cs := #[.int .i64 ((rd_T26 l0 x10_1).f0), .int .i64 ((rd_T26 l0 x10_1).f1), .int .i64 0, .int .i64 0]) ?_ 2 _ rfl; (with_reducible repeat (first | refine bkN ?_ _ | refine bkD ?_ | refine bkA ?_ _)); refine blk_put (cs := #[.int .i64 ((rd_T26 l0 x10_1).f0), .int .i64 0, .int .i64 0, .int .i64 0]) ?_ 1 _ rfl; (with_reducible repeat (first | refine bkN ?_ _ | refine bkD ?_ | refine bkA ?_ _)); refine blk_put (cs := #[.int .i64 0, .int .i64 0, .int .i64 0, .int .i64 0]) ?_ 0 _ rfl; (with_reducible repeat (first | refine bkN ?_ _ | refine bkD ?_ | refine bkA ?_ _)); exact BK128.out) hb); have n3_ := Aside0.mk (pbP (by repeat (first | (with_reducible first | exact HB.out | apply pbA | apply pbN | apply pbD | refine pbS ?_ GE124.out | refine pbS ?_ GE125.out | refine pbS ?_ GE128.out) | exact HB.out)) hb); clear BK124; clear BK125; clear BK128; clear HB; have BK124 := n0_; have BK125 := n1_; have BK128 := n2_; have HB := n3_; clear n0_ n1_ n2_ n3_; (try clear hb); (try clear hb2); (try clear hk); (try clear hi); have hcz18_0 : w17.cell? ⟨gb125, 0, none⟩ = some (.int .i64 x126000_1) := (bkC BK125.out 0).trans rfl; have hcz18_1 : w17.cell? ⟨gb125, 1, none⟩ = some (.int .i64 x126001_1) := (bkC BK125.out 1).trans rfl; have hcz18_2 : w17.cell? ⟨gb125, 2, none⟩ = some (.int .i64 x126002_1) := (bkC BK125.out 2).trans rfl; have hcz18_3 : w17.cell? ⟨gb125, 3, none⟩ = some (.int .i64 x126003_1) := (bkC BK125.out 3).trans rfl; have hfz18_0 := bkF BK125.out 0; have hfz18_1 := bkF BK125.out 1; have hfz18_2 := bkF BK125.out 2; have hfz18_3 := bkF BK125.out 3))
           go_roundg k1
           case measure => have := HK1.out; omega
           case rel => exact ⟨(wrap64 (x10_1 + 1)), (t129), (t130), (t131), (t132), (by first | rfl | (simp; done) | (simp [*]; done)), H', ⟨by have := HK1.out; omega⟩, ⟨by (with_reducible repeat (first | refine bkN ?_ _ | refine bkD ?_ | refine bkA ?_ _)); refine blk_far ?_ NB124_125.out _; (with_reducible repeat (first | refine bkN ?_ _ | refine bkD ?_ | refine bkA ?_ _)); refine blk_far ?_ NB124_125.out _; (with_reducible repeat (first | refine bkN ?_ _ | refine bkD ?_ | refine bkA ?_ _)); refine blk_far ?_ NB124_125.out _; (with_reducible repeat (first | refine bkN ?_ _ | refine bkD ?_ | refine bkA ?_ _)); refine blk_far ?_ NB124_125.out _; (with_reducible repeat (first | refine bkN ?_ _ | refine bkD ?_ | refine bkA ?_ _)); exact BK124.out⟩, ⟨by (with_reducible repeat (first | refine bkN ?_ _ | refine bkD ?_ | refine bkA ?_ _)); refine blk_put (cs := #[.int .i64 t129, .int .i64 t130, .int .i64 t131, .int .i64 x126003_1]) ?_ 3 _ rfl; (with_reducible repeat (first | refine bkN ?_ _ | refine bkD ?_ | refine bkA ?_ _)); refine blk_put (cs := #[.int .i64 t129, .int .i64 t130, .int .i64 x126002_1, .int .i64 x126003_1]) ?_ 2 _ rfl; (with_reducible repeat (first | refine bkN ?_ _ | refine bkD ?_ | refine bkA ?_ _)); refine blk_put (cs := #[.int .i64 t129, .int .i64 x126001_1, .int .i64 x126002_1, .int .i64 x126003_1]) ?_ 1 _ rfl; (with_reducible repeat (first | refine bkN ?_ _ | refine bkD ?_ | refine bkA ?_ _)); refine blk_put (cs := #[.int .i64 x126000_1, .int .i64 x126001_1, .int .i64 x126002_1, .int .i64 x126003_1]) ?_ 0 _ rfl; (with_reducible repeat (first | refine bkN ?_ _ | refine bkD ?_ | refine bkA ?_ _)); exact BK125.out⟩, ⟨by repeat (first | (with_reducible first | exact HB.out | apply pbA | apply pbN | apply pbD | refine pbS ?_ GE124.out | refine pbS ?_ GE125.out | refine pbS ?_ GE128.out) | exact HB.out)⟩⟩
         · rw [if_neg c9] at H
           exact absurd H (by simp)
       · rw [if_neg c8] at H
         exact absurd H (by simp)
     · rw [if_neg c7] at H
       have c7b0 : decide (x10_1 < (l0.length : Int)) = false := decide_eq_false c7
       clear c7
       simp only [Option.some.injEq, Prod.mk.injEq] at H
       obtain ⟨rfl, rfl, rfl, rfl⟩ := H
       have hnb19 := NB125_124.out
       have hnc19 := NB124_125.out
       have hcz20_0 : wr.cell? ⟨gb125, 0, none⟩ = some (.int .i64 x126000_1) := (bkC BK125.out 0).trans rfl
       have hcz20_1 : wr.cell? ⟨gb125, 1, none⟩ = some (.int .i64 x126001_1) := (bkC BK125.out 1).trans rfl
       have hcz20_2 : wr.cell? ⟨gb125, 2, none⟩ = some (.int .i64 x126002_1) := (bkC BK125.out 2).trans rfl
       have hcz20_3 : wr.cell? ⟨gb125, 3, none⟩ = some (.int .i64 x126003_1) := (bkC BK125.out 3).trans rfl
       have hfz20_0 := bkF BK125.out 0
       have hfz20_1 := bkF BK125.out 1
       have hfz20_2 := bkF BK125.out 2
       have hfz20_3 := bkF BK125.out 3
       have hcz21_0 : wr.cell? ⟨gb124, 0, none⟩ = some (.int .i64 0) := (bkC BK124.out 0).trans rfl
       have hcz21_1 : wr.cell? ⟨gb124, 1, none⟩ = some (.int .i64 0) := (bkC BK124.out 1).trans rfl
       have hcz21_2 : wr.cell? ⟨gb124, 2, none⟩ = some (.int .i64 0) := (bkC BK124.out 2).trans rfl
       have hcz21_3 : wr.cell? ⟨gb124, 3, none⟩ = some (.int .i64 0) := (bkC BK124.out 3).trans rfl
       have hfz21_0 := bkF BK124.out 0
       have hfz21_1 := bkF BK124.out 1
       have hfz21_2 := bkF BK124.out 2
       have hfz21_3 := bkF BK124.out 3
       go_wp2
       refine bodyPost_ret (results_cell_row rfl _ _ gb124 26 #[.int .i64 x126000_1, .int .i64 x126001_1, .int .i64 x126002_1, .int .i64 x126003_1] (0, 0) _ rfl (by (with_reducible repeat (first | refine bkN ?_ _ | refine bkD ?_ | refine bkA ?_ _)); refine blk_put (cs := #[.int .i64 x126000_1, .int .i64 x126001_1, .int .i64 x126002_1, .int .i64 0]) ?_ 3 _ rfl; (with_reducible repeat (first | refine bkN ?_ _ | refine bkD ?_ | refine bkA ?_ _)); refine blk_put (cs := #[.int .i64 x126000_1, .int .i64 x126001_1, .int .i64 0, .int .i64 0]) ?_ 2 _ rfl; (with_reducible repeat (first | refine bkN ?_ _ | refine bkD ?_ | refine bkA ?_ _)); refine blk_put (cs := #[.int .i64 x126000_1, .int .i64 0, .int .i64 0, .int .i64 0]) ?_ 1 _ rfl; (with_reducible repeat (first | refine bkN ?_ _ | refine bkD ?_ | refine bkA ?_ _)); refine blk_put (cs := #[.int .i64 0, .int .i64 0, .int .i64 0, .int .i64 0]) ?_ 0 _ rfl; (with_reducible repeat (first | refine bkN ?_ _ | refine bkD ?_ | refine bkA ?_ _)); exact BK124.out) Try.underlying26 rfl (by kernel_rfl)) rfl ?_
       exact ⟨by first | rfl | (simp [errW_none, errW_some] <;> rfl) | (simp [*, errW_none, errW_some] <;> rfl), by repeat (first | (with_reducible first | exact HB.out | apply pbA | apply pbN | apply pbD | refine pbS ?_ GE124.out | refine pbS ?_ GE125.out) | exact HB.out)⟩
 · replace c3 := Bool.eq_false_iff.mpr c3
   subst c3
   have H1 : (some (0, 0, 0, 0)) = some (r1, r2, r3, r4) := by rw [if_neg (show ¬ (false = true) by decide)] at H; exact H
   clear H
   have H := H1
   clear H1
   simp only [Option.some.injEq, Prod.mk.injEq] at H
   obtain ⟨rfl, rfl, rfl, rfl⟩ := H
   go_enter Try.func36, Try.ntmps36
   go_wp2_with (first | ((with_reducible refine gate_dst (N := 2) rfl ?_); refine box_event ?hg (N := 2) ?hd (cs := #[.int .i64 0, .int .i64 0, .int .i64 0, .int .i64 0]) (t := 26) ?hr ?_; (case hd => rfl); (case hg => rfl); (case hr => first | (go_simp; done) | (go_simp; rfl)); intro gb124 hg w22 hbox hb; have n0_ := Aside0.mk (pbP (by repeat (first | (with_reducible first | exact HB.out | apply pbA | apply pbN | apply pbD) | exact HB.out)) hb); have n1_ := Aside0.mk (hbox); have n2_ := Aside0.mk ((by rw [hg]; exact (pbZ (by repeat (first | (with_reducible first | exact HB.out | apply pbA | apply pbN | apply pbD) | exact HB.out))) : w.heap.size ≤ gb124)); have n3_ := Aside0.mk ((by rw [hg]; exact (pbZ (by repeat (first | (with_reducible first | exact HB.out | apply pbA | apply pbN | apply pbD) | exact HB.out))) : w.heap.size ≤ gb124)); clear HB; have HB := n0_; have BK124 := n1_; have GW124 := n2_; have GE124 := n3_; clear n0_ n1_ n2_ n3_; clear hb hbox hg) | ((with_reducible refine gate_dst (N := 3) rfl ?_); refine box_event ?hg (N := 3) ?hd (cs := #[.int .i64 0, .int .i64 0, .int .i64 0, .int .i64 0]) (t := 26) ?hr ?_; (case hd => rfl); (case hg => rfl); (case hr => first | (go_simp; done) | (go_simp; rfl)); intro gb125 hg w23 hbox hb; have n0_ := Aside0.mk (bkB (g := gb124) (o := .cells #[.int .i64 0, .int .i64 0, .int .i64 0, .int .i64 0] 26 (0, 0)) (by (with_reducible repeat (first | refine bkN ?_ _ | refine bkD ?_ | refine bkA ?_ _)); exact BK124.out) hb); have n1_ := Aside0.mk (pbP (by repeat (first | (with_reducible first | exact HB.out | apply pbA | apply pbN | apply pbD | refine pbS ?_ GE124.out) | exact HB.out)) hb); have n2_ := Aside0.mk (hbox); have n3_ := Aside0.mk ((by rw [hg]; exact (pbZ (by repeat (first | (with_reducible first | exact HB.out | apply pbA | apply pbN | apply pbD | refine pbS ?_ GE124.out) | exact HB.out))) : w.heap.size ≤ gb125)); have n4_ := Aside0.mk ((by rw [hg]; exact (pbZ (by repeat (first | (with_reducible first | exact HB.out | apply pbA | apply pbN | apply pbD | refine pbS ?_ GE124.out) | exact HB.out))) : w.heap.size ≤ gb125)); have n5_ := Aside0.mk ((by rw [hg]; exact Nat.ne_of_lt (blk_lt (g := gb124) (o := .cells #[.int .i64 0, .int .i64 0, .int .i64 0, .int .i64 0] 26 (0, 0)) (by (with_reducible repeat (first | refine bkN ?_ _ | refine bkD ?_ | refine bkA ?_ _)); exact BK124.out)) : gb124 ≠ gb125)); have n6_ := Aside0.mk ((by rw [hg]; exact Nat.ne_of_gt (blk_lt (g := gb124) (o := .cells #[.int .i64 0, .int .i64 0, .int .i64 0, .int .i64 0] 26 (0, 0)) (by (with_reducible repeat (first | refine bkN ?_ _ | refine bkD ?_ | refine bkA ?_ _)); exact BK124.out)) : gb125 ≠ gb124)); clear BK124; clear HB; have BK124 := n0_; have HB := n1_; have BK125 := n2_; have GW125 := n3_; have GE125 := n4_; have NB124_125 := n5_; have NB125_124 := n6_; clear n0_ n1_ n2_ n3_ n4_ n5_ n6_; clear hb hbox hg) | ((with_reducible refine gate_callee (f := 15) rfl ?_); refine goesL_ (some 7) rfl rfl Try.func15 (by kernel_rfl) rfl #[.slice A0 l0.length c0] rfl (by (try simp only [List.map_toArray, List.map_cons, List.map_nil]); first | done | rfl | (simp only [List.length_drop, List.length_take]; rfl)) ?_; (with_reducible refine (region_Check.calls _ _ l0 false _ ?side1 ?side2 A2.out).mono ?_); (case side1 => repeat (first | exact (Kd.C_below HR0.out HB.out) | (with_reducible refine Kd.C_alloc ?_ _) | (with_reducible refine Kd.C_drewN ?_ _) | (with_reducible refine Kd.C_drew ?_))); (case side2 => exact HC0.out); rintro e w24 ⟨rfl, hb⟩; refine ⟨_, rfl, ?_⟩; have n0_ := Aside0.mk (bkB (g := gb124) (o := .cells #[.int .i64 0, .int .i64 0, .int .i64 0, .int .i64 0] 26 (0, 0)) (by (with_reducible repeat (first | refine bkN ?_ _ | refine bkD ?_ | refine bkA ?_ _)); exact BK124.out) hb); have n1_ := Aside0.mk (bkB (g := gb125) (o := .cells #[.int .i64 0, .int .i64 0, .int .i64 0, .int .i64 0] 26 (0, 0)) (by (with_reducible repeat (first | refine bkN ?_ _ | refine bkD ?_ | refine bkA ?_ _)); exact BK125.out) hb); have n2_ := Aside0.mk (pbP (by repeat (first | (with_reducible first | exact HB.out | apply pbA | apply pbN | apply pbD | refine pbS ?_ GE124.out | refine pbS ?_ GE125.out) | exact HB.out)) hb); clear BK124; clear BK125; clear HB; have BK124 := n0_; have BK125 := n1_; have HB := n2_; clear n0_ n1_ n2_; (try clear hb); (try clear hb2); (try clear hk); (try clear hi); have hnb25 := NB125_124.out; have hnc25 := NB124_125.out; have hcz26_0 : w24.cell? ⟨gb125, 0, none⟩ = some (.int .i64 0) := (bkC BK125.out 0).trans rfl; have hcz26_1 : w24.cell? ⟨gb125, 1, none⟩ = some (.int .i64 0) := (bkC BK125.out 1).trans rfl; have hcz26_2 : w24.cell? ⟨gb125, 2, none⟩ = some (.int .i64 0) := (bkC BK125.out 2).trans rfl; have hcz26_3 : w24.cell? ⟨gb125, 3, none⟩ = some (.int .i64 0) := (bkC BK125.out 3).trans rfl; have hfz26_0 := bkF BK125.out 0; have hfz26_1 := bkF BK125.out 1; have hfz26_2 := bkF BK125.out 2; have hfz26_3 := bkF BK125.out 3; have hcz27_0 : w24.cell? ⟨gb124, 0, none⟩ = some (.int .i64 0) := (bkC BK124.out 0).trans rfl; have hcz27_1 : w24.cell? ⟨gb124, 1, none⟩ = some (.int .i64 0) := (bkC BK124.out 1).trans rfl; have hcz27_2 : w24.cell? ⟨gb124, 2, none⟩ = some (.int .i64 0) := (bkC BK124.out 2).trans rfl; have hcz27_3 : w24.cell? ⟨gb124, 3, none⟩ = some (.int .i64 0) := (bkC BK124.out 3).trans rfl; have hfz27_0 := bkF BK124.out 0; have hfz27_1 := bkF BK124.out 1; have hfz27_2 := bkF BK124.out 2; have hfz27_3 := bkF BK124.out 3))
   refine bodyPost_ret (results_cell_row rfl _ _ gb124 26 #[.int .i64 0, .int .i64 0, .int .i64 0, .int .i64 0] (0, 0) _ rfl (by (with_reducible repeat (first | refine bkN ?_ _ | refine bkD ?_ | refine bkA ?_ _)); refine blk_put (cs := #[.int .i64 0, .int .i64 0, .int .i64 0, .int .i64 0]) ?_ 3 _ rfl; (with_reducible repeat (first | refine bkN ?_ _ | refine bkD ?_ | refine bkA ?_ _)); refine blk_put (cs := #[.int .i64 0, .int .i64 0, .int .i64 0, .int .i64 0]) ?_ 2 _ rfl; (with_reducible repeat (first | refine bkN ?_ _ | refine bkD ?_ | refine bkA ?_ _)); refine blk_put (cs := #[.int .i64 0, .int .i64 0, .int .i64 0, .int .i64 0]) ?_ 1 _ rfl; (with_reducible repeat (first | refine bkN ?_ _ | refine bkD ?_ | refine bkA ?_ _)); refine blk_put (cs := #[.int .i64 0, .int .i64 0, .int .i64 0, .int .i64 0]) ?_ 0 _ rfl; (with_reducible repeat (first | refine bkN ?_ _ | refine bkD ?_ | refine bkA ?_ _)); exact BK124.out) Try.underlying26 rfl (by kernel_rfl)) rfl ?_
   exact ⟨by first | rfl | (simp [errW_none, errW_some] <;> rfl) | (simp [*, errW_none, errW_some] <;> rfl), by repeat (first | (with_reducible first | exact HB.out | apply pbA | apply pbN | apply pbD | refine pbS ?_ GE124.out | refine pbS ?_ GE125.out) | exact HB.out)⟩

/-! ### damage_add: function 54 -/
def damage_add.l0 : Nat → List (S26) → List (S26) → Int → Int → Option ((List (S26)))
 | 0, _, _, _, _ => none
 | k + 1, x0, x7, x8, x9 => if x9 < x8 then (if 0 ≤ x9 then (if x9 < (x7.length : Int) then ((region_Of.f ((rd_T26 x7 x9).f0) ((rd_T26 x7 x9).f1) ((rd_T26 x7 x9).f2) ((rd_T26 x7 x9).f3)).bind fun t135 => ((region_Union.f x0 t135).bind fun t138 => (if (t138.length : Int) > 40 then ((region_Cover.f k t138).bind fun bt141 => ((region_Of.f bt141.1 bt141.2.1 bt141.2.2.1 bt141.2.2.2).bind fun t145 => (damage_add.l0 k t145 x7 x8 (wrap64 (x9 + 1))))) else (damage_add.l0 k t138 x7 x8 (wrap64 (x9 + 1)))))) else (none)) else (none)) else (some x0)
def damage_add.f (k : Nat) (l0 : List (S26)) (l1 : List (S26)) : Option ((List (S26))) := damage_add.l0 k l0 l1 (l1.length : Int) 0
theorem damage_add.mono_l : ∀ k, (∀ y0 y1 y2 y3, LeO (damage_add.l0 k y0 y1 y2 y3) (damage_add.l0 (k + 1) y0 y1 y2 y3))
 | 0 => fun _ _ _ _ r h => by simp [damage_add.l0] at h
 | k + 1 => by
  have ih0 := damage_add.mono_l k
  · intro y0 y1 y2 y3
    unfold damage_add.l0
    repeat' first
    | (with_reducible exact ih0 _ _ _ _)
    | (with_reducible exact region_Cover.mono _ _)
    | (with_reducible exact LeO.refl _)
    | (with_reducible exact LeO.none _)
    | (with_reducible refine LeO.ite ?_ ?_)
    | (with_reducible refine LeO.bind ?_ (fun _ => ?_))
    | exact ih0 _ _ _ _
    | exact region_Cover.mono _ _
    | exact LeO.none _
    | refine LeO.ite ?_ ?_
    | refine LeO.bind ?_ (fun _ => ?_)
theorem damage_add.mono : ∀ a0 a1 k, LeO (damage_add.f k a0 a1) (damage_add.f (k + 1) a0 a1) := by
 intro a0 a1 k
 have ih0 := damage_add.mono_l k
 unfold damage_add.f
 repeat' first
  | (with_reducible exact ih0 _ _ _ _)
  | (with_reducible exact region_Cover.mono _ _)
  | (with_reducible exact LeO.refl _)
  | (with_reducible exact LeO.none _)
  | (with_reducible refine LeO.ite ?_ ?_)
  | (with_reducible refine LeO.bind ?_ (fun _ => ?_))
  | exact ih0 _ _ _ _
  | exact region_Cover.mono _ _
  | exact LeO.none _
  | refine LeO.ite ?_ ?_
  | refine LeO.bind ?_ (fun _ => ?_)
set_option maxHeartbeats 8000000 in
set_option maxRecDepth 100000 in
theorem damage_add.calls (k : Nat) (P0_ : Nat → Prop) (A0 : Option Addr) (c0 : Nat) (l0 : List (S26)) (A1 : Option Addr) (c1 : Nat) (l1 : List (S26)) (r : List (S26)) (w : World) (hs0 : Kd.V k26 26 w w.heap.size (fun k_ => P0_ k_) (.slice A0 l0.length c0) l0) (hr1 : Kd.C k26 w A1 l1.length l1) (hc1 : l1.length ≤ c1) (h : damage_add.f k l0 l1 = some r) :
 Calls Try.prog 54 #[.slice A0 l0.length c0, .slice A1 l1.length c1] w fun e w' => ∃ v0_ : Value, e = .returned (v0_) ∧ Kd.V k26 26 w' w.heap.size (fun k_ => (P0_ k_ ∨ w.heap.size ≤ k_)) v0_ r ∧ Below w.heap.size w w' := by
 have hu26 := Try.underlying26
 have HO0 := Aside0.mk (show Kd.V k26 26 w w.heap.size (fun k_ => (P0_ k_ ∨ w.heap.size ≤ k_)) (.slice A0 l0.length c0) l0 from Kd.V_mono hs0 (fun k_ hk => .inl hk))
 have HR1 := Aside0.mk hr1
 have HC1 := Aside0.mk hc1
 clear hr1 hc1
 have HB := Aside0.mk (Below.refl w.heap.size w)
 have H : (damage_add.l0 k l0 l1 (l1.length : Int) 0) = some r := h
 clear h
 have H' := Aside0.mk H
 clear H
 go_enter Try.func54, Try.ntmps54
 go_wp2
 go_loopg [0, 9] k (fun kq v0 v9 w' => ∃ (x0_1 : List (S26)) (x9_1 : Int), v9 = .int .i64 x9_1 ∧ Aside0 (damage_add.l0 kq x0_1 l1 (l1.length : Int) x9_1 = some r) ∧ Aside0 (kq ≤ k) ∧ Aside0 (Kd.V k26 26 w' w.heap.size (fun k_ => (P0_ k_ ∨ w.heap.size ≤ k_)) v0 x0_1) ∧ Aside0 (Below w.heap.size w w'))
 case atStart => exact ⟨(l0), (0), (by first | rfl | (simp; done) | (simp [*]; done)), H', ⟨Nat.le_refl _⟩, ⟨by (with_reducible repeat (first | apply Kd.V_alloc | apply Kd.V_drewN | apply Kd.V_drew)); exact HO0.out⟩, ⟨by repeat (first | (with_reducible first | exact HB.out | apply pbA | apply pbN | apply pbD) | exact HB.out)⟩⟩
 case round =>
  clear H'
  try clear c1
  try clear p2
  obtain ⟨x0_1, x9_1, rfl, HA, HK1, HO_0, HB⟩ := hrel
  cases gk with
  | zero => exact absurd HA.out (by simp [damage_add.l0])
  | succ k1 =>
   have H := HA.out
   clear HA
   simp only [damage_add.l0] at H
   by_cases c3 : x9_1 < (l1.length : Int)
   · rw [if_pos c3] at H
     have c3b0 : decide (x9_1 < (l1.length : Int)) = true := decide_eq_true c3
     clear c3
     by_cases c4 : 0 ≤ x9_1
     · rw [if_pos c4] at H
       have c4b0 : decide (0 ≤ x9_1) = true := decide_eq_true c4
       clear c4
       by_cases c5 : x9_1 < (l1.length : Int)
       · rw [if_pos c5] at H
         have c5b0 : decide (x9_1 < (l1.length : Int)) = true := decide_eq_true c5
         clear c5
         replace H := Option.bind_eq_some_iff.mp H
         obtain ⟨t135, A60, H⟩ := H
         replace H : ((region_Union.f x0_1 t135).bind fun t138 => (if (t138.length : Int) > 40 then ((region_Cover.f k1 t138).bind fun bt141 => ((region_Of.f bt141.1 bt141.2.1 bt141.2.2.1 bt141.2.2.2).bind fun t145 => (damage_add.l0 k1 t145 l1 (l1.length : Int) (wrap64 (x9_1 + 1))))) else (damage_add.l0 k1 t138 l1 (l1.length : Int) (wrap64 (x9_1 + 1))))) = some r := H
         have A6 := Aside0.mk A60
         clear A60
         replace H := Option.bind_eq_some_iff.mp H
         obtain ⟨t138, A70, H⟩ := H
         replace H : (if (t138.length : Int) > 40 then ((region_Cover.f k1 t138).bind fun bt141 => ((region_Of.f bt141.1 bt141.2.1 bt141.2.2.1 bt141.2.2.2).bind fun t145 => (damage_add.l0 k1 t145 l1 (l1.length : Int) (wrap64 (x9_1 + 1))))) else (damage_add.l0 k1 t138 l1 (l1.length : Int) (wrap64 (x9_1 + 1)))) = some r := H
         have A7 := Aside0.mk A70
         clear A70
         by_cases c8 : (t138.length : Int) > 40
         · rw [if_pos c8] at H
           have c8b0 : decide (40 < (t138.length : Int)) = true := decide_eq_true c8
           have c8b1 : decide (40 < t138.length) = true := decide_eq_true (by omega)
           clear c8
           replace H := Option.bind_eq_some_iff.mp H
           obtain ⟨⟨t141, t142, t143, t144⟩, A90, H⟩ := H
           replace H : ((region_Of.f t141 t142 t143 t144).bind fun t145 => (damage_add.l0 k1 t145 l1 (l1.length : Int) (wrap64 (x9_1 + 1)))) = some r := H
           have A9 := Aside0.mk A90
           clear A90
           replace H := Option.bind_eq_some_iff.mp H
           obtain ⟨t145, A100, H⟩ := H
           replace H : (damage_add.l0 k1 t145 l1 (l1.length : Int) (wrap64 (x9_1 + 1))) = some r := H
           have A10 := Aside0.mk A100
           clear A100
           have H' := Aside0.mk H
           clear H
           have p133 : 0 ≤ (x9_1 : Int) := of_decide_eq_true (by first | (with_reducible assumption) | assumption)
           have q133 : x9_1 < (l1.length : Int) := of_decide_eq_true (by first | (with_reducible assumption) | assumption)
           obtain ⟨ad133, e133, hx133_0, hx133_1, hx133_2, hx133_3⟩ := at_T26 HR1.out x9_1 p133 q133
           cases e133
           replace hx133_0 := (HB.out.cell (World.block_lt_of_cell? w _ hx133_0)).trans hx133_0
           replace hx133_1 := (HB.out.cell (World.block_lt_of_cell? w _ hx133_1)).trans hx133_1
           replace hx133_2 := (HB.out.cell (World.block_lt_of_cell? w _ hx133_2)).trans hx133_2
           replace hx133_3 := (HB.out.cell (World.block_lt_of_cell? w _ hx133_3)).trans hx133_3
           replace p133 := eq_true p133
           replace q133 := eq_true q133
           go_wp2_with (first | ((with_reducible refine gate_dst (N := 6) rfl ?_); refine box_event ?hg (N := 6) ?hd (cs := #[.int .i64 0, .int .i64 0, .int .i64 0, .int .i64 0]) (t := 26) ?hr ?_; (case hd => rfl); (case hg => rfl); (case hr => first | (go_simp; done) | (go_simp; rfl)); intro gb134 hg w11 hbox hb; have n0_ := Aside0.mk (Kd.V_below (Kd.V_elderB (by (with_reducible repeat (first | apply Kd.V_alloc | apply Kd.V_drewN | apply Kd.V_drew)); exact HO_0.out) gb134 (Nat.le_of_eq hg.symm)) hb); have n1_ := Aside0.mk (pbP (by repeat (first | (with_reducible first | exact HB.out | apply pbA | apply pbN | apply pbD) | exact HB.out)) hb); have n2_ := Aside0.mk (hbox); have n3_ := Aside0.mk ((by rw [hg]; exact (pbZ (by repeat (first | (with_reducible first | exact HB.out | apply pbA | apply pbN | apply pbD) | exact HB.out))) : w.heap.size ≤ gb134)); have n4_ := Aside0.mk ((by rw [hg]; exact (pbZ (by repeat (first | (with_reducible first | exact HB.out | apply pbA | apply pbN | apply pbD) | exact HB.out))) : w.heap.size ≤ gb134)); clear HO_0; clear HB; have HO_0 := n0_; have HB := n1_; have BK134 := n2_; have GW134 := n3_; have GE134 := n4_; clear n0_ n1_ n2_ n3_ n4_; clear hb hbox hg; have hcz12_0 : w11.cell? ⟨gb134, 0, none⟩ = some (.int .i64 0) := (bkC BK134.out 0).trans rfl; have hcz12_1 : w11.cell? ⟨gb134, 1, none⟩ = some (.int .i64 0) := (bkC BK134.out 1).trans rfl; have hcz12_2 : w11.cell? ⟨gb134, 2, none⟩ = some (.int .i64 0) := (bkC BK134.out 2).trans rfl; have hcz12_3 : w11.cell? ⟨gb134, 3, none⟩ = some (.int .i64 0) := (bkC BK134.out 3).trans rfl; have hfz12_0 := bkF BK134.out 0; have hfz12_1 := bkF BK134.out 1; have hfz12_2 := bkF BK134.out 2; have hfz12_3 := bkF BK134.out 3) | ((with_reducible refine gate_callee (f := 31) rfl ?_); refine goesL_ (some 15) rfl rfl Try.func31 (by kernel_rfl) rfl #[.agg #[.int .i64 ((rd_T26 l1 x9_1).f0), .int .i64 ((rd_T26 l1 x9_1).f1), .int .i64 ((rd_T26 l1 x9_1).f2), .int .i64 ((rd_T26 l1 x9_1).f3)]] rfl (by (try simp only [List.map_toArray, List.map_cons, List.map_nil]); first | done | rfl | (simp only [List.length_drop, List.length_take]; rfl)) ?_; (with_reducible refine (region_Of.calls ((rd_T26 l1 x9_1).f0) ((rd_T26 l1 x9_1).f1) ((rd_T26 l1 x9_1).f2) ((rd_T26 l1 x9_1).f3) t135 _ A6.out).mono ?_); rintro e w13 ⟨v136, rfl, ho0, hb⟩; refine ⟨_, rfl, ?_⟩; have n0_ := Aside0.mk (Kd.V_elder' (by (with_reducible repeat (first | apply Kd.V_alloc | apply Kd.V_drewN | apply Kd.V_drew)); exact (Kd.V_mono (Kd.V_far (p := ⟨gb134, 3, none⟩) (Kd.V_far (p := ⟨gb134, 2, none⟩) (Kd.V_far (p := ⟨gb134, 1, none⟩) (Kd.V_far (p := ⟨gb134, 0, none⟩) (Kd.V_mono HO_0.out (fun k_ hk => (⟨hk, hk.2⟩ : _ ∧ k_ ≠ gb134))) (fun _ hk => hk.2) (.int .i64 ((rd_T26 l1 x9_1).f0))) (fun _ hk => hk.2) (.int .i64 ((rd_T26 l1 x9_1).f1))) (fun _ hk => hk.2) (.int .i64 ((rd_T26 l1 x9_1).f2))) (fun _ hk => hk.2) (.int .i64 ((rd_T26 l1 x9_1).f3))) (fun _ h_ => h_.1))) (Kd.R_base ho0) hb); have n1_ := Aside0.mk (Kd.R_lower (Kd.R_newB (Kd.R_newM (M := fun k_ => (w.heap.size ≤ k_)) ho0 (pbZ (by repeat (first | (with_reducible first | exact HB.out | apply pbA | apply pbN | apply pbD | refine pbS ?_ GE134.out) | exact HB.out))) (fun k_ h_ => h_)) (g := gb134) (o := .cells #[.int .i64 ((rd_T26 l1 x9_1).f0), .int .i64 ((rd_T26 l1 x9_1).f1), .int .i64 ((rd_T26 l1 x9_1).f2), .int .i64 ((rd_T26 l1 x9_1).f3)] 26 (0, 0)) (by (with_reducible repeat (first | refine bkN ?_ _ | refine bkD ?_ | refine bkA ?_ _)); refine blk_put (cs := #[.int .i64 ((rd_T26 l1 x9_1).f0), .int .i64 ((rd_T26 l1 x9_1).f1), .int .i64 ((rd_T26 l1 x9_1).f2), .int .i64 0]) ?_ 3 _ rfl; (with_reducible repeat (first | refine bkN ?_ _ | refine bkD ?_ | refine bkA ?_ _)); refine blk_put (cs := #[.int .i64 ((rd_T26 l1 x9_1).f0), .int .i64 ((rd_T26 l1 x9_1).f1), .int .i64 0, .int .i64 0]) ?_ 2 _ rfl; (with_reducible repeat (first | refine bkN ?_ _ | refine bkD ?_ | refine bkA ?_ _)); refine blk_put (cs := #[.int .i64 ((rd_T26 l1 x9_1).f0), .int .i64 0, .int .i64 0, .int .i64 0]) ?_ 1 _ rfl; (with_reducible repeat (first | refine bkN ?_ _ | refine bkD ?_ | refine bkA ?_ _)); refine blk_put (cs := #[.int .i64 0, .int .i64 0, .int .i64 0, .int .i64 0]) ?_ 0 _ rfl; (with_reducible repeat (first | refine bkN ?_ _ | refine bkD ?_ | refine bkA ?_ _)); exact BK134.out)) (pbZ (by repeat (first | (with_reducible first | exact HB.out | apply pbA | apply pbN | apply pbD | refine pbS ?_ GE134.out) | exact HB.out)))); have n2_ := Aside0.mk (bkB (g := gb134) (o := .cells #[.int .i64 ((rd_T26 l1 x9_1).f0), .int .i64 ((rd_T26 l1 x9_1).f1), .int .i64 ((rd_T26 l1 x9_1).f2), .int .i64 ((rd_T26 l1 x9_1).f3)] 26 (0, 0)) (by (with_reducible repeat (first | refine bkN ?_ _ | refine bkD ?_ | refine bkA ?_ _)); refine blk_put (cs := #[.int .i64 ((rd_T26 l1 x9_1).f0), .int .i64 ((rd_T26 l1 x9_1).f1), .int .i64 ((rd_T26 l1 x9_1).f2), .int .i64 0]) ?_ 3 _ rfl; (with_reducible repeat (first | refine bkN ?_ _ | refine bkD ?_ | refine bkA ?_ _)); refine blk_put (cs := #[.int .i64 ((rd_T26 l1 x9_1).f0), .int .i64 ((rd_T26 l1 x9_1).f1), .int .i64 0, .int .i64 0]) ?_ 2 _ rfl; (with_reducible repeat (first | refine bkN ?_ _ | refine bkD ?_ | refine bkA ?_ _)); refine blk_put (cs := #[.int .i64 ((rd_T26 l1 x9_1).f0), .int .i64 0, .int .i64 0, .int .i64 0]) ?_ 1 _ rfl; (with_reducible repeat (first | refine bkN ?_ _ | refine bkD ?_ | refine bkA ?_ _)); refine blk_put (cs := #[.int .i64 0, .int .i64 0, .int .i64 0, .int .i64 0]) ?_ 0 _ rfl; (with_reducible repeat (first | refine bkN ?_ _ | refine bkD ?_ | refine bkA ?_ _)); exact BK134.out) hb); have n3_ := Aside0.mk (pbP (by repeat (first | (with_reducible first | exact HB.out | apply pbA | apply pbN | apply pbD | refine pbS ?_ GE134.out) | exact HB.out)) hb); clear HO_0; clear BK134; clear HB; have HO_0 := n0_; have HO137 := n1_; have BK134 := n2_; have HB := n3_; clear n0_ n1_ n2_ n3_; (try clear hb); (try clear hb2); (try clear hk); (try clear hi); (try clear ho0); obtain ⟨Ao14, co14, eo14⟩ := Kd.V_slice HO_0.out; subst eo14; obtain ⟨Ao15, co15, eo15⟩ := Kd.R_slice HO137.out; subst eo15) | ((with_reducible refine gate_callee (f := 12) rfl ?_); refine goesL_ (some 16) rfl rfl Try.func12 (by kernel_rfl) rfl #[.slice Ao14 x0_1.length co14, .slice Ao15 t135.length co15] rfl (by (try simp only [List.map_toArray, List.map_cons, List.map_nil]); first | done | rfl | (simp only [List.length_drop, List.length_take]; rfl)) ?_; (with_reducible refine (region_Union.calls _ _ x0_1 _ _ t135 t138 _ ?side1 ?side2 ?side3 ?side4 A7.out).mono ?_); (case side1 => repeat (first | exact (Kd.V_reads' HO_0.out).2.2 | (with_reducible refine Kd.C_alloc ?_ _) | (with_reducible refine Kd.C_drewN ?_ _) | (with_reducible refine Kd.C_drew ?_))); (case side2 => exact (Kd.V_reads' HO_0.out).2.1); (case side3 => repeat (first | exact (Kd.R_reads' HO137.out).2.2 | (with_reducible refine Kd.C_alloc ?_ _) | (with_reducible refine Kd.C_drewN ?_ _) | (with_reducible refine Kd.C_drew ?_))); (case side4 => exact (Kd.R_reads' HO137.out).2.1); rintro e w16 ⟨v139, rfl, ho0, hb⟩; refine ⟨_, rfl, ?_⟩; have n0_ := Aside0.mk (Kd.V_elder' (by (with_reducible repeat (first | apply Kd.V_alloc | apply Kd.V_drewN | apply Kd.V_drew)); exact HO_0.out) (Kd.R_base ho0) hb); have n1_ := Aside0.mk (Kd.R_elder' (by (with_reducible repeat (first | apply Kd.R_alloc | apply Kd.R_drewN | apply Kd.R_drew)); exact HO137.out) (Kd.R_base ho0) hb); have n2_ := Aside0.mk (Kd.R_lower (Kd.R_newB (Kd.R_new' (Kd.R_newM (M := fun k_ => (w.heap.size ≤ k_)) ho0 (pbZ (by repeat (first | (with_reducible first | exact HB.out | apply pbA | apply pbN | apply pbD | refine pbS ?_ GE134.out) | exact HB.out))) (fun k_ h_ => h_)) (Kd.R_lt (by (with_reducible repeat (first | apply Kd.R_alloc | apply Kd.R_drewN | apply Kd.R_drew)); exact HO137.out))) (g := gb134) (o := .cells #[.int .i64 ((rd_T26 l1 x9_1).f0), .int .i64 ((rd_T26 l1 x9_1).f1), .int .i64 ((rd_T26 l1 x9_1).f2), .int .i64 ((rd_T26 l1 x9_1).f3)] 26 (0, 0)) (by (with_reducible repeat (first | refine bkN ?_ _ | refine bkD ?_ | refine bkA ?_ _)); exact BK134.out)) (pbZ (by repeat (first | (with_reducible first | exact HB.out | apply pbA | apply pbN | apply pbD | refine pbS ?_ GE134.out) | exact HB.out)))); have n3_ := Aside0.mk (bkB (g := gb134) (o := .cells #[.int .i64 ((rd_T26 l1 x9_1).f0), .int .i64 ((rd_T26 l1 x9_1).f1), .int .i64 ((rd_T26 l1 x9_1).f2), .int .i64 ((rd_T26 l1 x9_1).f3)] 26 (0, 0)) (by (with_reducible repeat (first | refine bkN ?_ _ | refine bkD ?_ | refine bkA ?_ _)); exact BK134.out) hb); have n4_ := Aside0.mk (pbP (by repeat (first | (with_reducible first | exact HB.out | apply pbA | apply pbN | apply pbD | refine pbS ?_ GE134.out) | exact HB.out)) hb); clear HO_0; clear HO137; clear BK134; clear HB; have HO_0 := n0_; have HO137 := n1_; have HO140 := n2_; have BK134 := n3_; have HB := n4_; clear n0_ n1_ n2_ n3_ n4_; (try clear hb); (try clear hb2); (try clear hk); (try clear hi); (try clear ho0); obtain ⟨Ao17, co17, eo17⟩ := Kd.R_slice HO140.out; subst eo17) | ((with_reducible refine gate_callee (f := 36) rfl ?_); refine goesL_ (some 21) rfl rfl Try.func36 (by kernel_rfl) rfl #[.slice Ao17 t138.length co17] rfl (by (try simp only [List.map_toArray, List.map_cons, List.map_nil]); first | done | rfl | (simp only [List.length_drop, List.length_take]; rfl)) ?_; (with_reducible refine (region_Cover.calls k1 _ _ t138 t141 t142 t143 t144 _ ?side1 ?side2 A9.out).mono ?_); (case side1 => repeat (first | exact (Kd.R_reads' HO140.out).2.2 | (with_reducible refine Kd.C_alloc ?_ _) | (with_reducible refine Kd.C_drewN ?_ _) | (with_reducible refine Kd.C_drew ?_))); (case side2 => exact (Kd.R_reads' HO140.out).2.1); rintro e w18 ⟨rfl, hb⟩; refine ⟨_, rfl, ?_⟩; have n0_ := Aside0.mk (Kd.V_below (by (with_reducible repeat (first | apply Kd.V_alloc | apply Kd.V_drewN | apply Kd.V_drew)); exact HO_0.out) hb); have n1_ := Aside0.mk (Kd.R_below (by (with_reducible repeat (first | apply Kd.R_alloc | apply Kd.R_drewN | apply Kd.R_drew)); exact HO137.out) hb); have n2_ := Aside0.mk (Kd.R_below (by (with_reducible repeat (first | apply Kd.R_alloc | apply Kd.R_drewN | apply Kd.R_drew)); exact HO140.out) hb); have n3_ := Aside0.mk (bkB (g := gb134) (o := .cells #[.int .i64 ((rd_T26 l1 x9_1).f0), .int .i64 ((rd_T26 l1 x9_1).f1), .int .i64 ((rd_T26 l1 x9_1).f2), .int .i64 ((rd_T26 l1 x9_1).f3)] 26 (0, 0)) (by (with_reducible repeat (first | refine bkN ?_ _ | refine bkD ?_ | refine bkA ?_ _)); exact BK134.out) hb); have n4_ := Aside0.mk (pbP (by repeat (first | (with_reducible first | exact HB.out | apply pbA | apply pbN | apply pbD | refine pbS ?_ GE134.out) | exact HB.out)) hb); clear HO_0; clear HO137; clear HO140; clear BK134; clear HB; have HO_0 := n0_; have HO137 := n1_; have HO140 := n2_; have BK134 := n3_; have HB := n4_; clear n0_ n1_ n2_ n3_ n4_; (try clear hb); (try clear hb2); (try clear hk); (try clear hi)) | ((with_reducible refine gate_callee (f := 31) rfl ?_); refine goesL_ (some 22) rfl rfl Try.func31 (by kernel_rfl) rfl #[.agg #[.int .i64 t141, .int .i64 t142, .int .i64 t143, .int .i64 t144]] rfl (by (try simp only [List.map_toArray, List.map_cons, List.map_nil]); first | done | rfl | (simp only [List.length_drop, List.length_take]; rfl)) ?_; (with_reducible refine (region_Of.calls t141 t142 t143 t144 t145 _ A10.out).mono ?_); rintro e w19 ⟨v146, rfl, ho0, hb⟩; refine ⟨_, rfl, ?_⟩; have n0_ := Aside0.mk (Kd.V_elder' (by (with_reducible repeat (first | apply Kd.V_alloc | apply Kd.V_drewN | apply Kd.V_drew)); exact HO_0.out) (Kd.R_base ho0) hb); have n1_ := Aside0.mk (Kd.R_elder' (by (with_reducible repeat (first | apply Kd.R_alloc | apply Kd.R_drewN | apply Kd.R_drew)); exact HO137.out) (Kd.R_base ho0) hb); have n2_ := Aside0.mk (Kd.R_elder' (by (with_reducible repeat (first | apply Kd.R_alloc | apply Kd.R_drewN | apply Kd.R_drew)); exact HO140.out) (Kd.R_base ho0) hb); have n3_ := Aside0.mk (Kd.R_lower (Kd.R_newB (Kd.R_new' (Kd.R_new' (Kd.R_newM (M := fun k_ => (w.heap.size ≤ k_)) ho0 (pbZ (by repeat (first | (with_reducible first | exact HB.out | apply pbA | apply pbN | apply pbD | refine pbS ?_ GE134.out) | exact HB.out))) (fun k_ h_ => h_)) (Kd.R_lt (by (with_reducible repeat (first | apply Kd.R_alloc | apply Kd.R_drewN | apply Kd.R_drew)); exact HO137.out))) (Kd.R_lt (by (with_reducible repeat (first | apply Kd.R_alloc | apply Kd.R_drewN | apply Kd.R_drew)); exact HO140.out))) (g := gb134) (o := .cells #[.int .i64 ((rd_T26 l1 x9_1).f0), .int .i64 ((rd_T26 l1 x9_1).f1), .int .i64 ((rd_T26 l1 x9_1).f2), .int .i64 ((rd_T26 l1 x9_1).f3)] 26 (0, 0)) (by (with_reducible repeat (first | refine bkN ?_ _ | refine bkD ?_ | refine bkA ?_ _)); exact BK134.out)) (pbZ (by repeat (first | (with_reducible first | exact HB.out | apply pbA | apply pbN | apply pbD | refine pbS ?_ GE134.out) | exact HB.out)))); have n4_ := Aside0.mk (bkB (g := gb134) (o := .cells #[.int .i64 ((rd_T26 l1 x9_1).f0), .int .i64 ((rd_T26 l1 x9_1).f1), .int .i64 ((rd_T26 l1 x9_1).f2), .int .i64 ((rd_T26 l1 x9_1).f3)] 26 (0, 0)) (by (with_reducible repeat (first | refine bkN ?_ _ | refine bkD ?_ | refine bkA ?_ _)); exact BK134.out) hb); have n5_ := Aside0.mk (pbP (by repeat (first | (with_reducible first | exact HB.out | apply pbA | apply pbN | apply pbD | refine pbS ?_ GE134.out) | exact HB.out)) hb); clear HO_0; clear HO137; clear HO140; clear BK134; clear HB; have HO_0 := n0_; have HO137 := n1_; have HO140 := n2_; have HO147 := n3_; have BK134 := n4_; have HB := n5_; clear n0_ n1_ n2_ n3_ n4_ n5_; (try clear hb); (try clear hb2); (try clear hk); (try clear hi); (try clear ho0)))
           go_roundg k1
           case measure => have := HK1.out; omega
           case rel => exact ⟨(t145), (wrap64 (x9_1 + 1)), (by first | rfl | (simp; done) | (simp [*]; done)), H', ⟨by have := HK1.out; omega⟩, ⟨Kd.V_mono (Kd.R_V (by (with_reducible repeat (first | apply Kd.R_alloc | apply Kd.R_drewN | apply Kd.R_drew)); exact Kd.R_mono HO147.out (fun _ hk => hk.1.1.1.1))) (fun k_ hk => by first | exact ⟨(.inr (hk.1)), hk.2⟩ | exact (.inr (hk)))⟩, ⟨by repeat (first | (with_reducible first | exact HB.out | apply pbA | apply pbN | apply pbD | refine pbS ?_ GE134.out) | exact HB.out)⟩⟩
         · rw [if_neg c8] at H
           have c8b0 : decide (40 < (t138.length : Int)) = false := decide_eq_false c8
           have c8b1 : decide (40 < t138.length) = false := decide_eq_false (by omega)
           clear c8
           have H' := Aside0.mk H
           clear H
           have p133 : 0 ≤ (x9_1 : Int) := of_decide_eq_true (by first | (with_reducible assumption) | assumption)
           have q133 : x9_1 < (l1.length : Int) := of_decide_eq_true (by first | (with_reducible assumption) | assumption)
           obtain ⟨ad133, e133, hx133_0, hx133_1, hx133_2, hx133_3⟩ := at_T26 HR1.out x9_1 p133 q133
           cases e133
           replace hx133_0 := (HB.out.cell (World.block_lt_of_cell? w _ hx133_0)).trans hx133_0
           replace hx133_1 := (HB.out.cell (World.block_lt_of_cell? w _ hx133_1)).trans hx133_1
           replace hx133_2 := (HB.out.cell (World.block_lt_of_cell? w _ hx133_2)).trans hx133_2
           replace hx133_3 := (HB.out.cell (World.block_lt_of_cell? w _ hx133_3)).trans hx133_3
           replace p133 := eq_true p133
           replace q133 := eq_true q133
           go_wp2_with (first | ((with_reducible refine gate_dst (N := 6) rfl ?_); refine box_event ?hg (N := 6) ?hd (cs := #[.int .i64 0, .int .i64 0, .int .i64 0, .int .i64 0]) (t := 26) ?hr ?_; (case hd => rfl); (case hg => rfl); (case hr => first | (go_simp; done) | (go_simp; rfl)); intro gb134 hg w20 hbox hb; have n0_ := Aside0.mk (Kd.V_below (Kd.V_elderB (by (with_reducible repeat (first | apply Kd.V_alloc | apply Kd.V_drewN | apply Kd.V_drew)); exact HO_0.out) gb134 (Nat.le_of_eq hg.symm)) hb); have n1_ := Aside0.mk (pbP (by repeat (first | (with_reducible first | exact HB.out | apply pbA | apply pbN | apply pbD) | exact HB.out)) hb); have n2_ := Aside0.mk (hbox); have n3_ := Aside0.mk ((by rw [hg]; exact (pbZ (by repeat (first | (with_reducible first | exact HB.out | apply pbA | apply pbN | apply pbD) | exact HB.out))) : w.heap.size ≤ gb134)); have n4_ := Aside0.mk ((by rw [hg]; exact (pbZ (by repeat (first | (with_reducible first | exact HB.out | apply pbA | apply pbN | apply pbD) | exact HB.out))) : w.heap.size ≤ gb134)); clear HO_0; clear HB; have HO_0 := n0_; have HB := n1_; have BK134 := n2_; have GW134 := n3_; have GE134 := n4_; clear n0_ n1_ n2_ n3_ n4_; clear hb hbox hg; have hcz21_0 : w20.cell? ⟨gb134, 0, none⟩ = some (.int .i64 0) := (bkC BK134.out 0).trans rfl; have hcz21_1 : w20.cell? ⟨gb134, 1, none⟩ = some (.int .i64 0) := (bkC BK134.out 1).trans rfl; have hcz21_2 : w20.cell? ⟨gb134, 2, none⟩ = some (.int .i64 0) := (bkC BK134.out 2).trans rfl; have hcz21_3 : w20.cell? ⟨gb134, 3, none⟩ = some (.int .i64 0) := (bkC BK134.out 3).trans rfl; have hfz21_0 := bkF BK134.out 0; have hfz21_1 := bkF BK134.out 1; have hfz21_2 := bkF BK134.out 2; have hfz21_3 := bkF BK134.out 3) | ((with_reducible refine gate_callee (f := 31) rfl ?_); refine goesL_ (some 15) rfl rfl Try.func31 (by kernel_rfl) rfl #[.agg #[.int .i64 ((rd_T26 l1 x9_1).f0), .int .i64 ((rd_T26 l1 x9_1).f1), .int .i64 ((rd_T26 l1 x9_1).f2), .int .i64 ((rd_T26 l1 x9_1).f3)]] rfl (by (try simp only [List.map_toArray, List.map_cons, List.map_nil]); first | done | rfl | (simp only [List.length_drop, List.length_take]; rfl)) ?_; (with_reducible refine (region_Of.calls ((rd_T26 l1 x9_1).f0) ((rd_T26 l1 x9_1).f1) ((rd_T26 l1 x9_1).f2) ((rd_T26 l1 x9_1).f3) t135 _ A6.out).mono ?_); rintro e w22 ⟨v136, rfl, ho0, hb⟩; refine ⟨_, rfl, ?_⟩; have n0_ := Aside0.mk (Kd.V_elder' (by (with_reducible repeat (first | apply Kd.V_alloc | apply Kd.V_drewN | apply Kd.V_drew)); exact (Kd.V_mono (Kd.V_far (p := ⟨gb134, 3, none⟩) (Kd.V_far (p := ⟨gb134, 2, none⟩) (Kd.V_far (p := ⟨gb134, 1, none⟩) (Kd.V_far (p := ⟨gb134, 0, none⟩) (Kd.V_mono HO_0.out (fun k_ hk => (⟨hk, hk.2⟩ : _ ∧ k_ ≠ gb134))) (fun _ hk => hk.2) (.int .i64 ((rd_T26 l1 x9_1).f0))) (fun _ hk => hk.2) (.int .i64 ((rd_T26 l1 x9_1).f1))) (fun _ hk => hk.2) (.int .i64 ((rd_T26 l1 x9_1).f2))) (fun _ hk => hk.2) (.int .i64 ((rd_T26 l1 x9_1).f3))) (fun _ h_ => h_.1))) (Kd.R_base ho0) hb); have n1_ := Aside0.mk (Kd.R_lower (Kd.R_newB (Kd.R_newM (M := fun k_ => (w.heap.size ≤ k_)) ho0 (pbZ (by repeat (first | (with_reducible first | exact HB.out | apply pbA | apply pbN | apply pbD | refine pbS ?_ GE134.out) | exact HB.out))) (fun k_ h_ => h_)) (g := gb134) (o := .cells #[.int .i64 ((rd_T26 l1 x9_1).f0), .int .i64 ((rd_T26 l1 x9_1).f1), .int .i64 ((rd_T26 l1 x9_1).f2), .int .i64 ((rd_T26 l1 x9_1).f3)] 26 (0, 0)) (by (with_reducible repeat (first | refine bkN ?_ _ | refine bkD ?_ | refine bkA ?_ _)); refine blk_put (cs := #[.int .i64 ((rd_T26 l1 x9_1).f0), .int .i64 ((rd_T26 l1 x9_1).f1), .int .i64 ((rd_T26 l1 x9_1).f2), .int .i64 0]) ?_ 3 _ rfl; (with_reducible repeat (first | refine bkN ?_ _ | refine bkD ?_ | refine bkA ?_ _)); refine blk_put (cs := #[.int .i64 ((rd_T26 l1 x9_1).f0), .int .i64 ((rd_T26 l1 x9_1).f1), .int .i64 0, .int .i64 0]) ?_ 2 _ rfl; (with_reducible repeat (first | refine bkN ?_ _ | refine bkD ?_ | refine bkA ?_ _)); refine blk_put (cs := #[.int .i64 ((rd_T26 l1 x9_1).f0), .int .i64 0, .int .i64 0, .int .i64 0]) ?_ 1 _ rfl; (with_reducible repeat (first | refine bkN ?_ _ | refine bkD ?_ | refine bkA ?_ _)); refine blk_put (cs := #[.int .i64 0, .int .i64 0, .int .i64 0, .int .i64 0]) ?_ 0 _ rfl; (with_reducible repeat (first | refine bkN ?_ _ | refine bkD ?_ | refine bkA ?_ _)); exact BK134.out)) (pbZ (by repeat (first | (with_reducible first | exact HB.out | apply pbA | apply pbN | apply pbD | refine pbS ?_ GE134.out) | exact HB.out)))); have n2_ := Aside0.mk (bkB (g := gb134) (o := .cells #[.int .i64 ((rd_T26 l1 x9_1).f0), .int .i64 ((rd_T26 l1 x9_1).f1), .int .i64 ((rd_T26 l1 x9_1).f2), .int .i64 ((rd_T26 l1 x9_1).f3)] 26 (0, 0)) (by (with_reducible repeat (first | refine bkN ?_ _ | refine bkD ?_ | refine bkA ?_ _)); refine blk_put (cs := #[.int .i64 ((rd_T26 l1 x9_1).f0), .int .i64 ((rd_T26 l1 x9_1).f1), .int .i64 ((rd_T26 l1 x9_1).f2), .int .i64 0]) ?_ 3 _ rfl; (with_reducible repeat (first | refine bkN ?_ _ | refine bkD ?_ | refine bkA ?_ _)); refine blk_put (cs := #[.int .i64 ((rd_T26 l1 x9_1).f0), .int .i64 ((rd_T26 l1 x9_1).f1), .int .i64 0, .int .i64 0]) ?_ 2 _ rfl; (with_reducible repeat (first | refine bkN ?_ _ | refine bkD ?_ | refine bkA ?_ _)); refine blk_put (cs := #[.int .i64 ((rd_T26 l1 x9_1).f0), .int .i64 0, .int .i64 0, .int .i64 0]) ?_ 1 _ rfl; (with_reducible repeat (first | refine bkN ?_ _ | refine bkD ?_ | refine bkA ?_ _)); refine blk_put (cs := #[.int .i64 0, .int .i64 0, .int .i64 0, .int .i64 0]) ?_ 0 _ rfl; (with_reducible repeat (first | refine bkN ?_ _ | refine bkD ?_ | refine bkA ?_ _)); exact BK134.out) hb); have n3_ := Aside0.mk (pbP (by repeat (first | (with_reducible first | exact HB.out | apply pbA | apply pbN | apply pbD | refine pbS ?_ GE134.out) | exact HB.out)) hb); clear HO_0; clear BK134; clear HB; have HO_0 := n0_; have HO137 := n1_; have BK134 := n2_; have HB := n3_; clear n0_ n1_ n2_ n3_; (try clear hb); (try clear hb2); (try clear hk); (try clear hi); (try clear ho0); obtain ⟨Ao23, co23, eo23⟩ := Kd.V_slice HO_0.out; subst eo23; obtain ⟨Ao24, co24, eo24⟩ := Kd.R_slice HO137.out; subst eo24) | ((with_reducible refine gate_callee (f := 12) rfl ?_); refine goesL_ (some 16) rfl rfl Try.func12 (by kernel_rfl) rfl #[.slice Ao23 x0_1.length co23, .slice Ao24 t135.length co24] rfl (by (try simp only [List.map_toArray, List.map_cons, List.map_nil]); first | done | rfl | (simp only [List.length_drop, List.length_take]; rfl)) ?_; (with_reducible refine (region_Union.calls _ _ x0_1 _ _ t135 t138 _ ?side1 ?side2 ?side3 ?side4 A7.out).mono ?_); (case side1 => repeat (first | exact (Kd.V_reads' HO_0.out).2.2 | (with_reducible refine Kd.C_alloc ?_ _) | (with_reducible refine Kd.C_drewN ?_ _) | (with_reducible refine Kd.C_drew ?_))); (case side2 => exact (Kd.V_reads' HO_0.out).2.1); (case side3 => repeat (first | exact (Kd.R_reads' HO137.out).2.2 | (with_reducible refine Kd.C_alloc ?_ _) | (with_reducible refine Kd.C_drewN ?_ _) | (with_reducible refine Kd.C_drew ?_))); (case side4 => exact (Kd.R_reads' HO137.out).2.1); rintro e w25 ⟨v139, rfl, ho0, hb⟩; refine ⟨_, rfl, ?_⟩; have n0_ := Aside0.mk (Kd.V_elder' (by (with_reducible repeat (first | apply Kd.V_alloc | apply Kd.V_drewN | apply Kd.V_drew)); exact HO_0.out) (Kd.R_base ho0) hb); have n1_ := Aside0.mk (Kd.R_elder' (by (with_reducible repeat (first | apply Kd.R_alloc | apply Kd.R_drewN | apply Kd.R_drew)); exact HO137.out) (Kd.R_base ho0) hb); have n2_ := Aside0.mk (Kd.R_lower (Kd.R_newB (Kd.R_new' (Kd.R_newM (M := fun k_ => (w.heap.size ≤ k_)) ho0 (pbZ (by repeat (first | (with_reducible first | exact HB.out | apply pbA | apply pbN | apply pbD | refine pbS ?_ GE134.out) | exact HB.out))) (fun k_ h_ => h_)) (Kd.R_lt (by (with_reducible repeat (first | apply Kd.R_alloc | apply Kd.R_drewN | apply Kd.R_drew)); exact HO137.out))) (g := gb134) (o := .cells #[.int .i64 ((rd_T26 l1 x9_1).f0), .int .i64 ((rd_T26 l1 x9_1).f1), .int .i64 ((rd_T26 l1 x9_1).f2), .int .i64 ((rd_T26 l1 x9_1).f3)] 26 (0, 0)) (by (with_reducible repeat (first | refine bkN ?_ _ | refine bkD ?_ | refine bkA ?_ _)); exact BK134.out)) (pbZ (by repeat (first | (with_reducible first | exact HB.out | apply pbA | apply pbN | apply pbD | refine pbS ?_ GE134.out) | exact HB.out)))); have n3_ := Aside0.mk (bkB (g := gb134) (o := .cells #[.int .i64 ((rd_T26 l1 x9_1).f0), .int .i64 ((rd_T26 l1 x9_1).f1), .int .i64 ((rd_T26 l1 x9_1).f2), .int .i64 ((rd_T26 l1 x9_1).f3)] 26 (0, 0)) (by (with_reducible repeat (first | refine bkN ?_ _ | refine bkD ?_ | refine bkA ?_ _)); exact BK134.out) hb); have n4_ := Aside0.mk (pbP (by repeat (first | (with_reducible first | exact HB.out | apply pbA | apply pbN | apply pbD | refine pbS ?_ GE134.out) | exact HB.out)) hb); clear HO_0; clear HO137; clear BK134; clear HB; have HO_0 := n0_; have HO137 := n1_; have HO140 := n2_; have BK134 := n3_; have HB := n4_; clear n0_ n1_ n2_ n3_ n4_; (try clear hb); (try clear hb2); (try clear hk); (try clear hi); (try clear ho0); obtain ⟨Ao26, co26, eo26⟩ := Kd.R_slice HO140.out; subst eo26))
           go_roundg k1
           case measure => have := HK1.out; omega
           case rel => exact ⟨(t138), (wrap64 (x9_1 + 1)), (by first | rfl | (simp; done) | (simp [*]; done)), H', ⟨by have := HK1.out; omega⟩, ⟨Kd.V_mono (Kd.R_V (by (with_reducible repeat (first | apply Kd.R_alloc | apply Kd.R_drewN | apply Kd.R_drew)); exact Kd.R_mono HO140.out (fun _ hk => hk.1.1.1))) (fun k_ hk => by first | exact ⟨(.inr (hk.1)), hk.2⟩ | exact (.inr (hk)))⟩, ⟨by repeat (first | (with_reducible first | exact HB.out | apply pbA | apply pbN | apply pbD | refine pbS ?_ GE134.out) | exact HB.out)⟩⟩
       · rw [if_neg c5] at H
         exact absurd H (by simp)
     · rw [if_neg c4] at H
       exact absurd H (by simp)
   · rw [if_neg c3] at H
     have c3b0 : decide (x9_1 < (l1.length : Int)) = false := decide_eq_false c3
     clear c3
     obtain rfl := Option.some.inj H
     go_wp2
     go_ret
     exact ⟨_, by first | rfl | (simp [errW_none, errW_some] <;> rfl) | (simp [*, errW_none, errW_some] <;> rfl), by (with_reducible repeat (first | apply Kd.V_alloc | apply Kd.V_drewN | apply Kd.V_drew)); exact HO_0.out, by repeat (first | (with_reducible first | exact HB.out | apply pbA | apply pbN | apply pbD) | exact HB.out)⟩

/-! ### damage_Flat: function 19 -/
def damage_Flat.f (k : Nat) (l0 : List (S26)) : Option ((List (S26))) := (damage_add.f k ([] : List (S26)) l0).bind fun t148 => (some t148)
theorem damage_Flat.mono : ∀ a0 k, LeO (damage_Flat.f k a0) (damage_Flat.f (k + 1) a0) := by
 intro a0 k
 unfold damage_Flat.f
 repeat' first
  | (with_reducible exact damage_add.mono _ _ _)
  | (with_reducible exact LeO.refl _)
  | (with_reducible exact LeO.none _)
  | (with_reducible refine LeO.ite ?_ ?_)
  | (with_reducible refine LeO.bind ?_ (fun _ => ?_))
  | exact damage_add.mono _ _ _
  | exact LeO.none _
  | refine LeO.ite ?_ ?_
  | refine LeO.bind ?_ (fun _ => ?_)
set_option maxHeartbeats 8000000 in
set_option maxRecDepth 100000 in
theorem damage_Flat.calls (k : Nat) (A0 : Option Addr) (c0 : Nat) (l0 : List (S26)) (r : List (S26)) (w : World) (hr0 : Kd.C k26 w A0 l0.length l0) (hc0 : l0.length ≤ c0) (h : damage_Flat.f k l0 = some r) :
 Calls Try.prog 19 #[.slice A0 l0.length c0] w fun e w' => ∃ v0_ : Value, e = .returned (v0_) ∧ Kd.V k26 26 w' w.heap.size (fun k_ => (w.heap.size ≤ k_)) v0_ r ∧ Below w.heap.size w w' := by
 have HR0 := Aside0.mk hr0
 have HC0 := Aside0.mk hc0
 clear hr0 hc0
 have HB := Aside0.mk (Below.refl w.heap.size w)
 have H : ((damage_add.f k ([] : List (S26)) l0).bind fun t148 => (some t148)) = some r := h
 clear h
 replace H := Option.bind_eq_some_iff.mp H
 obtain ⟨t148, A20, H⟩ := H
 replace H : (some t148) = some r := H
 have A2 := Aside0.mk A20
 clear A20
 obtain rfl := Option.some.inj H
 go_enter Try.func19, Try.ntmps19
 go_wp2_with (first | ((with_reducible refine gate_callee (f := 54) rfl ?_); refine goesL_ (some 4) rfl rfl Try.func54 (by kernel_rfl) rfl #[.slice none 0 0, .slice A0 l0.length c0] rfl (by (try simp only [List.map_toArray, List.map_cons, List.map_nil]); first | done | rfl | (simp only [List.length_drop, List.length_take]; rfl)) ?_; (refine (damage_add.calls k (fun k_ => False) _ _ ([] : List (S26)) _ _ l0 t148 _ ?side1 ?side2 ?side3 A2.out).mono ?_); (case side1 => exact Kd.V_nil _ _ _ _ _); (case side2 => repeat (first | exact HR0.out | (with_reducible refine Kd.C_alloc ?_ _) | (with_reducible refine Kd.C_drewN ?_ _) | (with_reducible refine Kd.C_drew ?_))); (case side3 => exact HC0.out); rintro e w3 ⟨v149, rfl, ho0, hb⟩; refine ⟨_, rfl, ?_⟩; have n0_ := Aside0.mk (Kd.V_lower (Kd.V_mono (ok' := fun k_ => (w.heap.size ≤ k_)) ho0 (fun k_ hk_ => Or.elim hk_ (fun hs_ => (hs_).elim) (fun hn_ => (Nat.le_trans (pbZ (by repeat (first | (with_reducible first | exact HB.out | apply pbA | apply pbN | apply pbD) | exact HB.out))) hn_)))) (pbZ (by repeat (first | (with_reducible first | exact HB.out | apply pbA | apply pbN | apply pbD) | exact HB.out)))); have n1_ := Aside0.mk (pbP (by repeat (first | (with_reducible first | exact HB.out | apply pbA | apply pbN | apply pbD) | exact HB.out)) hb); clear HB; have HO150 := n0_; have HB := n1_; clear n0_ n1_; (try clear hb); (try clear hb2); (try clear hk); (try clear hi); (try clear ho0)))
 go_ret
 exact ⟨_, by first | rfl | (simp [errW_none, errW_some] <;> rfl) | (simp [*, errW_none, errW_some] <;> rfl), by (with_reducible repeat (first | apply Kd.V_alloc | apply Kd.V_drewN | apply Kd.V_drew)); exact HO150.out, by repeat (first | (with_reducible first | exact HB.out | apply pbA | apply pbN | apply pbD) | exact HB.out)⟩

/-! ### damage_Add: function 21 -/
def damage_Add.f (k : Nat) (l0 : List (S26)) (a1_0 : Int) (a1_1 : Int) (a1_2 : Int) (a1_3 : Int) : Option ((List (S26))) := (damage_Flat.f k l0).bind fun t152 => ((damage_add.f k t152 (([(⟨a1_0, a1_1, a1_2, a1_3⟩ : S26)] : List (S26)))).bind fun t158 => (some t158))
theorem damage_Add.mono : ∀ a0 a1 a2 a3 a4 k, LeO (damage_Add.f k a0 a1 a2 a3 a4) (damage_Add.f (k + 1) a0 a1 a2 a3 a4) := by
 intro a0 a1 a2 a3 a4 k
 unfold damage_Add.f
 repeat' first
  | (with_reducible exact damage_Flat.mono _ _)
  | (with_reducible exact damage_add.mono _ _ _)
  | (with_reducible exact LeO.refl _)
  | (with_reducible exact LeO.none _)
  | (with_reducible refine LeO.ite ?_ ?_)
  | (with_reducible refine LeO.bind ?_ (fun _ => ?_))
  | exact damage_Flat.mono _ _
  | exact damage_add.mono _ _ _
  | exact LeO.none _
  | refine LeO.ite ?_ ?_
  | refine LeO.bind ?_ (fun _ => ?_)
def damage_Add.T1 : Bool × List (List Nat × List Nat) := (true, [([], []), ([0], [0]), ([], []), ([2], [2]), ([1, 3, 1], [1, 3]), ([4, 4, 0, 1, 2, 3, 4], [4])])
def damage_Add.B1 : List Nat := [0, 1, 0, 4, 15, 31]
theorem damage_Add.tab1 : rtab .any (opsOf Try.f21 1) = damage_Add.T1 := by kernel_rfl
theorem damage_Add.bits1 : waitsOk damage_Add.T1.2 damage_Add.B1 = true := by kernel_rfl
set_option maxHeartbeats 8000000 in
set_option maxRecDepth 100000 in
theorem damage_Add.calls (k : Nat) (A0 : Option Addr) (c0 : Nat) (l0 : List (S26)) (a1_0 : Int) (a1_1 : Int) (a1_2 : Int) (a1_3 : Int) (r : List (S26)) (w : World) (hr0 : Kd.C k26 w A0 l0.length l0) (hc0 : l0.length ≤ c0) (h : damage_Add.f k l0 a1_0 a1_1 a1_2 a1_3 = some r) :
 Calls Try.prog 21 #[.slice A0 l0.length c0, .agg #[.int .i64 a1_0, .int .i64 a1_1, .int .i64 a1_2, .int .i64 a1_3]] w fun e w' => ∃ v0_ : Value, e = .returned (v0_) ∧ Kd.V k26 26 w' w.heap.size (fun k_ => (w.heap.size ≤ k_)) v0_ r ∧ Below w.heap.size w w' := by
 have hu26 := Try.underlying26
 have HR0 := Aside0.mk hr0
 have HC0 := Aside0.mk hc0
 clear hr0 hc0
 have HB := Aside0.mk (Below.refl w.heap.size w)
 have H : ((damage_Flat.f k l0).bind fun t152 => ((damage_add.f k t152 (([(⟨a1_0, a1_1, a1_2, a1_3⟩ : S26)] : List (S26)))).bind fun t158 => (some t158))) = some r := h
 clear h
 replace H := Option.bind_eq_some_iff.mp H
 obtain ⟨t152, A30, H⟩ := H
 replace H : ((damage_add.f k t152 (([(⟨a1_0, a1_1, a1_2, a1_3⟩ : S26)] : List (S26)))).bind fun t158 => (some t158)) = some r := H
 have A3 := Aside0.mk A30
 clear A30
 obtain ⟨y155, hy155⟩ : ∃ y_ : List (S26), y_ = (([(⟨a1_0, a1_1, a1_2, a1_3⟩ : S26)] : List (S26))) := ⟨_, rfl⟩
 replace H : ((damage_add.f k t152 y155).bind fun t158 => (some t158)) = some r := by first | (rw [hy155]; with_reducible exact H) | (have H2_ := (Option.bind_some _ _).symm.trans H; rw [hy155]; with_reducible exact H2_) | (have H2_ := (Option.bind_some _ _).symm.trans H; with_reducible exact H2_) | with_reducible exact H | (rw [hy155]; exact H) | exact H
 have Ny155 := Aside0.mk hy155
 clear hy155
 replace H := Option.bind_eq_some_iff.mp H
 obtain ⟨t158, A40, H⟩ := H
 replace H : (some t158) = some r := H
 have A4 := Aside0.mk A40
 clear A40
 obtain rfl := Option.some.inj H
 go_enter Try.func21, Try.ntmps21
 try go_wp2_with (first | ((with_reducible refine gate_dst (N := 3) rfl ?_); refine box_event ?hg (N := 3) ?hd (cs := #[.int .i64 a1_0, .int .i64 a1_1, .int .i64 a1_2, .int .i64 a1_3]) (t := 26) ?hr ?_; (case hd => rfl); (case hg => rfl); (case hr => first | (go_simp; done) | (go_simp; rfl)); intro gb151 hg w5 hbox hb; have n0_ := Aside0.mk (pbP (by repeat (first | (with_reducible first | exact HB.out | apply pbA | apply pbN | apply pbD) | exact HB.out)) hb); have n1_ := Aside0.mk (hbox); have n2_ := Aside0.mk ((by rw [hg]; exact (pbZ (by repeat (first | (with_reducible first | exact HB.out | apply pbA | apply pbN | apply pbD) | exact HB.out))) : w.heap.size ≤ gb151)); have n3_ := Aside0.mk ((by rw [hg]; exact (pbZ (by repeat (first | (with_reducible first | exact HB.out | apply pbA | apply pbN | apply pbD) | exact HB.out))) : w.heap.size ≤ gb151)); clear HB; have HB := n0_; have BK151 := n1_; have GW151 := n2_; have GE151 := n3_; clear n0_ n1_ n2_ n3_; clear hb hbox hg))
 have n0_ := Aside0.mk (bkD BK151.out)
 have n1_ := Aside0.mk (pbD HB.out)
 clear BK151
 clear HB
 have BK151 := n0_
 have HB := n1_
 clear n0_ n1_
 refine start_ (n := 6) (S := fun w' => True) (ds := []) #[false, false, false, false, false, false] (by kernel_rfl) rfl rfl trivial (fun hHeld => ?_); refine with_tabW damage_Add.tab1 damage_Add.bits1 (fun HT_ HW_ => ?_)
 generalize w5.drew = w6 at BK151 HB hHeld ⊢
 refine pure_ (i := 0) (N := some 5) (v := ?_) (a' := ?_) #[true, false, false, false, false, false] rfl rfl (any_of HT_.out (by kernel_rfl)) (fun _ _ _ h => h) (Or.inl ⟨by rfl, ?_⟩) ?_ ?_
 rotate_left
 · intro w'
   go_simp
   with_reducible rfl
 rotate_left
 · simp only [Act.put, List.setIfInBounds_toArray, List.set_cons_zero, List.set_cons_succ, i64_w, i32_w]
   rfl
 refine inv_at [1, 2, 3, 4, 5] (fun a0_ b a w' => ∃ (v153 : Value) (v156 : Value) (v159 : Value) (m5_ : Value), a = putSel a0_ b [(1, 6, v153), (2, 7, .agg #[.int .i64 a1_0, .int .i64 a1_1, .int .i64 a1_2, .int .i64 a1_3]), (3, 8, v156), (4, 9, v159), (5, 4, m5_)] ∧ (w'.heap[gb151]? = some (.cells #[.int .i64 a1_0, .int .i64 a1_1, .int .i64 a1_2, .int .i64 a1_3] 26 (0, 0))) ∧ (Below w.heap.size w w') ∧ (b 1 = true → Kd.V k26 26 w' w.heap.size (fun k_ => (w.heap.size ≤ k_) ∧ k_ ≠ gb151) v153 t152) ∧ (b 3 = true → Kd.R k26 26 w' w.heap.size (fun k_ => (w.heap.size ≤ k_) ∧ k_ ≠ gb151) v156 y155) ∧ (b 4 = true → Kd.V k26 26 w' w.heap.size (fun k_ => (w.heap.size ≤ k_) ∧ k_ ≠ gb151) v159 t158) ∧ (b 5 = true → (m5_ : Value) = v159)) HT_.out HW_.out (by kernel_rfl) (by kernel_rfl) ?_ ?_ ?_
 · exact ⟨.bool false, .bool false, .bool false, .bool false, by simp only [putSel, Bool.false_eq_true, if_false], BK151.out, HB.out, fun h_ => absurd h_ (by decide), fun h_ => absurd h_ (by decide), fun h_ => absurd h_ (by decide), fun h_ => absurd h_ (by decide)⟩
 · skip
   clear BK151 HB
   refine steps_cons ?_ ?_
   · rintro b a w' ⟨v153, v156, v159, m5_, ha, Q_BK151, Q_HB, Q_HO154, Q_HO157, Q_HO160, Q_X5_⟩ hb_ hon hoff
     refine ⟨_, rfl, fun K hK => ?_⟩
     have e5 : a.tmps[5]? = some (.slice A0 l0.length c0) := by rw [ha]; exact (putSel_off rfl).trans rfl
     replace ha := Aside0.mk ha
     have BK151 := Aside0.mk Q_BK151
     have HB := Aside0.mk Q_HB
     refine goes_ Try.func19 (by kernel_rfl) rfl #[.slice A0 l0.length c0] (by rfl) rfl rfl (by first | (simp only [List.map_toArray, List.map_cons, List.map_nil, Act.eval, Array.getD_eq_getD_getElem?, Option.getD_some, e5]; done) | (simp only [List.map_toArray, List.map_cons, List.map_nil, Act.eval, Array.getD_eq_getD_getElem?, Option.getD_some, e5]; rfl)) ?_
     with_reducible refine (damage_Flat.calls k _ _ l0 t152 _ ?side1 ?side2 A3.out).mono ?_
     (case side1 => repeat (first | exact (Kd.C_below HR0.out HB.out) | (with_reducible refine Kd.C_alloc ?_ _) | (with_reducible refine Kd.C_drewN ?_ _) | (with_reducible refine Kd.C_drew ?_)))
     (case side2 => exact HC0.out)
     rintro e w7 ⟨v153, rfl, ho0, hb⟩
     refine ⟨_, rfl, ?_⟩
     have n0_ := Aside0.mk (Kd.V_lower (Kd.V_mono (ok' := fun k_ => (w.heap.size ≤ k_) ∧ k_ ≠ gb151) ho0 (fun k_ hk_ => ⟨(Nat.le_trans (pbZ (by repeat (first | (with_reducible first | exact HB.out | apply pbA | apply pbN | apply pbD | refine pbS ?_ GE151.out) | exact HB.out))) hk_), (Kd.freshB (g := gb151) (o := .cells #[.int .i64 a1_0, .int .i64 a1_1, .int .i64 a1_2, .int .i64 a1_3] 26 (0, 0)) (by (with_reducible repeat (first | refine bkN ?_ _ | refine bkD ?_ | refine bkA ?_ _)); exact BK151.out) k_ hk_)⟩)) (pbZ (by repeat (first | (with_reducible first | exact HB.out | apply pbA | apply pbN | apply pbD | refine pbS ?_ GE151.out) | exact HB.out))))
     have n1_ := Aside0.mk (bkB (g := gb151) (o := .cells #[.int .i64 a1_0, .int .i64 a1_1, .int .i64 a1_2, .int .i64 a1_3] 26 (0, 0)) (by (with_reducible repeat (first | refine bkN ?_ _ | refine bkD ?_ | refine bkA ?_ _)); exact BK151.out) hb)
     have n2_ := Aside0.mk (pbP (by repeat (first | (with_reducible first | exact HB.out | apply pbA | apply pbN | apply pbD | refine pbS ?_ GE151.out) | exact HB.out)) hb)
     have z_HO157 := fun (h0_ : b 3 = true) => (show Kd.R k26 26 w7 w.heap.size (fun k_ => (w.heap.size ≤ k_) ∧ k_ ≠ gb151) v156 y155 from by first | exact (Kd.R_below (by (with_reducible repeat (first | apply Kd.R_alloc | apply Kd.R_drewN | apply Kd.R_drew)); exact (Q_HO157 h0_)) hb) | exact Kd.R_mono (Kd.R_below (by (with_reducible repeat (first | apply Kd.R_alloc | apply Kd.R_drewN | apply Kd.R_drew)); exact (Q_HO157 h0_)) hb) (fun _ h_ => by first | trivial | exact h_ | exact h_.1))
     clear BK151
     clear HB
     have HO154 := n0_
     have BK151 := n1_
     have HB := n2_
     clear n0_ n1_ n2_
     (try clear hb)
     (try clear hb2)
     (try clear hk)
     (try clear hi)
     (try clear ho0)
     refine hK.out _ _ ⟨v153, v156, v159, m5_, (by rw [ha.out]; exact putSel_upk 0 hb_ rfl rfl rfl), (by (with_reducible repeat (first | refine bkN ?_ _ | refine bkD ?_ | refine bkA ?_ _)); exact BK151.out), (by repeat (first | (with_reducible first | exact HB.out | apply pbA | apply pbN | apply pbD | refine pbS ?_ GE151.out) | exact HB.out)), fun _ => (by (with_reducible repeat (first | apply Kd.V_alloc | apply Kd.V_drewN | apply Kd.V_drew)); exact HO154.out), z_HO157, fun h0_ => absurd ((hoff 4 (by kernel_rfl)).symm.trans h0_) (by decide), fun h0_ => absurd ((hoff 5 (by kernel_rfl)).symm.trans h0_) (by decide)⟩
   refine steps_cons ?_ ?_
   · rintro b a w' ⟨v153, v156, v159, m5_, ha, Q_BK151, Q_HB, Q_HO154, Q_HO157, Q_HO160, Q_X5_⟩ hb_ hon hoff
     refine ⟨_, rfl, fun K hK => ?_⟩
     have e3 : a.tmps[3]? = some (.pointer (some ⟨gb151, 0, none⟩)) := by rw [ha]; exact (putSel_off rfl).trans rfl
     replace ha := Aside0.mk ha
     have BK151 := Aside0.mk Q_BK151
     have HB := Aside0.mk Q_HB
     have hc0_ : w'.cell? ⟨gb151, 0, none⟩ = some (.int .i64 a1_0) := (bkC BK151.out 0).trans rfl
     have hc1_ : w'.cell? ⟨gb151, 1, none⟩ = some (.int .i64 a1_1) := (bkC BK151.out 1).trans rfl
     have hc2_ : w'.cell? ⟨gb151, 2, none⟩ = some (.int .i64 a1_2) := (bkC BK151.out 2).trans rfl
     have hc3_ : w'.cell? ⟨gb151, 3, none⟩ = some (.int .i64 a1_3) := (bkC BK151.out 3).trans rfl
     refine value_ (w1 := w') (v := .agg #[.int .i64 a1_0, .int .i64 a1_1, .int .i64 a1_2, .int .i64 a1_3]) (by rfl) rfl ?_ ?_
     · go_simp
       (try simp only [i64_w])
       try rfl
     refine hK.out _ _ ⟨v153, v156, v159, m5_, (by rw [ha.out]; exact putSel_upk 1 hb_ rfl rfl rfl), Q_BK151, Q_HB, Q_HO154, fun h0_ => absurd ((hoff 3 (by kernel_rfl)).symm.trans h0_) (by decide), fun h0_ => absurd ((hoff 4 (by kernel_rfl)).symm.trans h0_) (by decide), fun h0_ => absurd ((hoff 5 (by kernel_rfl)).symm.trans h0_) (by decide)⟩
   refine steps_cons ?_ ?_
   · rintro b a w' ⟨v153, v156, v159, m5_, ha, Q_BK151, Q_HB, Q_HO154, Q_HO157, Q_HO160, Q_X5_⟩ hb_ hon hoff
     refine ⟨_, rfl, fun K hK => ?_⟩
     have e7 : a.tmps[7]? = some (.agg #[.int .i64 a1_0, .int .i64 a1_1, .int .i64 a1_2, .int .i64 a1_3]) := by rw [ha]; exact putSel_on (e := (2, 7, .agg #[.int .i64 a1_0, .int .i64 a1_1, .int .i64 a1_2, .int .i64 a1_3])) 1 rfl rfl (hon 2 (by kernel_rfl)) rfl
     replace ha := Aside0.mk ha
     have BK151 := Aside0.mk Q_BK151
     have HB := Aside0.mk Q_HB
     refine Kd.R_lit_step k26 _ 26 ?hg (N := 8) ?hd (xs := ([(⟨a1_0, a1_1, a1_2, a1_3⟩ : S26)] : List (S26))) (inner := [.int .i64 a1_0, .int .i64 a1_1, .int .i64 a1_2, .int .i64 a1_3]) (ok := fun _ => True) (okp := fun _ => True) ?hr ?hp (fun _ hk => hk) trivial (Below.refl _ _) (Nat.le_refl _) (by simp) ?_; (case hd => rfl); (case hg => rfl); (case hr => first | (go_simp; done) | (go_simp; rfl)); (case hp => exact (Reps.c4 (show Kd.M k26 _ _ _ (⟨a1_0, a1_1, a1_2, a1_3⟩ : S26) [.int .i64 a1_0, .int .i64 a1_1, .int .i64 a1_2, .int .i64 a1_3] from (k26_mkM _ _ _ (⟨a1_0, a1_1, a1_2, a1_3⟩ : S26) )) (Reps.none _ _)))
     intro v156 w7 ho8 hb hg_ hnew_
     clear hg_ hnew_
     (first | rw [← Ny155.out] at ho8 | (simp only [Int.reduceToNat] at ho8; rw [← Ny155.out] at ho8))
     have n0_ := Aside0.mk (Kd.R_lower (Kd.R_newB (Kd.R_newM (M := fun k_ => (w.heap.size ≤ k_)) ho8 (pbZ (by repeat (first | (with_reducible first | exact HB.out | apply pbA | apply pbN | apply pbD | refine pbS ?_ GE151.out) | exact HB.out))) (fun k_ h_ => h_)) (g := gb151) (o := .cells #[.int .i64 a1_0, .int .i64 a1_1, .int .i64 a1_2, .int .i64 a1_3] 26 (0, 0)) (by (with_reducible repeat (first | refine bkN ?_ _ | refine bkD ?_ | refine bkA ?_ _)); exact BK151.out)) (pbZ (by repeat (first | (with_reducible first | exact HB.out | apply pbA | apply pbN | apply pbD | refine pbS ?_ GE151.out) | exact HB.out))))
     have n1_ := Aside0.mk (bkB (g := gb151) (o := .cells #[.int .i64 a1_0, .int .i64 a1_1, .int .i64 a1_2, .int .i64 a1_3] 26 (0, 0)) (by (with_reducible repeat (first | refine bkN ?_ _ | refine bkD ?_ | refine bkA ?_ _)); exact BK151.out) hb)
     have n2_ := Aside0.mk (pbP (by repeat (first | (with_reducible first | exact HB.out | apply pbA | apply pbN | apply pbD | refine pbS ?_ GE151.out) | exact HB.out)) hb)
     have z_HO154 := fun (h0_ : b 1 = true) => (show Kd.V k26 26 w7 w.heap.size (fun k_ => (w.heap.size ≤ k_) ∧ k_ ≠ gb151) v153 t152 from by first | exact (Kd.V_elder' (by (with_reducible repeat (first | apply Kd.V_alloc | apply Kd.V_drewN | apply Kd.V_drew)); exact (Q_HO154 h0_)) (Kd.R_base ho8) hb) | exact Kd.V_mono (Kd.V_elder' (by (with_reducible repeat (first | apply Kd.V_alloc | apply Kd.V_drewN | apply Kd.V_drew)); exact (Q_HO154 h0_)) (Kd.R_base ho8) hb) (fun _ h_ => by first | trivial | exact h_ | exact h_.1))
     clear BK151
     clear HB
     have HO157 := n0_
     have BK151 := n1_
     have HB := n2_
     clear n0_ n1_ n2_
     clear hb ho8
     refine hK.out _ _ ⟨v153, v156, v159, m5_, (by rw [ha.out]; exact putSel_upk 2 hb_ rfl rfl rfl), (by (with_reducible repeat (first | refine bkN ?_ _ | refine bkD ?_ | refine bkA ?_ _)); exact BK151.out), (by repeat (first | (with_reducible first | exact HB.out | apply pbA | apply pbN | apply pbD | refine pbS ?_ GE151.out) | exact HB.out)), z_HO154, fun _ => (by (with_reducible repeat (first | apply Kd.R_alloc | apply Kd.R_drewN | apply Kd.R_drew)); exact Kd.R_mono HO157.out (fun _ hk => ⟨hk.1.1, hk.2⟩)), fun h0_ => absurd ((hoff 4 (by kernel_rfl)).symm.trans h0_) (by decide), fun h0_ => absurd ((hoff 5 (by kernel_rfl)).symm.trans h0_) (by decide)⟩
   refine steps_cons ?_ ?_
   · rintro b a w' ⟨v153, v156, v159, m5_, ha, Q_BK151, Q_HB, Q_HO154, Q_HO157, Q_HO160, Q_X5_⟩ hb_ hon hoff
     refine ⟨_, rfl, fun K hK => ?_⟩
     have e6 : a.tmps[6]? = some (v153) := by rw [ha]; exact putSel_on (e := (1, 6, v153)) 0 rfl rfl (hon 1 (by kernel_rfl)) rfl
     have e8 : a.tmps[8]? = some (v156) := by rw [ha]; exact putSel_on (e := (3, 8, v156)) 2 rfl rfl (hon 3 (by kernel_rfl)) rfl
     replace ha := Aside0.mk ha
     have BK151 := Aside0.mk Q_BK151
     have HB := Aside0.mk Q_HB
     have HO154 := Aside0.mk (Q_HO154 (hon 1 (by kernel_rfl)))
     have HO157 := Aside0.mk (Q_HO157 (hon 3 (by kernel_rfl)))
     obtain ⟨Ao11, co11, eo11⟩ := Kd.V_slice HO154.out
     (first | subst eo11 | (injection eo11 with f1_ f2_ f3_; have f4_ := f1_.symm; have f5_ := f3_.symm; clear f1_ f2_ f3_; subst f4_; subst f5_))
     obtain ⟨Ao12, co12, eo12⟩ := Kd.R_slice HO157.out
     (first | subst eo12 | (injection eo12 with f1_ f2_ f3_; have f4_ := f1_.symm; have f5_ := f3_.symm; clear f1_ f2_ f3_; subst f4_; subst f5_))
     refine goes_ Try.func54 (by kernel_rfl) rfl #[.slice Ao11 t152.length co11, .slice Ao12 y155.length co12] (by rfl) rfl rfl (by first | (simp only [List.map_toArray, List.map_cons, List.map_nil, Act.eval, Array.getD_eq_getD_getElem?, Option.getD_some, e6, e8]; done) | (simp only [List.map_toArray, List.map_cons, List.map_nil, Act.eval, Array.getD_eq_getD_getElem?, Option.getD_some, e6, e8]; rfl)) ?_
     with_reducible refine (damage_add.calls k (fun k_ => ((w.heap.size ≤ k_) ∧ k_ ≠ gb151)) _ _ t152 _ _ y155 t158 _ ?side1 ?side2 ?side3 A4.out).mono ?_
     (case side1 => exact HO154.out)
     (case side2 => repeat (first | exact (Kd.R_reads' HO157.out).2.2 | (with_reducible refine Kd.C_alloc ?_ _) | (with_reducible refine Kd.C_drewN ?_ _) | (with_reducible refine Kd.C_drew ?_)))
     (case side3 => exact (Kd.R_reads' HO157.out).2.1)
     rintro e w13 ⟨v159, rfl, ho0, hb⟩
     refine ⟨_, rfl, ?_⟩
     have n0_ := Aside0.mk (Kd.V_below (by (with_reducible repeat (first | apply Kd.V_alloc | apply Kd.V_drewN | apply Kd.V_drew)); exact HO154.out) hb)
     have n1_ := Aside0.mk (Kd.R_below (by (with_reducible repeat (first | apply Kd.R_alloc | apply Kd.R_drewN | apply Kd.R_drew)); exact HO157.out) hb)
     have n2_ := Aside0.mk (Kd.V_lower (Kd.V_mono (ok' := fun k_ => (w.heap.size ≤ k_) ∧ k_ ≠ gb151) ho0 (fun k_ hk_ => ⟨Or.elim hk_ (fun hs_ => hs_.1) (fun hn_ => (Nat.le_trans (pbZ (by repeat (first | (with_reducible first | exact HB.out | apply pbA | apply pbN | apply pbD | refine pbS ?_ GE151.out) | exact HB.out))) hn_)), Or.elim hk_ (fun hs_ => hs_.2) (fun hn_ => (Kd.freshB (g := gb151) (o := .cells #[.int .i64 a1_0, .int .i64 a1_1, .int .i64 a1_2, .int .i64 a1_3] 26 (0, 0)) (by (with_reducible repeat (first | refine bkN ?_ _ | refine bkD ?_ | refine bkA ?_ _)); exact BK151.out) k_ hn_))⟩)) (pbZ (by repeat (first | (with_reducible first | exact HB.out | apply pbA | apply pbN | apply pbD | refine pbS ?_ GE151.out) | exact HB.out))))
     have n3_ := Aside0.mk (bkB (g := gb151) (o := .cells #[.int .i64 a1_0, .int .i64 a1_1, .int .i64 a1_2, .int .i64 a1_3] 26 (0, 0)) (by (with_reducible repeat (first | refine bkN ?_ _ | refine bkD ?_ | refine bkA ?_ _)); exact BK151.out) hb)
     have n4_ := Aside0.mk (pbP (by repeat (first | (with_reducible first | exact HB.out | apply pbA | apply pbN | apply pbD | refine pbS ?_ GE151.out) | exact HB.out)) hb)
     clear HO154
     clear HO157
     clear BK151
     clear HB
     have HO154 := n0_
     have HO157 := n1_
     have HO160 := n2_
     have BK151 := n3_
     have HB := n4_
     clear n0_ n1_ n2_ n3_ n4_
     (try clear hb)
     (try clear hb2)
     (try clear hk)
     (try clear hi)
     (try clear ho0)
     refine hK.out _ _ ⟨.slice Ao11 t152.length co11, .slice Ao12 y155.length co12, v159, m5_, (by rw [ha.out]; exact putSel_upk 3 hb_ rfl rfl rfl), (by (with_reducible repeat (first | refine bkN ?_ _ | refine bkD ?_ | refine bkA ?_ _)); exact BK151.out), (by repeat (first | (with_reducible first | exact HB.out | apply pbA | apply pbN | apply pbD | refine pbS ?_ GE151.out) | exact HB.out)), fun _ => (by (with_reducible repeat (first | apply Kd.V_alloc | apply Kd.V_drewN | apply Kd.V_drew)); exact HO154.out), fun _ => (by (with_reducible repeat (first | apply Kd.R_alloc | apply Kd.R_drewN | apply Kd.R_drew)); exact HO157.out), fun _ => (by (with_reducible repeat (first | apply Kd.V_alloc | apply Kd.V_drewN | apply Kd.V_drew)); exact HO160.out), fun h0_ => absurd ((hoff 5 (by kernel_rfl)).symm.trans h0_) (by decide)⟩
   refine steps_cons ?_ ?_
   · rintro b a w' ⟨v153, v156, v159, m5_, ha, Q_BK151, Q_HB, Q_HO154, Q_HO157, Q_HO160, Q_X5_⟩ hb_ hon hoff
     refine ⟨_, rfl, fun K hK => ?_⟩
     have e9 : a.tmps[9]? = some (v159) := by rw [ha]; exact putSel_on (e := (4, 9, v159)) 3 rfl rfl (hon 4 (by kernel_rfl)) rfl
     replace ha := Aside0.mk ha
     have BK151 := Aside0.mk Q_BK151
     have HB := Aside0.mk Q_HB
     have HO154 := Aside0.mk (Q_HO154 (hon 1 (by kernel_rfl)))
     have HO157 := Aside0.mk (Q_HO157 (hon 3 (by kernel_rfl)))
     have HO160 := Aside0.mk (Q_HO160 (hon 4 (by kernel_rfl)))
     refine value_ (w1 := w') (v := v159) (by rfl) rfl ?_ ?_
     · go_simp
       (try simp only [i64_w])
       try rfl
     refine hK.out _ _ ⟨v153, v156, v159, (v159), (by rw [ha.out]; exact putSel_upk 4 hb_ rfl rfl rfl), Q_BK151, Q_HB, Q_HO154, Q_HO157, Q_HO160, fun _ => rfl⟩
   exact steps_nil
 rintro b a w13 hall ⟨v153, v156, v159, m5_, ha, Q_BK151, Q_HB, Q_HO154, Q_HO157, Q_HO160, Q_X5_⟩
 clear BK151 HB
 have hb1_ := hall 1 (by kernel_rfl)
 have hb2_ := hall 2 (by kernel_rfl)
 have hb3_ := hall 3 (by kernel_rfl)
 have hb4_ := hall 4 (by kernel_rfl)
 have hb5_ := hall 5 (by kernel_rfl)
 subst ha
 obtain rfl := Q_X5_ hb5_
 simp only [putSel, hb1_, hb2_, hb3_, hb4_, hb5_, if_true, Act.put, List.setIfInBounds_toArray, List.set_cons_zero, List.set_cons_succ]
 have BK151 := Aside0.mk Q_BK151
 clear Q_BK151
 have HB := Aside0.mk Q_HB
 clear Q_HB
 have HO154 := Aside0.mk (Q_HO154 hb1_)
 clear Q_HO154
 have HO157 := Aside0.mk (Q_HO157 hb3_)
 clear Q_HO157
 have HO160 := Aside0.mk (Q_HO160 hb4_)
 clear Q_HO160
 clear hall hb1_ hb2_ hb3_ hb4_ hb5_
 try go_wp2
 go_ret
 exact ⟨_, by first | rfl | (simp [errW_none, errW_some] <;> rfl) | (simp [*, errW_none, errW_some] <;> rfl), by (with_reducible repeat (first | apply Kd.V_alloc | apply Kd.V_drewN | apply Kd.V_drew)); exact Kd.V_mono HO160.out (fun _ hk => hk.1), by repeat (first | (with_reducible first | exact HB.out | apply pbA | apply pbN | apply pbD | refine pbS ?_ GE151.out) | exact HB.out)⟩

/-! ### repaint_dirt: function 70 -/
mutual
def repaint_dirt.l0 : Nat → List (S26) → List (S52) → Int → Int → Int → Int → Int → Int → Int → Int → Option ((List (S26)))
 | 0, _, _, _, _, _, _, _, _, _, _ => none
 | k + 1, x0, x16, x17, x18, x166000, x166001, x166002, x166003, x166004, x166005 => if x18 < x17 then (if 0 ≤ x18 then (if x18 < (x16.length : Int) then (if ((rd_T52 x16 x18).f0) = x166000 then (repaint_dirt.l1 k x0 x16 x17 x18 ((rd_T52 x16 x18).f1) (((rd_T52 x16 x18).f1).length : Int) 0 x166000 x166001 x166002 x166003 x166004 x166005) else (repaint_dirt.l0 k x0 x16 x17 (wrap64 (x18 + 1)) x166000 x166001 x166002 x166003 x166004 x166005)) else (none)) else (none)) else (some x0)
def repaint_dirt.l1 : Nat → List (S26) → List (S52) → Int → Int → List (S26) → Int → Int → Int → Int → Int → Int → Int → Int → Option ((List (S26)))
 | 0, _, _, _, _, _, _, _, _, _, _, _, _, _ => none
 | k + 1, x0, x16, x17, x18, x28, x29, x30, x166000, x166001, x166002, x166003, x166004, x166005 => if x30 < x29 then (if 0 ≤ x30 then (if x30 < (x28.length : Int) then ((rect_Bound.f ((rd_T26 x28 x30).f0) ((rd_T26 x28 x30).f1) ((rd_T26 x28 x30).f2) ((rd_T26 x28 x30).f3)).bind fun bt175 => ((rect_Shift.f bt175.1 bt175.2.1 bt175.2.2.1 bt175.2.2.2 x166002 x166003).bind fun bt179 => ((repaint_of.f x166000 x166001 x166002 x166003 x166004 x166005).bind fun bt183 => ((rect_Cut.f bt179.1 bt179.2.1 bt179.2.2.1 bt179.2.2.2 bt183.1 bt183.2.1 bt183.2.2.1 bt183.2.2.2).bind fun bt187 => ((damage_Add.f k x0 bt187.1 bt187.2.1 bt187.2.2.1 bt187.2.2.2).bind fun t191 => (repaint_dirt.l1 k t191 x16 x17 x18 x28 x29 (wrap64 (x30 + 1)) x166000 x166001 x166002 x166003 x166004 x166005)))))) else (none)) else (none)) else (repaint_dirt.l0 k x0 x16 x17 (wrap64 (x18 + 1)) x166000 x166001 x166002 x166003 x166004 x166005)
end
def repaint_dirt.f (k : Nat) (l0 : List (S26)) (a1_0 : Int) (a1_1 : Int) (a1_2 : Int) (a1_3 : Int) (a1_4 : Int) (a1_5 : Int) (l2 : List (S52)) : Option ((List (S26))) := (repaint_of.f a1_0 a1_1 a1_2 a1_3 a1_4 a1_5).bind fun bt166 => ((rect_Check.f bt166.1 bt166.2.1 bt166.2.2.1 bt166.2.2.2).bind fun t170 => (if t170 = true then (repaint_dirt.l0 k l0 l2 (l2.length : Int) 0 a1_0 a1_1 a1_2 a1_3 a1_4 a1_5) else (some l0)))
theorem repaint_dirt.mono_l : ∀ k, (∀ y0 y1 y2 y3 y4 y5 y6 y7 y8 y9, LeO (repaint_dirt.l0 k y0 y1 y2 y3 y4 y5 y6 y7 y8 y9) (repaint_dirt.l0 (k + 1) y0 y1 y2 y3 y4 y5 y6 y7 y8 y9)) ∧ (∀ y0 y1 y2 y3 y4 y5 y6 y7 y8 y9 y10 y11 y12, LeO (repaint_dirt.l1 k y0 y1 y2 y3 y4 y5 y6 y7 y8 y9 y10 y11 y12) (repaint_dirt.l1 (k + 1) y0 y1 y2 y3 y4 y5 y6 y7 y8 y9 y10 y11 y12))
 | 0 => ⟨fun _ _ _ _ _ _ _ _ _ _ r h => by simp [repaint_dirt.l0] at h, fun _ _ _ _ _ _ _ _ _ _ _ _ _ r h => by simp [repaint_dirt.l1] at h⟩
 | k + 1 => by
  obtain ⟨ih0, ih1⟩ := repaint_dirt.mono_l k
  refine ⟨?_, ?_⟩
  · intro y0 y1 y2 y3 y4 y5 y6 y7 y8 y9
    unfold repaint_dirt.l0
    repeat' first
    | (with_reducible exact ih0 _ _ _ _ _ _ _ _ _ _)
    | (with_reducible exact ih1 _ _ _ _ _ _ _ _ _ _ _ _ _)
    | (with_reducible exact damage_Add.mono _ _ _ _ _ _)
    | (with_reducible exact LeO.refl _)
    | (with_reducible exact LeO.none _)
    | (with_reducible refine LeO.ite ?_ ?_)
    | (with_reducible refine LeO.bind ?_ (fun _ => ?_))
    | exact ih0 _ _ _ _ _ _ _ _ _ _
    | exact ih1 _ _ _ _ _ _ _ _ _ _ _ _ _
    | exact damage_Add.mono _ _ _ _ _ _
    | exact LeO.none _
    | refine LeO.ite ?_ ?_
    | refine LeO.bind ?_ (fun _ => ?_)
  · intro y0 y1 y2 y3 y4 y5 y6 y7 y8 y9 y10 y11 y12
    unfold repaint_dirt.l1
    repeat' first
    | (with_reducible exact ih0 _ _ _ _ _ _ _ _ _ _)
    | (with_reducible exact ih1 _ _ _ _ _ _ _ _ _ _ _ _ _)
    | (with_reducible exact damage_Add.mono _ _ _ _ _ _)
    | (with_reducible exact LeO.refl _)
    | (with_reducible exact LeO.none _)
    | (with_reducible refine LeO.ite ?_ ?_)
    | (with_reducible refine LeO.bind ?_ (fun _ => ?_))
    | exact ih0 _ _ _ _ _ _ _ _ _ _
    | exact ih1 _ _ _ _ _ _ _ _ _ _ _ _ _
    | exact damage_Add.mono _ _ _ _ _ _
    | exact LeO.none _
    | refine LeO.ite ?_ ?_
    | refine LeO.bind ?_ (fun _ => ?_)
theorem repaint_dirt.mono : ∀ a0 a1 a2 a3 a4 a5 a6 a7 k, LeO (repaint_dirt.f k a0 a1 a2 a3 a4 a5 a6 a7) (repaint_dirt.f (k + 1) a0 a1 a2 a3 a4 a5 a6 a7) := by
 intro a0 a1 a2 a3 a4 a5 a6 a7 k
 obtain ⟨ih0, ih1⟩ := repaint_dirt.mono_l k
 unfold repaint_dirt.f
 repeat' first
  | (with_reducible exact ih0 _ _ _ _ _ _ _ _ _ _)
  | (with_reducible exact ih1 _ _ _ _ _ _ _ _ _ _ _ _ _)
  | (with_reducible exact damage_Add.mono _ _ _ _ _ _)
  | (with_reducible exact LeO.refl _)
  | (with_reducible exact LeO.none _)
  | (with_reducible refine LeO.ite ?_ ?_)
  | (with_reducible refine LeO.bind ?_ (fun _ => ?_))
  | exact ih0 _ _ _ _ _ _ _ _ _ _
  | exact ih1 _ _ _ _ _ _ _ _ _ _ _ _ _
  | exact damage_Add.mono _ _ _ _ _ _
  | exact LeO.none _
  | refine LeO.ite ?_ ?_
  | refine LeO.bind ?_ (fun _ => ?_)
def repaint_dirt.T10 : Bool × List (List Nat × List Nat) := (true, [([], []), ([], []), ([1], [1]), ([], []), ([3], [3]), ([], []), ([5], [5]), ([2, 4, 6, 2], [2, 4, 6]), ([], []), ([8, 7], [8]), ([7, 9, 9], [7, 9]), ([0, 10, 10], [0, 10]), ([11, 11, 0, 1, 2, 3, 4, 5, 6, 7, 8, 9, 10, 11], [0, 11])])
def repaint_dirt.B10 : List Nat := [0, 0, 2, 0, 8, 0, 32, 126, 0, 510, 1022, 2047, 4095]
theorem repaint_dirt.tab10 : rtab .any (opsOf Try.f70 10) = repaint_dirt.T10 := by kernel_rfl
theorem repaint_dirt.bits10 : waitsOk repaint_dirt.T10.2 repaint_dirt.B10 = true := by kernel_rfl
set_option maxHeartbeats 8000000 in
set_option maxRecDepth 100000 in
theorem repaint_dirt.calls (k : Nat) (P0_ : Nat → Prop) (A0 : Option Addr) (c0 : Nat) (l0 : List (S26)) (a1_0 : Int) (a1_1 : Int) (a1_2 : Int) (a1_3 : Int) (a1_4 : Int) (a1_5 : Int) (A2 : Option Addr) (c2 : Nat) (l2 : List (S52)) (r : List (S26)) (w : World) (hs0 : Kd.V k26 26 w w.heap.size (fun k_ => P0_ k_) (.slice A0 l0.length c0) l0) (hr2 : Kd.C k52 w A2 l2.length l2) (hc2 : l2.length ≤ c2) (h : repaint_dirt.f k l0 a1_0 a1_1 a1_2 a1_3 a1_4 a1_5 l2 = some r) :
 Calls Try.prog 70 #[.slice A0 l0.length c0, .agg #[.int .i64 a1_0, .int .i64 a1_1, .int .i64 a1_2, .int .i64 a1_3, .int .i64 a1_4, .int .i64 a1_5], .slice A2 l2.length c2] w fun e w' => ∃ v0_ : Value, e = .returned (v0_) ∧ Kd.V k26 26 w' w.heap.size (fun k_ => (P0_ k_ ∨ w.heap.size ≤ k_)) v0_ r ∧ Below w.heap.size w w' := by
 have hu54 := Try.underlying54
 have hu52 := Try.underlying52
 have hu26 := Try.underlying26
 have HO0 := Aside0.mk (show Kd.V k26 26 w w.heap.size (fun k_ => (P0_ k_ ∨ w.heap.size ≤ k_)) (.slice A0 l0.length c0) l0 from Kd.V_mono hs0 (fun k_ hk => .inl hk))
 have HR2 := Aside0.mk hr2
 have HC2 := Aside0.mk hc2
 clear hr2 hc2
 have HB := Aside0.mk (Below.refl w.heap.size w)
 have H : ((repaint_of.f a1_0 a1_1 a1_2 a1_3 a1_4 a1_5).bind fun bt166 => ((rect_Check.f bt166.1 bt166.2.1 bt166.2.2.1 bt166.2.2.2).bind fun t170 => (if t170 = true then (repaint_dirt.l0 k l0 l2 (l2.length : Int) 0 a1_0 a1_1 a1_2 a1_3 a1_4 a1_5) else (some l0)))) = some r := h
 clear h
 replace H := Option.bind_eq_some_iff.mp H
 obtain ⟨⟨t166, t167, t168, t169⟩, A40, H⟩ := H
 replace H : ((rect_Check.f t166 t167 t168 t169).bind fun t170 => (if t170 = true then (repaint_dirt.l0 k l0 l2 (l2.length : Int) 0 a1_0 a1_1 a1_2 a1_3 a1_4 a1_5) else (some l0))) = some r := H
 have A4 := Aside0.mk A40
 clear A40
 replace H := Option.bind_eq_some_iff.mp H
 obtain ⟨t170, A50, H⟩ := H
 replace H : (if t170 = true then (repaint_dirt.l0 k l0 l2 (l2.length : Int) 0 a1_0 a1_1 a1_2 a1_3 a1_4 a1_5) else (some l0)) = some r := H
 have A5 := Aside0.mk A50
 clear A50
 by_cases c6 : t170 = true
 · subst c6
   have H1 : (repaint_dirt.l0 k l0 l2 (l2.length : Int) 0 a1_0 a1_1 a1_2 a1_3 a1_4 a1_5) = some r := by rw [if_pos rfl] at H; exact H
   clear H
   have H := H1
   clear H1
   have H' := Aside0.mk H
   clear H
   go_enter Try.func70, Try.ntmps70
   go_wp2_with (first | ((with_reducible refine gate_dst (N := 4) rfl ?_); refine box_event ?hg (N := 4) ?hd (cs := #[.int .i64 a1_0, .int .i64 a1_1, .int .i64 a1_2, .int .i64 a1_3, .int .i64 a1_4, .int .i64 a1_5]) (t := 54) ?hr ?_; (case hd => rfl); (case hg => rfl); (case hr => first | (go_simp; done) | (go_simp; rfl)); intro gb165 hg w7 hbox hb; have n0_ := Aside0.mk (Kd.V_below (Kd.V_elderB (by (with_reducible repeat (first | apply Kd.V_alloc | apply Kd.V_drewN | apply Kd.V_drew)); exact HO0.out) gb165 (Nat.le_of_eq hg.symm)) hb); have n1_ := Aside0.mk (pbP (by repeat (first | (with_reducible first | exact HB.out | apply pbA | apply pbN | apply pbD) | exact HB.out)) hb); have n2_ := Aside0.mk (hbox); have n3_ := Aside0.mk ((by rw [hg]; exact (pbZ (by repeat (first | (with_reducible first | exact HB.out | apply pbA | apply pbN | apply pbD) | exact HB.out))) : w.heap.size ≤ gb165)); have n4_ := Aside0.mk ((by rw [hg]; exact (pbZ (by repeat (first | (with_reducible first | exact HB.out | apply pbA | apply pbN | apply pbD) | exact HB.out))) : w.heap.size ≤ gb165)); clear HO0; clear HB; have HO0 := n0_; have HB := n1_; have BK165 := n2_; have GW165 := n3_; have GE165 := n4_; clear n0_ n1_ n2_ n3_ n4_; clear hb hbox hg; have hcz8_0 : w7.cell? ⟨gb165, 0, none⟩ = some (.int .i64 a1_0) := (bkC BK165.out 0).trans rfl; have hcz8_1 : w7.cell? ⟨gb165, 1, none⟩ = some (.int .i64 a1_1) := (bkC BK165.out 1).trans rfl; have hcz8_2 : w7.cell? ⟨gb165, 2, none⟩ = some (.int .i64 a1_2) := (bkC BK165.out 2).trans rfl; have hcz8_3 : w7.cell? ⟨gb165, 3, none⟩ = some (.int .i64 a1_3) := (bkC BK165.out 3).trans rfl; have hcz8_4 : w7.cell? ⟨gb165, 4, none⟩ = some (.int .i64 a1_4) := (bkC BK165.out 4).trans rfl; have hcz8_5 : w7.cell? ⟨gb165, 5, none⟩ = some (.int .i64 a1_5) := (bkC BK165.out 5).trans rfl; have hfz8_0 := bkF BK165.out 0; have hfz8_1 := bkF BK165.out 1; have hfz8_2 := bkF BK165.out 2; have hfz8_3 := bkF BK165.out 3; have hfz8_4 := bkF BK165.out 4; have hfz8_5 := bkF BK165.out 5) | ((with_reducible refine gate_callee (f := 71) rfl ?_); refine goesL_ (some 12) rfl rfl Try.func71 (by kernel_rfl) rfl #[.agg #[.int .i64 a1_0, .int .i64 a1_1, .int .i64 a1_2, .int .i64 a1_3, .int .i64 a1_4, .int .i64 a1_5]] rfl (by (try simp only [List.map_toArray, List.map_cons, List.map_nil]); first | done | rfl | (simp only [List.length_drop, List.length_take]; rfl)) ?_; (with_reducible refine (repaint_of.calls a1_0 a1_1 a1_2 a1_3 a1_4 a1_5 t166 t167 t168 t169 _ A4.out).mono ?_); rintro e w9 ⟨rfl, hb⟩; refine ⟨_, rfl, ?_⟩; have n0_ := Aside0.mk (Kd.V_below (by (with_reducible repeat (first | apply Kd.V_alloc | apply Kd.V_drewN | apply Kd.V_drew)); exact HO0.out) hb); have n1_ := Aside0.mk (bkB (g := gb165) (o := .cells #[.int .i64 a1_0, .int .i64 a1_1, .int .i64 a1_2, .int .i64 a1_3, .int .i64 a1_4, .int .i64 a1_5] 54 (0, 0)) (by (with_reducible repeat (first | refine bkN ?_ _ | refine bkD ?_ | refine bkA ?_ _)); exact BK165.out) hb); have n2_ := Aside0.mk (pbP (by repeat (first | (with_reducible first | exact HB.out | apply pbA | apply pbN | apply pbD | refine pbS ?_ GE165.out) | exact HB.out)) hb); clear HO0; clear BK165; clear HB; have HO0 := n0_; have BK165 := n1_; have HB := n2_; clear n0_ n1_ n2_; (try clear hb); (try clear hb2); (try clear hk); (try clear hi)) | ((with_reducible refine gate_callee (f := 79) rfl ?_); refine goesL_ (some 13) rfl rfl Try.func79 (by kernel_rfl) rfl #[.agg #[.int .i64 t166, .int .i64 t167, .int .i64 t168, .int .i64 t169]] rfl (by (try simp only [List.map_toArray, List.map_cons, List.map_nil]); first | done | rfl | (simp only [List.length_drop, List.length_take]; rfl)) ?_; (with_reducible refine (rect_Check.calls t166 t167 t168 t169 true _ A5.out).mono ?_); rintro e w10 ⟨rfl, hb⟩; refine ⟨_, rfl, ?_⟩; have n0_ := Aside0.mk (Kd.V_below (by (with_reducible repeat (first | apply Kd.V_alloc | apply Kd.V_drewN | apply Kd.V_drew)); exact HO0.out) hb); have n1_ := Aside0.mk (bkB (g := gb165) (o := .cells #[.int .i64 a1_0, .int .i64 a1_1, .int .i64 a1_2, .int .i64 a1_3, .int .i64 a1_4, .int .i64 a1_5] 54 (0, 0)) (by (with_reducible repeat (first | refine bkN ?_ _ | refine bkD ?_ | refine bkA ?_ _)); exact BK165.out) hb); have n2_ := Aside0.mk (pbP (by repeat (first | (with_reducible first | exact HB.out | apply pbA | apply pbN | apply pbD | refine pbS ?_ GE165.out) | exact HB.out)) hb); clear HO0; clear BK165; clear HB; have HO0 := n0_; have BK165 := n1_; have HB := n2_; clear n0_ n1_ n2_; (try clear hb); (try clear hb2); (try clear hk); (try clear hi)))
   go_loopg [0, 18] k (fun kq v0 v18 w' => ∃ (x0_1 : List (S26)) (x18_1 : Int), v18 = .int .i64 x18_1 ∧ Aside0 (repaint_dirt.l0 kq x0_1 l2 (l2.length : Int) x18_1 a1_0 a1_1 a1_2 a1_3 a1_4 a1_5 = some r) ∧ Aside0 (kq ≤ k) ∧ Aside0 (Kd.V k26 26 w' w.heap.size (fun k_ => (P0_ k_ ∨ w.heap.size ≤ k_) ∧ k_ ≠ gb165) v0 x0_1) ∧ Aside0 (w'.heap[gb165]? = some (.cells #[.int .i64 a1_0, .int .i64 a1_1, .int .i64 a1_2, .int .i64 a1_3, .int .i64 a1_4, .int .i64 a1_5] 54 (0, 0))) ∧ Aside0 (Below w.heap.size w w'))
   case atStart => exact ⟨(l0), (0), (by first | rfl | (simp; done) | (simp [*]; done)), H', ⟨Nat.le_refl _⟩, ⟨by (with_reducible repeat (first | apply Kd.V_alloc | apply Kd.V_drewN | apply Kd.V_drew)); exact HO0.out⟩, ⟨by (with_reducible repeat (first | refine bkN ?_ _ | refine bkD ?_ | refine bkA ?_ _)); exact BK165.out⟩, ⟨by repeat (first | (with_reducible first | exact HB.out | apply pbA | apply pbN | apply pbD | refine pbS ?_ GE165.out) | exact HB.out)⟩⟩
   case round =>
    clear H'
    try clear c2
    try clear p2
    try clear c6
    try clear c7
    try clear hcz8_0
    try clear hcz8_1
    try clear hcz8_2
    try clear hcz8_3
    try clear hcz8_4
    try clear hcz8_5
    try clear hfz8_0
    try clear hfz8_1
    try clear hfz8_2
    try clear hfz8_3
    try clear hfz8_4
    try clear hfz8_5
    obtain ⟨x0_1, x18_1, rfl, HA, HK1, HO_0, BK165, HB⟩ := hrel
    cases gk with
    | zero => exact absurd HA.out (by simp [repaint_dirt.l0])
    | succ k1 =>
     have H := HA.out
     clear HA
     simp only [repaint_dirt.l0] at H
     by_cases c11 : x18_1 < (l2.length : Int)
     · rw [if_pos c11] at H
       have c11b0 : decide (x18_1 < (l2.length : Int)) = true := decide_eq_true c11
       clear c11
       by_cases c12 : 0 ≤ x18_1
       · rw [if_pos c12] at H
         have c12b0 : decide (0 ≤ x18_1) = true := decide_eq_true c12
         clear c12
         by_cases c13 : x18_1 < (l2.length : Int)
         · rw [if_pos c13] at H
           have c13b0 : decide (x18_1 < (l2.length : Int)) = true := decide_eq_true c13
           clear c13
           by_cases c14 : ((rd_T52 l2 x18_1).f0) = a1_0
           · rw [if_pos c14] at H
             have c14b0 : (((rd_T52 l2 x18_1).f0) == a1_0) = true := beq_iff_eq.mpr c14
             have c14b1 : (((rd_T52 l2 x18_1).f0) != a1_0) = false := bne_eq_false_iff_eq.mpr c14
             clear c14
             have H' := Aside0.mk H
             clear H
             have p171 : 0 ≤ (x18_1 : Int) := of_decide_eq_true (by first | (with_reducible assumption) | assumption)
             have q171 : x18_1 < (l2.length : Int) := of_decide_eq_true (by first | (with_reducible assumption) | assumption)
             obtain ⟨ad171, A171_1, c171_1, e171, hx171_0, hx171_1, hl171_1, hi171_1⟩ := at_T52 HR2.out x18_1 p171 q171
             cases e171
             replace hx171_0 := (HB.out.cell (World.block_lt_of_cell? w _ hx171_0)).trans hx171_0
             replace hx171_1 := (HB.out.cell (World.block_lt_of_cell? w _ hx171_1)).trans hx171_1
             have HR171_1 := Aside0.mk hi171_1
             have HC171_1 := Aside0.mk hl171_1
             clear hi171_1 hl171_1
             replace p171 := eq_true p171
             replace q171 := eq_true q171
             go_wp2_with (first | ((with_reducible refine gate_dst (N := 8) rfl ?_); refine box_event ?hg (N := 8) ?hd (cs := #[.int .i64 0, .slice none 0 0]) (t := 52) ?hr ?_; (case hd => rfl); (case hg => rfl); (case hr => first | (go_simp; done) | (go_simp; rfl)); intro gb172 hg w15 hbox hb; have n0_ := Aside0.mk (Kd.V_below (Kd.V_elderB (by (with_reducible repeat (first | apply Kd.V_alloc | apply Kd.V_drewN | apply Kd.V_drew)); exact HO_0.out) gb172 (Nat.le_of_eq hg.symm)) hb); have n1_ := Aside0.mk (bkB (g := gb165) (o := .cells #[.int .i64 a1_0, .int .i64 a1_1, .int .i64 a1_2, .int .i64 a1_3, .int .i64 a1_4, .int .i64 a1_5] 54 (0, 0)) (by (with_reducible repeat (first | refine bkN ?_ _ | refine bkD ?_ | refine bkA ?_ _)); exact BK165.out) hb); have n2_ := Aside0.mk (pbP (by repeat (first | (with_reducible first | exact HB.out | apply pbA | apply pbN | apply pbD | refine pbS ?_ GE165.out) | exact HB.out)) hb); have n3_ := Aside0.mk (hbox); have n4_ := Aside0.mk ((by rw [hg]; exact (pbZ (by repeat (first | (with_reducible first | exact HB.out | apply pbA | apply pbN | apply pbD | refine pbS ?_ GE165.out) | exact HB.out))) : w.heap.size ≤ gb172)); have n5_ := Aside0.mk ((by rw [hg]; exact (pbZ (by repeat (first | (with_reducible first | exact HB.out | apply pbA | apply pbN | apply pbD | refine pbS ?_ GE165.out) | exact HB.out))) : w.heap.size ≤ gb172)); have n6_ := Aside0.mk ((by rw [hg]; exact Nat.ne_of_lt (blk_lt (g := gb165) (o := .cells #[.int .i64 a1_0, .int .i64 a1_1, .int .i64 a1_2, .int .i64 a1_3, .int .i64 a1_4, .int .i64 a1_5] 54 (0, 0)) (by (with_reducible repeat (first | refine bkN ?_ _ | refine bkD ?_ | refine bkA ?_ _)); exact BK165.out)) : gb165 ≠ gb172)); have n7_ := Aside0.mk ((by rw [hg]; exact Nat.ne_of_gt (blk_lt (g := gb165) (o := .cells #[.int .i64 a1_0, .int .i64 a1_1, .int .i64 a1_2, .int .i64 a1_3, .int .i64 a1_4, .int .i64 a1_5] 54 (0, 0)) (by (with_reducible repeat (first | refine bkN ?_ _ | refine bkD ?_ | refine bkA ?_ _)); exact BK165.out)) : gb172 ≠ gb165)); clear HO_0; clear BK165; clear HB; have HO_0 := n0_; have BK165 := n1_; have HB := n2_; have BK172 := n3_; have GW172 := n4_; have GE172 := n5_; have NB165_172 := n6_; have NB172_165 := n7_; clear n0_ n1_ n2_ n3_ n4_ n5_ n6_ n7_; clear hb hbox hg; have hnb16 := NB172_165.out; have hnc16 := NB165_172.out; have hcz17_0 : w15.cell? ⟨gb172, 0, none⟩ = some (.int .i64 0) := (bkC BK172.out 0).trans rfl; have hcz17_1 : w15.cell? ⟨gb172, 1, none⟩ = some (.slice none 0 0) := (bkC BK172.out 1).trans rfl; have hfz17_0 := bkF BK172.out 0; have hfz17_1 := bkF BK172.out 1; have hcz18_0 : w15.cell? ⟨gb165, 0, none⟩ = some (.int .i64 a1_0) := (bkC BK165.out 0).trans rfl; have hcz18_1 : w15.cell? ⟨gb165, 1, none⟩ = some (.int .i64 a1_1) := (bkC BK165.out 1).trans rfl; have hcz18_2 : w15.cell? ⟨gb165, 2, none⟩ = some (.int .i64 a1_2) := (bkC BK165.out 2).trans rfl; have hcz18_3 : w15.cell? ⟨gb165, 3, none⟩ = some (.int .i64 a1_3) := (bkC BK165.out 3).trans rfl; have hcz18_4 : w15.cell? ⟨gb165, 4, none⟩ = some (.int .i64 a1_4) := (bkC BK165.out 4).trans rfl; have hcz18_5 : w15.cell? ⟨gb165, 5, none⟩ = some (.int .i64 a1_5) := (bkC BK165.out 5).trans rfl; have hfz18_0 := bkF BK165.out 0; have hfz18_1 := bkF BK165.out 1; have hfz18_2 := bkF BK165.out 2; have hfz18_3 := bkF BK165.out 3; have hfz18_4 := bkF BK165.out 4; have hfz18_5 := bkF BK165.out 5))
             go_loopg [0, 30] k1 (fun kq v0 v30 w' => ∃ (x0_2 : List (S26)) (x30_2 : Int), v30 = .int .i64 x30_2 ∧ Aside0 (repaint_dirt.l1 kq x0_2 l2 (l2.length : Int) x18_1 ((rd_T52 l2 x18_1).f1) (((rd_T52 l2 x18_1).f1).length : Int) x30_2 a1_0 a1_1 a1_2 a1_3 a1_4 a1_5 = some r) ∧ Aside0 (kq ≤ k1) ∧ Aside0 (Kd.V k26 26 w' w.heap.size (fun k_ => (P0_ k_ ∨ w.heap.size ≤ k_) ∧ k_ ≠ gb165 ∧ k_ ≠ gb172) v0 x0_2) ∧ Aside0 (w'.heap[gb165]? = some (.cells #[.int .i64 a1_0, .int .i64 a1_1, .int .i64 a1_2, .int .i64 a1_3, .int .i64 a1_4, .int .i64 a1_5] 54 (0, 0))) ∧ Aside0 (w'.heap[gb172]? = some (.cells #[.int .i64 ((rd_T52 l2 x18_1).f0), (.slice A171_1 ((rd_T52 l2 x18_1).f1).length c171_1)] 52 (0, 0))) ∧ Aside0 (Below w.heap.size w w'))
             case atStart => exact ⟨(x0_1), (0), (by first | rfl | (simp; done) | (simp [*]; done)), H', ⟨Nat.le_refl _⟩, ⟨by (with_reducible repeat (first | apply Kd.V_alloc | apply Kd.V_drewN | apply Kd.V_drew)); exact Kd.V_mono (Kd.V_far (p := ⟨gb172, 1, none⟩) (Kd.V_far (p := ⟨gb172, 0, none⟩) (Kd.V_mono HO_0.out (fun k_ hk => (⟨hk, hk.2⟩ : _ ∧ k_ ≠ gb172))) (fun _ hk => hk.2) (.int .i64 ((rd_T52 l2 x18_1).f0))) (fun _ hk => hk.2) (.slice A171_1 ((rd_T52 l2 x18_1).f1).length c171_1)) (fun _ hk => ⟨hk.1.1.1, ⟨hk.1.1.2, hk.1.2⟩⟩)⟩, ⟨by (with_reducible repeat (first | refine bkN ?_ _ | refine bkD ?_ | refine bkA ?_ _)); refine blk_far ?_ NB165_172.out _; (with_reducible repeat (first | refine bkN ?_ _ | refine bkD ?_ | refine bkA ?_ _)); refine blk_far ?_ NB165_172.out _; (with_reducible repeat (first | refine bkN ?_ _ | refine bkD ?_ | refine bkA ?_ _)); exact BK165.out⟩, ⟨by (with_reducible repeat (first | refine bkN ?_ _ | refine bkD ?_ | refine bkA ?_ _)); refine blk_put (cs := #[.int .i64 ((rd_T52 l2 x18_1).f0), .slice none 0 0]) ?_ 1 _ rfl; (with_reducible repeat (first | refine bkN ?_ _ | refine bkD ?_ | refine bkA ?_ _)); refine blk_put (cs := #[.int .i64 0, .slice none 0 0]) ?_ 0 _ rfl; (with_reducible repeat (first | refine bkN ?_ _ | refine bkD ?_ | refine bkA ?_ _)); exact BK172.out⟩, ⟨by repeat (first | (with_reducible first | exact HB.out | apply pbA | apply pbN | apply pbD | refine pbS ?_ GE165.out | refine pbS ?_ GE172.out) | exact HB.out)⟩⟩
             case round =>
              clear H'
              try clear c1
              try clear p1
              try clear q1
              try clear hx1
              try clear c2
              try clear p2
              try clear c6
              try clear c7
              try clear c11
              try clear c11b0
              try clear c12
              try clear c12b0
              try clear c13
              try clear c13b0
              try clear c14
              try clear c14b0
              try clear c14b1
              try clear c16
              try clear c17
              try clear p17
              try clear q17
              try clear hx17
              try clear hcz17_0
              try clear hcz17_1
              try clear hcz18_0
              try clear hcz18_1
              try clear hcz18_2
              try clear hcz18_3
              try clear hcz18_4
              try clear hcz18_5
              try clear hcz8_0
              try clear hcz8_1
              try clear hcz8_2
              try clear hcz8_3
              try clear hcz8_4
              try clear hcz8_5
              try clear hfz17_0
              try clear hfz17_1
              try clear hfz18_0
              try clear hfz18_1
              try clear hfz18_2
              try clear hfz18_3
              try clear hfz18_4
              try clear hfz18_5
              try clear hfz8_0
              try clear hfz8_1
              try clear hfz8_2
              try clear hfz8_3
              try clear hfz8_4
              try clear hfz8_5
              try clear hx171_0
              try clear hx171_1
              try clear p171
              try clear p2
              try clear q171
              obtain ⟨x0_2, x30_2, rfl, HA, HK2, HO_0, BK165, BK172, HB⟩ := hrel
              cases gk with
              | zero => exact absurd HA.out (by simp [repaint_dirt.l1])
              | succ k2 =>
               have H := HA.out
               clear HA
               simp only [repaint_dirt.l1] at H
               by_cases c19 : x30_2 < (((rd_T52 l2 x18_1).f1).length : Int)
               · rw [if_pos c19] at H
                 have c19b0 : decide (x30_2 < (((rd_T52 l2 x18_1).f1).length : Int)) = true := decide_eq_true c19
                 clear c19
                 by_cases c20 : 0 ≤ x30_2
                 · rw [if_pos c20] at H
                   have c20b0 : decide (0 ≤ x30_2) = true := decide_eq_true c20
                   clear c20
                   by_cases c21 : x30_2 < (((rd_T52 l2 x18_1).f1).length : Int)
                   · rw [if_pos c21] at H
                     have c21b0 : decide (x30_2 < (((rd_T52 l2 x18_1).f1).length : Int)) = true := decide_eq_true c21
                     clear c21
                     replace H := Option.bind_eq_some_iff.mp H
                     obtain ⟨⟨t175, t176, t177, t178⟩, A220, H⟩ := H
                     replace H : ((rect_Shift.f t175 t176 t177 t178 a1_2 a1_3).bind fun bt179 => ((repaint_of.f a1_0 a1_1 a1_2 a1_3 a1_4 a1_5).bind fun bt183 => ((rect_Cut.f bt179.1 bt179.2.1 bt179.2.2.1 bt179.2.2.2 bt183.1 bt183.2.1 bt183.2.2.1 bt183.2.2.2).bind fun bt187 => ((damage_Add.f k2 x0_2 bt187.1 bt187.2.1 bt187.2.2.1 bt187.2.2.2).bind fun t191 => (repaint_dirt.l1 k2 t191 l2 (l2.length : Int) x18_1 ((rd_T52 l2 x18_1).f1) (((rd_T52 l2 x18_1).f1).length : Int) (wrap64 (x30_2 + 1)) a1_0 a1_1 a1_2 a1_3 a1_4 a1_5))))) = some r := H
                     have A22 := Aside0.mk A220
                     clear A220
                     replace H := Option.bind_eq_some_iff.mp H
                     obtain ⟨⟨t179, t180, t181, t182⟩, A230, H⟩ := H
                     replace H : ((repaint_of.f a1_0 a1_1 a1_2 a1_3 a1_4 a1_5).bind fun bt183 => ((rect_Cut.f t179 t180 t181 t182 bt183.1 bt183.2.1 bt183.2.2.1 bt183.2.2.2).bind fun bt187 => ((damage_Add.f k2 x0_2 bt187.1 bt187.2.1 bt187.2.2.1 bt187.2.2.2).bind fun t191 => (repaint_dirt.l1 k2 t191 l2 (l2.length : Int) x18_1 ((rd_T52 l2 x18_1).f1) (((rd_T52 l2 x18_1).f1).length : Int) (wrap64 (x30_2 + 1)) a1_0 a1_1 a1_2 a1_3 a1_4 a1_5)))) = some r := H
                     have A23 := Aside0.mk A230
                     clear A230
                     replace H := Option.bind_eq_some_iff.mp H
                     obtain ⟨⟨t183, t184, t185, t186⟩, A240, H⟩ := H
                     replace H : ((rect_Cut.f t179 t180 t181 t182 t183 t184 t185 t186).bind fun bt187 => ((damage_Add.f k2 x0_2 bt187.1 bt187.2.1 bt187.2.2.1 bt187.2.2.2).bind fun t191 => (repaint_dirt.l1 k2 t191 l2 (l2.length : Int) x18_1 ((rd_T52 l2 x18_1).f1) (((rd_T52 l2 x18_1).f1).length : Int) (wrap64 (x30_2 + 1)) a1_0 a1_1 a1_2 a1_3 a1_4 a1_5))) = some r := H
                     have A24 := Aside0.mk A240
                     clear A240
                     replace H := Option.bind_eq_some_iff.mp H
                     obtain ⟨⟨t187, t188, t189, t190⟩, A250, H⟩ := H
                     replace H : ((damage_Add.f k2 x0_2 t187 t188 t189 t190).bind fun t191 => (repaint_dirt.l1 k2 t191 l2 (l2.length : Int) x18_1 ((rd_T52 l2 x18_1).f1) (((rd_T52 l2 x18_1).f1).length : Int) (wrap64 (x30_2 + 1)) a1_0 a1_1 a1_2 a1_3 a1_4 a1_5)) = some r := H
                     have A25 := Aside0.mk A250
                     clear A250
                     replace H := Option.bind_eq_some_iff.mp H
                     obtain ⟨t191, A260, H⟩ := H
                     replace H : (repaint_dirt.l1 k2 t191 l2 (l2.length : Int) x18_1 ((rd_T52 l2 x18_1).f1) (((rd_T52 l2 x18_1).f1).length : Int) (wrap64 (x30_2 + 1)) a1_0 a1_1 a1_2 a1_3 a1_4 a1_5) = some r := H
                     have A26 := Aside0.mk A260
                     clear A260
                     have H' := Aside0.mk H
                     clear H
                     have p173 : 0 ≤ (x30_2 : Int) := of_decide_eq_true (by first | (with_reducible assumption) | assumption)
                     have q173 : x30_2 < (((rd_T52 l2 x18_1).f1).length : Int) := of_decide_eq_true (by first | (with_reducible assumption) | assumption)
                     obtain ⟨ad173, e173, hx173_0, hx173_1, hx173_2, hx173_3⟩ := at_T26 HR171_1.out x30_2 p173 q173
                     cases e173
                     replace hx173_0 := (HB.out.cell (World.block_lt_of_cell? w _ hx173_0)).trans hx173_0
                     replace hx173_1 := (HB.out.cell (World.block_lt_of_cell? w _ hx173_1)).trans hx173_1
                     replace hx173_2 := (HB.out.cell (World.block_lt_of_cell? w _ hx173_2)).trans hx173_2
                     replace hx173_3 := (HB.out.cell (World.block_lt_of_cell? w _ hx173_3)).trans hx173_3
                     replace p173 := eq_true p173
                     replace q173 := eq_true q173
                     try go_wp2_with (first | ((with_reducible refine gate_dst (N := 10) rfl ?_); refine box_event ?hg (N := 10) ?hd (cs := #[.int .i64 0, .int .i64 0, .int .i64 0, .int .i64 0]) (t := 26) ?hr ?_; (case hd => rfl); (case hg => rfl); (case hr => first | (go_simp; done) | (go_simp; rfl)); intro gb174 hg w27 hbox hb; have n0_ := Aside0.mk (Kd.V_below (Kd.V_elderB (by (with_reducible repeat (first | apply Kd.V_alloc | apply Kd.V_drewN | apply Kd.V_drew)); exact HO_0.out) gb174 (Nat.le_of_eq hg.symm)) hb); have n1_ := Aside0.mk (bkB (g := gb165) (o := .cells #[.int .i64 a1_0, .int .i64 a1_1, .int .i64 a1_2, .int .i64 a1_3, .int .i64 a1_4, .int .i64 a1_5] 54 (0, 0)) (by (with_reducible repeat (first | refine bkN ?_ _ | refine bkD ?_ | refine bkA ?_ _)); exact BK165.out) hb); have n2_ := Aside0.mk (bkB (g := gb172) (o := .cells #[.int .i64 ((rd_T52 l2 x18_1).f0), .slice (some ad173) ((rd_T52 l2 x18_1).f1).length c171_1] 52 (0, 0)) (by (with_reducible repeat (first | refine bkN ?_ _ | refine bkD ?_ | refine bkA ?_ _)); exact BK172.out) hb); have n3_ := Aside0.mk (pbP (by repeat (first | (with_reducible first | exact HB.out | apply pbA | apply pbN | apply pbD | refine pbS ?_ GE165.out | refine pbS ?_ GE172.out) | exact HB.out)) hb); have n4_ := Aside0.mk (hbox); have n5_ := Aside0.mk ((by rw [hg]; exact (pbZ (by repeat (first | (with_reducible first | exact HB.out | apply pbA | apply pbN | apply pbD | refine pbS ?_ GE165.out | refine pbS ?_ GE172.out) | exact HB.out))) : w.heap.size ≤ gb174)); have n6_ := Aside0.mk ((by rw [hg]; exact (pbZ (by repeat (first | (with_reducible first | exact HB.out | apply pbA | apply pbN | apply pbD | refine pbS ?_ GE165.out | refine pbS ?_ GE172.out) | exact HB.out))) : w.heap.size ≤ gb174)); have n7_ := Aside0.mk ((by rw [hg]; exact Nat.ne_of_lt (blk_lt (g := gb165) (o := .cells #[.int .i64 a1_0, .int .i64 a1_1, .int .i64 a1_2, .int .i64 a1_3, .int .i64 a1_4, .int .i64 a1_5] 54 (0, 0)) (by (with_reducible repeat (first | refine bkN ?_ _ | refine bkD ?_ | refine bkA ?_ _)); exact BK165.out)) : gb165 ≠ gb174)); have n8_ := Aside0.mk ((by rw [hg]; exact Nat.ne_of_gt (blk_lt (g := gb165) (o := .cells #[.int .i64 a1_0, .int .i64 a1_1, .int .i64 a1_2, .int .i64 a1_3, .int .i64 a1_4, .int .i64 a1_5] 54 (0, 0)) (by (with_reducible repeat (first | refine bkN ?_ _ | refine bkD ?_ | refine bkA ?_ _)); exact BK165.out)) : gb174 ≠ gb165)); have n9_ := Aside0.mk ((by rw [hg]; exact Nat.ne_of_lt (blk_lt (g := gb172) (o := .cells #[.int .i64 ((rd_T52 l2 x18_1).f0), .slice (some ad173) ((rd_T52 l2 x18_1).f1).length c171_1] 52 (0, 0)) (by (with_reducible repeat (first | refine bkN ?_ _ | refine bkD ?_ | refine bkA ?_ _)); exact BK172.out)) : gb172 ≠ gb174)); have n10_ := Aside0.mk ((by rw [hg]; exact Nat.ne_of_gt (blk_lt (g := gb172) (o := .cells #[.int .i64 ((rd_T52 l2 x18_1).f0), .slice (some ad173) ((rd_T52 l2 x18_1).f1).length c171_1] 52 (0, 0)) (by (with_reducible repeat (first | refine bkN ?_ _ | refine bkD ?_ | refine bkA ?_ _)); exact BK172.out)) : gb174 ≠ gb172)); clear HO_0; clear BK165; clear BK172; clear HB; have HO_0 := n0_; have BK165 := n1_; have BK172 := n2_; have HB := n3_; have BK174 := n4_; have GW174 := n5_; have GE174 := n6_; have NB165_174 := n7_; have NB174_165 := n8_; have NB172_174 := n9_; have NB174_172 := n10_; clear n0_ n1_ n2_ n3_ n4_ n5_ n6_ n7_ n8_ n9_ n10_; clear hb hbox hg; have hnb28 := NB174_165.out; have hnc28 := NB165_174.out; have hnb29 := NB174_172.out; have hnc29 := NB172_174.out; have hcz30_0 : w27.cell? ⟨gb174, 0, none⟩ = some (.int .i64 0) := (bkC BK174.out 0).trans rfl; have hcz30_1 : w27.cell? ⟨gb174, 1, none⟩ = some (.int .i64 0) := (bkC BK174.out 1).trans rfl; have hcz30_2 : w27.cell? ⟨gb174, 2, none⟩ = some (.int .i64 0) := (bkC BK174.out 2).trans rfl; have hcz30_3 : w27.cell? ⟨gb174, 3, none⟩ = some (.int .i64 0) := (bkC BK174.out 3).trans rfl; have hfz30_0 := bkF BK174.out 0; have hfz30_1 := bkF BK174.out 1; have hfz30_2 := bkF BK174.out 2; have hfz30_3 := bkF BK174.out 3))
                     have n0_ : Aside0 (Kd.V k26 26 ((((w27.setCell ⟨gb174, 0, none⟩ (.int .i64 ((rd_T26 ((rd_T52 l2 x18_1).f1) x30_2).f0))).setCell ⟨gb174, 1, none⟩ (.int .i64 ((rd_T26 ((rd_T52 l2 x18_1).f1) x30_2).f1))).setCell ⟨gb174, 2, none⟩ (.int .i64 ((rd_T26 ((rd_T52 l2 x18_1).f1) x30_2).f2))).setCell ⟨gb174, 3, none⟩ (.int .i64 ((rd_T26 ((rd_T52 l2 x18_1).f1) x30_2).f3))) w.heap.size (fun k_ => (P0_ k_ ∨ w.heap.size ≤ k_) ∧ k_ ≠ gb165 ∧ k_ ≠ gb172 ∧ k_ ≠ gb174) u0 x0_2) := ⟨by (with_reducible repeat (first | apply Kd.V_alloc | apply Kd.V_drewN | apply Kd.V_drew)); exact Kd.V_mono (Kd.V_far (p := ⟨gb174, 3, none⟩) (Kd.V_far (p := ⟨gb174, 2, none⟩) (Kd.V_far (p := ⟨gb174, 1, none⟩) (Kd.V_far (p := ⟨gb174, 0, none⟩) (Kd.V_mono HO_0.out (fun k_ hk => (⟨hk, hk.2⟩ : _ ∧ k_ ≠ gb174))) (fun _ hk => hk.2) (.int .i64 ((rd_T26 ((rd_T52 l2 x18_1).f1) x30_2).f0))) (fun _ hk => hk.2) (.int .i64 ((rd_T26 ((rd_T52 l2 x18_1).f1) x30_2).f1))) (fun _ hk => hk.2) (.int .i64 ((rd_T26 ((rd_T52 l2 x18_1).f1) x30_2).f2))) (fun _ hk => hk.2) (.int .i64 ((rd_T26 ((rd_T52 l2 x18_1).f1) x30_2).f3))) (fun _ hk => ⟨hk.1.1.1, ⟨hk.1.1.2.1, ⟨hk.1.1.2.2, hk.1.2⟩⟩⟩)⟩
                     have n1_ : Aside0 (((((w27.setCell ⟨gb174, 0, none⟩ (.int .i64 ((rd_T26 ((rd_T52 l2 x18_1).f1) x30_2).f0))).setCell ⟨gb174, 1, none⟩ (.int .i64 ((rd_T26 ((rd_T52 l2 x18_1).f1) x30_2).f1))).setCell ⟨gb174, 2, none⟩ (.int .i64 ((rd_T26 ((rd_T52 l2 x18_1).f1) x30_2).f2))).setCell ⟨gb174, 3, none⟩ (.int .i64 ((rd_T26 ((rd_T52 l2 x18_1).f1) x30_2).f3))).heap[gb165]? = some (.cells #[.int .i64 a1_0, .int .i64 a1_1, .int .i64 a1_2, .int .i64 a1_3, .int .i64 a1_4, .int .i64 a1_5] 54 (0, 0))) := ⟨by (with_reducible repeat (first | refine bkN ?_ _ | refine bkD ?_ | refine bkA ?_ _)); refine blk_far ?_ NB165_174.out _; (with_reducible repeat (first | refine bkN ?_ _ | refine bkD ?_ | refine bkA ?_ _)); refine blk_far ?_ NB165_174.out _; (with_reducible repeat (first | refine bkN ?_ _ | refine bkD ?_ | refine bkA ?_ _)); refine blk_far ?_ NB165_174.out _; (with_reducible repeat (first | refine bkN ?_ _ | refine bkD ?_ | refine bkA ?_ _)); refine blk_far ?_ NB165_174.out _; (with_reducible repeat (first | refine bkN ?_ _ | refine bkD ?_ | refine bkA ?_ _)); exact BK165.out⟩
                     have n2_ : Aside0 (((((w27.setCell ⟨gb174, 0, none⟩ (.int .i64 ((rd_T26 ((rd_T52 l2 x18_1).f1) x30_2).f0))).setCell ⟨gb174, 1, none⟩ (.int .i64 ((rd_T26 ((rd_T52 l2 x18_1).f1) x30_2).f1))).setCell ⟨gb174, 2, none⟩ (.int .i64 ((rd_T26 ((rd_T52 l2 x18_1).f1) x30_2).f2))).setCell ⟨gb174, 3, none⟩ (.int .i64 ((rd_T26 ((rd_T52 l2 x18_1).f1) x30_2).f3))).heap[gb172]? = some (.cells #[.int .i64 ((rd_T52 l2 x18_1).f0), .slice (some ad173) ((rd_T52 l2 x18_1).f1).length c171_1] 52 (0, 0))) := ⟨by (with_reducible repeat (first | refine bkN ?_ _ | refine bkD ?_ | refine bkA ?_ _)); refine blk_far ?_ NB172_174.out _; (with_reducible repeat (first | refine bkN ?_ _ | refine bkD ?_ | refine bkA ?_ _)); refine blk_far ?_ NB172_174.out _; (with_reducible repeat (first | refine bkN ?_ _ | refine bkD ?_ | refine bkA ?_ _)); refine blk_far ?_ NB172_174.out _; (with_reducible repeat (first | refine bkN ?_ _ | refine bkD ?_ | refine bkA ?_ _)); refine blk_far ?_ NB172_174.out _; (with_reducible repeat (first | refine bkN ?_ _ | refine bkD ?_ | refine bkA ?_ _)); exact BK172.out⟩
                     have n3_ : Aside0 (((((w27.setCell ⟨gb174, 0, none⟩ (.int .i64 ((rd_T26 ((rd_T52 l2 x18_1).f1) x30_2).f0))).setCell ⟨gb174, 1, none⟩ (.int .i64 ((rd_T26 ((rd_T52 l2 x18_1).f1) x30_2).f1))).setCell ⟨gb174, 2, none⟩ (.int .i64 ((rd_T26 ((rd_T52 l2 x18_1).f1) x30_2).f2))).setCell ⟨gb174, 3, none⟩ (.int .i64 ((rd_T26 ((rd_T52 l2 x18_1).f1) x30_2).f3))).heap[gb174]? = some (.cells #[.int .i64 ((rd_T26 ((rd_T52 l2 x18_1).f1) x30_2).f0), .int .i64 ((rd_T26 ((rd_T52 l2 x18_1).f1) x30_2).f1), .int .i64 ((rd_T26 ((rd_T52 l2 x18_1).f1) x30_2).f2), .int .i64 ((rd_T26 ((rd_T52 l2 x18_1).f1) x30_2).f3)] 26 (0, 0))) := ⟨by (with_reducible repeat (first | refine bkN ?_ _ | refine bkD ?_ | refine bkA ?_ _)); refine blk_put (cs := #[.int .i64 ((rd_T26 ((rd_T52 l2 x18_1).f1) x30_2).f0), .int .i64 ((rd_T26 ((rd_T52 l2 x18_1).f1) x30_2).f1), .int .i64 ((rd_T26 ((rd_T52 l2 x18_1).f1) x30_2).f2), .int .i64 0]) ?_ 3 _ rfl; (with_reducible repeat (first | refine bkN ?_ _ | refine bkD ?_ | refine bkA ?_ _)); refine blk_put (cs := #[.int .i64 ((rd_T26 ((rd_T52 l2 x18_1).f1) x30_2).f0), .int .i64 ((rd_T26 ((rd_T52 l2 x18_1).f1) x30_2).f1), .int .i64 0, .int .i64 0]) ?_ 2 _ rfl; (with_reducible repeat (first | refine bkN ?_ _ | refine bkD ?_ | refine bkA ?_ _)); refine blk_put (cs := #[.int .i64 ((rd_T26 ((rd_T52 l2 x18_1).f1) x30_2).f0), .int .i64 0, .int .i64 0, .int .i64 0]) ?_ 1 _ rfl; (with_reducible repeat (first | refine bkN ?_ _ | refine bkD ?_ | refine bkA ?_ _)); refine blk_put (cs := #[.int .i64 0, .int .i64 0, .int .i64 0, .int .i64 0]) ?_ 0 _ rfl; (with_reducible repeat (first | refine bkN ?_ _ | refine bkD ?_ | refine bkA ?_ _)); exact BK174.out⟩
                     have n4_ : Aside0 (Below w.heap.size w ((((w27.setCell ⟨gb174, 0, none⟩ (.int .i64 ((rd_T26 ((rd_T52 l2 x18_1).f1) x30_2).f0))).setCell ⟨gb174, 1, none⟩ (.int .i64 ((rd_T26 ((rd_T52 l2 x18_1).f1) x30_2).f1))).setCell ⟨gb174, 2, none⟩ (.int .i64 ((rd_T26 ((rd_T52 l2 x18_1).f1) x30_2).f2))).setCell ⟨gb174, 3, none⟩ (.int .i64 ((rd_T26 ((rd_T52 l2 x18_1).f1) x30_2).f3)))) := ⟨by repeat (first | (with_reducible first | exact HB.out | apply pbA | apply pbN | apply pbD | refine pbS ?_ GE165.out | refine pbS ?_ GE172.out | refine pbS ?_ GE174.out) | exact HB.out)⟩
                     (try clear HO_0)
                     (try clear BK165)
                     (try clear BK172)
                     (try clear BK174)
                     (try clear HB)
                     generalize ((((w27.setCell ⟨gb174, 0, none⟩ (.int .i64 ((rd_T26 ((rd_T52 l2 x18_1).f1) x30_2).f0))).setCell ⟨gb174, 1, none⟩ (.int .i64 ((rd_T26 ((rd_T52 l2 x18_1).f1) x30_2).f1))).setCell ⟨gb174, 2, none⟩ (.int .i64 ((rd_T26 ((rd_T52 l2 x18_1).f1) x30_2).f2))).setCell ⟨gb174, 3, none⟩ (.int .i64 ((rd_T26 ((rd_T52 l2 x18_1).f1) x30_2).f3))) = w31 at n0_ n1_ n2_ n3_ n4_ ⊢
                     have HO_0 := n0_
                     have BK165 := n1_
                     have BK172 := n2_
                     have BK174 := n3_
                     have HB := n4_
                     clear n0_ n1_ n2_ n3_ n4_
                     have n0_ := Aside0.mk (Kd.V_drew HO_0.out)
                     have n1_ := Aside0.mk (bkD BK165.out)
                     have n2_ := Aside0.mk (bkD BK172.out)
                     have n3_ := Aside0.mk (bkD BK174.out)
                     have n4_ := Aside0.mk (pbD HB.out)
                     clear HO_0
                     clear BK165
                     clear BK172
                     clear BK174
                     clear HB
                     have HO_0 := n0_
                     have BK165 := n1_
                     have BK172 := n2_
                     have BK174 := n3_
                     have HB := n4_
                     clear n0_ n1_ n2_ n3_ n4_
                     refine start_ (n := 13) (S := fun w' => w'.cell? ⟨gb174, 0, none⟩ = some (.int .i64 ((rd_T26 ((rd_T52 l2 x18_1).f1) x30_2).f0)) ∧ w'.cell? ⟨gb174, 1, none⟩ = some (.int .i64 ((rd_T26 ((rd_T52 l2 x18_1).f1) x30_2).f1)) ∧ w'.cell? ⟨gb174, 2, none⟩ = some (.int .i64 ((rd_T26 ((rd_T52 l2 x18_1).f1) x30_2).f2)) ∧ w'.cell? ⟨gb174, 3, none⟩ = some (.int .i64 ((rd_T26 ((rd_T52 l2 x18_1).f1) x30_2).f3)) ∧ w'.cell? ⟨gb165, 0, none⟩ = some (.int .i64 a1_0) ∧ w'.cell? ⟨gb165, 1, none⟩ = some (.int .i64 a1_1) ∧ w'.cell? ⟨gb165, 2, none⟩ = some (.int .i64 a1_2) ∧ w'.cell? ⟨gb165, 3, none⟩ = some (.int .i64 a1_3) ∧ w'.cell? ⟨gb165, 4, none⟩ = some (.int .i64 a1_4) ∧ w'.cell? ⟨gb165, 5, none⟩ = some (.int .i64 a1_5)) (ds := []) #[false, false, false, false, false, false, false, false, false, false, false, false, false] (by kernel_rfl) rfl rfl ⟨(bkC BK174.out 0).trans rfl, (bkC BK174.out 1).trans rfl, (bkC BK174.out 2).trans rfl, (bkC BK174.out 3).trans rfl, (bkC BK165.out 0).trans rfl, (bkC BK165.out 1).trans rfl, (bkC BK165.out 2).trans rfl, (bkC BK165.out 3).trans rfl, (bkC BK165.out 4).trans rfl, (bkC BK165.out 5).trans rfl⟩ (fun hHeld => ?_); refine with_tabW repaint_dirt.tab10 repaint_dirt.bits10 (fun HT_ HW_ => ?_)
                     generalize w31.drew = w32 at HO_0 BK165 BK172 BK174 HB hHeld ⊢
                     refine pure_ (i := 0) (N := some 34) (v := ?_) (a' := ?_) #[true, false, false, false, false, false, false, false, false, false, false, false, false] rfl rfl (any_of HT_.out (by kernel_rfl)) (fun _ _ _ h => h) (Or.inl ⟨by rfl, ?_⟩) ?_ ?_
                     rotate_left
                     · intro w'
                       go_simp
                       with_reducible rfl
                     rotate_left
                     · simp only [Act.put, List.setIfInBounds_toArray, List.set_cons_zero, List.set_cons_succ, i64_w, i32_w]
                       rfl
                     refine pure_ (i := 3) (N := some 37) (v := ?_) (a' := ?_) #[true, false, false, true, false, false, false, false, false, false, false, false, false] rfl rfl (any_of HT_.out (by kernel_rfl)) (fun _ _ _ h => h) (Or.inl ⟨by rfl, ?_⟩) ?_ ?_
                     rotate_left
                     · intro w'
                       go_simp
                       with_reducible rfl
                     rotate_left
                     · simp only [Act.put, List.setIfInBounds_toArray, List.set_cons_zero, List.set_cons_succ, i64_w, i32_w]
                       rfl
                     refine pure_ (i := 5) (N := some 39) (v := ?_) (a' := ?_) #[true, false, false, true, false, true, false, false, false, false, false, false, false] rfl rfl (any_of HT_.out (by kernel_rfl)) (fun _ _ _ h => h) (Or.inl ⟨by rfl, ?_⟩) ?_ ?_
                     rotate_left
                     · intro w'
                       go_simp
                       with_reducible rfl
                     rotate_left
                     · simp only [Act.put, List.setIfInBounds_toArray, List.set_cons_zero, List.set_cons_succ, i64_w, i32_w]
                       rfl
                     refine take_ (i := 1) (N := some 35) (v := ?_) (a' := ?_) #[true, true, false, true, false, true, false, false, false, false, false, false, false] rfl rfl (take_ofW HT_.out HW_.out (by kernel_rfl)) (fun _ _ _ h => h) (Or.inl ⟨by rfl, ?_⟩) hHeld ?_ ?_
                     rotate_left
                     · rintro w' ⟨s0, s1, s2, s3, s4, s5, s6, s7, s8, s9⟩
                       go_simp
                       with_reducible rfl
                     rotate_left
                     · simp only [Act.put, List.setIfInBounds_toArray, List.set_cons_zero, List.set_cons_succ, i64_w, i32_w]
                       rfl
                     refine take_ (i := 4) (N := some 38) (v := ?_) (a' := ?_) #[true, true, false, true, true, true, false, false, false, false, false, false, false] rfl rfl (take_ofW HT_.out HW_.out (by kernel_rfl)) (fun _ _ _ h => h) (Or.inl ⟨by rfl, ?_⟩) hHeld ?_ ?_
                     rotate_left
                     · rintro w' ⟨s0, s1, s2, s3, s4, s5, s6, s7, s8, s9⟩
                       go_simp
                       with_reducible rfl
                     rotate_left
                     · simp only [Act.put, List.setIfInBounds_toArray, List.set_cons_zero, List.set_cons_succ, i64_w, i32_w]
                       rfl
                     refine take_ (i := 6) (N := some 40) (v := ?_) (a' := ?_) #[true, true, false, true, true, true, true, false, false, false, false, false, false] rfl rfl (take_ofW HT_.out HW_.out (by kernel_rfl)) (fun _ _ _ h => h) (Or.inl ⟨by rfl, ?_⟩) hHeld ?_ ?_
                     rotate_left
                     · rintro w' ⟨s0, s1, s2, s3, s4, s5, s6, s7, s8, s9⟩
                       go_simp
                       with_reducible rfl
                     rotate_left
                     · simp only [Act.put, List.setIfInBounds_toArray, List.set_cons_zero, List.set_cons_succ, i64_w, i32_w]
                       rfl
                     refine take_ (i := 8) (N := some 42) (v := ?_) (a' := ?_) #[true, true, false, true, true, true, true, false, true, false, false, false, false] rfl rfl (take_ofW HT_.out HW_.out (by kernel_rfl)) (fun _ _ _ h => h) (Or.inl ⟨by rfl, ?_⟩) hHeld ?_ ?_
                     rotate_left
                     · rintro w' ⟨s0, s1, s2, s3, s4, s5, s6, s7, s8, s9⟩
                       go_simp
                       with_reducible rfl
                     rotate_left
                     · simp only [Act.put, List.setIfInBounds_toArray, List.set_cons_zero, List.set_cons_succ, i64_w, i32_w]
                       rfl
                     refine one_ (i := 2) (N := some 36) #[true, true, true, true, true, true, true, false, true, false, false, false, false] rfl rfl (one_of HT_.out (by kernel_rfl)) (by decide) (fun K hK => ?_)
                     refine goes_ Try.func59 (by kernel_rfl) rfl #[.agg #[.int .i64 ((rd_T26 ((rd_T52 l2 x18_1).f1) x30_2).f0), .int .i64 ((rd_T26 ((rd_T52 l2 x18_1).f1) x30_2).f1), .int .i64 ((rd_T26 ((rd_T52 l2 x18_1).f1) x30_2).f2), .int .i64 ((rd_T26 ((rd_T52 l2 x18_1).f1) x30_2).f3)]] (by rfl) rfl rfl (by (try simp only [List.map_toArray, List.map_cons, List.map_nil]); first | done | rfl | (simp only [List.length_drop, List.length_take]; rfl)) ?_
                     with_reducible refine (rect_Bound.calls ((rd_T26 ((rd_T52 l2 x18_1).f1) x30_2).f0) ((rd_T26 ((rd_T52 l2 x18_1).f1) x30_2).f1) ((rd_T26 ((rd_T52 l2 x18_1).f1) x30_2).f2) ((rd_T26 ((rd_T52 l2 x18_1).f1) x30_2).f3) t175 t176 t177 t178 _ A22.out).mono ?_
                     rintro e w33 ⟨rfl, hb⟩
                     refine ⟨_, rfl, ?_⟩
                     have n0_ := Aside0.mk (Kd.V_below (by (with_reducible repeat (first | apply Kd.V_alloc | apply Kd.V_drewN | apply Kd.V_drew)); exact HO_0.out) hb)
                     have n1_ := Aside0.mk (bkB (g := gb165) (o := .cells #[.int .i64 a1_0, .int .i64 a1_1, .int .i64 a1_2, .int .i64 a1_3, .int .i64 a1_4, .int .i64 a1_5] 54 (0, 0)) (by (with_reducible repeat (first | refine bkN ?_ _ | refine bkD ?_ | refine bkA ?_ _)); exact BK165.out) hb)
                     have n2_ := Aside0.mk (bkB (g := gb172) (o := .cells #[.int .i64 ((rd_T52 l2 x18_1).f0), .slice (some ad173) ((rd_T52 l2 x18_1).f1).length c171_1] 52 (0, 0)) (by (with_reducible repeat (first | refine bkN ?_ _ | refine bkD ?_ | refine bkA ?_ _)); exact BK172.out) hb)
                     have n3_ := Aside0.mk (bkB (g := gb174) (o := .cells #[.int .i64 ((rd_T26 ((rd_T52 l2 x18_1).f1) x30_2).f0), .int .i64 ((rd_T26 ((rd_T52 l2 x18_1).f1) x30_2).f1), .int .i64 ((rd_T26 ((rd_T52 l2 x18_1).f1) x30_2).f2), .int .i64 ((rd_T26 ((rd_T52 l2 x18_1).f1) x30_2).f3)] 26 (0, 0)) (by (with_reducible repeat (first | refine bkN ?_ _ | refine bkD ?_ | refine bkA ?_ _)); exact BK174.out) hb)
                     have n4_ := Aside0.mk (pbP (by repeat (first | (with_reducible first | exact HB.out | apply pbA | apply pbN | apply pbD | refine pbS ?_ GE165.out | refine pbS ?_ GE172.out | refine pbS ?_ GE174.out) | exact HB.out)) hb)
                     clear HO_0
                     clear BK165
                     clear BK172
                     clear BK174
                     clear HB
                     have HO_0 := n0_
                     have BK165 := n1_
                     have BK172 := n2_
                     have BK174 := n3_
                     have HB := n4_
                     clear n0_ n1_ n2_ n3_ n4_
                     (try clear hb)
                     (try clear hb2)
                     (try clear hk)
                     (try clear hi)
                     refine hK.out _ _ ⟨(bkC BK174.out 0).trans rfl, (bkC BK174.out 1).trans rfl, (bkC BK174.out 2).trans rfl, (bkC BK174.out 3).trans rfl, (bkC BK165.out 0).trans rfl, (bkC BK165.out 1).trans rfl, (bkC BK165.out 2).trans rfl, (bkC BK165.out 3).trans rfl, (bkC BK165.out 4).trans rfl, (bkC BK165.out 5).trans rfl⟩ (fun hHeld => ?_)
                     clear hK K
                     refine norm_ (a' := ?_) ?_ ?_
                     rotate_left
                     · show Act.put _ (some 36) _ = _
                       simp only [Act.put, List.setIfInBounds_toArray, List.set_cons_zero, List.set_cons_succ, i64_w, i32_w]
                       rfl
                     refine one_ (i := 7) (N := some 41) #[true, true, true, true, true, true, true, true, true, false, false, false, false] rfl rfl (one_of HT_.out (by kernel_rfl)) (by decide) (fun K hK => ?_)
                     refine goes_ Try.func64 (by kernel_rfl) rfl #[.agg #[.int .i64 t175, .int .i64 t176, .int .i64 t177, .int .i64 t178], .int .i64 a1_2, .int .i64 a1_3] (by rfl) rfl rfl (by (try simp only [List.map_toArray, List.map_cons, List.map_nil]); first | done | rfl | (simp only [List.length_drop, List.length_take]; rfl)) ?_
                     with_reducible refine (rect_Shift.calls t175 t176 t177 t178 a1_2 a1_3 t179 t180 t181 t182 _ A23.out).mono ?_
                     rintro e w34 ⟨rfl, hb⟩
                     refine ⟨_, rfl, ?_⟩
                     have n0_ := Aside0.mk (Kd.V_below (by (with_reducible repeat (first | apply Kd.V_alloc | apply Kd.V_drewN | apply Kd.V_drew)); exact HO_0.out) hb)
                     have n1_ := Aside0.mk (bkB (g := gb165) (o := .cells #[.int .i64 a1_0, .int .i64 a1_1, .int .i64 a1_2, .int .i64 a1_3, .int .i64 a1_4, .int .i64 a1_5] 54 (0, 0)) (by (with_reducible repeat (first | refine bkN ?_ _ | refine bkD ?_ | refine bkA ?_ _)); exact BK165.out) hb)
                     have n2_ := Aside0.mk (bkB (g := gb172) (o := .cells #[.int .i64 ((rd_T52 l2 x18_1).f0), .slice (some ad173) ((rd_T52 l2 x18_1).f1).length c171_1] 52 (0, 0)) (by (with_reducible repeat (first | refine bkN ?_ _ | refine bkD ?_ | refine bkA ?_ _)); exact BK172.out) hb)
                     have n3_ := Aside0.mk (bkB (g := gb174) (o := .cells #[.int .i64 ((rd_T26 ((rd_T52 l2 x18_1).f1) x30_2).f0), .int .i64 ((rd_T26 ((rd_T52 l2 x18_1).f1) x30_2).f1), .int .i64 ((rd_T26 ((rd_T52 l2 x18_1).f1) x30_2).f2), .int .i64 ((rd_T26 ((rd_T52 l2 x18_1).f1) x30_2).f3)] 26 (0, 0)) (by (with_reducible repeat (first | refine bkN ?_ _ | refine bkD ?_ | refine bkA ?_ _)); exact BK174.out) hb)
                     have n4_ := Aside0.mk (pbP (by repeat (first | (with_reducible first | exact HB.out | apply pbA | apply pbN | apply pbD | refine pbS ?_ GE165.out | refine pbS ?_ GE172.out | refine pbS ?_ GE174.out) | exact HB.out)) hb)
                     clear HO_0
                     clear BK165
                     clear BK172
                     clear BK174
                     clear HB
                     have HO_0 := n0_
                     have BK165 := n1_
                     have BK172 := n2_
                     have BK174 := n3_
                     have HB := n4_
                     clear n0_ n1_ n2_ n3_ n4_
                     (try clear hb)
                     (try clear hb2)
                     (try clear hk)
                     (try clear hi)
                     refine hK.out _ _ ⟨(bkC BK174.out 0).trans rfl, (bkC BK174.out 1).trans rfl, (bkC BK174.out 2).trans rfl, (bkC BK174.out 3).trans rfl, (bkC BK165.out 0).trans rfl, (bkC BK165.out 1).trans rfl, (bkC BK165.out 2).trans rfl, (bkC BK165.out 3).trans rfl, (bkC BK165.out 4).trans rfl, (bkC BK165.out 5).trans rfl⟩ (fun hHeld => ?_)
                     clear hK K
                     refine norm_ (a' := ?_) ?_ ?_
                     rotate_left
                     · show Act.put _ (some 41) _ = _
                       simp only [Act.put, List.setIfInBounds_toArray, List.set_cons_zero, List.set_cons_succ, i64_w, i32_w]
                       rfl
                     refine one_ (i := 9) (N := some 43) #[true, true, true, true, true, true, true, true, true, true, false, false, false] rfl rfl (one_of HT_.out (by kernel_rfl)) (by decide) (fun K hK => ?_)
                     refine goes_ Try.func71 (by kernel_rfl) rfl #[.agg #[.int .i64 a1_0, .int .i64 a1_1, .int .i64 a1_2, .int .i64 a1_3, .int .i64 a1_4, .int .i64 a1_5]] (by rfl) rfl rfl (by (try simp only [List.map_toArray, List.map_cons, List.map_nil]); first | done | rfl | (simp only [List.length_drop, List.length_take]; rfl)) ?_
                     with_reducible refine (repaint_of.calls a1_0 a1_1 a1_2 a1_3 a1_4 a1_5 t183 t184 t185 t186 _ A24.out).mono ?_
                     rintro e w35 ⟨rfl, hb⟩
                     refine ⟨_, rfl, ?_⟩
                     have n0_ := Aside0.mk (Kd.V_below (by (with_reducible repeat (first | apply Kd.V_alloc | apply Kd.V_drewN | apply Kd.V_drew)); exact HO_0.out) hb)
                     have n1_ := Aside0.mk (bkB (g := gb165) (o := .cells #[.int .i64 a1_0, .int .i64 a1_1, .int .i64 a1_2, .int .i64 a1_3, .int .i64 a1_4, .int .i64 a1_5] 54 (0, 0)) (by (with_reducible repeat (first | refine bkN ?_ _ | refine bkD ?_ | refine bkA ?_ _)); exact BK165.out) hb)
                     have n2_ := Aside0.mk (bkB (g := gb172) (o := .cells #[.int .i64 ((rd_T52 l2 x18_1).f0), .slice (some ad173) ((rd_T52 l2 x18_1).f1).length c171_1] 52 (0, 0)) (by (with_reducible repeat (first | refine bkN ?_ _ | refine bkD ?_ | refine bkA ?_ _)); exact BK172.out) hb)
                     have n3_ := Aside0.mk (bkB (g := gb174) (o := .cells #[.int .i64 ((rd_T26 ((rd_T52 l2 x18_1).f1) x30_2).f0), .int .i64 ((rd_T26 ((rd_T52 l2 x18_1).f1) x30_2).f1), .int .i64 ((rd_T26 ((rd_T52 l2 x18_1).f1) x30_2).f2), .int .i64 ((rd_T26 ((rd_T52 l2 x18_1).f1) x30_2).f3)] 26 (0, 0)) (by (with_reducible repeat (first | refine bkN ?_ _ | refine bkD ?_ | refine bkA ?_ _)); exact BK174.out) hb)
                     have n4_ := Aside0.mk (pbP (by repeat (first | (with_reducible first | exact HB.out | apply pbA | apply pbN | apply pbD | refine pbS ?_ GE165.out | refine pbS ?_ GE172.out | refine pbS ?_ GE174.out) | exact HB.out)) hb)
                     clear HO_0
                     clear BK165
                     clear BK172
                     clear BK174
                     clear HB
                     have HO_0 := n0_
                     have BK165 := n1_
                     have BK172 := n2_
                     have BK174 := n3_
                     have HB := n4_
                     clear n0_ n1_ n2_ n3_ n4_
                     (try clear hb)
                     (try clear hb2)
                     (try clear hk)
                     (try clear hi)
                     refine hK.out _ _ ⟨(bkC BK174.out 0).trans rfl, (bkC BK174.out 1).trans rfl, (bkC BK174.out 2).trans rfl, (bkC BK174.out 3).trans rfl, (bkC BK165.out 0).trans rfl, (bkC BK165.out 1).trans rfl, (bkC BK165.out 2).trans rfl, (bkC BK165.out 3).trans rfl, (bkC BK165.out 4).trans rfl, (bkC BK165.out 5).trans rfl⟩ (fun hHeld => ?_)
                     clear hK K
                     refine norm_ (a' := ?_) ?_ ?_
                     rotate_left
                     · show Act.put _ (some 43) _ = _
                       simp only [Act.put, List.setIfInBounds_toArray, List.set_cons_zero, List.set_cons_succ, i64_w, i32_w]
                       rfl
                     refine one_ (i := 10) (N := some 44) #[true, true, true, true, true, true, true, true, true, true, true, false, false] rfl rfl (one_of HT_.out (by kernel_rfl)) (by decide) (fun K hK => ?_)
                     refine goes_ Try.func90 (by kernel_rfl) rfl #[.agg #[.int .i64 t179, .int .i64 t180, .int .i64 t181, .int .i64 t182], .agg #[.int .i64 t183, .int .i64 t184, .int .i64 t185, .int .i64 t186]] (by rfl) rfl rfl (by (try simp only [List.map_toArray, List.map_cons, List.map_nil]); first | done | rfl | (simp only [List.length_drop, List.length_take]; rfl)) ?_
                     with_reducible refine (rect_Cut.calls t179 t180 t181 t182 t183 t184 t185 t186 t187 t188 t189 t190 _ A25.out).mono ?_
                     rintro e w36 ⟨rfl, hb⟩
                     refine ⟨_, rfl, ?_⟩
                     have n0_ := Aside0.mk (Kd.V_below (by (with_reducible repeat (first | apply Kd.V_alloc | apply Kd.V_drewN | apply Kd.V_drew)); exact HO_0.out) hb)
                     have n1_ := Aside0.mk (bkB (g := gb165) (o := .cells #[.int .i64 a1_0, .int .i64 a1_1, .int .i64 a1_2, .int .i64 a1_3, .int .i64 a1_4, .int .i64 a1_5] 54 (0, 0)) (by (with_reducible repeat (first | refine bkN ?_ _ | refine bkD ?_ | refine bkA ?_ _)); exact BK165.out) hb)
                     have n2_ := Aside0.mk (bkB (g := gb172) (o := .cells #[.int .i64 ((rd_T52 l2 x18_1).f0), .slice (some ad173) ((rd_T52 l2 x18_1).f1).length c171_1] 52 (0, 0)) (by (with_reducible repeat (first | refine bkN ?_ _ | refine bkD ?_ | refine bkA ?_ _)); exact BK172.out) hb)
                     have n3_ := Aside0.mk (bkB (g := gb174) (o := .cells #[.int .i64 ((rd_T26 ((rd_T52 l2 x18_1).f1) x30_2).f0), .int .i64 ((rd_T26 ((rd_T52 l2 x18_1).f1) x30_2).f1), .int .i64 ((rd_T26 ((rd_T52 l2 x18_1).f1) x30_2).f2), .int .i64 ((rd_T26 ((rd_T52 l2 x18_1).f1) x30_2).f3)] 26 (0, 0)) (by (with_reducible repeat (first | refine bkN ?_ _ | refine bkD ?_ | refine bkA ?_ _)); exact BK174.out) hb)
                     have n4_ := Aside0.mk (pbP (by repeat (first | (with_reducible first | exact HB.out | apply pbA | apply pbN | apply pbD | refine pbS ?_ GE165.out | refine pbS ?_ GE172.out | refine pbS ?_ GE174.out) | exact HB.out)) hb)
                     clear HO_0
                     clear BK165
                     clear BK172
                     clear BK174
                     clear HB
                     have HO_0 := n0_
                     have BK165 := n1_
                     have BK172 := n2_
                     have BK174 := n3_
                     have HB := n4_
                     clear n0_ n1_ n2_ n3_ n4_
                     (try clear hb)
                     (try clear hb2)
                     (try clear hk)
                     (try clear hi)
                     obtain ⟨Ao37, co37, eo37⟩ := Kd.V_slice HO_0.out
                     (first | subst eo37 | (injection eo37 with f1_ f2_ f3_; have f4_ := f1_.symm; have f5_ := f3_.symm; clear f1_ f2_ f3_; subst f4_; subst f5_))
                     refine hK.out _ _ ⟨(bkC BK174.out 0).trans rfl, (bkC BK174.out 1).trans rfl, (bkC BK174.out 2).trans rfl, (bkC BK174.out 3).trans rfl, (bkC BK165.out 0).trans rfl, (bkC BK165.out 1).trans rfl, (bkC BK165.out 2).trans rfl, (bkC BK165.out 3).trans rfl, (bkC BK165.out 4).trans rfl, (bkC BK165.out 5).trans rfl⟩ (fun hHeld => ?_)
                     clear hK K
                     refine norm_ (a' := ?_) ?_ ?_
                     rotate_left
                     · show Act.put _ (some 44) _ = _
                       simp only [Act.put, List.setIfInBounds_toArray, List.set_cons_zero, List.set_cons_succ, i64_w, i32_w]
                       rfl
                     refine one_ (i := 11) (N := some 45) #[true, true, true, true, true, true, true, true, true, true, true, true, false] rfl rfl (one_of HT_.out (by kernel_rfl)) (by decide) (fun K hK => ?_)
                     refine goes_ Try.func21 (by kernel_rfl) rfl #[.slice Ao37 x0_2.length co37, .agg #[.int .i64 t187, .int .i64 t188, .int .i64 t189, .int .i64 t190]] (by rfl) rfl rfl (by (try simp only [List.map_toArray, List.map_cons, List.map_nil]); first | done | rfl | (simp only [List.length_drop, List.length_take]; rfl)) ?_
                     with_reducible refine (damage_Add.calls k2 _ _ x0_2 t187 t188 t189 t190 t191 _ ?side1 ?side2 A26.out).mono ?_
                     (case side1 => repeat (first | exact (Kd.V_reads' HO_0.out).2.2 | (with_reducible refine Kd.C_alloc ?_ _) | (with_reducible refine Kd.C_drewN ?_ _) | (with_reducible refine Kd.C_drew ?_)))
                     (case side2 => exact (Kd.V_reads' HO_0.out).2.1)
                     rintro e w38 ⟨v192, rfl, ho0, hb⟩
                     refine ⟨_, rfl, ?_⟩
                     have n0_ := Aside0.mk (Kd.V_below (by (with_reducible repeat (first | apply Kd.V_alloc | apply Kd.V_drewN | apply Kd.V_drew)); exact HO_0.out) hb)
                     have n1_ := Aside0.mk (Kd.V_lower (Kd.V_mono (ok' := fun k_ => (P0_ k_ ∨ w.heap.size ≤ k_) ∧ k_ ≠ gb165 ∧ k_ ≠ gb172 ∧ k_ ≠ gb174) ho0 (fun k_ hk_ => ⟨(.inr (Nat.le_trans (pbZ (by repeat (first | (with_reducible first | exact HB.out | apply pbA | apply pbN | apply pbD | refine pbS ?_ GE165.out | refine pbS ?_ GE172.out | refine pbS ?_ GE174.out) | exact HB.out))) hk_)), (Kd.freshB (g := gb165) (o := .cells #[.int .i64 a1_0, .int .i64 a1_1, .int .i64 a1_2, .int .i64 a1_3, .int .i64 a1_4, .int .i64 a1_5] 54 (0, 0)) (by (with_reducible repeat (first | refine bkN ?_ _ | refine bkD ?_ | refine bkA ?_ _)); exact BK165.out) k_ hk_), (Kd.freshB (g := gb172) (o := .cells #[.int .i64 ((rd_T52 l2 x18_1).f0), .slice (some ad173) ((rd_T52 l2 x18_1).f1).length c171_1] 52 (0, 0)) (by (with_reducible repeat (first | refine bkN ?_ _ | refine bkD ?_ | refine bkA ?_ _)); exact BK172.out) k_ hk_), (Kd.freshB (g := gb174) (o := .cells #[.int .i64 ((rd_T26 ((rd_T52 l2 x18_1).f1) x30_2).f0), .int .i64 ((rd_T26 ((rd_T52 l2 x18_1).f1) x30_2).f1), .int .i64 ((rd_T26 ((rd_T52 l2 x18_1).f1) x30_2).f2), .int .i64 ((rd_T26 ((rd_T52 l2 x18_1).f1) x30_2).f3)] 26 (0, 0)) (by (with_reducible repeat (first | refine bkN ?_ _ | refine bkD ?_ | refine bkA ?_ _)); exact BK174.out) k_ hk_)⟩)) (pbZ (by repeat (first | (with_reducible first | exact HB.out | apply pbA | apply pbN | apply pbD | refine pbS ?_ GE165.out | refine pbS ?_ GE172.out | refine pbS ?_ GE174.out) | exact HB.out))))
                     have n2_ := Aside0.mk (bkB (g := gb165) (o := .cells #[.int .i64 a1_0, .int .i64 a1_1, .int .i64 a1_2, .int .i64 a1_3, .int .i64 a1_4, .int .i64 a1_5] 54 (0, 0)) (by (with_reducible repeat (first | refine bkN ?_ _ | refine bkD ?_ | refine bkA ?_ _)); exact BK165.out) hb)
                     have n3_ := Aside0.mk (bkB (g := gb172) (o := .cells #[.int .i64 ((rd_T52 l2 x18_1).f0), .slice (some ad173) ((rd_T52 l2 x18_1).f1).length c171_1] 52 (0, 0)) (by (with_reducible repeat (first | refine bkN ?_ _ | refine bkD ?_ | refine bkA ?_ _)); exact BK172.out) hb)
                     have n4_ := Aside0.mk (bkB (g := gb174) (o := .cells #[.int .i64 ((rd_T26 ((rd_T52 l2 x18_1).f1) x30_2).f0), .int .i64 ((rd_T26 ((rd_T52 l2 x18_1).f1) x30_2).f1), .int .i64 ((rd_T26 ((rd_T52 l2 x18_1).f1) x30_2).f2), .int .i64 ((rd_T26 ((rd_T52 l2 x18_1).f1) x30_2).f3)] 26 (0, 0)) (by (with_reducible repeat (first | refine bkN ?_ _ | refine bkD ?_ | refine bkA ?_ _)); exact BK174.out) hb)
                     have n5_ := Aside0.mk (pbP (by repeat (first | (with_reducible first | exact HB.out | apply pbA | apply pbN | apply pbD | refine pbS ?_ GE165.out | refine pbS ?_ GE172.out | refine pbS ?_ GE174.out) | exact HB.out)) hb)
                     clear HO_0
                     clear BK165
                     clear BK172
                     clear BK174
                     clear HB
                     have HO_0 := n0_
                     have HO193 := n1_
                     have BK165 := n2_
                     have BK172 := n3_
                     have BK174 := n4_
                     have HB := n5_
                     clear n0_ n1_ n2_ n3_ n4_ n5_
                     (try clear hb)
                     (try clear hb2)
                     (try clear hk)
                     (try clear hi)
                     (try clear ho0)
                     refine hK.out _ _ ⟨(bkC BK174.out 0).trans rfl, (bkC BK174.out 1).trans rfl, (bkC BK174.out 2).trans rfl, (bkC BK174.out 3).trans rfl, (bkC BK165.out 0).trans rfl, (bkC BK165.out 1).trans rfl, (bkC BK165.out 2).trans rfl, (bkC BK165.out 3).trans rfl, (bkC BK165.out 4).trans rfl, (bkC BK165.out 5).trans rfl⟩ (fun hHeld => ?_)
                     clear hK K
                     refine norm_ (a' := ?_) ?_ ?_
                     rotate_left
                     · show Act.put _ (some 45) _ = _
                       simp only [Act.put, List.setIfInBounds_toArray, List.set_cons_zero, List.set_cons_succ, i64_w, i32_w]
                       rfl
                     refine pure_ (i := 12) (N := some 0) (v := ?_) (a' := ?_) #[true, true, true, true, true, true, true, true, true, true, true, true, true] rfl rfl (any_of HT_.out (by kernel_rfl)) (fun _ _ _ h => h) (Or.inl ⟨by rfl, ?_⟩) ?_ ?_
                     rotate_left
                     · intro w'
                       go_simp
                       with_reducible rfl
                     rotate_left
                     · simp only [Act.put, List.setIfInBounds_toArray, List.set_cons_zero, List.set_cons_succ, i64_w, i32_w]
                       rfl
                     refine done_ (done_of HT_.out (by kernel_rfl)) ?_
                     try go_wp2
                     go_roundg k2
                     case measure => have := HK1.out; have := HK2.out; omega
                     case rel => exact ⟨(t191), (wrap64 (x30_2 + 1)), (by first | rfl | (simp; done) | (simp [*]; done)), H', ⟨by have := HK1.out; have := HK2.out; omega⟩, ⟨by (with_reducible repeat (first | apply Kd.V_alloc | apply Kd.V_drewN | apply Kd.V_drew)); exact Kd.V_mono HO193.out (fun _ hk => ⟨hk.1, ⟨hk.2.1, hk.2.2.1⟩⟩)⟩, ⟨by (with_reducible repeat (first | refine bkN ?_ _ | refine bkD ?_ | refine bkA ?_ _)); exact BK165.out⟩, ⟨by (with_reducible repeat (first | refine bkN ?_ _ | refine bkD ?_ | refine bkA ?_ _)); exact BK172.out⟩, ⟨by repeat (first | (with_reducible first | exact HB.out | apply pbA | apply pbN | apply pbD | refine pbS ?_ GE165.out | refine pbS ?_ GE172.out | refine pbS ?_ GE174.out) | exact HB.out)⟩⟩
                   · rw [if_neg c21] at H
                     exact absurd H (by simp)
                 · rw [if_neg c20] at H
                   exact absurd H (by simp)
               · rw [if_neg c19] at H
                 have c19b0 : decide (x30_2 < (((rd_T52 l2 x18_1).f1).length : Int)) = false := decide_eq_false c19
                 clear c19
                 have H' := Aside0.mk H
                 clear H
                 go_wp2
                 go_roundg k2
                 case measure => have := HK1.out; have := HK2.out; omega
                 case rel => exact ⟨(x0_2), (wrap64 (x18_1 + 1)), (by first | rfl | (simp; done) | (simp [*]; done)), H', ⟨by have := HK1.out; have := HK2.out; omega⟩, ⟨by (with_reducible repeat (first | apply Kd.V_alloc | apply Kd.V_drewN | apply Kd.V_drew)); exact Kd.V_mono HO_0.out (fun _ hk => ⟨hk.1, hk.2.1⟩)⟩, ⟨by (with_reducible repeat (first | refine bkN ?_ _ | refine bkD ?_ | refine bkA ?_ _)); exact BK165.out⟩, ⟨by repeat (first | (with_reducible first | exact HB.out | apply pbA | apply pbN | apply pbD | refine pbS ?_ GE165.out | refine pbS ?_ GE172.out) | exact HB.out)⟩⟩
           · rw [if_neg c14] at H
             have c14b0 : (((rd_T52 l2 x18_1).f0) == a1_0) = false := beq_eq_false_iff_ne.mpr c14
             have c14b1 : (((rd_T52 l2 x18_1).f0) != a1_0) = true := bne_iff_ne.mpr c14
             have H' := Aside0.mk H
             clear H
             have p171 : 0 ≤ (x18_1 : Int) := of_decide_eq_true (by first | (with_reducible assumption) | assumption)
             have q171 : x18_1 < (l2.length : Int) := of_decide_eq_true (by first | (with_reducible assumption) | assumption)
             obtain ⟨ad171, A171_1, c171_1, e171, hx171_0, hx171_1, hl171_1, hi171_1⟩ := at_T52 HR2.out x18_1 p171 q171
             cases e171
             replace hx171_0 := (HB.out.cell (World.block_lt_of_cell? w _ hx171_0)).trans hx171_0
             replace hx171_1 := (HB.out.cell (World.block_lt_of_cell? w _ hx171_1)).trans hx171_1
             have HR171_1 := Aside0.mk hi171_1
             have HC171_1 := Aside0.mk hl171_1
             clear hi171_1 hl171_1
             replace p171 := eq_true p171
             replace q171 := eq_true q171
             go_wp2_with (first | ((with_reducible refine gate_dst (N := 8) rfl ?_); refine box_event ?hg (N := 8) ?hd (cs := #[.int .i64 0, .slice none 0 0]) (t := 52) ?hr ?_; (case hd => rfl); (case hg => rfl); (case hr => first | (go_simp; done) | (go_simp; rfl)); intro gb172 hg w39 hbox hb; have n0_ := Aside0.mk (Kd.V_below (Kd.V_elderB (by (with_reducible repeat (first | apply Kd.V_alloc | apply Kd.V_drewN | apply Kd.V_drew)); exact HO_0.out) gb172 (Nat.le_of_eq hg.symm)) hb); have n1_ := Aside0.mk (bkB (g := gb165) (o := .cells #[.int .i64 a1_0, .int .i64 a1_1, .int .i64 a1_2, .int .i64 a1_3, .int .i64 a1_4, .int .i64 a1_5] 54 (0, 0)) (by (with_reducible repeat (first | refine bkN ?_ _ | refine bkD ?_ | refine bkA ?_ _)); exact BK165.out) hb); have n2_ := Aside0.mk (pbP (by repeat (first | (with_reducible first | exact HB.out | apply pbA | apply pbN | apply pbD | refine pbS ?_ GE165.out) | exact HB.out)) hb); have n3_ := Aside0.mk (hbox); have n4_ := Aside0.mk ((by rw [hg]; exact (pbZ (by repeat (first | (with_reducible first | exact HB.out | apply pbA | apply pbN | apply pbD | refine pbS ?_ GE165.out) | exact HB.out))) : w.heap.size ≤ gb172)); have n5_ := Aside0.mk ((by rw [hg]; exact (pbZ (by repeat (first | (with_reducible first | exact HB.out | apply pbA | apply pbN | apply pbD | refine pbS ?_ GE165.out) | exact HB.out))) : w.heap.size ≤ gb172)); have n6_ := Aside0.mk ((by rw [hg]; exact Nat.ne_of_lt (blk_lt (g := gb165) (o := .cells #[.int .i64 a1_0, .int .i64 a1_1, .int .i64 a1_2, .int .i64 a1_3, .int .i64 a1_4, .int .i64 a1_5] 54 (0, 0)) (by (with_reducible repeat (first | refine bkN ?_ _ | refine bkD ?_ | refine bkA ?_ _)); exact BK165.out)) : gb165 ≠ gb172)); have n7_ := Aside0.mk ((by rw [hg]; exact Nat.ne_of_gt (blk_lt (g := gb165) (o := .cells #[.int .i64 a1_0, .int .i64 a1_1, .int .i64 a1_2, .int .i64 a1_3, .int .i64 a1_4, .int .i64 a1_5] 54 (0, 0)) (by (with_reducible repeat (first | refine bkN ?_ _ | refine bkD ?_ | refine bkA ?_ _)); exact BK165.out)) : gb172 ≠ gb165)); clear HO_0; clear BK165; clear HB; have HO_0 := n0_; have BK165 := n1_; have HB := n2_; have BK172 := n3_; have GW172 := n4_; have GE172 := n5_; have NB165_172 := n6_; have NB172_165 := n7_; clear n0_ n1_ n2_ n3_ n4_ n5_ n6_ n7_; clear hb hbox hg; have hnb40 := NB172_165.out; have hnc40 := NB165_172.out; have hcz41_0 : w39.cell? ⟨gb172, 0, none⟩ = some (.int .i64 0) := (bkC BK172.out 0).trans rfl; have hcz41_1 : w39.cell? ⟨gb172, 1, none⟩ = some (.slice none 0 0) := (bkC BK172.out 1).trans rfl; have hfz41_0 := bkF BK172.out 0; have hfz41_1 := bkF BK172.out 1; have hcz42_0 : w39.cell? ⟨gb165, 0, none⟩ = some (.int .i64 a1_0) := (bkC BK165.out 0).trans rfl; have hcz42_1 : w39.cell? ⟨gb165, 1, none⟩ = some (.int .i64 a1_1) := (bkC BK165.out 1).trans rfl; have hcz42_2 : w39.cell? ⟨gb165, 2, none⟩ = some (.int .i64 a1_2) := (bkC BK165.out 2).trans rfl; have hcz42_3 : w39.cell? ⟨gb165, 3, none⟩ = some (.int .i64 a1_3) := (bkC BK165.out 3).trans rfl; have hcz42_4 : w39.cell? ⟨gb165, 4, none⟩ = some (.int .i64 a1_4) := (bkC BK165.out 4).trans rfl; have hcz42_5 : w39.cell? ⟨gb165, 5, none⟩ = some (.int .i64 a1_5) := (bkC BK165.out 5).trans rfl; have hfz42_0 := bkF BK165.out 0; have hfz42_1 := bkF BK165.out 1; have hfz42_2 := bkF BK165.out 2; have hfz42_3 := bkF BK165.out 3; have hfz42_4 := bkF BK165.out 4; have hfz42_5 := bkF BK165.out 5))
             go_roundg k1
             case measure => have := HK1.out; omega
             case rel => exact ⟨(x0_1), (wrap64 (x18_1 + 1)), (by first | rfl | (simp; done) | (simp [*]; done)), H', ⟨by have := HK1.out; omega⟩, ⟨by (with_reducible repeat (first | apply Kd.V_alloc | apply Kd.V_drewN | apply Kd.V_drew)); exact Kd.V_mono (Kd.V_far (p := ⟨gb172, 1, none⟩) (Kd.V_far (p := ⟨gb172, 0, none⟩) (Kd.V_mono HO_0.out (fun k_ hk => (⟨hk, hk.2⟩ : _ ∧ k_ ≠ gb172))) (fun _ hk => hk.2) (.int .i64 ((rd_T52 l2 x18_1).f0))) (fun _ hk => hk.2) (.slice A171_1 ((rd_T52 l2 x18_1).f1).length c171_1)) (fun _ hk => ⟨hk.1.1.1, hk.1.1.2⟩)⟩, ⟨by (with_reducible repeat (first | refine bkN ?_ _ | refine bkD ?_ | refine bkA ?_ _)); refine blk_far ?_ NB165_172.out _; (with_reducible repeat (first | refine bkN ?_ _ | refine bkD ?_ | refine bkA ?_ _)); refine blk_far ?_ NB165_172.out _; (with_reducible repeat (first | refine bkN ?_ _ | refine bkD ?_ | refine bkA ?_ _)); exact BK165.out⟩, ⟨by repeat (first | (with_reducible first | exact HB.out | apply pbA | apply pbN | apply pbD | refine pbS ?_ GE165.out | refine pbS ?_ GE172.out) | exact HB.out)⟩⟩
         · rw [if_neg c13] at H
           exact absurd H (by simp)
       · rw [if_neg c12] at H
         exact absurd H (by simp)
     · rw [if_neg c11] at H
       have c11b0 : decide (x18_1 < (l2.length : Int)) = false := decide_eq_false c11
       clear c11
       obtain rfl := Option.some.inj H
       go_wp2
       go_ret
       exact ⟨_, by first | rfl | (simp [errW_none, errW_some] <;> rfl) | (simp [*, errW_none, errW_some] <;> rfl), by (with_reducible repeat (first | apply Kd.V_alloc | apply Kd.V_drewN | apply Kd.V_drew)); exact Kd.V_mono HO_0.out (fun _ hk => hk.1), by repeat (first | (with_reducible first | exact HB.out | apply pbA | apply pbN | apply pbD | refine pbS ?_ GE165.out) | exact HB.out)⟩
 · replace c6 := Bool.eq_false_iff.mpr c6
   subst c6
   have H1 : (some l0) = some r := by rw [if_neg (show ¬ (false = true) by decide)] at H; exact H
   clear H
   have H := H1
   clear H1
   obtain rfl := Option.some.inj H
   go_enter Try.func70, Try.ntmps70
   go_wp2_with (first | ((with_reducible refine gate_dst (N := 4) rfl ?_); refine box_event ?hg (N := 4) ?hd (cs := #[.int .i64 a1_0, .int .i64 a1_1, .int .i64 a1_2, .int .i64 a1_3, .int .i64 a1_4, .int .i64 a1_5]) (t := 54) ?hr ?_; (case hd => rfl); (case hg => rfl); (case hr => first | (go_simp; done) | (go_simp; rfl)); intro gb165 hg w43 hbox hb; have n0_ := Aside0.mk (Kd.V_below (Kd.V_elderB (by (with_reducible repeat (first | apply Kd.V_alloc | apply Kd.V_drewN | apply Kd.V_drew)); exact HO0.out) gb165 (Nat.le_of_eq hg.symm)) hb); have n1_ := Aside0.mk (pbP (by repeat (first | (with_reducible first | exact HB.out | apply pbA | apply pbN | apply pbD) | exact HB.out)) hb); have n2_ := Aside0.mk (hbox); have n3_ := Aside0.mk ((by rw [hg]; exact (pbZ (by repeat (first | (with_reducible first | exact HB.out | apply pbA | apply pbN | apply pbD) | exact HB.out))) : w.heap.size ≤ gb165)); have n4_ := Aside0.mk ((by rw [hg]; exact (pbZ (by repeat (first | (with_reducible first | exact HB.out | apply pbA | apply pbN | apply pbD) | exact HB.out))) : w.heap.size ≤ gb165)); clear HO0; clear HB; have HO0 := n0_; have HB := n1_; have BK165 := n2_; have GW165 := n3_; have GE165 := n4_; clear n0_ n1_ n2_ n3_ n4_; clear hb hbox hg; have hcz44_0 : w43.cell? ⟨gb165, 0, none⟩ = some (.int .i64 a1_0) := (bkC BK165.out 0).trans rfl; have hcz44_1 : w43.cell? ⟨gb165, 1, none⟩ = some (.int .i64 a1_1) := (bkC BK165.out 1).trans rfl; have hcz44_2 : w43.cell? ⟨gb165, 2, none⟩ = some (.int .i64 a1_2) := (bkC BK165.out 2).trans rfl; have hcz44_3 : w43.cell? ⟨gb165, 3, none⟩ = some (.int .i64 a1_3) := (bkC BK165.out 3).trans rfl; have hcz44_4 : w43.cell? ⟨gb165, 4, none⟩ = some (.int .i64 a1_4) := (bkC BK165.out 4).trans rfl; have hcz44_5 : w43.cell? ⟨gb165, 5, none⟩ = some (.int .i64 a1_5) := (bkC BK165.out 5).trans rfl; have hfz44_0 := bkF BK165.out 0; have hfz44_1 := bkF BK165.out 1; have hfz44_2 := bkF BK165.out 2; have hfz44_3 := bkF BK165.out 3; have hfz44_4 := bkF BK165.out 4; have hfz44_5 := bkF BK165.out 5) | ((with_reducible refine gate_callee (f := 71) rfl ?_); refine goesL_ (some 12) rfl rfl Try.func71 (by kernel_rfl) rfl #[.agg #[.int .i64 a1_0, .int .i64 a1_1, .int .i64 a1_2, .int .i64 a1_3, .int .i64 a1_4, .int .i64 a1_5]] rfl (by (try simp only [List.map_toArray, List.map_cons, List.map_nil]); first | done | rfl | (simp only [List.length_drop, List.length_take]; rfl)) ?_; (with_reducible refine (repaint_of.calls a1_0 a1_1 a1_2 a1_3 a1_4 a1_5 t166 t167 t168 t169 _ A4.out).mono ?_); rintro e w45 ⟨rfl, hb⟩; refine ⟨_, rfl, ?_⟩; have n0_ := Aside0.mk (Kd.V_below (by (with_reducible repeat (first | apply Kd.V_alloc | apply Kd.V_drewN | apply Kd.V_drew)); exact HO0.out) hb); have n1_ := Aside0.mk (bkB (g := gb165) (o := .cells #[.int .i64 a1_0, .int .i64 a1_1, .int .i64 a1_2, .int .i64 a1_3, .int .i64 a1_4, .int .i64 a1_5] 54 (0, 0)) (by (with_reducible repeat (first | refine bkN ?_ _ | refine bkD ?_ | refine bkA ?_ _)); exact BK165.out) hb); have n2_ := Aside0.mk (pbP (by repeat (first | (with_reducible first | exact HB.out | apply pbA | apply pbN | apply pbD | refine pbS ?_ GE165.out) | exact HB.out)) hb); clear HO0; clear BK165; clear HB; have HO0 := n0_; have BK165 := n1_; have HB := n2_; clear n0_ n1_ n2_; (try clear hb); (try clear hb2); (try clear hk); (try clear hi)) | ((with_reducible refine gate_callee (f := 79) rfl ?_); refine goesL_ (some 13) rfl rfl Try.func79 (by kernel_rfl) rfl #[.agg #[.int .i64 t166, .int .i64 t167, .int .i64 t168, .int .i64 t169]] rfl (by (try simp only [List.map_toArray, List.map_cons, List.map_nil]); first | done | rfl | (simp only [List.length_drop, List.length_take]; rfl)) ?_; (with_reducible refine (rect_Check.calls t166 t167 t168 t169 false _ A5.out).mono ?_); rintro e w46 ⟨rfl, hb⟩; refine ⟨_, rfl, ?_⟩; have n0_ := Aside0.mk (Kd.V_below (by (with_reducible repeat (first | apply Kd.V_alloc | apply Kd.V_drewN | apply Kd.V_drew)); exact HO0.out) hb); have n1_ := Aside0.mk (bkB (g := gb165) (o := .cells #[.int .i64 a1_0, .int .i64 a1_1, .int .i64 a1_2, .int .i64 a1_3, .int .i64 a1_4, .int .i64 a1_5] 54 (0, 0)) (by (with_reducible repeat (first | refine bkN ?_ _ | refine bkD ?_ | refine bkA ?_ _)); exact BK165.out) hb); have n2_ := Aside0.mk (pbP (by repeat (first | (with_reducible first | exact HB.out | apply pbA | apply pbN | apply pbD | refine pbS ?_ GE165.out) | exact HB.out)) hb); clear HO0; clear BK165; clear HB; have HO0 := n0_; have BK165 := n1_; have HB := n2_; clear n0_ n1_ n2_; (try clear hb); (try clear hb2); (try clear hk); (try clear hi)))
   go_ret
   exact ⟨_, by first | rfl | (simp [errW_none, errW_some] <;> rfl) | (simp [*, errW_none, errW_some] <;> rfl), by (with_reducible repeat (first | apply Kd.V_alloc | apply Kd.V_drewN | apply Kd.V_drew)); exact Kd.V_mono HO0.out (fun _ hk => hk.1), by repeat (first | (with_reducible first | exact HB.out | apply pbA | apply pbN | apply pbD | refine pbS ?_ GE165.out) | exact HB.out)⟩


end Go.Proofs.Ytclpppejabfbbaa.PF
