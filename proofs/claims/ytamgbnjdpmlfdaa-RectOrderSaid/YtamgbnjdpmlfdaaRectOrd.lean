/- RectOrder, walked by hand. Printed by gen_order.py. -/
import Derived.Test.YtamgbnjdpmlfdaaRectWalk4
import Derived.Deep.RegionHeld3
import Derived.Deep.Cut
import Derived.OpenShut
set_option linter.unusedVariables false
set_option linter.unusedSimpArgs false
namespace Go.Proofs.Ytamgbnjdpmlfdaa.Rect
open Go.RowKit Go.Proofs.Ytamgbnjdpmlfdaa.Kit
attribute [local go_sem high] bmax2 bmin2 bmax_2 bmin_2 bmax_3 bmin_3 bmax_4 bmin_4 rEq

/-! plain -/
theorem o_cut_comm (a b : R) : rCut b a = rCut a b := by
  unfold rCut
  rw [Bool.or_comm, Int.max_comm b.x, Int.max_comm b.y, Int.min_comm (b.x + b.w), Int.min_comm (b.y + b.h)]
theorem o_cover_comm {a b : R} (ha : emp a = false) (hb : emp b = false) : rCover b a = rCover a b := by
  rw [cover_ne ha hb, cover_ne hb ha, Int.min_comm b.x, Int.min_comm b.y, Int.max_comm (b.x + b.w), Int.max_comm (b.y + b.h)]
theorem o_cut_self {a : R} (ha : emp a = false) : rCut a a = a := by
  have h := emp_f.1 ha
  unfold rCut
  rw [ha]
  simp only [Bool.or_self, Bool.false_eq_true, if_false, Int.max_self, Int.min_self]
  rw [rOf_mk (by omega)]
  apply R.ext' <;> simp <;> omega
theorem o_cover_self {a : R} (ha : emp a = false) : rCover a a = a := by
  rw [cover_ne ha ha]
  apply R.ext' <;> simp <;> omega
theorem o_cut_cover {a b : R} (ha : emp a = false) (hb : emp b = false) : rCut a (rCover a b) = a := by
  have h1 := emp_f.1 ha
  have h2 := emp_f.1 hb
  have h3 := emp_cover_ne ha hb
  unfold rCut
  rw [ha, h3]
  simp only [Bool.or_self, Bool.false_eq_true, if_false]
  rw [cover_ne ha hb, rOf_mk (by simp only; omega)]
  apply R.ext' <;> simp only <;> omega
theorem o_cut_z {a b : R} (h : emp (rCut a b) = true) : rCut a b = zR := by
  unfold rCut at h ⊢
  split
  · rfl
  · rename_i hn
    rw [if_neg hn] at h
    exact rOf_z (rOf_emp.1 h)
theorem o_cover_cut {a b : R} (ha : emp a = false) (hb : emp b = false) (h : emp (rCut a b) = false) : rCover a (rCut a b) = a := by
  have h1 := emp_f.1 ha
  have h2 := emp_f.1 hb
  have e : rCut a b = rOf (max a.x b.x) (max a.y b.y) (min (a.x + a.w) (b.x + b.w)) (min (a.y + a.h) (b.y + b.h)) := by unfold rCut; rw [ha, hb]; rfl
  rw [cover_ne ha h]
  rw [e] at h ⊢
  have hn : ¬ (min (a.x + a.w) (b.x + b.w) ≤ max a.x b.x ∨ min (a.y + a.h) (b.y + b.h) ≤ max a.y b.y) := fun q => by rw [rOf_z q] at h; exact absurd h (by decide)
  rw [rOf_mk hn]
  apply R.ext' <;> simp only <;> omega
theorem o_chk_cover {a b : R} (ha : rChk a = true) (hb : rChk b = true) : rChk (rCover a b) = true := by
  have ea := chk_emp ha
  have eb := chk_emp hb
  rw [chk_iff] at ha hb ⊢
  rw [cover_ne ea eb]
  unfold chkR at ha hb ⊢
  simp only
  omega
theorem sm_z : Sm zR := by unfold Sm zR; simp only; omega
theorem o_sm_cut {a b : R} (ha : rChk a = true) (hb : rChk b = true) : Sm (rCut a b) := by
  cases h : emp (rCut a b) with
  | true => rw [o_cut_z h]; exact sm_z
  | false =>
    have ea := chk_emp ha
    have eb := chk_emp hb
    have e : rCut a b = rOf (max a.x b.x) (max a.y b.y) (min (a.x + a.w) (b.x + b.w)) (min (a.y + a.h) (b.y + b.h)) := by unfold rCut; rw [ea, eb]; rfl
    rw [e] at h ⊢
    have hn : ¬ (min (a.x + a.w) (b.x + b.w) ≤ max a.x b.x ∨ min (a.y + a.h) (b.y + b.h) ≤ max a.y b.y) := fun q => by rw [rOf_z q] at h; exact absurd h (by decide)
    rw [rOf_mk hn]
    rw [chk_iff] at ha hb
    unfold chkR at ha hb
    unfold Sm
    simp only
    omega
theorem o_alloc_size (w : World) (o : Obj) : (w.alloc o).heap.size = w.heap.size + 1 := by simp
/-! the calls, at rectangles -/
theorem rchk_R (a : R) (w : World) (h : I64 a) : Calls Try.prog 10 #[.agg #[.int .i64 a.x, .int .i64 a.y, .int .i64 a.w, .int .i64 a.h]] w fun e w' => e = .returned (.bool (rChk a)) ∧ Below w.heap.size w w' := rCheck_any a.x a.y a.w a.h w h
theorem chk_R (a : R) (w : World) (h : I64 a) : Calls Try.prog 9 #[.agg #[.int .i64 a.x, .int .i64 a.y, .int .i64 a.w, .int .i64 a.h]] w fun e w' => e = .returned (.bool (rChk a)) ∧ Below w.heap.size w w' := Check_any a.x a.y a.w a.h w h
theorem empty_R (a : R) (w : World) : Calls Try.prog 18 #[.agg #[.int .i64 a.x, .int .i64 a.y, .int .i64 a.w, .int .i64 a.h]] w fun e w' => e = .returned (.bool (emp a)) ∧ Below w.heap.size w w' := Empty_any a.x a.y a.w a.h w
theorem bound_R (a : R) (w : World) (h : I64 a) : Calls Try.prog 16 #[.agg #[.int .i64 a.x, .int .i64 a.y, .int .i64 a.w, .int .i64 a.h]] w fun e w' => e = .returned (.agg #[.int .i64 (rBound a).x, .int .i64 (rBound a).y, .int .i64 (rBound a).w, .int .i64 (rBound a).h]) ∧ Below w.heap.size w w' := Bound_any a.x a.y a.w a.h w h
theorem cut_R (a b : R) (w : World) (ha : Sm a) (hb : Sm b) : Calls Try.prog 17 #[.agg #[.int .i64 a.x, .int .i64 a.y, .int .i64 a.w, .int .i64 a.h], .agg #[.int .i64 b.x, .int .i64 b.y, .int .i64 b.w, .int .i64 b.h]] w fun e w' => e = .returned (.agg #[.int .i64 (rCut a b).x, .int .i64 (rCut a b).y, .int .i64 (rCut a b).w, .int .i64 (rCut a b).h]) ∧ Below w.heap.size w w' := Cut_any a.x a.y a.w a.h b.x b.y b.w b.h w (fun _ => ha) (fun _ => hb)
theorem cover_R (a b : R) (w : World) (ha : Sm a) (hb : Sm b) : Calls Try.prog 14 #[.agg #[.int .i64 a.x, .int .i64 a.y, .int .i64 a.w, .int .i64 a.h], .agg #[.int .i64 b.x, .int .i64 b.y, .int .i64 b.w, .int .i64 b.h]] w fun e w' => e = .returned (.agg #[.int .i64 (rCover a b).x, .int .i64 (rCover a b).y, .int .i64 (rCover a b).w, .int .i64 (rCover a b).h]) ∧ Below w.heap.size w w' := Cover_any a.x a.y a.w a.h b.x b.y b.w b.h w (fun _ => ha) (fun _ => hb)
set_option maxRecDepth 100000 in
set_option maxHeartbeats 64000000 in
theorem order_law (a b : R) (w : World) (ia : I64 a) (ib : I64 b) :
    Calls Try.prog 6 #[.agg #[.int .i64 a.x, .int .i64 a.y, .int .i64 a.w, .int .i64 a.h], .agg #[.int .i64 b.x, .int .i64 b.y, .int .i64 b.w, .int .i64 b.h]] w fun e w' => e = .returned (.bool true) ∧ Below w.heap.size w w' := by
  go_enter Try.func6, Try.ntmps6
  go_wp2_with fail
  generalize hwv : World.alloc _ _ = w0
  have Ba : Bk w0 (w.heap.size) 23 #[.int .i64 a.x, .int .i64 a.y, .int .i64 a.w, .int .i64 a.h] := hwv ▸ (Bk.new _ _ _).al _
  have Bb : Bk w0 (w.heap.size + 1) 23 #[.int .i64 b.x, .int .i64 b.y, .int .i64 b.w, .int .i64 b.h] := hwv ▸ Bk.new' _ _ _ (by simp)
  have hw0 : Below w.heap.size w w0 := hwv ▸ bl_alloc (bl_alloc (Below.refl _ _) _) _
  clear hwv
  refine (rchk_R a _ ia).mono ?_
  rintro e w1 ⟨rfl, hq⟩
  replace Ba := Ba.be hq
  replace Bb := Bb.be hq
  have hw1 := bl_step hw0 hq
  clear hq hw0
  by_cases ca : rChk a = true
  case neg =>
    rw [Bool.eq_false_iff.2 ca]
    go_wp2_with fail
    refine (awake07 _).mono ?_
    rintro e wx ⟨rfl, hbx⟩
    go_wp2_with fail
    go_ret
    exact ⟨rfl, bl_step hw1 hbx⟩
  rw [ca]
  obtain ⟨k0, k1, k2, k3⟩ := Bb.c4
  go_wp2_with fail
  clear k0 k1 k2 k3
  refine (rchk_R b _ ib).mono ?_
  rintro e w2 ⟨rfl, hq⟩
  replace Ba := Ba.be hq
  replace Bb := Bb.be hq
  have hw2 := bl_step hw1 hq
  clear hq hw1
  by_cases cb : rChk b = true
  case neg =>
    rw [Bool.eq_false_iff.2 cb]
    go_wp2_with fail
    refine (awake07 _).mono ?_
    rintro e wx ⟨rfl, hbx⟩
    go_wp2_with fail
    go_ret
    exact ⟨rfl, bl_step hw2 hbx⟩
  rw [cb]
  have ea := chk_emp ca
  have eb := chk_emp cb
  have sa := Sm.of_chk ca
  have sb := Sm.of_chk cb
  have sC := o_sm_cut ca cb
  have cD := o_chk_cover ca cb
  have sD := Sm.of_chk cD
  have e1 := o_cut_comm a b
  have e2 := o_cover_comm ea eb
  have e3 := o_cut_self ea
  have e4 := o_cover_self ea
  have e5 := o_cut_cover ea eb
  have e6 := @o_cut_z a b
  have e7 := o_cover_cut ea eb
  have e8 := bound_chk ca
  have iD := Sm.i64 sD (chk_emp cD)
  obtain ⟨C, hC⟩ : ∃ C, rCut a b = C := ⟨_, rfl⟩
  obtain ⟨D, hD⟩ : ∃ D, rCover a b = D := ⟨_, rfl⟩
  rw [hC] at e1 e6 e7 sC
  rw [hD] at e2 e5 sD cD iD
  have hC := Lib.hid hC
  have hD := Lib.hid hD
  have e1 := Lib.hid e1
  have e2 := Lib.hid e2
  have e3 := Lib.hid e3
  have e4 := Lib.hid e4
  have e5 := Lib.hid e5
  have e6 := Lib.hid e6
  have e7 := Lib.hid e7
  have e8 := Lib.hid e8
  have cD := Lib.hid cD
  have ia := Lib.hid ia
  have iD := Lib.hid iD
  have sa := Lib.hid sa
  have sb := Lib.hid sb
  have sC := Lib.hid sC
  have sD := Lib.hid sD
  clear ca cb ea eb ib
  go_upto_region 3 with fail
  go_cut [5, 6] from 7 (fun s5 s6 wx => ∃ g5 g6 : Nat, s5 = .pointer (some ⟨g5, 0, none⟩) ∧ s6 = .pointer (some ⟨g6, 0, none⟩) ∧ Bk wx g5 23 #[.int .i64 C.x, .int .i64 C.y, .int .i64 C.w, .int .i64 C.h] ∧ Bk wx g6 23 #[.int .i64 D.x, .int .i64 D.y, .int .i64 D.w, .int .i64 D.h] ∧ Below w2.heap.size w2 wx)
  case first =>
    rename_i J K' hJ hK'
    have hS : ∀ w' : World, Below w2.heap.size w2 w' → (Below w2.heap.size w2 w' ∧ _ ∧ _) := fun w' hq => ⟨hq, (Ba.be hq).c4, (Bb.be hq).c4⟩
    go_region_held3 (fun w' : World => Below w2.heap.size w2 w' ∧ (w'.cell? ⟨w.heap.size, 0, none⟩ = some (.int .i64 a.x) ∧ w'.cell? ⟨w.heap.size, 1, none⟩ = some (.int .i64 a.y) ∧ w'.cell? ⟨w.heap.size, 2, none⟩ = some (.int .i64 a.w) ∧ w'.cell? ⟨w.heap.size, 3, none⟩ = some (.int .i64 a.h)) ∧ (w'.cell? ⟨w.heap.size + 1, 0, none⟩ = some (.int .i64 b.x) ∧ w'.cell? ⟨w.heap.size + 1, 1, none⟩ = some (.int .i64 b.y) ∧ w'.cell? ⟨w.heap.size + 1, 2, none⟩ = some (.int .i64 b.w) ∧ w'.cell? ⟨w.heap.size + 1, 3, none⟩ = some (.int .i64 b.h))) (exact hS _ (by repeat (first | (with_reducible exact Below.refl _ _) | (with_reducible assumption) | (with_reducible apply bl_alloc) | (with_reducible apply bl_drew) | ((with_reducible refine bl_set ?_ ?hs _); case hs => (simp; try omega)) | (with_reducible refine bl_step ?_ (by assumption))))) (first
      | (go_at_call 17; refine (cut_R a b _ sa.out sb.out).mono ?_; rintro e u1 ⟨rfl, hqu1⟩; have yu1 : Below w2.heap.size w2 u1 := (by repeat (first | (with_reducible exact Below.refl _ _) | (with_reducible assumption) | (with_reducible apply bl_alloc) | (with_reducible apply bl_drew) | ((with_reducible refine bl_set ?_ ?hs _); case hs => (simp; try omega)) | (with_reducible refine bl_step ?_ (by assumption)))); have zu1 := yu1.size; rw [hC.out]; (try (have H1 : Bk u1 w2.heap.size 23 #[.int .i64 0, .int .i64 0, .int .i64 0, .int .i64 0] := (by first | exact (Bk.new _ _ _).be hqu1 | exact (Bk.new _ _ _).dr.be hqu1 | exact ((Bk.new _ _ _).al _).be hqu1 | exact ((Bk.new _ _ _).al _).dr.be hqu1 | exact ((Bk.new _ _ _).dr.al _).be hqu1))); (try (have H2 : Bk u1 (w2.heap.size + 1) 23 #[.int .i64 0, .int .i64 0, .int .i64 0, .int .i64 0] := (by first | exact (Bk.new' _ _ _ (o_alloc_size _ _)).be hqu1 | exact (Bk.new' _ _ _ (o_alloc_size _ _)).dr.be hqu1))); (try (have n1 := H1.lt; have m1 := Nat.ne_of_lt n1; have m1' := (Nat.ne_of_lt n1).symm)); (try (have n2 := H2.lt; have m2 := Nat.ne_of_lt n2; have m2' := (Nat.ne_of_lt n2).symm)))
      | (go_at_call 14; refine (cover_R a b _ sa.out sb.out).mono ?_; rintro e u2 ⟨rfl, hqu2⟩; have xu2 : Below u1.heap.size u1 u2 := (by repeat (first | (with_reducible exact Below.refl _ _) | (with_reducible apply bl_alloc) | (with_reducible apply bl_drew) | ((with_reducible refine bl_set ?_ ?hs _); case hs => (simp; try omega)) | (with_reducible refine bl_step ?_ (by assumption)))); have yu2 : Below w2.heap.size w2 u2 := bl_step yu1 xu2; have zu2 := yu2.size; rw [hD.out]; (try (have J1 := H1.be xu2; have nJ1 := J1.lt; have mJ1 := Nat.ne_of_lt nJ1; have mJ1' := (Nat.ne_of_lt nJ1).symm; obtain ⟨J10, J11, J12, J13⟩ := J1.c4; have J1z := J1.fz)); (try (have J2 := H2.be xu2; have nJ2 := J2.lt; have mJ2 := Nat.ne_of_lt nJ2; have mJ2' := (Nat.ne_of_lt nJ2).symm; obtain ⟨J20, J21, J22, J23⟩ := J2.c4; have J2z := J2.fz)); (try (have J3 : Bk u2 u1.heap.size 23 #[.int .i64 0, .int .i64 0, .int .i64 0, .int .i64 0] := (by first | exact (Bk.new _ _ _).be hqu2 | exact ((Bk.new _ _ _).al _).be hqu2); have nJ3 := J3.lt; have mJ3 := Nat.ne_of_lt nJ3; have mJ3' := (Nat.ne_of_lt nJ3).symm; obtain ⟨J30, J31, J32, J33⟩ := J3.c4; have J3z := J3.fz)); (try (have J4 : Bk u2 (u1.heap.size + 1) 23 #[.int .i64 0, .int .i64 0, .int .i64 0, .int .i64 0] := (by exact (Bk.new' _ _ _ (o_alloc_size _ _)).be hqu2); have nJ4 := J4.lt; have mJ4 := Nat.ne_of_lt nJ4; have mJ4' := (Nat.ne_of_lt nJ4).symm; obtain ⟨J40, J41, J42, J43⟩ := J4.c4; have J4z := J4.fz))))
    all_goals (refine hK' _ _ (Met.intro (hJ _ _ ?_)); (repeat apply Exists.intro); refine ⟨?_, rfl⟩)
    all_goals (refine ⟨_, _, rfl, rfl, ?_, ?_, ?_⟩; rotate_right; (repeat (first | (with_reducible exact Below.refl _ _) | (with_reducible assumption) | (with_reducible apply bl_alloc) | (with_reducible apply bl_drew) | ((with_reducible refine bl_set ?_ ?hs _); case hs => (simp; try omega)) | (with_reducible refine bl_step ?_ (by assumption)))))
    all_goals (repeat (first | (with_reducible assumption) | (with_reducible exact Bk.new _ _ _) | ((with_reducible refine Bk.new' _ _ _ ?_); first | rfl | (simp; done)) | (with_reducible apply Bk.dr) | (with_reducible apply Bk.st4') | (with_reducible refine Bk.ot4 ?_ (by omega) _ _ _ _) | (with_reducible apply Bk.al)))
  case rest =>
  obtain ⟨g5, g6, rfl, rfl, Bc, Bd, hq⟩ := hcut
  obtain ⟨w3, rfl⟩ : ∃ x : World, x = wc := ⟨_, rfl⟩
  replace Ba := Ba.be hq
  replace Bb := Bb.be hq
  have hw3 := bl_step hw2 hq
  clear hq hw2
  have qa : eqR ⟨a.x, a.y, a.w, a.h⟩ ⟨a.x, a.y, a.w, a.h⟩ = true := eqR_refl _
  have qC : eqR ⟨C.x, C.y, C.w, C.h⟩ ⟨C.x, C.y, C.w, C.h⟩ = true := eqR_refl _
  have qD : eqR ⟨D.x, D.y, D.w, D.h⟩ ⟨D.x, D.y, D.w, D.h⟩ = true := eqR_refl _
  go_upto_region 4 with fail
  have hS : ∀ w' : World, Below w3.heap.size w3 w' → (Below w3.heap.size w3 w' ∧ (w'.cell? ⟨w.heap.size, 0, none⟩ = some (.int .i64 a.x) ∧ w'.cell? ⟨w.heap.size, 1, none⟩ = some (.int .i64 a.y) ∧ w'.cell? ⟨w.heap.size, 2, none⟩ = some (.int .i64 a.w) ∧ w'.cell? ⟨w.heap.size, 3, none⟩ = some (.int .i64 a.h)) ∧ (w'.cell? ⟨w.heap.size + 1, 0, none⟩ = some (.int .i64 b.x) ∧ w'.cell? ⟨w.heap.size + 1, 1, none⟩ = some (.int .i64 b.y) ∧ w'.cell? ⟨w.heap.size + 1, 2, none⟩ = some (.int .i64 b.w) ∧ w'.cell? ⟨w.heap.size + 1, 3, none⟩ = some (.int .i64 b.h)) ∧ (w'.cell? ⟨g5, 0, none⟩ = some (.int .i64 C.x) ∧ w'.cell? ⟨g5, 1, none⟩ = some (.int .i64 C.y) ∧ w'.cell? ⟨g5, 2, none⟩ = some (.int .i64 C.w) ∧ w'.cell? ⟨g5, 3, none⟩ = some (.int .i64 C.h)) ∧ (w'.cell? ⟨g6, 0, none⟩ = some (.int .i64 D.x) ∧ w'.cell? ⟨g6, 1, none⟩ = some (.int .i64 D.y) ∧ w'.cell? ⟨g6, 2, none⟩ = some (.int .i64 D.w) ∧ w'.cell? ⟨g6, 3, none⟩ = some (.int .i64 D.h))) := fun w' hq => ⟨hq, (Ba.be hq).c4, (Bb.be hq).c4, (Bc.be hq).c4, (Bd.be hq).c4⟩
  by_cases hE : emp C = true
  · have qz : eqR ⟨C.x, C.y, C.w, C.h⟩ ⟨0, 0, 0, 0⟩ = true := eqR_iff.2 (e6.out hE)
    have hE := Lib.hid hE
    refine wp_region_held_drew (S := fun w' : World => Below w3.heap.size w3 w' ∧ (w'.cell? ⟨w.heap.size, 0, none⟩ = some (.int .i64 a.x) ∧ w'.cell? ⟨w.heap.size, 1, none⟩ = some (.int .i64 a.y) ∧ w'.cell? ⟨w.heap.size, 2, none⟩ = some (.int .i64 a.w) ∧ w'.cell? ⟨w.heap.size, 3, none⟩ = some (.int .i64 a.h)) ∧ (w'.cell? ⟨w.heap.size + 1, 0, none⟩ = some (.int .i64 b.x) ∧ w'.cell? ⟨w.heap.size + 1, 1, none⟩ = some (.int .i64 b.y) ∧ w'.cell? ⟨w.heap.size + 1, 2, none⟩ = some (.int .i64 b.w) ∧ w'.cell? ⟨w.heap.size + 1, 3, none⟩ = some (.int .i64 b.h)) ∧ (w'.cell? ⟨g5, 0, none⟩ = some (.int .i64 C.x) ∧ w'.cell? ⟨g5, 1, none⟩ = some (.int .i64 C.y) ∧ w'.cell? ⟨g5, 2, none⟩ = some (.int .i64 C.w) ∧ w'.cell? ⟨g5, 3, none⟩ = some (.int .i64 C.h)) ∧ (w'.cell? ⟨g6, 0, none⟩ = some (.int .i64 D.x) ∧ w'.cell? ⟨g6, 1, none⟩ = some (.int .i64 D.y) ∧ w'.cell? ⟨g6, 2, none⟩ = some (.int .i64 D.w) ∧ w'.cell? ⟨g6, 3, none⟩ = some (.int .i64 D.h))) (by kernel_rfl) (by (try dsimp only); exact hS _ (by repeat (first | (with_reducible exact Below.refl _ _) | (with_reducible assumption) | (with_reducible apply bl_alloc) | (with_reducible apply bl_drew) | ((with_reducible refine bl_set ?_ ?hs _); case hs => (simp; try omega)) | (with_reducible refine bl_step ?_ (by assumption))))) (fun hHeld => ?_)
    refine wpAnyH_take (i := 0) (v := ?_) rfl (by kernel_rfl) (by kernel_rfl) (by kernel_rfl) (fun _ _ _ h => h) (Or.inl ⟨by rfl, ?_⟩) (by assumption) ?_
    rotate_left
    · (intro w hSw; (try dsimp only at hSw); go_simp; try (with_reducible rfl))
    (try simp only [Act.put, List.setIfInBounds_toArray, List.set_cons_zero, List.set_cons_succ])
    refine wpAnyH_take (i := 1) (v := ?_) rfl (by kernel_rfl) (by kernel_rfl) (by kernel_rfl) (fun _ _ _ h => h) (Or.inl ⟨by rfl, ?_⟩) (by assumption) ?_
    rotate_left
    · (intro w hSw; (try dsimp only at hSw); go_simp; try (with_reducible rfl))
    (try simp only [Act.put, List.setIfInBounds_toArray, List.set_cons_zero, List.set_cons_succ])
    refine wpAnyH_take (i := 2) (v := ?_) rfl (by kernel_rfl) (by kernel_rfl) (by kernel_rfl) (fun _ _ _ h => h) (Or.inl ⟨by rfl, ?_⟩) (by assumption) ?_
    rotate_left
    · (intro w hSw; (try dsimp only at hSw); go_simp; try (with_reducible rfl))
    (try simp only [Act.put, List.setIfInBounds_toArray, List.set_cons_zero, List.set_cons_succ])
    refine wpAnyH_ready (rs := [3]) (by kernel_rfl) (by simp) ?_
    refine AllReadyH.cons (i := 3) rfl (fun K hK => ?_) AllReadyH.nil
    go_simp
    (first
      | (go_at_call_of 17 b.x; refine (cut_R b a _ sb.out sa.out).mono ?_; rintro e v1 ⟨rfl, hqv1⟩; have yv1 : Below w3.heap.size w3 v1 := (by repeat (first | (with_reducible exact Below.refl _ _) | (with_reducible assumption) | (with_reducible apply bl_alloc) | (with_reducible apply bl_drew) | ((with_reducible refine bl_set ?_ ?hs _); case hs => (simp; try omega)) | (with_reducible refine bl_step ?_ (by assumption)))); rw [e1.out])
      | (go_at_call_of 14 b.x; refine (cover_R b a _ sb.out sa.out).mono ?_; rintro e v2 ⟨rfl, hqv2⟩; have yv2 : Below w3.heap.size w3 v2 := (by repeat (first | (with_reducible exact Below.refl _ _) | (with_reducible assumption) | (with_reducible apply bl_alloc) | (with_reducible apply bl_drew) | ((with_reducible refine bl_set ?_ ?hs _); case hs => (simp; try omega)) | (with_reducible refine bl_step ?_ (by assumption)))); rw [e2.out])
      | (go_at_call_of 17 D.x; refine (cut_R a D _ sa.out sD.out).mono ?_; rintro e v5 ⟨rfl, hqv5⟩; have yv5 : Below w3.heap.size w3 v5 := (by repeat (first | (with_reducible exact Below.refl _ _) | (with_reducible assumption) | (with_reducible apply bl_alloc) | (with_reducible apply bl_drew) | ((with_reducible refine bl_set ?_ ?hs _); case hs => (simp; try omega)) | (with_reducible refine bl_step ?_ (by assumption)))); rw [e5.out])
      | (go_at_call 17; refine (cut_R a a _ sa.out sa.out).mono ?_; rintro e v3 ⟨rfl, hqv3⟩; have yv3 : Below w3.heap.size w3 v3 := (by repeat (first | (with_reducible exact Below.refl _ _) | (with_reducible assumption) | (with_reducible apply bl_alloc) | (with_reducible apply bl_drew) | ((with_reducible refine bl_set ?_ ?hs _); case hs => (simp; try omega)) | (with_reducible refine bl_step ?_ (by assumption)))); rw [e3.out])
      | (go_at_call 14; refine (cover_R a a _ sa.out sa.out).mono ?_; rintro e v4 ⟨rfl, hqv4⟩; have yv4 : Below w3.heap.size w3 v4 := (by repeat (first | (with_reducible exact Below.refl _ _) | (with_reducible assumption) | (with_reducible apply bl_alloc) | (with_reducible apply bl_drew) | ((with_reducible refine bl_set ?_ ?hs _); case hs => (simp; try omega)) | (with_reducible refine bl_step ?_ (by assumption)))); rw [e4.out])
      | (go_at_call 18; refine (empty_R C _).mono ?_; rintro e v6 ⟨rfl, hqv6⟩; have yv6 : Below w3.heap.size w3 v6 := (by repeat (first | (with_reducible exact Below.refl _ _) | (with_reducible assumption) | (with_reducible apply bl_alloc) | (with_reducible apply bl_drew) | ((with_reducible refine bl_set ?_ ?hs _); case hs => (simp; try omega)) | (with_reducible refine bl_step ?_ (by assumption)))); rw [hE.out])
      | (go_at_call 16; refine (bound_R a _ ia.out).mono ?_; rintro e v8 ⟨rfl, hqv8⟩; have yv8 : Below w3.heap.size w3 v8 := (by repeat (first | (with_reducible exact Below.refl _ _) | (with_reducible assumption) | (with_reducible apply bl_alloc) | (with_reducible apply bl_drew) | ((with_reducible refine bl_set ?_ ?hs _); case hs => (simp; try omega)) | (with_reducible refine bl_step ?_ (by assumption)))); rw [e8.out])
      | (go_at_call 9; refine (chk_R D _ iD.out).mono ?_; rintro e v9 ⟨rfl, hqv9⟩; have yv9 : Below w3.heap.size w3 v9 := (by repeat (first | (with_reducible exact Below.refl _ _) | (with_reducible assumption) | (with_reducible apply bl_alloc) | (with_reducible apply bl_drew) | ((with_reducible refine bl_set ?_ ?hs _); case hs => (simp; try omega)) | (with_reducible refine bl_step ?_ (by assumption)))); rw [cD.out])
      | (go_at_call 11; refine (awake07 _).mono ?_; rintro e v10 ⟨rfl, hqv10⟩; have yv10 : Below w3.heap.size w3 v10 := (by repeat (first | (with_reducible exact Below.refl _ _) | (with_reducible assumption) | (with_reducible apply bl_alloc) | (with_reducible apply bl_drew) | ((with_reducible refine bl_set ?_ ?hs _); case hs => (simp; try omega)) | (with_reducible refine bl_step ?_ (by assumption))))))
    try (go_wp2_with fail)
    refine hK.out _ _ (by (try dsimp only); exact hS _ (by repeat (first | (with_reducible exact Below.refl _ _) | (with_reducible assumption) | (with_reducible apply bl_alloc) | (with_reducible apply bl_drew) | ((with_reducible refine bl_set ?_ ?hs _); case hs => (simp; try omega)) | (with_reducible refine bl_step ?_ (by assumption))))) (fun hHeld2 => ?_)
    clear hHeld
    rename _ => hHeld
    clear hK K
    (try simp only [Act.put, List.setIfInBounds_toArray, List.set_cons_zero, List.set_cons_succ])
    refine wpAnyH_take (i := 4) (v := ?_) rfl (by kernel_rfl) (by kernel_rfl) (by kernel_rfl) (fun _ _ _ h => h) (Or.inl ⟨by rfl, ?_⟩) (by assumption) ?_
    rotate_left
    · (intro w hSw; (try dsimp only at hSw); go_simp; try (with_reducible rfl))
    (try simp only [Act.put, List.setIfInBounds_toArray, List.set_cons_zero, List.set_cons_succ])
    refine wpAnyH_take (i := 5) (v := ?_) rfl (by kernel_rfl) (by kernel_rfl) (by kernel_rfl) (fun _ _ _ h => h) (Or.inl ⟨by rfl, ?_⟩) (by assumption) ?_
    rotate_left
    · (intro w hSw; (try dsimp only at hSw); go_simp; try (with_reducible rfl))
    (try simp only [Act.put, List.setIfInBounds_toArray, List.set_cons_zero, List.set_cons_succ])
    refine wpAnyH_take (i := 6) (v := ?_) rfl (by kernel_rfl) (by kernel_rfl) (by kernel_rfl) (fun _ _ _ h => h) (Or.inl ⟨by rfl, ?_⟩) (by assumption) ?_
    rotate_left
    · (intro w hSw; (try dsimp only at hSw); go_simp; try (with_reducible rfl))
    (try simp only [Act.put, List.setIfInBounds_toArray, List.set_cons_zero, List.set_cons_succ])
    refine wpAnyH_take (i := 7) (v := ?_) rfl (by kernel_rfl) (by kernel_rfl) (by kernel_rfl) (fun _ _ _ h => h) (Or.inl ⟨by rfl, ?_⟩) (by assumption) ?_
    rotate_left
    · (intro w hSw; (try dsimp only at hSw); go_simp; try (with_reducible rfl))
    (try simp only [Act.put, List.setIfInBounds_toArray, List.set_cons_zero, List.set_cons_succ])
    refine wpAnyH_take (i := 8) (v := ?_) rfl (by kernel_rfl) (by kernel_rfl) (by kernel_rfl) (fun _ _ _ h => h) (Or.inl ⟨by rfl, ?_⟩) (by assumption) ?_
    rotate_left
    · (intro w hSw; (try dsimp only at hSw); go_simp; try (with_reducible rfl))
    (try simp only [Act.put, List.setIfInBounds_toArray, List.set_cons_zero, List.set_cons_succ])
    refine wpAnyH_ready (rs := [9]) (by kernel_rfl) (by simp) ?_
    refine AllReadyH.cons (i := 9) rfl (fun K hK => ?_) AllReadyH.nil
    go_simp
    (first
      | (go_at_call_of 17 b.x; refine (cut_R b a _ sb.out sa.out).mono ?_; rintro e v1 ⟨rfl, hqv1⟩; have yv1 : Below w3.heap.size w3 v1 := (by repeat (first | (with_reducible exact Below.refl _ _) | (with_reducible assumption) | (with_reducible apply bl_alloc) | (with_reducible apply bl_drew) | ((with_reducible refine bl_set ?_ ?hs _); case hs => (simp; try omega)) | (with_reducible refine bl_step ?_ (by assumption)))); rw [e1.out])
      | (go_at_call_of 14 b.x; refine (cover_R b a _ sb.out sa.out).mono ?_; rintro e v2 ⟨rfl, hqv2⟩; have yv2 : Below w3.heap.size w3 v2 := (by repeat (first | (with_reducible exact Below.refl _ _) | (with_reducible assumption) | (with_reducible apply bl_alloc) | (with_reducible apply bl_drew) | ((with_reducible refine bl_set ?_ ?hs _); case hs => (simp; try omega)) | (with_reducible refine bl_step ?_ (by assumption)))); rw [e2.out])
      | (go_at_call_of 17 D.x; refine (cut_R a D _ sa.out sD.out).mono ?_; rintro e v5 ⟨rfl, hqv5⟩; have yv5 : Below w3.heap.size w3 v5 := (by repeat (first | (with_reducible exact Below.refl _ _) | (with_reducible assumption) | (with_reducible apply bl_alloc) | (with_reducible apply bl_drew) | ((with_reducible refine bl_set ?_ ?hs _); case hs => (simp; try omega)) | (with_reducible refine bl_step ?_ (by assumption)))); rw [e5.out])
      | (go_at_call 17; refine (cut_R a a _ sa.out sa.out).mono ?_; rintro e v3 ⟨rfl, hqv3⟩; have yv3 : Below w3.heap.size w3 v3 := (by repeat (first | (with_reducible exact Below.refl _ _) | (with_reducible assumption) | (with_reducible apply bl_alloc) | (with_reducible apply bl_drew) | ((with_reducible refine bl_set ?_ ?hs _); case hs => (simp; try omega)) | (with_reducible refine bl_step ?_ (by assumption)))); rw [e3.out])
      | (go_at_call 14; refine (cover_R a a _ sa.out sa.out).mono ?_; rintro e v4 ⟨rfl, hqv4⟩; have yv4 : Below w3.heap.size w3 v4 := (by repeat (first | (with_reducible exact Below.refl _ _) | (with_reducible assumption) | (with_reducible apply bl_alloc) | (with_reducible apply bl_drew) | ((with_reducible refine bl_set ?_ ?hs _); case hs => (simp; try omega)) | (with_reducible refine bl_step ?_ (by assumption)))); rw [e4.out])
      | (go_at_call 18; refine (empty_R C _).mono ?_; rintro e v6 ⟨rfl, hqv6⟩; have yv6 : Below w3.heap.size w3 v6 := (by repeat (first | (with_reducible exact Below.refl _ _) | (with_reducible assumption) | (with_reducible apply bl_alloc) | (with_reducible apply bl_drew) | ((with_reducible refine bl_set ?_ ?hs _); case hs => (simp; try omega)) | (with_reducible refine bl_step ?_ (by assumption)))); rw [hE.out])
      | (go_at_call 16; refine (bound_R a _ ia.out).mono ?_; rintro e v8 ⟨rfl, hqv8⟩; have yv8 : Below w3.heap.size w3 v8 := (by repeat (first | (with_reducible exact Below.refl _ _) | (with_reducible assumption) | (with_reducible apply bl_alloc) | (with_reducible apply bl_drew) | ((with_reducible refine bl_set ?_ ?hs _); case hs => (simp; try omega)) | (with_reducible refine bl_step ?_ (by assumption)))); rw [e8.out])
      | (go_at_call 9; refine (chk_R D _ iD.out).mono ?_; rintro e v9 ⟨rfl, hqv9⟩; have yv9 : Below w3.heap.size w3 v9 := (by repeat (first | (with_reducible exact Below.refl _ _) | (with_reducible assumption) | (with_reducible apply bl_alloc) | (with_reducible apply bl_drew) | ((with_reducible refine bl_set ?_ ?hs _); case hs => (simp; try omega)) | (with_reducible refine bl_step ?_ (by assumption)))); rw [cD.out])
      | (go_at_call 11; refine (awake07 _).mono ?_; rintro e v10 ⟨rfl, hqv10⟩; have yv10 : Below w3.heap.size w3 v10 := (by repeat (first | (with_reducible exact Below.refl _ _) | (with_reducible assumption) | (with_reducible apply bl_alloc) | (with_reducible apply bl_drew) | ((with_reducible refine bl_set ?_ ?hs _); case hs => (simp; try omega)) | (with_reducible refine bl_step ?_ (by assumption))))))
    try (go_wp2_with fail)
    refine hK.out _ _ (by (try dsimp only); exact hS _ (by repeat (first | (with_reducible exact Below.refl _ _) | (with_reducible assumption) | (with_reducible apply bl_alloc) | (with_reducible apply bl_drew) | ((with_reducible refine bl_set ?_ ?hs _); case hs => (simp; try omega)) | (with_reducible refine bl_step ?_ (by assumption))))) (fun hHeld2 => ?_)
    clear hHeld
    rename _ => hHeld
    clear hK K
    (try simp only [Act.put, List.setIfInBounds_toArray, List.set_cons_zero, List.set_cons_succ])
    refine wpAnyH_take (i := 10) (v := ?_) rfl (by kernel_rfl) (by kernel_rfl) (by kernel_rfl) (fun _ _ _ h => h) (Or.inl ⟨by rfl, ?_⟩) (by assumption) ?_
    rotate_left
    · (intro w hSw; (try dsimp only at hSw); go_simp; try (with_reducible rfl))
    (try simp only [Act.put, List.setIfInBounds_toArray, List.set_cons_zero, List.set_cons_succ])
    refine wpAnyH_take (i := 11) (v := ?_) rfl (by kernel_rfl) (by kernel_rfl) (by kernel_rfl) (fun _ _ _ h => h) (Or.inl ⟨by rfl, ?_⟩) (by assumption) ?_
    rotate_left
    · (intro w hSw; (try dsimp only at hSw); go_simp; try (with_reducible rfl))
    (try simp only [Act.put, List.setIfInBounds_toArray, List.set_cons_zero, List.set_cons_succ])
    refine wpAnyH_take (i := 12) (v := ?_) rfl (by kernel_rfl) (by kernel_rfl) (by kernel_rfl) (fun _ _ _ h => h) (Or.inl ⟨by rfl, ?_⟩) (by assumption) ?_
    rotate_left
    · (intro w hSw; (try dsimp only at hSw); go_simp; try (with_reducible rfl))
    (try simp only [Act.put, List.setIfInBounds_toArray, List.set_cons_zero, List.set_cons_succ])
    refine wpAnyH_take (i := 13) (v := ?_) rfl (by kernel_rfl) (by kernel_rfl) (by kernel_rfl) (fun _ _ _ h => h) (Or.inl ⟨by rfl, ?_⟩) (by assumption) ?_
    rotate_left
    · (intro w hSw; (try dsimp only at hSw); go_simp; try (with_reducible rfl))
    (try simp only [Act.put, List.setIfInBounds_toArray, List.set_cons_zero, List.set_cons_succ])
    refine wpAnyH_take (i := 14) (v := ?_) rfl (by kernel_rfl) (by kernel_rfl) (by kernel_rfl) (fun _ _ _ h => h) (Or.inl ⟨by rfl, ?_⟩) (by assumption) ?_
    rotate_left
    · (intro w hSw; (try dsimp only at hSw); go_simp; try (with_reducible rfl))
    (try simp only [Act.put, List.setIfInBounds_toArray, List.set_cons_zero, List.set_cons_succ])
    refine wpAnyH_take (i := 16) (v := ?_) rfl (by kernel_rfl) (by kernel_rfl) (by kernel_rfl) (fun _ _ _ h => h) (Or.inl ⟨by rfl, ?_⟩) (by assumption) ?_
    rotate_left
    · (intro w hSw; (try dsimp only at hSw); go_simp; try (with_reducible rfl))
    (try simp only [Act.put, List.setIfInBounds_toArray, List.set_cons_zero, List.set_cons_succ])
    refine wpAnyH_ready (rs := [15]) (by kernel_rfl) (by simp) ?_
    refine AllReadyH.cons (i := 15) rfl (fun K hK => ?_) AllReadyH.nil
    go_simp
    (first
      | (go_at_call_of 17 b.x; refine (cut_R b a _ sb.out sa.out).mono ?_; rintro e v1 ⟨rfl, hqv1⟩; have yv1 : Below w3.heap.size w3 v1 := (by repeat (first | (with_reducible exact Below.refl _ _) | (with_reducible assumption) | (with_reducible apply bl_alloc) | (with_reducible apply bl_drew) | ((with_reducible refine bl_set ?_ ?hs _); case hs => (simp; try omega)) | (with_reducible refine bl_step ?_ (by assumption)))); rw [e1.out])
      | (go_at_call_of 14 b.x; refine (cover_R b a _ sb.out sa.out).mono ?_; rintro e v2 ⟨rfl, hqv2⟩; have yv2 : Below w3.heap.size w3 v2 := (by repeat (first | (with_reducible exact Below.refl _ _) | (with_reducible assumption) | (with_reducible apply bl_alloc) | (with_reducible apply bl_drew) | ((with_reducible refine bl_set ?_ ?hs _); case hs => (simp; try omega)) | (with_reducible refine bl_step ?_ (by assumption)))); rw [e2.out])
      | (go_at_call_of 17 D.x; refine (cut_R a D _ sa.out sD.out).mono ?_; rintro e v5 ⟨rfl, hqv5⟩; have yv5 : Below w3.heap.size w3 v5 := (by repeat (first | (with_reducible exact Below.refl _ _) | (with_reducible assumption) | (with_reducible apply bl_alloc) | (with_reducible apply bl_drew) | ((with_reducible refine bl_set ?_ ?hs _); case hs => (simp; try omega)) | (with_reducible refine bl_step ?_ (by assumption)))); rw [e5.out])
      | (go_at_call 17; refine (cut_R a a _ sa.out sa.out).mono ?_; rintro e v3 ⟨rfl, hqv3⟩; have yv3 : Below w3.heap.size w3 v3 := (by repeat (first | (with_reducible exact Below.refl _ _) | (with_reducible assumption) | (with_reducible apply bl_alloc) | (with_reducible apply bl_drew) | ((with_reducible refine bl_set ?_ ?hs _); case hs => (simp; try omega)) | (with_reducible refine bl_step ?_ (by assumption)))); rw [e3.out])
      | (go_at_call 14; refine (cover_R a a _ sa.out sa.out).mono ?_; rintro e v4 ⟨rfl, hqv4⟩; have yv4 : Below w3.heap.size w3 v4 := (by repeat (first | (with_reducible exact Below.refl _ _) | (with_reducible assumption) | (with_reducible apply bl_alloc) | (with_reducible apply bl_drew) | ((with_reducible refine bl_set ?_ ?hs _); case hs => (simp; try omega)) | (with_reducible refine bl_step ?_ (by assumption)))); rw [e4.out])
      | (go_at_call 18; refine (empty_R C _).mono ?_; rintro e v6 ⟨rfl, hqv6⟩; have yv6 : Below w3.heap.size w3 v6 := (by repeat (first | (with_reducible exact Below.refl _ _) | (with_reducible assumption) | (with_reducible apply bl_alloc) | (with_reducible apply bl_drew) | ((with_reducible refine bl_set ?_ ?hs _); case hs => (simp; try omega)) | (with_reducible refine bl_step ?_ (by assumption)))); rw [hE.out])
      | (go_at_call 16; refine (bound_R a _ ia.out).mono ?_; rintro e v8 ⟨rfl, hqv8⟩; have yv8 : Below w3.heap.size w3 v8 := (by repeat (first | (with_reducible exact Below.refl _ _) | (with_reducible assumption) | (with_reducible apply bl_alloc) | (with_reducible apply bl_drew) | ((with_reducible refine bl_set ?_ ?hs _); case hs => (simp; try omega)) | (with_reducible refine bl_step ?_ (by assumption)))); rw [e8.out])
      | (go_at_call 9; refine (chk_R D _ iD.out).mono ?_; rintro e v9 ⟨rfl, hqv9⟩; have yv9 : Below w3.heap.size w3 v9 := (by repeat (first | (with_reducible exact Below.refl _ _) | (with_reducible assumption) | (with_reducible apply bl_alloc) | (with_reducible apply bl_drew) | ((with_reducible refine bl_set ?_ ?hs _); case hs => (simp; try omega)) | (with_reducible refine bl_step ?_ (by assumption)))); rw [cD.out])
      | (go_at_call 11; refine (awake07 _).mono ?_; rintro e v10 ⟨rfl, hqv10⟩; have yv10 : Below w3.heap.size w3 v10 := (by repeat (first | (with_reducible exact Below.refl _ _) | (with_reducible assumption) | (with_reducible apply bl_alloc) | (with_reducible apply bl_drew) | ((with_reducible refine bl_set ?_ ?hs _); case hs => (simp; try omega)) | (with_reducible refine bl_step ?_ (by assumption))))))
    try (go_wp2_with fail)
    refine hK.out _ _ (by (try dsimp only); exact hS _ (by repeat (first | (with_reducible exact Below.refl _ _) | (with_reducible assumption) | (with_reducible apply bl_alloc) | (with_reducible apply bl_drew) | ((with_reducible refine bl_set ?_ ?hs _); case hs => (simp; try omega)) | (with_reducible refine bl_step ?_ (by assumption))))) (fun hHeld2 => ?_)
    clear hHeld
    rename _ => hHeld
    clear hK K
    (try simp only [Act.put, List.setIfInBounds_toArray, List.set_cons_zero, List.set_cons_succ])
    refine wpAnyH_take (i := 17) (v := ?_) rfl (by kernel_rfl) (by kernel_rfl) (by kernel_rfl) (fun _ _ _ h => h) (Or.inl ⟨by rfl, ?_⟩) (by assumption) ?_
    rotate_left
    · (intro w hSw; (try dsimp only at hSw); go_simp; try (with_reducible rfl))
    (try simp only [Act.put, List.setIfInBounds_toArray, List.set_cons_zero, List.set_cons_succ])
    refine wpAnyH_take (i := 18) (v := ?_) rfl (by kernel_rfl) (by kernel_rfl) (by kernel_rfl) (fun _ _ _ h => h) (Or.inl ⟨by rfl, ?_⟩) (by assumption) ?_
    rotate_left
    · (intro w hSw; (try dsimp only at hSw); go_simp; try (with_reducible rfl))
    (try simp only [Act.put, List.setIfInBounds_toArray, List.set_cons_zero, List.set_cons_succ])
    refine wpAnyH_take (i := 19) (v := ?_) rfl (by kernel_rfl) (by kernel_rfl) (by kernel_rfl) (fun _ _ _ h => h) (Or.inl ⟨by rfl, ?_⟩) (by assumption) ?_
    rotate_left
    · (intro w hSw; (try dsimp only at hSw); go_simp; try (with_reducible rfl))
    (try simp only [Act.put, List.setIfInBounds_toArray, List.set_cons_zero, List.set_cons_succ])
    refine wpAnyH_take (i := 20) (v := ?_) rfl (by kernel_rfl) (by kernel_rfl) (by kernel_rfl) (fun _ _ _ h => h) (Or.inl ⟨by rfl, ?_⟩) (by assumption) ?_
    rotate_left
    · (intro w hSw; (try dsimp only at hSw); go_simp; try (with_reducible rfl))
    (try simp only [Act.put, List.setIfInBounds_toArray, List.set_cons_zero, List.set_cons_succ])
    refine wpAnyH_take (i := 21) (v := ?_) rfl (by kernel_rfl) (by kernel_rfl) (by kernel_rfl) (fun _ _ _ h => h) (Or.inl ⟨by rfl, ?_⟩) (by assumption) ?_
    rotate_left
    · (intro w hSw; (try dsimp only at hSw); go_simp; try (with_reducible rfl))
    (try simp only [Act.put, List.setIfInBounds_toArray, List.set_cons_zero, List.set_cons_succ])
    refine wpAnyH_take (i := 23) (v := ?_) rfl (by kernel_rfl) (by kernel_rfl) (by kernel_rfl) (fun _ _ _ h => h) (Or.inl ⟨by rfl, ?_⟩) (by assumption) ?_
    rotate_left
    · (intro w hSw; (try dsimp only at hSw); go_simp; try (with_reducible rfl))
    (try simp only [Act.put, List.setIfInBounds_toArray, List.set_cons_zero, List.set_cons_succ])
    refine wpAnyH_ready (rs := [22]) (by kernel_rfl) (by simp) ?_
    refine AllReadyH.cons (i := 22) rfl (fun K hK => ?_) AllReadyH.nil
    go_simp
    (first
      | (go_at_call_of 17 b.x; refine (cut_R b a _ sb.out sa.out).mono ?_; rintro e v1 ⟨rfl, hqv1⟩; have yv1 : Below w3.heap.size w3 v1 := (by repeat (first | (with_reducible exact Below.refl _ _) | (with_reducible assumption) | (with_reducible apply bl_alloc) | (with_reducible apply bl_drew) | ((with_reducible refine bl_set ?_ ?hs _); case hs => (simp; try omega)) | (with_reducible refine bl_step ?_ (by assumption)))); rw [e1.out])
      | (go_at_call_of 14 b.x; refine (cover_R b a _ sb.out sa.out).mono ?_; rintro e v2 ⟨rfl, hqv2⟩; have yv2 : Below w3.heap.size w3 v2 := (by repeat (first | (with_reducible exact Below.refl _ _) | (with_reducible assumption) | (with_reducible apply bl_alloc) | (with_reducible apply bl_drew) | ((with_reducible refine bl_set ?_ ?hs _); case hs => (simp; try omega)) | (with_reducible refine bl_step ?_ (by assumption)))); rw [e2.out])
      | (go_at_call_of 17 D.x; refine (cut_R a D _ sa.out sD.out).mono ?_; rintro e v5 ⟨rfl, hqv5⟩; have yv5 : Below w3.heap.size w3 v5 := (by repeat (first | (with_reducible exact Below.refl _ _) | (with_reducible assumption) | (with_reducible apply bl_alloc) | (with_reducible apply bl_drew) | ((with_reducible refine bl_set ?_ ?hs _); case hs => (simp; try omega)) | (with_reducible refine bl_step ?_ (by assumption)))); rw [e5.out])
      | (go_at_call 17; refine (cut_R a a _ sa.out sa.out).mono ?_; rintro e v3 ⟨rfl, hqv3⟩; have yv3 : Below w3.heap.size w3 v3 := (by repeat (first | (with_reducible exact Below.refl _ _) | (with_reducible assumption) | (with_reducible apply bl_alloc) | (with_reducible apply bl_drew) | ((with_reducible refine bl_set ?_ ?hs _); case hs => (simp; try omega)) | (with_reducible refine bl_step ?_ (by assumption)))); rw [e3.out])
      | (go_at_call 14; refine (cover_R a a _ sa.out sa.out).mono ?_; rintro e v4 ⟨rfl, hqv4⟩; have yv4 : Below w3.heap.size w3 v4 := (by repeat (first | (with_reducible exact Below.refl _ _) | (with_reducible assumption) | (with_reducible apply bl_alloc) | (with_reducible apply bl_drew) | ((with_reducible refine bl_set ?_ ?hs _); case hs => (simp; try omega)) | (with_reducible refine bl_step ?_ (by assumption)))); rw [e4.out])
      | (go_at_call 18; refine (empty_R C _).mono ?_; rintro e v6 ⟨rfl, hqv6⟩; have yv6 : Below w3.heap.size w3 v6 := (by repeat (first | (with_reducible exact Below.refl _ _) | (with_reducible assumption) | (with_reducible apply bl_alloc) | (with_reducible apply bl_drew) | ((with_reducible refine bl_set ?_ ?hs _); case hs => (simp; try omega)) | (with_reducible refine bl_step ?_ (by assumption)))); rw [hE.out])
      | (go_at_call 16; refine (bound_R a _ ia.out).mono ?_; rintro e v8 ⟨rfl, hqv8⟩; have yv8 : Below w3.heap.size w3 v8 := (by repeat (first | (with_reducible exact Below.refl _ _) | (with_reducible assumption) | (with_reducible apply bl_alloc) | (with_reducible apply bl_drew) | ((with_reducible refine bl_set ?_ ?hs _); case hs => (simp; try omega)) | (with_reducible refine bl_step ?_ (by assumption)))); rw [e8.out])
      | (go_at_call 9; refine (chk_R D _ iD.out).mono ?_; rintro e v9 ⟨rfl, hqv9⟩; have yv9 : Below w3.heap.size w3 v9 := (by repeat (first | (with_reducible exact Below.refl _ _) | (with_reducible assumption) | (with_reducible apply bl_alloc) | (with_reducible apply bl_drew) | ((with_reducible refine bl_set ?_ ?hs _); case hs => (simp; try omega)) | (with_reducible refine bl_step ?_ (by assumption)))); rw [cD.out])
      | (go_at_call 11; refine (awake07 _).mono ?_; rintro e v10 ⟨rfl, hqv10⟩; have yv10 : Below w3.heap.size w3 v10 := (by repeat (first | (with_reducible exact Below.refl _ _) | (with_reducible assumption) | (with_reducible apply bl_alloc) | (with_reducible apply bl_drew) | ((with_reducible refine bl_set ?_ ?hs _); case hs => (simp; try omega)) | (with_reducible refine bl_step ?_ (by assumption))))))
    try (go_wp2_with fail)
    refine hK.out _ _ (by (try dsimp only); exact hS _ (by repeat (first | (with_reducible exact Below.refl _ _) | (with_reducible assumption) | (with_reducible apply bl_alloc) | (with_reducible apply bl_drew) | ((with_reducible refine bl_set ?_ ?hs _); case hs => (simp; try omega)) | (with_reducible refine bl_step ?_ (by assumption))))) (fun hHeld2 => ?_)
    clear hHeld
    rename _ => hHeld
    clear hK K
    (try simp only [Act.put, List.setIfInBounds_toArray, List.set_cons_zero, List.set_cons_succ])
    refine wpAnyH_take (i := 24) (v := ?_) rfl (by kernel_rfl) (by kernel_rfl) (by kernel_rfl) (fun _ _ _ h => h) (Or.inl ⟨by rfl, ?_⟩) (by assumption) ?_
    rotate_left
    · (intro w hSw; (try dsimp only at hSw); go_simp; try (with_reducible rfl))
    (try simp only [Act.put, List.setIfInBounds_toArray, List.set_cons_zero, List.set_cons_succ])
    refine wpAnyH_take (i := 25) (v := ?_) rfl (by kernel_rfl) (by kernel_rfl) (by kernel_rfl) (fun _ _ _ h => h) (Or.inl ⟨by rfl, ?_⟩) (by assumption) ?_
    rotate_left
    · (intro w hSw; (try dsimp only at hSw); go_simp; try (with_reducible rfl))
    (try simp only [Act.put, List.setIfInBounds_toArray, List.set_cons_zero, List.set_cons_succ])
    refine wpAnyH_take (i := 26) (v := ?_) rfl (by kernel_rfl) (by kernel_rfl) (by kernel_rfl) (fun _ _ _ h => h) (Or.inl ⟨by rfl, ?_⟩) (by assumption) ?_
    rotate_left
    · (intro w hSw; (try dsimp only at hSw); go_simp; try (with_reducible rfl))
    (try simp only [Act.put, List.setIfInBounds_toArray, List.set_cons_zero, List.set_cons_succ])
    refine wpAnyH_take (i := 27) (v := ?_) rfl (by kernel_rfl) (by kernel_rfl) (by kernel_rfl) (fun _ _ _ h => h) (Or.inl ⟨by rfl, ?_⟩) (by assumption) ?_
    rotate_left
    · (intro w hSw; (try dsimp only at hSw); go_simp; try (with_reducible rfl))
    (try simp only [Act.put, List.setIfInBounds_toArray, List.set_cons_zero, List.set_cons_succ])
    refine wpAnyH_take (i := 28) (v := ?_) rfl (by kernel_rfl) (by kernel_rfl) (by kernel_rfl) (fun _ _ _ h => h) (Or.inl ⟨by rfl, ?_⟩) (by assumption) ?_
    rotate_left
    · (intro w hSw; (try dsimp only at hSw); go_simp; try (with_reducible rfl))
    (try simp only [Act.put, List.setIfInBounds_toArray, List.set_cons_zero, List.set_cons_succ])
    refine wpAnyH_take (i := 30) (v := ?_) rfl (by kernel_rfl) (by kernel_rfl) (by kernel_rfl) (fun _ _ _ h => h) (Or.inl ⟨by rfl, ?_⟩) (by assumption) ?_
    rotate_left
    · (intro w hSw; (try dsimp only at hSw); go_simp; try (with_reducible rfl))
    (try simp only [Act.put, List.setIfInBounds_toArray, List.set_cons_zero, List.set_cons_succ])
    refine wpAnyH_ready (rs := [29]) (by kernel_rfl) (by simp) ?_
    refine AllReadyH.cons (i := 29) rfl (fun K hK => ?_) AllReadyH.nil
    go_simp
    (first
      | (go_at_call_of 17 b.x; refine (cut_R b a _ sb.out sa.out).mono ?_; rintro e v1 ⟨rfl, hqv1⟩; have yv1 : Below w3.heap.size w3 v1 := (by repeat (first | (with_reducible exact Below.refl _ _) | (with_reducible assumption) | (with_reducible apply bl_alloc) | (with_reducible apply bl_drew) | ((with_reducible refine bl_set ?_ ?hs _); case hs => (simp; try omega)) | (with_reducible refine bl_step ?_ (by assumption)))); rw [e1.out])
      | (go_at_call_of 14 b.x; refine (cover_R b a _ sb.out sa.out).mono ?_; rintro e v2 ⟨rfl, hqv2⟩; have yv2 : Below w3.heap.size w3 v2 := (by repeat (first | (with_reducible exact Below.refl _ _) | (with_reducible assumption) | (with_reducible apply bl_alloc) | (with_reducible apply bl_drew) | ((with_reducible refine bl_set ?_ ?hs _); case hs => (simp; try omega)) | (with_reducible refine bl_step ?_ (by assumption)))); rw [e2.out])
      | (go_at_call_of 17 D.x; refine (cut_R a D _ sa.out sD.out).mono ?_; rintro e v5 ⟨rfl, hqv5⟩; have yv5 : Below w3.heap.size w3 v5 := (by repeat (first | (with_reducible exact Below.refl _ _) | (with_reducible assumption) | (with_reducible apply bl_alloc) | (with_reducible apply bl_drew) | ((with_reducible refine bl_set ?_ ?hs _); case hs => (simp; try omega)) | (with_reducible refine bl_step ?_ (by assumption)))); rw [e5.out])
      | (go_at_call 17; refine (cut_R a a _ sa.out sa.out).mono ?_; rintro e v3 ⟨rfl, hqv3⟩; have yv3 : Below w3.heap.size w3 v3 := (by repeat (first | (with_reducible exact Below.refl _ _) | (with_reducible assumption) | (with_reducible apply bl_alloc) | (with_reducible apply bl_drew) | ((with_reducible refine bl_set ?_ ?hs _); case hs => (simp; try omega)) | (with_reducible refine bl_step ?_ (by assumption)))); rw [e3.out])
      | (go_at_call 14; refine (cover_R a a _ sa.out sa.out).mono ?_; rintro e v4 ⟨rfl, hqv4⟩; have yv4 : Below w3.heap.size w3 v4 := (by repeat (first | (with_reducible exact Below.refl _ _) | (with_reducible assumption) | (with_reducible apply bl_alloc) | (with_reducible apply bl_drew) | ((with_reducible refine bl_set ?_ ?hs _); case hs => (simp; try omega)) | (with_reducible refine bl_step ?_ (by assumption)))); rw [e4.out])
      | (go_at_call 18; refine (empty_R C _).mono ?_; rintro e v6 ⟨rfl, hqv6⟩; have yv6 : Below w3.heap.size w3 v6 := (by repeat (first | (with_reducible exact Below.refl _ _) | (with_reducible assumption) | (with_reducible apply bl_alloc) | (with_reducible apply bl_drew) | ((with_reducible refine bl_set ?_ ?hs _); case hs => (simp; try omega)) | (with_reducible refine bl_step ?_ (by assumption)))); rw [hE.out])
      | (go_at_call 16; refine (bound_R a _ ia.out).mono ?_; rintro e v8 ⟨rfl, hqv8⟩; have yv8 : Below w3.heap.size w3 v8 := (by repeat (first | (with_reducible exact Below.refl _ _) | (with_reducible assumption) | (with_reducible apply bl_alloc) | (with_reducible apply bl_drew) | ((with_reducible refine bl_set ?_ ?hs _); case hs => (simp; try omega)) | (with_reducible refine bl_step ?_ (by assumption)))); rw [e8.out])
      | (go_at_call 9; refine (chk_R D _ iD.out).mono ?_; rintro e v9 ⟨rfl, hqv9⟩; have yv9 : Below w3.heap.size w3 v9 := (by repeat (first | (with_reducible exact Below.refl _ _) | (with_reducible assumption) | (with_reducible apply bl_alloc) | (with_reducible apply bl_drew) | ((with_reducible refine bl_set ?_ ?hs _); case hs => (simp; try omega)) | (with_reducible refine bl_step ?_ (by assumption)))); rw [cD.out])
      | (go_at_call 11; refine (awake07 _).mono ?_; rintro e v10 ⟨rfl, hqv10⟩; have yv10 : Below w3.heap.size w3 v10 := (by repeat (first | (with_reducible exact Below.refl _ _) | (with_reducible assumption) | (with_reducible apply bl_alloc) | (with_reducible apply bl_drew) | ((with_reducible refine bl_set ?_ ?hs _); case hs => (simp; try omega)) | (with_reducible refine bl_step ?_ (by assumption))))))
    try (go_wp2_with fail)
    refine hK.out _ _ (by (try dsimp only); exact hS _ (by repeat (first | (with_reducible exact Below.refl _ _) | (with_reducible assumption) | (with_reducible apply bl_alloc) | (with_reducible apply bl_drew) | ((with_reducible refine bl_set ?_ ?hs _); case hs => (simp; try omega)) | (with_reducible refine bl_step ?_ (by assumption))))) (fun hHeld2 => ?_)
    clear hHeld
    rename _ => hHeld
    clear hK K
    (try simp only [Act.put, List.setIfInBounds_toArray, List.set_cons_zero, List.set_cons_succ])
    refine wpAnyH_take (i := 31) (v := ?_) rfl (by kernel_rfl) (by kernel_rfl) (by kernel_rfl) (fun _ _ _ h => h) (Or.inl ⟨by rfl, ?_⟩) (by assumption) ?_
    rotate_left
    · (intro w hSw; (try dsimp only at hSw); go_simp; try (with_reducible rfl))
    (try simp only [Act.put, List.setIfInBounds_toArray, List.set_cons_zero, List.set_cons_succ])
    refine wpAnyH_take (i := 32) (v := ?_) rfl (by kernel_rfl) (by kernel_rfl) (by kernel_rfl) (fun _ _ _ h => h) (Or.inl ⟨by rfl, ?_⟩) (by assumption) ?_
    rotate_left
    · (intro w hSw; (try dsimp only at hSw); go_simp; try (with_reducible rfl))
    (try simp only [Act.put, List.setIfInBounds_toArray, List.set_cons_zero, List.set_cons_succ])
    refine wpAnyH_take (i := 33) (v := ?_) rfl (by kernel_rfl) (by kernel_rfl) (by kernel_rfl) (fun _ _ _ h => h) (Or.inl ⟨by rfl, ?_⟩) (by assumption) ?_
    rotate_left
    · (intro w hSw; (try dsimp only at hSw); go_simp; try (with_reducible rfl))
    (try simp only [Act.put, List.setIfInBounds_toArray, List.set_cons_zero, List.set_cons_succ])
    refine wpAnyH_take (i := 34) (v := ?_) rfl (by kernel_rfl) (by kernel_rfl) (by kernel_rfl) (fun _ _ _ h => h) (Or.inl ⟨by rfl, ?_⟩) (by assumption) ?_
    rotate_left
    · (intro w hSw; (try dsimp only at hSw); go_simp; try (with_reducible rfl))
    (try simp only [Act.put, List.setIfInBounds_toArray, List.set_cons_zero, List.set_cons_succ])
    refine wpAnyH_ready (rs := [35]) (by kernel_rfl) (by simp) ?_
    refine AllReadyH.cons (i := 35) rfl (fun K hK => ?_) AllReadyH.nil
    go_simp
    (first
      | (go_at_call_of 17 b.x; refine (cut_R b a _ sb.out sa.out).mono ?_; rintro e v1 ⟨rfl, hqv1⟩; have yv1 : Below w3.heap.size w3 v1 := (by repeat (first | (with_reducible exact Below.refl _ _) | (with_reducible assumption) | (with_reducible apply bl_alloc) | (with_reducible apply bl_drew) | ((with_reducible refine bl_set ?_ ?hs _); case hs => (simp; try omega)) | (with_reducible refine bl_step ?_ (by assumption)))); rw [e1.out])
      | (go_at_call_of 14 b.x; refine (cover_R b a _ sb.out sa.out).mono ?_; rintro e v2 ⟨rfl, hqv2⟩; have yv2 : Below w3.heap.size w3 v2 := (by repeat (first | (with_reducible exact Below.refl _ _) | (with_reducible assumption) | (with_reducible apply bl_alloc) | (with_reducible apply bl_drew) | ((with_reducible refine bl_set ?_ ?hs _); case hs => (simp; try omega)) | (with_reducible refine bl_step ?_ (by assumption)))); rw [e2.out])
      | (go_at_call_of 17 D.x; refine (cut_R a D _ sa.out sD.out).mono ?_; rintro e v5 ⟨rfl, hqv5⟩; have yv5 : Below w3.heap.size w3 v5 := (by repeat (first | (with_reducible exact Below.refl _ _) | (with_reducible assumption) | (with_reducible apply bl_alloc) | (with_reducible apply bl_drew) | ((with_reducible refine bl_set ?_ ?hs _); case hs => (simp; try omega)) | (with_reducible refine bl_step ?_ (by assumption)))); rw [e5.out])
      | (go_at_call 17; refine (cut_R a a _ sa.out sa.out).mono ?_; rintro e v3 ⟨rfl, hqv3⟩; have yv3 : Below w3.heap.size w3 v3 := (by repeat (first | (with_reducible exact Below.refl _ _) | (with_reducible assumption) | (with_reducible apply bl_alloc) | (with_reducible apply bl_drew) | ((with_reducible refine bl_set ?_ ?hs _); case hs => (simp; try omega)) | (with_reducible refine bl_step ?_ (by assumption)))); rw [e3.out])
      | (go_at_call 14; refine (cover_R a a _ sa.out sa.out).mono ?_; rintro e v4 ⟨rfl, hqv4⟩; have yv4 : Below w3.heap.size w3 v4 := (by repeat (first | (with_reducible exact Below.refl _ _) | (with_reducible assumption) | (with_reducible apply bl_alloc) | (with_reducible apply bl_drew) | ((with_reducible refine bl_set ?_ ?hs _); case hs => (simp; try omega)) | (with_reducible refine bl_step ?_ (by assumption)))); rw [e4.out])
      | (go_at_call 18; refine (empty_R C _).mono ?_; rintro e v6 ⟨rfl, hqv6⟩; have yv6 : Below w3.heap.size w3 v6 := (by repeat (first | (with_reducible exact Below.refl _ _) | (with_reducible assumption) | (with_reducible apply bl_alloc) | (with_reducible apply bl_drew) | ((with_reducible refine bl_set ?_ ?hs _); case hs => (simp; try omega)) | (with_reducible refine bl_step ?_ (by assumption)))); rw [hE.out])
      | (go_at_call 16; refine (bound_R a _ ia.out).mono ?_; rintro e v8 ⟨rfl, hqv8⟩; have yv8 : Below w3.heap.size w3 v8 := (by repeat (first | (with_reducible exact Below.refl _ _) | (with_reducible assumption) | (with_reducible apply bl_alloc) | (with_reducible apply bl_drew) | ((with_reducible refine bl_set ?_ ?hs _); case hs => (simp; try omega)) | (with_reducible refine bl_step ?_ (by assumption)))); rw [e8.out])
      | (go_at_call 9; refine (chk_R D _ iD.out).mono ?_; rintro e v9 ⟨rfl, hqv9⟩; have yv9 : Below w3.heap.size w3 v9 := (by repeat (first | (with_reducible exact Below.refl _ _) | (with_reducible assumption) | (with_reducible apply bl_alloc) | (with_reducible apply bl_drew) | ((with_reducible refine bl_set ?_ ?hs _); case hs => (simp; try omega)) | (with_reducible refine bl_step ?_ (by assumption)))); rw [cD.out])
      | (go_at_call 11; refine (awake07 _).mono ?_; rintro e v10 ⟨rfl, hqv10⟩; have yv10 : Below w3.heap.size w3 v10 := (by repeat (first | (with_reducible exact Below.refl _ _) | (with_reducible assumption) | (with_reducible apply bl_alloc) | (with_reducible apply bl_drew) | ((with_reducible refine bl_set ?_ ?hs _); case hs => (simp; try omega)) | (with_reducible refine bl_step ?_ (by assumption))))))
    try (go_wp2_with fail)
    refine hK.out _ _ (by (try dsimp only); exact hS _ (by repeat (first | (with_reducible exact Below.refl _ _) | (with_reducible assumption) | (with_reducible apply bl_alloc) | (with_reducible apply bl_drew) | ((with_reducible refine bl_set ?_ ?hs _); case hs => (simp; try omega)) | (with_reducible refine bl_step ?_ (by assumption))))) (fun hHeld2 => ?_)
    clear hHeld
    rename _ => hHeld
    clear hK K
    (try simp only [Act.put, List.setIfInBounds_toArray, List.set_cons_zero, List.set_cons_succ])
    refine wpAnyH_take (i := 36) (v := ?_) rfl (by kernel_rfl) (by kernel_rfl) (by kernel_rfl) (fun _ _ _ h => h) (Or.inl ⟨by rfl, ?_⟩) (by assumption) ?_
    rotate_left
    · (intro w hSw; (try dsimp only at hSw); go_simp; try (with_reducible rfl))
    (try simp only [Act.put, List.setIfInBounds_toArray, List.set_cons_zero, List.set_cons_succ])
    refine wpAnyH_take (i := 37) (v := ?_) rfl (by kernel_rfl) (by kernel_rfl) (by kernel_rfl) (fun _ _ _ h => h) (Or.inl ⟨by rfl, ?_⟩) (by assumption) ?_
    rotate_left
    · (intro w hSw; (try dsimp only at hSw); go_simp; try (with_reducible rfl))
    (try simp only [Act.put, List.setIfInBounds_toArray, List.set_cons_zero, List.set_cons_succ])
    refine wpAnyH_take (i := 38) (v := ?_) rfl (by kernel_rfl) (by kernel_rfl) (by kernel_rfl) (fun _ _ _ h => h) (Or.inl ⟨by rfl, ?_⟩) (by assumption) ?_
    rotate_left
    · (intro w hSw; (try dsimp only at hSw); go_simp; try (with_reducible rfl))
    (try simp only [Act.put, List.setIfInBounds_toArray, List.set_cons_zero, List.set_cons_succ])
    refine wpAnyH_take (i := 39) (v := ?_) rfl (by kernel_rfl) (by kernel_rfl) (by kernel_rfl) (fun _ _ _ h => h) (Or.inl ⟨by rfl, ?_⟩) (by assumption) ?_
    rotate_left
    · (intro w hSw; (try dsimp only at hSw); go_simp; try (with_reducible rfl))
    (try simp only [Act.put, List.setIfInBounds_toArray, List.set_cons_zero, List.set_cons_succ])
    refine wpAnyH_take (i := 40) (v := ?_) rfl (by kernel_rfl) (by kernel_rfl) (by kernel_rfl) (fun _ _ _ h => h) (Or.inl ⟨by rfl, ?_⟩) (by assumption) ?_
    rotate_left
    · (intro w hSw; (try dsimp only at hSw); go_simp; try (with_reducible rfl))
    (try simp only [Act.put, List.setIfInBounds_toArray, List.set_cons_zero, List.set_cons_succ])
    refine wpAnyH_take (i := 41) (v := ?_) rfl (by kernel_rfl) (by kernel_rfl) (by kernel_rfl) (fun _ _ _ h => h) (Or.inl ⟨by rfl, ?_⟩) (by assumption) ?_
    rotate_left
    · (intro w hSw; (try dsimp only at hSw); go_simp; try (with_reducible rfl))
    (try simp only [Act.put, List.setIfInBounds_toArray, List.set_cons_zero, List.set_cons_succ])
    refine wpAnyH_take (i := 42) (v := undef) rfl (by kernel_rfl) (by kernel_rfl) (by kernel_rfl) (fun _ _ _ h => h) (Or.inr ⟨by kernel_rfl, rfl⟩) (by assumption) ?_
    (try simp only [Act.put, List.setIfInBounds_toArray, List.set_cons_zero, List.set_cons_succ])
    refine wpAnyH_take (i := 43) (v := undef) rfl (by kernel_rfl) (by kernel_rfl) (by kernel_rfl) (fun _ _ _ h => h) (Or.inr ⟨by kernel_rfl, rfl⟩) (by assumption) ?_
    (try simp only [Act.put, List.setIfInBounds_toArray, List.set_cons_zero, List.set_cons_succ])
    refine wpAnyH_take (i := 45) (v := undef) rfl (by kernel_rfl) (by kernel_rfl) (by kernel_rfl) (fun _ _ _ h => h) (Or.inr ⟨by kernel_rfl, rfl⟩) (by assumption) ?_
    (try simp only [Act.put, List.setIfInBounds_toArray, List.set_cons_zero, List.set_cons_succ])
    refine wpAnyH_ready (rs := [44]) (by kernel_rfl) (by simp) ?_
    refine AllReadyH.cons (i := 44) rfl (fun K hK => ?_) AllReadyH.nil
    go_simp
    refine hK.out _ _ hHeld (fun hHeld2 => ?_)
    clear hHeld2 hK K
    (try simp only [Act.put, List.setIfInBounds_toArray, List.set_cons_zero, List.set_cons_succ])
    refine wpAnyH_take (i := 46) (v := undef) rfl (by kernel_rfl) (by kernel_rfl) (by kernel_rfl) (fun _ _ _ h => h) (Or.inr ⟨by kernel_rfl, rfl⟩) (by assumption) ?_
    (try simp only [Act.put, List.setIfInBounds_toArray, List.set_cons_zero, List.set_cons_succ])
    refine wpAnyH_take (i := 47) (v := ?_) rfl (by kernel_rfl) (by kernel_rfl) (by kernel_rfl) (fun _ _ _ h => h) (Or.inl ⟨by rfl, ?_⟩) (by assumption) ?_
    rotate_left
    · (intro w hSw; (try dsimp only at hSw); go_simp; try (with_reducible rfl))
    (try simp only [Act.put, List.setIfInBounds_toArray, List.set_cons_zero, List.set_cons_succ])
    refine wpAnyH_take (i := 48) (v := ?_) rfl (by kernel_rfl) (by kernel_rfl) (by kernel_rfl) (fun _ _ _ h => h) (Or.inl ⟨by rfl, ?_⟩) (by assumption) ?_
    rotate_left
    · (intro w hSw; (try dsimp only at hSw); go_simp; try (with_reducible rfl))
    (try simp only [Act.put, List.setIfInBounds_toArray, List.set_cons_zero, List.set_cons_succ])
    refine wpAnyH_take (i := 49) (v := ?_) rfl (by kernel_rfl) (by kernel_rfl) (by kernel_rfl) (fun _ _ _ h => h) (Or.inl ⟨by rfl, ?_⟩) (by assumption) ?_
    rotate_left
    · (intro w hSw; (try dsimp only at hSw); go_simp; try (with_reducible rfl))
    (try simp only [Act.put, List.setIfInBounds_toArray, List.set_cons_zero, List.set_cons_succ])
    refine wpAnyH_take (i := 50) (v := ?_) rfl (by kernel_rfl) (by kernel_rfl) (by kernel_rfl) (fun _ _ _ h => h) (Or.inl ⟨by rfl, ?_⟩) (by assumption) ?_
    rotate_left
    · (intro w hSw; (try dsimp only at hSw); go_simp; try (with_reducible rfl))
    (try simp only [Act.put, List.setIfInBounds_toArray, List.set_cons_zero, List.set_cons_succ])
    refine wpAnyH_take (i := 52) (v := ?_) rfl (by kernel_rfl) (by kernel_rfl) (by kernel_rfl) (fun _ _ _ h => h) (Or.inl ⟨by rfl, ?_⟩) (by assumption) ?_
    rotate_left
    · (intro w hSw; (try dsimp only at hSw); go_simp; try (with_reducible rfl))
    (try simp only [Act.put, List.setIfInBounds_toArray, List.set_cons_zero, List.set_cons_succ])
    refine wpAnyH_ready (rs := [51]) (by kernel_rfl) (by simp) ?_
    refine AllReadyH.cons (i := 51) rfl (fun K hK => ?_) AllReadyH.nil
    go_simp
    (first
      | (go_at_call_of 17 b.x; refine (cut_R b a _ sb.out sa.out).mono ?_; rintro e v1 ⟨rfl, hqv1⟩; have yv1 : Below w3.heap.size w3 v1 := (by repeat (first | (with_reducible exact Below.refl _ _) | (with_reducible assumption) | (with_reducible apply bl_alloc) | (with_reducible apply bl_drew) | ((with_reducible refine bl_set ?_ ?hs _); case hs => (simp; try omega)) | (with_reducible refine bl_step ?_ (by assumption)))); rw [e1.out])
      | (go_at_call_of 14 b.x; refine (cover_R b a _ sb.out sa.out).mono ?_; rintro e v2 ⟨rfl, hqv2⟩; have yv2 : Below w3.heap.size w3 v2 := (by repeat (first | (with_reducible exact Below.refl _ _) | (with_reducible assumption) | (with_reducible apply bl_alloc) | (with_reducible apply bl_drew) | ((with_reducible refine bl_set ?_ ?hs _); case hs => (simp; try omega)) | (with_reducible refine bl_step ?_ (by assumption)))); rw [e2.out])
      | (go_at_call_of 17 D.x; refine (cut_R a D _ sa.out sD.out).mono ?_; rintro e v5 ⟨rfl, hqv5⟩; have yv5 : Below w3.heap.size w3 v5 := (by repeat (first | (with_reducible exact Below.refl _ _) | (with_reducible assumption) | (with_reducible apply bl_alloc) | (with_reducible apply bl_drew) | ((with_reducible refine bl_set ?_ ?hs _); case hs => (simp; try omega)) | (with_reducible refine bl_step ?_ (by assumption)))); rw [e5.out])
      | (go_at_call 17; refine (cut_R a a _ sa.out sa.out).mono ?_; rintro e v3 ⟨rfl, hqv3⟩; have yv3 : Below w3.heap.size w3 v3 := (by repeat (first | (with_reducible exact Below.refl _ _) | (with_reducible assumption) | (with_reducible apply bl_alloc) | (with_reducible apply bl_drew) | ((with_reducible refine bl_set ?_ ?hs _); case hs => (simp; try omega)) | (with_reducible refine bl_step ?_ (by assumption)))); rw [e3.out])
      | (go_at_call 14; refine (cover_R a a _ sa.out sa.out).mono ?_; rintro e v4 ⟨rfl, hqv4⟩; have yv4 : Below w3.heap.size w3 v4 := (by repeat (first | (with_reducible exact Below.refl _ _) | (with_reducible assumption) | (with_reducible apply bl_alloc) | (with_reducible apply bl_drew) | ((with_reducible refine bl_set ?_ ?hs _); case hs => (simp; try omega)) | (with_reducible refine bl_step ?_ (by assumption)))); rw [e4.out])
      | (go_at_call 18; refine (empty_R C _).mono ?_; rintro e v6 ⟨rfl, hqv6⟩; have yv6 : Below w3.heap.size w3 v6 := (by repeat (first | (with_reducible exact Below.refl _ _) | (with_reducible assumption) | (with_reducible apply bl_alloc) | (with_reducible apply bl_drew) | ((with_reducible refine bl_set ?_ ?hs _); case hs => (simp; try omega)) | (with_reducible refine bl_step ?_ (by assumption)))); rw [hE.out])
      | (go_at_call 16; refine (bound_R a _ ia.out).mono ?_; rintro e v8 ⟨rfl, hqv8⟩; have yv8 : Below w3.heap.size w3 v8 := (by repeat (first | (with_reducible exact Below.refl _ _) | (with_reducible assumption) | (with_reducible apply bl_alloc) | (with_reducible apply bl_drew) | ((with_reducible refine bl_set ?_ ?hs _); case hs => (simp; try omega)) | (with_reducible refine bl_step ?_ (by assumption)))); rw [e8.out])
      | (go_at_call 9; refine (chk_R D _ iD.out).mono ?_; rintro e v9 ⟨rfl, hqv9⟩; have yv9 : Below w3.heap.size w3 v9 := (by repeat (first | (with_reducible exact Below.refl _ _) | (with_reducible assumption) | (with_reducible apply bl_alloc) | (with_reducible apply bl_drew) | ((with_reducible refine bl_set ?_ ?hs _); case hs => (simp; try omega)) | (with_reducible refine bl_step ?_ (by assumption)))); rw [cD.out])
      | (go_at_call 11; refine (awake07 _).mono ?_; rintro e v10 ⟨rfl, hqv10⟩; have yv10 : Below w3.heap.size w3 v10 := (by repeat (first | (with_reducible exact Below.refl _ _) | (with_reducible assumption) | (with_reducible apply bl_alloc) | (with_reducible apply bl_drew) | ((with_reducible refine bl_set ?_ ?hs _); case hs => (simp; try omega)) | (with_reducible refine bl_step ?_ (by assumption))))))
    try (go_wp2_with fail)
    refine hK.out _ _ (by (try dsimp only); exact hS _ (by repeat (first | (with_reducible exact Below.refl _ _) | (with_reducible assumption) | (with_reducible apply bl_alloc) | (with_reducible apply bl_drew) | ((with_reducible refine bl_set ?_ ?hs _); case hs => (simp; try omega)) | (with_reducible refine bl_step ?_ (by assumption))))) (fun hHeld2 => ?_)
    clear hHeld
    rename _ => hHeld
    clear hK K
    (try simp only [Act.put, List.setIfInBounds_toArray, List.set_cons_zero, List.set_cons_succ])
    refine wpAnyH_take (i := 53) (v := ?_) rfl (by kernel_rfl) (by kernel_rfl) (by kernel_rfl) (fun _ _ _ h => h) (Or.inl ⟨by rfl, ?_⟩) (by assumption) ?_
    rotate_left
    · (intro w hSw; (try dsimp only at hSw); go_simp; try (with_reducible rfl))
    (try simp only [Act.put, List.setIfInBounds_toArray, List.set_cons_zero, List.set_cons_succ])
    refine wpAnyH_take (i := 54) (v := ?_) rfl (by kernel_rfl) (by kernel_rfl) (by kernel_rfl) (fun _ _ _ h => h) (Or.inl ⟨by rfl, ?_⟩) (by assumption) ?_
    rotate_left
    · (intro w hSw; (try dsimp only at hSw); go_simp; try (with_reducible rfl))
    (try simp only [Act.put, List.setIfInBounds_toArray, List.set_cons_zero, List.set_cons_succ])
    refine wpAnyH_take (i := 55) (v := ?_) rfl (by kernel_rfl) (by kernel_rfl) (by kernel_rfl) (fun _ _ _ h => h) (Or.inl ⟨by rfl, ?_⟩) (by assumption) ?_
    rotate_left
    · (intro w hSw; (try dsimp only at hSw); go_simp; try (with_reducible rfl))
    (try simp only [Act.put, List.setIfInBounds_toArray, List.set_cons_zero, List.set_cons_succ])
    refine wpAnyH_take (i := 56) (v := ?_) rfl (by kernel_rfl) (by kernel_rfl) (by kernel_rfl) (fun _ _ _ h => h) (Or.inl ⟨by rfl, ?_⟩) (by assumption) ?_
    rotate_left
    · (intro w hSw; (try dsimp only at hSw); go_simp; try (with_reducible rfl))
    (try simp only [Act.put, List.setIfInBounds_toArray, List.set_cons_zero, List.set_cons_succ])
    refine wpAnyH_ready (rs := [57]) (by kernel_rfl) (by simp) ?_
    refine AllReadyH.cons (i := 57) rfl (fun K hK => ?_) AllReadyH.nil
    go_simp
    (first
      | (go_at_call_of 17 b.x; refine (cut_R b a _ sb.out sa.out).mono ?_; rintro e v1 ⟨rfl, hqv1⟩; have yv1 : Below w3.heap.size w3 v1 := (by repeat (first | (with_reducible exact Below.refl _ _) | (with_reducible assumption) | (with_reducible apply bl_alloc) | (with_reducible apply bl_drew) | ((with_reducible refine bl_set ?_ ?hs _); case hs => (simp; try omega)) | (with_reducible refine bl_step ?_ (by assumption)))); rw [e1.out])
      | (go_at_call_of 14 b.x; refine (cover_R b a _ sb.out sa.out).mono ?_; rintro e v2 ⟨rfl, hqv2⟩; have yv2 : Below w3.heap.size w3 v2 := (by repeat (first | (with_reducible exact Below.refl _ _) | (with_reducible assumption) | (with_reducible apply bl_alloc) | (with_reducible apply bl_drew) | ((with_reducible refine bl_set ?_ ?hs _); case hs => (simp; try omega)) | (with_reducible refine bl_step ?_ (by assumption)))); rw [e2.out])
      | (go_at_call_of 17 D.x; refine (cut_R a D _ sa.out sD.out).mono ?_; rintro e v5 ⟨rfl, hqv5⟩; have yv5 : Below w3.heap.size w3 v5 := (by repeat (first | (with_reducible exact Below.refl _ _) | (with_reducible assumption) | (with_reducible apply bl_alloc) | (with_reducible apply bl_drew) | ((with_reducible refine bl_set ?_ ?hs _); case hs => (simp; try omega)) | (with_reducible refine bl_step ?_ (by assumption)))); rw [e5.out])
      | (go_at_call 17; refine (cut_R a a _ sa.out sa.out).mono ?_; rintro e v3 ⟨rfl, hqv3⟩; have yv3 : Below w3.heap.size w3 v3 := (by repeat (first | (with_reducible exact Below.refl _ _) | (with_reducible assumption) | (with_reducible apply bl_alloc) | (with_reducible apply bl_drew) | ((with_reducible refine bl_set ?_ ?hs _); case hs => (simp; try omega)) | (with_reducible refine bl_step ?_ (by assumption)))); rw [e3.out])
      | (go_at_call 14; refine (cover_R a a _ sa.out sa.out).mono ?_; rintro e v4 ⟨rfl, hqv4⟩; have yv4 : Below w3.heap.size w3 v4 := (by repeat (first | (with_reducible exact Below.refl _ _) | (with_reducible assumption) | (with_reducible apply bl_alloc) | (with_reducible apply bl_drew) | ((with_reducible refine bl_set ?_ ?hs _); case hs => (simp; try omega)) | (with_reducible refine bl_step ?_ (by assumption)))); rw [e4.out])
      | (go_at_call 18; refine (empty_R C _).mono ?_; rintro e v6 ⟨rfl, hqv6⟩; have yv6 : Below w3.heap.size w3 v6 := (by repeat (first | (with_reducible exact Below.refl _ _) | (with_reducible assumption) | (with_reducible apply bl_alloc) | (with_reducible apply bl_drew) | ((with_reducible refine bl_set ?_ ?hs _); case hs => (simp; try omega)) | (with_reducible refine bl_step ?_ (by assumption)))); rw [hE.out])
      | (go_at_call 16; refine (bound_R a _ ia.out).mono ?_; rintro e v8 ⟨rfl, hqv8⟩; have yv8 : Below w3.heap.size w3 v8 := (by repeat (first | (with_reducible exact Below.refl _ _) | (with_reducible assumption) | (with_reducible apply bl_alloc) | (with_reducible apply bl_drew) | ((with_reducible refine bl_set ?_ ?hs _); case hs => (simp; try omega)) | (with_reducible refine bl_step ?_ (by assumption)))); rw [e8.out])
      | (go_at_call 9; refine (chk_R D _ iD.out).mono ?_; rintro e v9 ⟨rfl, hqv9⟩; have yv9 : Below w3.heap.size w3 v9 := (by repeat (first | (with_reducible exact Below.refl _ _) | (with_reducible assumption) | (with_reducible apply bl_alloc) | (with_reducible apply bl_drew) | ((with_reducible refine bl_set ?_ ?hs _); case hs => (simp; try omega)) | (with_reducible refine bl_step ?_ (by assumption)))); rw [cD.out])
      | (go_at_call 11; refine (awake07 _).mono ?_; rintro e v10 ⟨rfl, hqv10⟩; have yv10 : Below w3.heap.size w3 v10 := (by repeat (first | (with_reducible exact Below.refl _ _) | (with_reducible assumption) | (with_reducible apply bl_alloc) | (with_reducible apply bl_drew) | ((with_reducible refine bl_set ?_ ?hs _); case hs => (simp; try omega)) | (with_reducible refine bl_step ?_ (by assumption))))))
    try (go_wp2_with fail)
    refine hK.out _ _ (by (try dsimp only); exact hS _ (by repeat (first | (with_reducible exact Below.refl _ _) | (with_reducible assumption) | (with_reducible apply bl_alloc) | (with_reducible apply bl_drew) | ((with_reducible refine bl_set ?_ ?hs _); case hs => (simp; try omega)) | (with_reducible refine bl_step ?_ (by assumption))))) (fun hHeld2 => ?_)
    clear hHeld
    rename _ => hHeld
    clear hK K
    (try simp only [Act.put, List.setIfInBounds_toArray, List.set_cons_zero, List.set_cons_succ])
    refine wpAnyH_take (i := 58) (v := ?_) rfl (by kernel_rfl) (by kernel_rfl) (by kernel_rfl) (fun _ _ _ h => h) (Or.inl ⟨by rfl, ?_⟩) (by assumption) ?_
    rotate_left
    · (intro w hSw; (try dsimp only at hSw); go_simp; try (with_reducible rfl))
    (try simp only [Act.put, List.setIfInBounds_toArray, List.set_cons_zero, List.set_cons_succ])
    refine wpAnyH_take (i := 59) (v := ?_) rfl (by kernel_rfl) (by kernel_rfl) (by kernel_rfl) (fun _ _ _ h => h) (Or.inl ⟨by rfl, ?_⟩) (by assumption) ?_
    rotate_left
    · (intro w hSw; (try dsimp only at hSw); go_simp; try (with_reducible rfl))
    (try simp only [Act.put, List.setIfInBounds_toArray, List.set_cons_zero, List.set_cons_succ])
    refine wpAnyH_ready (rs := [60]) (by kernel_rfl) (by simp) ?_
    refine AllReadyH.cons (i := 60) rfl (fun K hK => ?_) AllReadyH.nil
    go_simp
    (first
      | (go_at_call_of 17 b.x; refine (cut_R b a _ sb.out sa.out).mono ?_; rintro e v1 ⟨rfl, hqv1⟩; have yv1 : Below w3.heap.size w3 v1 := (by repeat (first | (with_reducible exact Below.refl _ _) | (with_reducible assumption) | (with_reducible apply bl_alloc) | (with_reducible apply bl_drew) | ((with_reducible refine bl_set ?_ ?hs _); case hs => (simp; try omega)) | (with_reducible refine bl_step ?_ (by assumption)))); rw [e1.out])
      | (go_at_call_of 14 b.x; refine (cover_R b a _ sb.out sa.out).mono ?_; rintro e v2 ⟨rfl, hqv2⟩; have yv2 : Below w3.heap.size w3 v2 := (by repeat (first | (with_reducible exact Below.refl _ _) | (with_reducible assumption) | (with_reducible apply bl_alloc) | (with_reducible apply bl_drew) | ((with_reducible refine bl_set ?_ ?hs _); case hs => (simp; try omega)) | (with_reducible refine bl_step ?_ (by assumption)))); rw [e2.out])
      | (go_at_call_of 17 D.x; refine (cut_R a D _ sa.out sD.out).mono ?_; rintro e v5 ⟨rfl, hqv5⟩; have yv5 : Below w3.heap.size w3 v5 := (by repeat (first | (with_reducible exact Below.refl _ _) | (with_reducible assumption) | (with_reducible apply bl_alloc) | (with_reducible apply bl_drew) | ((with_reducible refine bl_set ?_ ?hs _); case hs => (simp; try omega)) | (with_reducible refine bl_step ?_ (by assumption)))); rw [e5.out])
      | (go_at_call 17; refine (cut_R a a _ sa.out sa.out).mono ?_; rintro e v3 ⟨rfl, hqv3⟩; have yv3 : Below w3.heap.size w3 v3 := (by repeat (first | (with_reducible exact Below.refl _ _) | (with_reducible assumption) | (with_reducible apply bl_alloc) | (with_reducible apply bl_drew) | ((with_reducible refine bl_set ?_ ?hs _); case hs => (simp; try omega)) | (with_reducible refine bl_step ?_ (by assumption)))); rw [e3.out])
      | (go_at_call 14; refine (cover_R a a _ sa.out sa.out).mono ?_; rintro e v4 ⟨rfl, hqv4⟩; have yv4 : Below w3.heap.size w3 v4 := (by repeat (first | (with_reducible exact Below.refl _ _) | (with_reducible assumption) | (with_reducible apply bl_alloc) | (with_reducible apply bl_drew) | ((with_reducible refine bl_set ?_ ?hs _); case hs => (simp; try omega)) | (with_reducible refine bl_step ?_ (by assumption)))); rw [e4.out])
      | (go_at_call 18; refine (empty_R C _).mono ?_; rintro e v6 ⟨rfl, hqv6⟩; have yv6 : Below w3.heap.size w3 v6 := (by repeat (first | (with_reducible exact Below.refl _ _) | (with_reducible assumption) | (with_reducible apply bl_alloc) | (with_reducible apply bl_drew) | ((with_reducible refine bl_set ?_ ?hs _); case hs => (simp; try omega)) | (with_reducible refine bl_step ?_ (by assumption)))); rw [hE.out])
      | (go_at_call 16; refine (bound_R a _ ia.out).mono ?_; rintro e v8 ⟨rfl, hqv8⟩; have yv8 : Below w3.heap.size w3 v8 := (by repeat (first | (with_reducible exact Below.refl _ _) | (with_reducible assumption) | (with_reducible apply bl_alloc) | (with_reducible apply bl_drew) | ((with_reducible refine bl_set ?_ ?hs _); case hs => (simp; try omega)) | (with_reducible refine bl_step ?_ (by assumption)))); rw [e8.out])
      | (go_at_call 9; refine (chk_R D _ iD.out).mono ?_; rintro e v9 ⟨rfl, hqv9⟩; have yv9 : Below w3.heap.size w3 v9 := (by repeat (first | (with_reducible exact Below.refl _ _) | (with_reducible assumption) | (with_reducible apply bl_alloc) | (with_reducible apply bl_drew) | ((with_reducible refine bl_set ?_ ?hs _); case hs => (simp; try omega)) | (with_reducible refine bl_step ?_ (by assumption)))); rw [cD.out])
      | (go_at_call 11; refine (awake07 _).mono ?_; rintro e v10 ⟨rfl, hqv10⟩; have yv10 : Below w3.heap.size w3 v10 := (by repeat (first | (with_reducible exact Below.refl _ _) | (with_reducible assumption) | (with_reducible apply bl_alloc) | (with_reducible apply bl_drew) | ((with_reducible refine bl_set ?_ ?hs _); case hs => (simp; try omega)) | (with_reducible refine bl_step ?_ (by assumption))))))
    try (go_wp2_with fail)
    refine hK.out _ _ (by (try dsimp only); exact hS _ (by repeat (first | (with_reducible exact Below.refl _ _) | (with_reducible assumption) | (with_reducible apply bl_alloc) | (with_reducible apply bl_drew) | ((with_reducible refine bl_set ?_ ?hs _); case hs => (simp; try omega)) | (with_reducible refine bl_step ?_ (by assumption))))) (fun hHeld2 => ?_)
    clear hHeld
    rename _ => hHeld
    clear hK K
    (try simp only [Act.put, List.setIfInBounds_toArray, List.set_cons_zero, List.set_cons_succ])
    refine wpAnyH_take (i := 61) (v := ?_) rfl (by kernel_rfl) (by kernel_rfl) (by kernel_rfl) (fun _ _ _ h => h) (Or.inl ⟨by rfl, ?_⟩) (by assumption) ?_
    rotate_left
    · (intro w hSw; (try dsimp only at hSw); go_simp; try (with_reducible rfl))
    (try simp only [Act.put, List.setIfInBounds_toArray, List.set_cons_zero, List.set_cons_succ])
    refine wpAnyH_ready (rs := [62]) (by kernel_rfl) (by simp) ?_
    refine AllReadyH.cons (i := 62) rfl (fun K hK => ?_) AllReadyH.nil
    go_simp
    refine hK.out _ _ hHeld (fun hHeld2 => ?_)
    clear hHeld2 hK K
    (try simp only [Act.put, List.setIfInBounds_toArray, List.set_cons_zero, List.set_cons_succ])
    refine wpAnyH_done (by kernel_rfl) ?_ _
    go_wp2_with fail
    go_ret
    exact ⟨rfl, bl_step hw3 (by repeat (first | (with_reducible exact Below.refl _ _) | (with_reducible assumption) | (with_reducible apply bl_alloc) | (with_reducible apply bl_drew) | ((with_reducible refine bl_set ?_ ?hs _); case hs => (simp; try omega)) | (with_reducible refine bl_step ?_ (by assumption))))⟩
  · rw [Bool.not_eq_true] at hE
    replace e7 := Lib.hid (e7.out hE)
    have hE := Lib.hid hE
    refine wp_region_held_drew (S := fun w' : World => Below w3.heap.size w3 w' ∧ (w'.cell? ⟨w.heap.size, 0, none⟩ = some (.int .i64 a.x) ∧ w'.cell? ⟨w.heap.size, 1, none⟩ = some (.int .i64 a.y) ∧ w'.cell? ⟨w.heap.size, 2, none⟩ = some (.int .i64 a.w) ∧ w'.cell? ⟨w.heap.size, 3, none⟩ = some (.int .i64 a.h)) ∧ (w'.cell? ⟨w.heap.size + 1, 0, none⟩ = some (.int .i64 b.x) ∧ w'.cell? ⟨w.heap.size + 1, 1, none⟩ = some (.int .i64 b.y) ∧ w'.cell? ⟨w.heap.size + 1, 2, none⟩ = some (.int .i64 b.w) ∧ w'.cell? ⟨w.heap.size + 1, 3, none⟩ = some (.int .i64 b.h)) ∧ (w'.cell? ⟨g5, 0, none⟩ = some (.int .i64 C.x) ∧ w'.cell? ⟨g5, 1, none⟩ = some (.int .i64 C.y) ∧ w'.cell? ⟨g5, 2, none⟩ = some (.int .i64 C.w) ∧ w'.cell? ⟨g5, 3, none⟩ = some (.int .i64 C.h)) ∧ (w'.cell? ⟨g6, 0, none⟩ = some (.int .i64 D.x) ∧ w'.cell? ⟨g6, 1, none⟩ = some (.int .i64 D.y) ∧ w'.cell? ⟨g6, 2, none⟩ = some (.int .i64 D.w) ∧ w'.cell? ⟨g6, 3, none⟩ = some (.int .i64 D.h))) (by kernel_rfl) (by (try dsimp only); exact hS _ (by repeat (first | (with_reducible exact Below.refl _ _) | (with_reducible assumption) | (with_reducible apply bl_alloc) | (with_reducible apply bl_drew) | ((with_reducible refine bl_set ?_ ?hs _); case hs => (simp; try omega)) | (with_reducible refine bl_step ?_ (by assumption))))) (fun hHeld => ?_)
    refine wpAnyH_take (i := 0) (v := ?_) rfl (by kernel_rfl) (by kernel_rfl) (by kernel_rfl) (fun _ _ _ h => h) (Or.inl ⟨by rfl, ?_⟩) (by assumption) ?_
    rotate_left
    · (intro w hSw; (try dsimp only at hSw); go_simp; try (with_reducible rfl))
    (try simp only [Act.put, List.setIfInBounds_toArray, List.set_cons_zero, List.set_cons_succ])
    refine wpAnyH_take (i := 1) (v := ?_) rfl (by kernel_rfl) (by kernel_rfl) (by kernel_rfl) (fun _ _ _ h => h) (Or.inl ⟨by rfl, ?_⟩) (by assumption) ?_
    rotate_left
    · (intro w hSw; (try dsimp only at hSw); go_simp; try (with_reducible rfl))
    (try simp only [Act.put, List.setIfInBounds_toArray, List.set_cons_zero, List.set_cons_succ])
    refine wpAnyH_take (i := 2) (v := ?_) rfl (by kernel_rfl) (by kernel_rfl) (by kernel_rfl) (fun _ _ _ h => h) (Or.inl ⟨by rfl, ?_⟩) (by assumption) ?_
    rotate_left
    · (intro w hSw; (try dsimp only at hSw); go_simp; try (with_reducible rfl))
    (try simp only [Act.put, List.setIfInBounds_toArray, List.set_cons_zero, List.set_cons_succ])
    refine wpAnyH_ready (rs := [3]) (by kernel_rfl) (by simp) ?_
    refine AllReadyH.cons (i := 3) rfl (fun K hK => ?_) AllReadyH.nil
    go_simp
    (first
      | (go_at_call_of 17 b.x; refine (cut_R b a _ sb.out sa.out).mono ?_; rintro e v1 ⟨rfl, hqv1⟩; have yv1 : Below w3.heap.size w3 v1 := (by repeat (first | (with_reducible exact Below.refl _ _) | (with_reducible assumption) | (with_reducible apply bl_alloc) | (with_reducible apply bl_drew) | ((with_reducible refine bl_set ?_ ?hs _); case hs => (simp; try omega)) | (with_reducible refine bl_step ?_ (by assumption)))); rw [e1.out])
      | (go_at_call_of 14 b.x; refine (cover_R b a _ sb.out sa.out).mono ?_; rintro e v2 ⟨rfl, hqv2⟩; have yv2 : Below w3.heap.size w3 v2 := (by repeat (first | (with_reducible exact Below.refl _ _) | (with_reducible assumption) | (with_reducible apply bl_alloc) | (with_reducible apply bl_drew) | ((with_reducible refine bl_set ?_ ?hs _); case hs => (simp; try omega)) | (with_reducible refine bl_step ?_ (by assumption)))); rw [e2.out])
      | (go_at_call_of 17 D.x; refine (cut_R a D _ sa.out sD.out).mono ?_; rintro e v5 ⟨rfl, hqv5⟩; have yv5 : Below w3.heap.size w3 v5 := (by repeat (first | (with_reducible exact Below.refl _ _) | (with_reducible assumption) | (with_reducible apply bl_alloc) | (with_reducible apply bl_drew) | ((with_reducible refine bl_set ?_ ?hs _); case hs => (simp; try omega)) | (with_reducible refine bl_step ?_ (by assumption)))); rw [e5.out])
      | (go_at_call 17; refine (cut_R a a _ sa.out sa.out).mono ?_; rintro e v3 ⟨rfl, hqv3⟩; have yv3 : Below w3.heap.size w3 v3 := (by repeat (first | (with_reducible exact Below.refl _ _) | (with_reducible assumption) | (with_reducible apply bl_alloc) | (with_reducible apply bl_drew) | ((with_reducible refine bl_set ?_ ?hs _); case hs => (simp; try omega)) | (with_reducible refine bl_step ?_ (by assumption)))); rw [e3.out])
      | (go_at_call_of 14 C.x; refine (cover_R a C _ sa.out sC.out).mono ?_; rintro e v7 ⟨rfl, hqv7⟩; have yv7 : Below w3.heap.size w3 v7 := (by repeat (first | (with_reducible exact Below.refl _ _) | (with_reducible assumption) | (with_reducible apply bl_alloc) | (with_reducible apply bl_drew) | ((with_reducible refine bl_set ?_ ?hs _); case hs => (simp; try omega)) | (with_reducible refine bl_step ?_ (by assumption)))); rw [e7.out])
      | (go_at_call 14; refine (cover_R a a _ sa.out sa.out).mono ?_; rintro e v4 ⟨rfl, hqv4⟩; have yv4 : Below w3.heap.size w3 v4 := (by repeat (first | (with_reducible exact Below.refl _ _) | (with_reducible assumption) | (with_reducible apply bl_alloc) | (with_reducible apply bl_drew) | ((with_reducible refine bl_set ?_ ?hs _); case hs => (simp; try omega)) | (with_reducible refine bl_step ?_ (by assumption)))); rw [e4.out])
      | (go_at_call 18; refine (empty_R C _).mono ?_; rintro e v6 ⟨rfl, hqv6⟩; have yv6 : Below w3.heap.size w3 v6 := (by repeat (first | (with_reducible exact Below.refl _ _) | (with_reducible assumption) | (with_reducible apply bl_alloc) | (with_reducible apply bl_drew) | ((with_reducible refine bl_set ?_ ?hs _); case hs => (simp; try omega)) | (with_reducible refine bl_step ?_ (by assumption)))); rw [hE.out])
      | (go_at_call 16; refine (bound_R a _ ia.out).mono ?_; rintro e v8 ⟨rfl, hqv8⟩; have yv8 : Below w3.heap.size w3 v8 := (by repeat (first | (with_reducible exact Below.refl _ _) | (with_reducible assumption) | (with_reducible apply bl_alloc) | (with_reducible apply bl_drew) | ((with_reducible refine bl_set ?_ ?hs _); case hs => (simp; try omega)) | (with_reducible refine bl_step ?_ (by assumption)))); rw [e8.out])
      | (go_at_call 9; refine (chk_R D _ iD.out).mono ?_; rintro e v9 ⟨rfl, hqv9⟩; have yv9 : Below w3.heap.size w3 v9 := (by repeat (first | (with_reducible exact Below.refl _ _) | (with_reducible assumption) | (with_reducible apply bl_alloc) | (with_reducible apply bl_drew) | ((with_reducible refine bl_set ?_ ?hs _); case hs => (simp; try omega)) | (with_reducible refine bl_step ?_ (by assumption)))); rw [cD.out])
      | (go_at_call 11; refine (awake07 _).mono ?_; rintro e v10 ⟨rfl, hqv10⟩; have yv10 : Below w3.heap.size w3 v10 := (by repeat (first | (with_reducible exact Below.refl _ _) | (with_reducible assumption) | (with_reducible apply bl_alloc) | (with_reducible apply bl_drew) | ((with_reducible refine bl_set ?_ ?hs _); case hs => (simp; try omega)) | (with_reducible refine bl_step ?_ (by assumption))))))
    try (go_wp2_with fail)
    refine hK.out _ _ (by (try dsimp only); exact hS _ (by repeat (first | (with_reducible exact Below.refl _ _) | (with_reducible assumption) | (with_reducible apply bl_alloc) | (with_reducible apply bl_drew) | ((with_reducible refine bl_set ?_ ?hs _); case hs => (simp; try omega)) | (with_reducible refine bl_step ?_ (by assumption))))) (fun hHeld2 => ?_)
    clear hHeld
    rename _ => hHeld
    clear hK K
    (try simp only [Act.put, List.setIfInBounds_toArray, List.set_cons_zero, List.set_cons_succ])
    refine wpAnyH_take (i := 4) (v := ?_) rfl (by kernel_rfl) (by kernel_rfl) (by kernel_rfl) (fun _ _ _ h => h) (Or.inl ⟨by rfl, ?_⟩) (by assumption) ?_
    rotate_left
    · (intro w hSw; (try dsimp only at hSw); go_simp; try (with_reducible rfl))
    (try simp only [Act.put, List.setIfInBounds_toArray, List.set_cons_zero, List.set_cons_succ])
    refine wpAnyH_take (i := 5) (v := ?_) rfl (by kernel_rfl) (by kernel_rfl) (by kernel_rfl) (fun _ _ _ h => h) (Or.inl ⟨by rfl, ?_⟩) (by assumption) ?_
    rotate_left
    · (intro w hSw; (try dsimp only at hSw); go_simp; try (with_reducible rfl))
    (try simp only [Act.put, List.setIfInBounds_toArray, List.set_cons_zero, List.set_cons_succ])
    refine wpAnyH_take (i := 6) (v := ?_) rfl (by kernel_rfl) (by kernel_rfl) (by kernel_rfl) (fun _ _ _ h => h) (Or.inl ⟨by rfl, ?_⟩) (by assumption) ?_
    rotate_left
    · (intro w hSw; (try dsimp only at hSw); go_simp; try (with_reducible rfl))
    (try simp only [Act.put, List.setIfInBounds_toArray, List.set_cons_zero, List.set_cons_succ])
    refine wpAnyH_take (i := 7) (v := ?_) rfl (by kernel_rfl) (by kernel_rfl) (by kernel_rfl) (fun _ _ _ h => h) (Or.inl ⟨by rfl, ?_⟩) (by assumption) ?_
    rotate_left
    · (intro w hSw; (try dsimp only at hSw); go_simp; try (with_reducible rfl))
    (try simp only [Act.put, List.setIfInBounds_toArray, List.set_cons_zero, List.set_cons_succ])
    refine wpAnyH_take (i := 8) (v := ?_) rfl (by kernel_rfl) (by kernel_rfl) (by kernel_rfl) (fun _ _ _ h => h) (Or.inl ⟨by rfl, ?_⟩) (by assumption) ?_
    rotate_left
    · (intro w hSw; (try dsimp only at hSw); go_simp; try (with_reducible rfl))
    (try simp only [Act.put, List.setIfInBounds_toArray, List.set_cons_zero, List.set_cons_succ])
    refine wpAnyH_ready (rs := [9]) (by kernel_rfl) (by simp) ?_
    refine AllReadyH.cons (i := 9) rfl (fun K hK => ?_) AllReadyH.nil
    go_simp
    (first
      | (go_at_call_of 17 b.x; refine (cut_R b a _ sb.out sa.out).mono ?_; rintro e v1 ⟨rfl, hqv1⟩; have yv1 : Below w3.heap.size w3 v1 := (by repeat (first | (with_reducible exact Below.refl _ _) | (with_reducible assumption) | (with_reducible apply bl_alloc) | (with_reducible apply bl_drew) | ((with_reducible refine bl_set ?_ ?hs _); case hs => (simp; try omega)) | (with_reducible refine bl_step ?_ (by assumption)))); rw [e1.out])
      | (go_at_call_of 14 b.x; refine (cover_R b a _ sb.out sa.out).mono ?_; rintro e v2 ⟨rfl, hqv2⟩; have yv2 : Below w3.heap.size w3 v2 := (by repeat (first | (with_reducible exact Below.refl _ _) | (with_reducible assumption) | (with_reducible apply bl_alloc) | (with_reducible apply bl_drew) | ((with_reducible refine bl_set ?_ ?hs _); case hs => (simp; try omega)) | (with_reducible refine bl_step ?_ (by assumption)))); rw [e2.out])
      | (go_at_call_of 17 D.x; refine (cut_R a D _ sa.out sD.out).mono ?_; rintro e v5 ⟨rfl, hqv5⟩; have yv5 : Below w3.heap.size w3 v5 := (by repeat (first | (with_reducible exact Below.refl _ _) | (with_reducible assumption) | (with_reducible apply bl_alloc) | (with_reducible apply bl_drew) | ((with_reducible refine bl_set ?_ ?hs _); case hs => (simp; try omega)) | (with_reducible refine bl_step ?_ (by assumption)))); rw [e5.out])
      | (go_at_call 17; refine (cut_R a a _ sa.out sa.out).mono ?_; rintro e v3 ⟨rfl, hqv3⟩; have yv3 : Below w3.heap.size w3 v3 := (by repeat (first | (with_reducible exact Below.refl _ _) | (with_reducible assumption) | (with_reducible apply bl_alloc) | (with_reducible apply bl_drew) | ((with_reducible refine bl_set ?_ ?hs _); case hs => (simp; try omega)) | (with_reducible refine bl_step ?_ (by assumption)))); rw [e3.out])
      | (go_at_call_of 14 C.x; refine (cover_R a C _ sa.out sC.out).mono ?_; rintro e v7 ⟨rfl, hqv7⟩; have yv7 : Below w3.heap.size w3 v7 := (by repeat (first | (with_reducible exact Below.refl _ _) | (with_reducible assumption) | (with_reducible apply bl_alloc) | (with_reducible apply bl_drew) | ((with_reducible refine bl_set ?_ ?hs _); case hs => (simp; try omega)) | (with_reducible refine bl_step ?_ (by assumption)))); rw [e7.out])
      | (go_at_call 14; refine (cover_R a a _ sa.out sa.out).mono ?_; rintro e v4 ⟨rfl, hqv4⟩; have yv4 : Below w3.heap.size w3 v4 := (by repeat (first | (with_reducible exact Below.refl _ _) | (with_reducible assumption) | (with_reducible apply bl_alloc) | (with_reducible apply bl_drew) | ((with_reducible refine bl_set ?_ ?hs _); case hs => (simp; try omega)) | (with_reducible refine bl_step ?_ (by assumption)))); rw [e4.out])
      | (go_at_call 18; refine (empty_R C _).mono ?_; rintro e v6 ⟨rfl, hqv6⟩; have yv6 : Below w3.heap.size w3 v6 := (by repeat (first | (with_reducible exact Below.refl _ _) | (with_reducible assumption) | (with_reducible apply bl_alloc) | (with_reducible apply bl_drew) | ((with_reducible refine bl_set ?_ ?hs _); case hs => (simp; try omega)) | (with_reducible refine bl_step ?_ (by assumption)))); rw [hE.out])
      | (go_at_call 16; refine (bound_R a _ ia.out).mono ?_; rintro e v8 ⟨rfl, hqv8⟩; have yv8 : Below w3.heap.size w3 v8 := (by repeat (first | (with_reducible exact Below.refl _ _) | (with_reducible assumption) | (with_reducible apply bl_alloc) | (with_reducible apply bl_drew) | ((with_reducible refine bl_set ?_ ?hs _); case hs => (simp; try omega)) | (with_reducible refine bl_step ?_ (by assumption)))); rw [e8.out])
      | (go_at_call 9; refine (chk_R D _ iD.out).mono ?_; rintro e v9 ⟨rfl, hqv9⟩; have yv9 : Below w3.heap.size w3 v9 := (by repeat (first | (with_reducible exact Below.refl _ _) | (with_reducible assumption) | (with_reducible apply bl_alloc) | (with_reducible apply bl_drew) | ((with_reducible refine bl_set ?_ ?hs _); case hs => (simp; try omega)) | (with_reducible refine bl_step ?_ (by assumption)))); rw [cD.out])
      | (go_at_call 11; refine (awake07 _).mono ?_; rintro e v10 ⟨rfl, hqv10⟩; have yv10 : Below w3.heap.size w3 v10 := (by repeat (first | (with_reducible exact Below.refl _ _) | (with_reducible assumption) | (with_reducible apply bl_alloc) | (with_reducible apply bl_drew) | ((with_reducible refine bl_set ?_ ?hs _); case hs => (simp; try omega)) | (with_reducible refine bl_step ?_ (by assumption))))))
    try (go_wp2_with fail)
    refine hK.out _ _ (by (try dsimp only); exact hS _ (by repeat (first | (with_reducible exact Below.refl _ _) | (with_reducible assumption) | (with_reducible apply bl_alloc) | (with_reducible apply bl_drew) | ((with_reducible refine bl_set ?_ ?hs _); case hs => (simp; try omega)) | (with_reducible refine bl_step ?_ (by assumption))))) (fun hHeld2 => ?_)
    clear hHeld
    rename _ => hHeld
    clear hK K
    (try simp only [Act.put, List.setIfInBounds_toArray, List.set_cons_zero, List.set_cons_succ])
    refine wpAnyH_take (i := 10) (v := ?_) rfl (by kernel_rfl) (by kernel_rfl) (by kernel_rfl) (fun _ _ _ h => h) (Or.inl ⟨by rfl, ?_⟩) (by assumption) ?_
    rotate_left
    · (intro w hSw; (try dsimp only at hSw); go_simp; try (with_reducible rfl))
    (try simp only [Act.put, List.setIfInBounds_toArray, List.set_cons_zero, List.set_cons_succ])
    refine wpAnyH_take (i := 11) (v := ?_) rfl (by kernel_rfl) (by kernel_rfl) (by kernel_rfl) (fun _ _ _ h => h) (Or.inl ⟨by rfl, ?_⟩) (by assumption) ?_
    rotate_left
    · (intro w hSw; (try dsimp only at hSw); go_simp; try (with_reducible rfl))
    (try simp only [Act.put, List.setIfInBounds_toArray, List.set_cons_zero, List.set_cons_succ])
    refine wpAnyH_take (i := 12) (v := ?_) rfl (by kernel_rfl) (by kernel_rfl) (by kernel_rfl) (fun _ _ _ h => h) (Or.inl ⟨by rfl, ?_⟩) (by assumption) ?_
    rotate_left
    · (intro w hSw; (try dsimp only at hSw); go_simp; try (with_reducible rfl))
    (try simp only [Act.put, List.setIfInBounds_toArray, List.set_cons_zero, List.set_cons_succ])
    refine wpAnyH_take (i := 13) (v := ?_) rfl (by kernel_rfl) (by kernel_rfl) (by kernel_rfl) (fun _ _ _ h => h) (Or.inl ⟨by rfl, ?_⟩) (by assumption) ?_
    rotate_left
    · (intro w hSw; (try dsimp only at hSw); go_simp; try (with_reducible rfl))
    (try simp only [Act.put, List.setIfInBounds_toArray, List.set_cons_zero, List.set_cons_succ])
    refine wpAnyH_take (i := 14) (v := ?_) rfl (by kernel_rfl) (by kernel_rfl) (by kernel_rfl) (fun _ _ _ h => h) (Or.inl ⟨by rfl, ?_⟩) (by assumption) ?_
    rotate_left
    · (intro w hSw; (try dsimp only at hSw); go_simp; try (with_reducible rfl))
    (try simp only [Act.put, List.setIfInBounds_toArray, List.set_cons_zero, List.set_cons_succ])
    refine wpAnyH_take (i := 16) (v := ?_) rfl (by kernel_rfl) (by kernel_rfl) (by kernel_rfl) (fun _ _ _ h => h) (Or.inl ⟨by rfl, ?_⟩) (by assumption) ?_
    rotate_left
    · (intro w hSw; (try dsimp only at hSw); go_simp; try (with_reducible rfl))
    (try simp only [Act.put, List.setIfInBounds_toArray, List.set_cons_zero, List.set_cons_succ])
    refine wpAnyH_ready (rs := [15]) (by kernel_rfl) (by simp) ?_
    refine AllReadyH.cons (i := 15) rfl (fun K hK => ?_) AllReadyH.nil
    go_simp
    (first
      | (go_at_call_of 17 b.x; refine (cut_R b a _ sb.out sa.out).mono ?_; rintro e v1 ⟨rfl, hqv1⟩; have yv1 : Below w3.heap.size w3 v1 := (by repeat (first | (with_reducible exact Below.refl _ _) | (with_reducible assumption) | (with_reducible apply bl_alloc) | (with_reducible apply bl_drew) | ((with_reducible refine bl_set ?_ ?hs _); case hs => (simp; try omega)) | (with_reducible refine bl_step ?_ (by assumption)))); rw [e1.out])
      | (go_at_call_of 14 b.x; refine (cover_R b a _ sb.out sa.out).mono ?_; rintro e v2 ⟨rfl, hqv2⟩; have yv2 : Below w3.heap.size w3 v2 := (by repeat (first | (with_reducible exact Below.refl _ _) | (with_reducible assumption) | (with_reducible apply bl_alloc) | (with_reducible apply bl_drew) | ((with_reducible refine bl_set ?_ ?hs _); case hs => (simp; try omega)) | (with_reducible refine bl_step ?_ (by assumption)))); rw [e2.out])
      | (go_at_call_of 17 D.x; refine (cut_R a D _ sa.out sD.out).mono ?_; rintro e v5 ⟨rfl, hqv5⟩; have yv5 : Below w3.heap.size w3 v5 := (by repeat (first | (with_reducible exact Below.refl _ _) | (with_reducible assumption) | (with_reducible apply bl_alloc) | (with_reducible apply bl_drew) | ((with_reducible refine bl_set ?_ ?hs _); case hs => (simp; try omega)) | (with_reducible refine bl_step ?_ (by assumption)))); rw [e5.out])
      | (go_at_call 17; refine (cut_R a a _ sa.out sa.out).mono ?_; rintro e v3 ⟨rfl, hqv3⟩; have yv3 : Below w3.heap.size w3 v3 := (by repeat (first | (with_reducible exact Below.refl _ _) | (with_reducible assumption) | (with_reducible apply bl_alloc) | (with_reducible apply bl_drew) | ((with_reducible refine bl_set ?_ ?hs _); case hs => (simp; try omega)) | (with_reducible refine bl_step ?_ (by assumption)))); rw [e3.out])
      | (go_at_call_of 14 C.x; refine (cover_R a C _ sa.out sC.out).mono ?_; rintro e v7 ⟨rfl, hqv7⟩; have yv7 : Below w3.heap.size w3 v7 := (by repeat (first | (with_reducible exact Below.refl _ _) | (with_reducible assumption) | (with_reducible apply bl_alloc) | (with_reducible apply bl_drew) | ((with_reducible refine bl_set ?_ ?hs _); case hs => (simp; try omega)) | (with_reducible refine bl_step ?_ (by assumption)))); rw [e7.out])
      | (go_at_call 14; refine (cover_R a a _ sa.out sa.out).mono ?_; rintro e v4 ⟨rfl, hqv4⟩; have yv4 : Below w3.heap.size w3 v4 := (by repeat (first | (with_reducible exact Below.refl _ _) | (with_reducible assumption) | (with_reducible apply bl_alloc) | (with_reducible apply bl_drew) | ((with_reducible refine bl_set ?_ ?hs _); case hs => (simp; try omega)) | (with_reducible refine bl_step ?_ (by assumption)))); rw [e4.out])
      | (go_at_call 18; refine (empty_R C _).mono ?_; rintro e v6 ⟨rfl, hqv6⟩; have yv6 : Below w3.heap.size w3 v6 := (by repeat (first | (with_reducible exact Below.refl _ _) | (with_reducible assumption) | (with_reducible apply bl_alloc) | (with_reducible apply bl_drew) | ((with_reducible refine bl_set ?_ ?hs _); case hs => (simp; try omega)) | (with_reducible refine bl_step ?_ (by assumption)))); rw [hE.out])
      | (go_at_call 16; refine (bound_R a _ ia.out).mono ?_; rintro e v8 ⟨rfl, hqv8⟩; have yv8 : Below w3.heap.size w3 v8 := (by repeat (first | (with_reducible exact Below.refl _ _) | (with_reducible assumption) | (with_reducible apply bl_alloc) | (with_reducible apply bl_drew) | ((with_reducible refine bl_set ?_ ?hs _); case hs => (simp; try omega)) | (with_reducible refine bl_step ?_ (by assumption)))); rw [e8.out])
      | (go_at_call 9; refine (chk_R D _ iD.out).mono ?_; rintro e v9 ⟨rfl, hqv9⟩; have yv9 : Below w3.heap.size w3 v9 := (by repeat (first | (with_reducible exact Below.refl _ _) | (with_reducible assumption) | (with_reducible apply bl_alloc) | (with_reducible apply bl_drew) | ((with_reducible refine bl_set ?_ ?hs _); case hs => (simp; try omega)) | (with_reducible refine bl_step ?_ (by assumption)))); rw [cD.out])
      | (go_at_call 11; refine (awake07 _).mono ?_; rintro e v10 ⟨rfl, hqv10⟩; have yv10 : Below w3.heap.size w3 v10 := (by repeat (first | (with_reducible exact Below.refl _ _) | (with_reducible assumption) | (with_reducible apply bl_alloc) | (with_reducible apply bl_drew) | ((with_reducible refine bl_set ?_ ?hs _); case hs => (simp; try omega)) | (with_reducible refine bl_step ?_ (by assumption))))))
    try (go_wp2_with fail)
    refine hK.out _ _ (by (try dsimp only); exact hS _ (by repeat (first | (with_reducible exact Below.refl _ _) | (with_reducible assumption) | (with_reducible apply bl_alloc) | (with_reducible apply bl_drew) | ((with_reducible refine bl_set ?_ ?hs _); case hs => (simp; try omega)) | (with_reducible refine bl_step ?_ (by assumption))))) (fun hHeld2 => ?_)
    clear hHeld
    rename _ => hHeld
    clear hK K
    (try simp only [Act.put, List.setIfInBounds_toArray, List.set_cons_zero, List.set_cons_succ])
    refine wpAnyH_take (i := 17) (v := ?_) rfl (by kernel_rfl) (by kernel_rfl) (by kernel_rfl) (fun _ _ _ h => h) (Or.inl ⟨by rfl, ?_⟩) (by assumption) ?_
    rotate_left
    · (intro w hSw; (try dsimp only at hSw); go_simp; try (with_reducible rfl))
    (try simp only [Act.put, List.setIfInBounds_toArray, List.set_cons_zero, List.set_cons_succ])
    refine wpAnyH_take (i := 18) (v := ?_) rfl (by kernel_rfl) (by kernel_rfl) (by kernel_rfl) (fun _ _ _ h => h) (Or.inl ⟨by rfl, ?_⟩) (by assumption) ?_
    rotate_left
    · (intro w hSw; (try dsimp only at hSw); go_simp; try (with_reducible rfl))
    (try simp only [Act.put, List.setIfInBounds_toArray, List.set_cons_zero, List.set_cons_succ])
    refine wpAnyH_take (i := 19) (v := ?_) rfl (by kernel_rfl) (by kernel_rfl) (by kernel_rfl) (fun _ _ _ h => h) (Or.inl ⟨by rfl, ?_⟩) (by assumption) ?_
    rotate_left
    · (intro w hSw; (try dsimp only at hSw); go_simp; try (with_reducible rfl))
    (try simp only [Act.put, List.setIfInBounds_toArray, List.set_cons_zero, List.set_cons_succ])
    refine wpAnyH_take (i := 20) (v := ?_) rfl (by kernel_rfl) (by kernel_rfl) (by kernel_rfl) (fun _ _ _ h => h) (Or.inl ⟨by rfl, ?_⟩) (by assumption) ?_
    rotate_left
    · (intro w hSw; (try dsimp only at hSw); go_simp; try (with_reducible rfl))
    (try simp only [Act.put, List.setIfInBounds_toArray, List.set_cons_zero, List.set_cons_succ])
    refine wpAnyH_take (i := 21) (v := ?_) rfl (by kernel_rfl) (by kernel_rfl) (by kernel_rfl) (fun _ _ _ h => h) (Or.inl ⟨by rfl, ?_⟩) (by assumption) ?_
    rotate_left
    · (intro w hSw; (try dsimp only at hSw); go_simp; try (with_reducible rfl))
    (try simp only [Act.put, List.setIfInBounds_toArray, List.set_cons_zero, List.set_cons_succ])
    refine wpAnyH_take (i := 23) (v := ?_) rfl (by kernel_rfl) (by kernel_rfl) (by kernel_rfl) (fun _ _ _ h => h) (Or.inl ⟨by rfl, ?_⟩) (by assumption) ?_
    rotate_left
    · (intro w hSw; (try dsimp only at hSw); go_simp; try (with_reducible rfl))
    (try simp only [Act.put, List.setIfInBounds_toArray, List.set_cons_zero, List.set_cons_succ])
    refine wpAnyH_ready (rs := [22]) (by kernel_rfl) (by simp) ?_
    refine AllReadyH.cons (i := 22) rfl (fun K hK => ?_) AllReadyH.nil
    go_simp
    (first
      | (go_at_call_of 17 b.x; refine (cut_R b a _ sb.out sa.out).mono ?_; rintro e v1 ⟨rfl, hqv1⟩; have yv1 : Below w3.heap.size w3 v1 := (by repeat (first | (with_reducible exact Below.refl _ _) | (with_reducible assumption) | (with_reducible apply bl_alloc) | (with_reducible apply bl_drew) | ((with_reducible refine bl_set ?_ ?hs _); case hs => (simp; try omega)) | (with_reducible refine bl_step ?_ (by assumption)))); rw [e1.out])
      | (go_at_call_of 14 b.x; refine (cover_R b a _ sb.out sa.out).mono ?_; rintro e v2 ⟨rfl, hqv2⟩; have yv2 : Below w3.heap.size w3 v2 := (by repeat (first | (with_reducible exact Below.refl _ _) | (with_reducible assumption) | (with_reducible apply bl_alloc) | (with_reducible apply bl_drew) | ((with_reducible refine bl_set ?_ ?hs _); case hs => (simp; try omega)) | (with_reducible refine bl_step ?_ (by assumption)))); rw [e2.out])
      | (go_at_call_of 17 D.x; refine (cut_R a D _ sa.out sD.out).mono ?_; rintro e v5 ⟨rfl, hqv5⟩; have yv5 : Below w3.heap.size w3 v5 := (by repeat (first | (with_reducible exact Below.refl _ _) | (with_reducible assumption) | (with_reducible apply bl_alloc) | (with_reducible apply bl_drew) | ((with_reducible refine bl_set ?_ ?hs _); case hs => (simp; try omega)) | (with_reducible refine bl_step ?_ (by assumption)))); rw [e5.out])
      | (go_at_call 17; refine (cut_R a a _ sa.out sa.out).mono ?_; rintro e v3 ⟨rfl, hqv3⟩; have yv3 : Below w3.heap.size w3 v3 := (by repeat (first | (with_reducible exact Below.refl _ _) | (with_reducible assumption) | (with_reducible apply bl_alloc) | (with_reducible apply bl_drew) | ((with_reducible refine bl_set ?_ ?hs _); case hs => (simp; try omega)) | (with_reducible refine bl_step ?_ (by assumption)))); rw [e3.out])
      | (go_at_call_of 14 C.x; refine (cover_R a C _ sa.out sC.out).mono ?_; rintro e v7 ⟨rfl, hqv7⟩; have yv7 : Below w3.heap.size w3 v7 := (by repeat (first | (with_reducible exact Below.refl _ _) | (with_reducible assumption) | (with_reducible apply bl_alloc) | (with_reducible apply bl_drew) | ((with_reducible refine bl_set ?_ ?hs _); case hs => (simp; try omega)) | (with_reducible refine bl_step ?_ (by assumption)))); rw [e7.out])
      | (go_at_call 14; refine (cover_R a a _ sa.out sa.out).mono ?_; rintro e v4 ⟨rfl, hqv4⟩; have yv4 : Below w3.heap.size w3 v4 := (by repeat (first | (with_reducible exact Below.refl _ _) | (with_reducible assumption) | (with_reducible apply bl_alloc) | (with_reducible apply bl_drew) | ((with_reducible refine bl_set ?_ ?hs _); case hs => (simp; try omega)) | (with_reducible refine bl_step ?_ (by assumption)))); rw [e4.out])
      | (go_at_call 18; refine (empty_R C _).mono ?_; rintro e v6 ⟨rfl, hqv6⟩; have yv6 : Below w3.heap.size w3 v6 := (by repeat (first | (with_reducible exact Below.refl _ _) | (with_reducible assumption) | (with_reducible apply bl_alloc) | (with_reducible apply bl_drew) | ((with_reducible refine bl_set ?_ ?hs _); case hs => (simp; try omega)) | (with_reducible refine bl_step ?_ (by assumption)))); rw [hE.out])
      | (go_at_call 16; refine (bound_R a _ ia.out).mono ?_; rintro e v8 ⟨rfl, hqv8⟩; have yv8 : Below w3.heap.size w3 v8 := (by repeat (first | (with_reducible exact Below.refl _ _) | (with_reducible assumption) | (with_reducible apply bl_alloc) | (with_reducible apply bl_drew) | ((with_reducible refine bl_set ?_ ?hs _); case hs => (simp; try omega)) | (with_reducible refine bl_step ?_ (by assumption)))); rw [e8.out])
      | (go_at_call 9; refine (chk_R D _ iD.out).mono ?_; rintro e v9 ⟨rfl, hqv9⟩; have yv9 : Below w3.heap.size w3 v9 := (by repeat (first | (with_reducible exact Below.refl _ _) | (with_reducible assumption) | (with_reducible apply bl_alloc) | (with_reducible apply bl_drew) | ((with_reducible refine bl_set ?_ ?hs _); case hs => (simp; try omega)) | (with_reducible refine bl_step ?_ (by assumption)))); rw [cD.out])
      | (go_at_call 11; refine (awake07 _).mono ?_; rintro e v10 ⟨rfl, hqv10⟩; have yv10 : Below w3.heap.size w3 v10 := (by repeat (first | (with_reducible exact Below.refl _ _) | (with_reducible assumption) | (with_reducible apply bl_alloc) | (with_reducible apply bl_drew) | ((with_reducible refine bl_set ?_ ?hs _); case hs => (simp; try omega)) | (with_reducible refine bl_step ?_ (by assumption))))))
    try (go_wp2_with fail)
    refine hK.out _ _ (by (try dsimp only); exact hS _ (by repeat (first | (with_reducible exact Below.refl _ _) | (with_reducible assumption) | (with_reducible apply bl_alloc) | (with_reducible apply bl_drew) | ((with_reducible refine bl_set ?_ ?hs _); case hs => (simp; try omega)) | (with_reducible refine bl_step ?_ (by assumption))))) (fun hHeld2 => ?_)
    clear hHeld
    rename _ => hHeld
    clear hK K
    (try simp only [Act.put, List.setIfInBounds_toArray, List.set_cons_zero, List.set_cons_succ])
    refine wpAnyH_take (i := 24) (v := ?_) rfl (by kernel_rfl) (by kernel_rfl) (by kernel_rfl) (fun _ _ _ h => h) (Or.inl ⟨by rfl, ?_⟩) (by assumption) ?_
    rotate_left
    · (intro w hSw; (try dsimp only at hSw); go_simp; try (with_reducible rfl))
    (try simp only [Act.put, List.setIfInBounds_toArray, List.set_cons_zero, List.set_cons_succ])
    refine wpAnyH_take (i := 25) (v := ?_) rfl (by kernel_rfl) (by kernel_rfl) (by kernel_rfl) (fun _ _ _ h => h) (Or.inl ⟨by rfl, ?_⟩) (by assumption) ?_
    rotate_left
    · (intro w hSw; (try dsimp only at hSw); go_simp; try (with_reducible rfl))
    (try simp only [Act.put, List.setIfInBounds_toArray, List.set_cons_zero, List.set_cons_succ])
    refine wpAnyH_take (i := 26) (v := ?_) rfl (by kernel_rfl) (by kernel_rfl) (by kernel_rfl) (fun _ _ _ h => h) (Or.inl ⟨by rfl, ?_⟩) (by assumption) ?_
    rotate_left
    · (intro w hSw; (try dsimp only at hSw); go_simp; try (with_reducible rfl))
    (try simp only [Act.put, List.setIfInBounds_toArray, List.set_cons_zero, List.set_cons_succ])
    refine wpAnyH_take (i := 27) (v := ?_) rfl (by kernel_rfl) (by kernel_rfl) (by kernel_rfl) (fun _ _ _ h => h) (Or.inl ⟨by rfl, ?_⟩) (by assumption) ?_
    rotate_left
    · (intro w hSw; (try dsimp only at hSw); go_simp; try (with_reducible rfl))
    (try simp only [Act.put, List.setIfInBounds_toArray, List.set_cons_zero, List.set_cons_succ])
    refine wpAnyH_take (i := 28) (v := ?_) rfl (by kernel_rfl) (by kernel_rfl) (by kernel_rfl) (fun _ _ _ h => h) (Or.inl ⟨by rfl, ?_⟩) (by assumption) ?_
    rotate_left
    · (intro w hSw; (try dsimp only at hSw); go_simp; try (with_reducible rfl))
    (try simp only [Act.put, List.setIfInBounds_toArray, List.set_cons_zero, List.set_cons_succ])
    refine wpAnyH_take (i := 30) (v := ?_) rfl (by kernel_rfl) (by kernel_rfl) (by kernel_rfl) (fun _ _ _ h => h) (Or.inl ⟨by rfl, ?_⟩) (by assumption) ?_
    rotate_left
    · (intro w hSw; (try dsimp only at hSw); go_simp; try (with_reducible rfl))
    (try simp only [Act.put, List.setIfInBounds_toArray, List.set_cons_zero, List.set_cons_succ])
    refine wpAnyH_ready (rs := [29]) (by kernel_rfl) (by simp) ?_
    refine AllReadyH.cons (i := 29) rfl (fun K hK => ?_) AllReadyH.nil
    go_simp
    (first
      | (go_at_call_of 17 b.x; refine (cut_R b a _ sb.out sa.out).mono ?_; rintro e v1 ⟨rfl, hqv1⟩; have yv1 : Below w3.heap.size w3 v1 := (by repeat (first | (with_reducible exact Below.refl _ _) | (with_reducible assumption) | (with_reducible apply bl_alloc) | (with_reducible apply bl_drew) | ((with_reducible refine bl_set ?_ ?hs _); case hs => (simp; try omega)) | (with_reducible refine bl_step ?_ (by assumption)))); rw [e1.out])
      | (go_at_call_of 14 b.x; refine (cover_R b a _ sb.out sa.out).mono ?_; rintro e v2 ⟨rfl, hqv2⟩; have yv2 : Below w3.heap.size w3 v2 := (by repeat (first | (with_reducible exact Below.refl _ _) | (with_reducible assumption) | (with_reducible apply bl_alloc) | (with_reducible apply bl_drew) | ((with_reducible refine bl_set ?_ ?hs _); case hs => (simp; try omega)) | (with_reducible refine bl_step ?_ (by assumption)))); rw [e2.out])
      | (go_at_call_of 17 D.x; refine (cut_R a D _ sa.out sD.out).mono ?_; rintro e v5 ⟨rfl, hqv5⟩; have yv5 : Below w3.heap.size w3 v5 := (by repeat (first | (with_reducible exact Below.refl _ _) | (with_reducible assumption) | (with_reducible apply bl_alloc) | (with_reducible apply bl_drew) | ((with_reducible refine bl_set ?_ ?hs _); case hs => (simp; try omega)) | (with_reducible refine bl_step ?_ (by assumption)))); rw [e5.out])
      | (go_at_call 17; refine (cut_R a a _ sa.out sa.out).mono ?_; rintro e v3 ⟨rfl, hqv3⟩; have yv3 : Below w3.heap.size w3 v3 := (by repeat (first | (with_reducible exact Below.refl _ _) | (with_reducible assumption) | (with_reducible apply bl_alloc) | (with_reducible apply bl_drew) | ((with_reducible refine bl_set ?_ ?hs _); case hs => (simp; try omega)) | (with_reducible refine bl_step ?_ (by assumption)))); rw [e3.out])
      | (go_at_call_of 14 C.x; refine (cover_R a C _ sa.out sC.out).mono ?_; rintro e v7 ⟨rfl, hqv7⟩; have yv7 : Below w3.heap.size w3 v7 := (by repeat (first | (with_reducible exact Below.refl _ _) | (with_reducible assumption) | (with_reducible apply bl_alloc) | (with_reducible apply bl_drew) | ((with_reducible refine bl_set ?_ ?hs _); case hs => (simp; try omega)) | (with_reducible refine bl_step ?_ (by assumption)))); rw [e7.out])
      | (go_at_call 14; refine (cover_R a a _ sa.out sa.out).mono ?_; rintro e v4 ⟨rfl, hqv4⟩; have yv4 : Below w3.heap.size w3 v4 := (by repeat (first | (with_reducible exact Below.refl _ _) | (with_reducible assumption) | (with_reducible apply bl_alloc) | (with_reducible apply bl_drew) | ((with_reducible refine bl_set ?_ ?hs _); case hs => (simp; try omega)) | (with_reducible refine bl_step ?_ (by assumption)))); rw [e4.out])
      | (go_at_call 18; refine (empty_R C _).mono ?_; rintro e v6 ⟨rfl, hqv6⟩; have yv6 : Below w3.heap.size w3 v6 := (by repeat (first | (with_reducible exact Below.refl _ _) | (with_reducible assumption) | (with_reducible apply bl_alloc) | (with_reducible apply bl_drew) | ((with_reducible refine bl_set ?_ ?hs _); case hs => (simp; try omega)) | (with_reducible refine bl_step ?_ (by assumption)))); rw [hE.out])
      | (go_at_call 16; refine (bound_R a _ ia.out).mono ?_; rintro e v8 ⟨rfl, hqv8⟩; have yv8 : Below w3.heap.size w3 v8 := (by repeat (first | (with_reducible exact Below.refl _ _) | (with_reducible assumption) | (with_reducible apply bl_alloc) | (with_reducible apply bl_drew) | ((with_reducible refine bl_set ?_ ?hs _); case hs => (simp; try omega)) | (with_reducible refine bl_step ?_ (by assumption)))); rw [e8.out])
      | (go_at_call 9; refine (chk_R D _ iD.out).mono ?_; rintro e v9 ⟨rfl, hqv9⟩; have yv9 : Below w3.heap.size w3 v9 := (by repeat (first | (with_reducible exact Below.refl _ _) | (with_reducible assumption) | (with_reducible apply bl_alloc) | (with_reducible apply bl_drew) | ((with_reducible refine bl_set ?_ ?hs _); case hs => (simp; try omega)) | (with_reducible refine bl_step ?_ (by assumption)))); rw [cD.out])
      | (go_at_call 11; refine (awake07 _).mono ?_; rintro e v10 ⟨rfl, hqv10⟩; have yv10 : Below w3.heap.size w3 v10 := (by repeat (first | (with_reducible exact Below.refl _ _) | (with_reducible assumption) | (with_reducible apply bl_alloc) | (with_reducible apply bl_drew) | ((with_reducible refine bl_set ?_ ?hs _); case hs => (simp; try omega)) | (with_reducible refine bl_step ?_ (by assumption))))))
    try (go_wp2_with fail)
    refine hK.out _ _ (by (try dsimp only); exact hS _ (by repeat (first | (with_reducible exact Below.refl _ _) | (with_reducible assumption) | (with_reducible apply bl_alloc) | (with_reducible apply bl_drew) | ((with_reducible refine bl_set ?_ ?hs _); case hs => (simp; try omega)) | (with_reducible refine bl_step ?_ (by assumption))))) (fun hHeld2 => ?_)
    clear hHeld
    rename _ => hHeld
    clear hK K
    (try simp only [Act.put, List.setIfInBounds_toArray, List.set_cons_zero, List.set_cons_succ])
    refine wpAnyH_take (i := 31) (v := ?_) rfl (by kernel_rfl) (by kernel_rfl) (by kernel_rfl) (fun _ _ _ h => h) (Or.inl ⟨by rfl, ?_⟩) (by assumption) ?_
    rotate_left
    · (intro w hSw; (try dsimp only at hSw); go_simp; try (with_reducible rfl))
    (try simp only [Act.put, List.setIfInBounds_toArray, List.set_cons_zero, List.set_cons_succ])
    refine wpAnyH_take (i := 32) (v := ?_) rfl (by kernel_rfl) (by kernel_rfl) (by kernel_rfl) (fun _ _ _ h => h) (Or.inl ⟨by rfl, ?_⟩) (by assumption) ?_
    rotate_left
    · (intro w hSw; (try dsimp only at hSw); go_simp; try (with_reducible rfl))
    (try simp only [Act.put, List.setIfInBounds_toArray, List.set_cons_zero, List.set_cons_succ])
    refine wpAnyH_take (i := 33) (v := ?_) rfl (by kernel_rfl) (by kernel_rfl) (by kernel_rfl) (fun _ _ _ h => h) (Or.inl ⟨by rfl, ?_⟩) (by assumption) ?_
    rotate_left
    · (intro w hSw; (try dsimp only at hSw); go_simp; try (with_reducible rfl))
    (try simp only [Act.put, List.setIfInBounds_toArray, List.set_cons_zero, List.set_cons_succ])
    refine wpAnyH_take (i := 34) (v := ?_) rfl (by kernel_rfl) (by kernel_rfl) (by kernel_rfl) (fun _ _ _ h => h) (Or.inl ⟨by rfl, ?_⟩) (by assumption) ?_
    rotate_left
    · (intro w hSw; (try dsimp only at hSw); go_simp; try (with_reducible rfl))
    (try simp only [Act.put, List.setIfInBounds_toArray, List.set_cons_zero, List.set_cons_succ])
    refine wpAnyH_ready (rs := [35]) (by kernel_rfl) (by simp) ?_
    refine AllReadyH.cons (i := 35) rfl (fun K hK => ?_) AllReadyH.nil
    go_simp
    (first
      | (go_at_call_of 17 b.x; refine (cut_R b a _ sb.out sa.out).mono ?_; rintro e v1 ⟨rfl, hqv1⟩; have yv1 : Below w3.heap.size w3 v1 := (by repeat (first | (with_reducible exact Below.refl _ _) | (with_reducible assumption) | (with_reducible apply bl_alloc) | (with_reducible apply bl_drew) | ((with_reducible refine bl_set ?_ ?hs _); case hs => (simp; try omega)) | (with_reducible refine bl_step ?_ (by assumption)))); rw [e1.out])
      | (go_at_call_of 14 b.x; refine (cover_R b a _ sb.out sa.out).mono ?_; rintro e v2 ⟨rfl, hqv2⟩; have yv2 : Below w3.heap.size w3 v2 := (by repeat (first | (with_reducible exact Below.refl _ _) | (with_reducible assumption) | (with_reducible apply bl_alloc) | (with_reducible apply bl_drew) | ((with_reducible refine bl_set ?_ ?hs _); case hs => (simp; try omega)) | (with_reducible refine bl_step ?_ (by assumption)))); rw [e2.out])
      | (go_at_call_of 17 D.x; refine (cut_R a D _ sa.out sD.out).mono ?_; rintro e v5 ⟨rfl, hqv5⟩; have yv5 : Below w3.heap.size w3 v5 := (by repeat (first | (with_reducible exact Below.refl _ _) | (with_reducible assumption) | (with_reducible apply bl_alloc) | (with_reducible apply bl_drew) | ((with_reducible refine bl_set ?_ ?hs _); case hs => (simp; try omega)) | (with_reducible refine bl_step ?_ (by assumption)))); rw [e5.out])
      | (go_at_call 17; refine (cut_R a a _ sa.out sa.out).mono ?_; rintro e v3 ⟨rfl, hqv3⟩; have yv3 : Below w3.heap.size w3 v3 := (by repeat (first | (with_reducible exact Below.refl _ _) | (with_reducible assumption) | (with_reducible apply bl_alloc) | (with_reducible apply bl_drew) | ((with_reducible refine bl_set ?_ ?hs _); case hs => (simp; try omega)) | (with_reducible refine bl_step ?_ (by assumption)))); rw [e3.out])
      | (go_at_call_of 14 C.x; refine (cover_R a C _ sa.out sC.out).mono ?_; rintro e v7 ⟨rfl, hqv7⟩; have yv7 : Below w3.heap.size w3 v7 := (by repeat (first | (with_reducible exact Below.refl _ _) | (with_reducible assumption) | (with_reducible apply bl_alloc) | (with_reducible apply bl_drew) | ((with_reducible refine bl_set ?_ ?hs _); case hs => (simp; try omega)) | (with_reducible refine bl_step ?_ (by assumption)))); rw [e7.out])
      | (go_at_call 14; refine (cover_R a a _ sa.out sa.out).mono ?_; rintro e v4 ⟨rfl, hqv4⟩; have yv4 : Below w3.heap.size w3 v4 := (by repeat (first | (with_reducible exact Below.refl _ _) | (with_reducible assumption) | (with_reducible apply bl_alloc) | (with_reducible apply bl_drew) | ((with_reducible refine bl_set ?_ ?hs _); case hs => (simp; try omega)) | (with_reducible refine bl_step ?_ (by assumption)))); rw [e4.out])
      | (go_at_call 18; refine (empty_R C _).mono ?_; rintro e v6 ⟨rfl, hqv6⟩; have yv6 : Below w3.heap.size w3 v6 := (by repeat (first | (with_reducible exact Below.refl _ _) | (with_reducible assumption) | (with_reducible apply bl_alloc) | (with_reducible apply bl_drew) | ((with_reducible refine bl_set ?_ ?hs _); case hs => (simp; try omega)) | (with_reducible refine bl_step ?_ (by assumption)))); rw [hE.out])
      | (go_at_call 16; refine (bound_R a _ ia.out).mono ?_; rintro e v8 ⟨rfl, hqv8⟩; have yv8 : Below w3.heap.size w3 v8 := (by repeat (first | (with_reducible exact Below.refl _ _) | (with_reducible assumption) | (with_reducible apply bl_alloc) | (with_reducible apply bl_drew) | ((with_reducible refine bl_set ?_ ?hs _); case hs => (simp; try omega)) | (with_reducible refine bl_step ?_ (by assumption)))); rw [e8.out])
      | (go_at_call 9; refine (chk_R D _ iD.out).mono ?_; rintro e v9 ⟨rfl, hqv9⟩; have yv9 : Below w3.heap.size w3 v9 := (by repeat (first | (with_reducible exact Below.refl _ _) | (with_reducible assumption) | (with_reducible apply bl_alloc) | (with_reducible apply bl_drew) | ((with_reducible refine bl_set ?_ ?hs _); case hs => (simp; try omega)) | (with_reducible refine bl_step ?_ (by assumption)))); rw [cD.out])
      | (go_at_call 11; refine (awake07 _).mono ?_; rintro e v10 ⟨rfl, hqv10⟩; have yv10 : Below w3.heap.size w3 v10 := (by repeat (first | (with_reducible exact Below.refl _ _) | (with_reducible assumption) | (with_reducible apply bl_alloc) | (with_reducible apply bl_drew) | ((with_reducible refine bl_set ?_ ?hs _); case hs => (simp; try omega)) | (with_reducible refine bl_step ?_ (by assumption))))))
    try (go_wp2_with fail)
    refine hK.out _ _ (by (try dsimp only); exact hS _ (by repeat (first | (with_reducible exact Below.refl _ _) | (with_reducible assumption) | (with_reducible apply bl_alloc) | (with_reducible apply bl_drew) | ((with_reducible refine bl_set ?_ ?hs _); case hs => (simp; try omega)) | (with_reducible refine bl_step ?_ (by assumption))))) (fun hHeld2 => ?_)
    clear hHeld
    rename _ => hHeld
    clear hK K
    (try simp only [Act.put, List.setIfInBounds_toArray, List.set_cons_zero, List.set_cons_succ])
    refine wpAnyH_take (i := 36) (v := ?_) rfl (by kernel_rfl) (by kernel_rfl) (by kernel_rfl) (fun _ _ _ h => h) (Or.inl ⟨by rfl, ?_⟩) (by assumption) ?_
    rotate_left
    · (intro w hSw; (try dsimp only at hSw); go_simp; try (with_reducible rfl))
    (try simp only [Act.put, List.setIfInBounds_toArray, List.set_cons_zero, List.set_cons_succ])
    refine wpAnyH_take (i := 37) (v := undef) rfl (by kernel_rfl) (by kernel_rfl) (by kernel_rfl) (fun _ _ _ h => h) (Or.inr ⟨by kernel_rfl, rfl⟩) (by assumption) ?_
    (try simp only [Act.put, List.setIfInBounds_toArray, List.set_cons_zero, List.set_cons_succ])
    refine wpAnyH_take (i := 38) (v := undef) rfl (by kernel_rfl) (by kernel_rfl) (by kernel_rfl) (fun _ _ _ h => h) (Or.inr ⟨by kernel_rfl, rfl⟩) (by assumption) ?_
    (try simp only [Act.put, List.setIfInBounds_toArray, List.set_cons_zero, List.set_cons_succ])
    refine wpAnyH_take (i := 39) (v := undef) rfl (by kernel_rfl) (by kernel_rfl) (by kernel_rfl) (fun _ _ _ h => h) (Or.inr ⟨by kernel_rfl, rfl⟩) (by assumption) ?_
    (try simp only [Act.put, List.setIfInBounds_toArray, List.set_cons_zero, List.set_cons_succ])
    refine wpAnyH_take (i := 40) (v := ?_) rfl (by kernel_rfl) (by kernel_rfl) (by kernel_rfl) (fun _ _ _ h => h) (Or.inl ⟨by rfl, ?_⟩) (by assumption) ?_
    rotate_left
    · (intro w hSw; (try dsimp only at hSw); go_simp; try (with_reducible rfl))
    (try simp only [Act.put, List.setIfInBounds_toArray, List.set_cons_zero, List.set_cons_succ])
    refine wpAnyH_take (i := 41) (v := ?_) rfl (by kernel_rfl) (by kernel_rfl) (by kernel_rfl) (fun _ _ _ h => h) (Or.inl ⟨by rfl, ?_⟩) (by assumption) ?_
    rotate_left
    · (intro w hSw; (try dsimp only at hSw); go_simp; try (with_reducible rfl))
    (try simp only [Act.put, List.setIfInBounds_toArray, List.set_cons_zero, List.set_cons_succ])
    refine wpAnyH_take (i := 42) (v := ?_) rfl (by kernel_rfl) (by kernel_rfl) (by kernel_rfl) (fun _ _ _ h => h) (Or.inl ⟨by kernel_rfl, ?_⟩) (by assumption) ?_
    rotate_left
    · (intro w hSw; (try dsimp only at hSw); go_simp; try (with_reducible rfl))
    (try simp only [Act.put, List.setIfInBounds_toArray, List.set_cons_zero, List.set_cons_succ])
    refine wpAnyH_take (i := 43) (v := ?_) rfl (by kernel_rfl) (by kernel_rfl) (by kernel_rfl) (fun _ _ _ h => h) (Or.inl ⟨by kernel_rfl, ?_⟩) (by assumption) ?_
    rotate_left
    · (intro w hSw; (try dsimp only at hSw); go_simp; try (with_reducible rfl))
    (try simp only [Act.put, List.setIfInBounds_toArray, List.set_cons_zero, List.set_cons_succ])
    refine wpAnyH_take (i := 45) (v := ?_) rfl (by kernel_rfl) (by kernel_rfl) (by kernel_rfl) (fun _ _ _ h => h) (Or.inl ⟨by kernel_rfl, ?_⟩) (by assumption) ?_
    rotate_left
    · (intro w hSw; (try dsimp only at hSw); go_simp; try (with_reducible rfl))
    (try simp only [Act.put, List.setIfInBounds_toArray, List.set_cons_zero, List.set_cons_succ])
    refine wpAnyH_ready (rs := [44]) (by kernel_rfl) (by simp) ?_
    refine AllReadyH.cons (i := 44) rfl (fun K hK => ?_) AllReadyH.nil
    rw [if_pos (by kernel_rfl)]
    go_simp
    (first
      | (go_at_call_of 17 b.x; refine (cut_R b a _ sb.out sa.out).mono ?_; rintro e v1 ⟨rfl, hqv1⟩; have yv1 : Below w3.heap.size w3 v1 := (by repeat (first | (with_reducible exact Below.refl _ _) | (with_reducible assumption) | (with_reducible apply bl_alloc) | (with_reducible apply bl_drew) | ((with_reducible refine bl_set ?_ ?hs _); case hs => (simp; try omega)) | (with_reducible refine bl_step ?_ (by assumption)))); rw [e1.out])
      | (go_at_call_of 14 b.x; refine (cover_R b a _ sb.out sa.out).mono ?_; rintro e v2 ⟨rfl, hqv2⟩; have yv2 : Below w3.heap.size w3 v2 := (by repeat (first | (with_reducible exact Below.refl _ _) | (with_reducible assumption) | (with_reducible apply bl_alloc) | (with_reducible apply bl_drew) | ((with_reducible refine bl_set ?_ ?hs _); case hs => (simp; try omega)) | (with_reducible refine bl_step ?_ (by assumption)))); rw [e2.out])
      | (go_at_call_of 17 D.x; refine (cut_R a D _ sa.out sD.out).mono ?_; rintro e v5 ⟨rfl, hqv5⟩; have yv5 : Below w3.heap.size w3 v5 := (by repeat (first | (with_reducible exact Below.refl _ _) | (with_reducible assumption) | (with_reducible apply bl_alloc) | (with_reducible apply bl_drew) | ((with_reducible refine bl_set ?_ ?hs _); case hs => (simp; try omega)) | (with_reducible refine bl_step ?_ (by assumption)))); rw [e5.out])
      | (go_at_call 17; refine (cut_R a a _ sa.out sa.out).mono ?_; rintro e v3 ⟨rfl, hqv3⟩; have yv3 : Below w3.heap.size w3 v3 := (by repeat (first | (with_reducible exact Below.refl _ _) | (with_reducible assumption) | (with_reducible apply bl_alloc) | (with_reducible apply bl_drew) | ((with_reducible refine bl_set ?_ ?hs _); case hs => (simp; try omega)) | (with_reducible refine bl_step ?_ (by assumption)))); rw [e3.out])
      | (go_at_call_of 14 C.x; refine (cover_R a C _ sa.out sC.out).mono ?_; rintro e v7 ⟨rfl, hqv7⟩; have yv7 : Below w3.heap.size w3 v7 := (by repeat (first | (with_reducible exact Below.refl _ _) | (with_reducible assumption) | (with_reducible apply bl_alloc) | (with_reducible apply bl_drew) | ((with_reducible refine bl_set ?_ ?hs _); case hs => (simp; try omega)) | (with_reducible refine bl_step ?_ (by assumption)))); rw [e7.out])
      | (go_at_call 14; refine (cover_R a a _ sa.out sa.out).mono ?_; rintro e v4 ⟨rfl, hqv4⟩; have yv4 : Below w3.heap.size w3 v4 := (by repeat (first | (with_reducible exact Below.refl _ _) | (with_reducible assumption) | (with_reducible apply bl_alloc) | (with_reducible apply bl_drew) | ((with_reducible refine bl_set ?_ ?hs _); case hs => (simp; try omega)) | (with_reducible refine bl_step ?_ (by assumption)))); rw [e4.out])
      | (go_at_call 18; refine (empty_R C _).mono ?_; rintro e v6 ⟨rfl, hqv6⟩; have yv6 : Below w3.heap.size w3 v6 := (by repeat (first | (with_reducible exact Below.refl _ _) | (with_reducible assumption) | (with_reducible apply bl_alloc) | (with_reducible apply bl_drew) | ((with_reducible refine bl_set ?_ ?hs _); case hs => (simp; try omega)) | (with_reducible refine bl_step ?_ (by assumption)))); rw [hE.out])
      | (go_at_call 16; refine (bound_R a _ ia.out).mono ?_; rintro e v8 ⟨rfl, hqv8⟩; have yv8 : Below w3.heap.size w3 v8 := (by repeat (first | (with_reducible exact Below.refl _ _) | (with_reducible assumption) | (with_reducible apply bl_alloc) | (with_reducible apply bl_drew) | ((with_reducible refine bl_set ?_ ?hs _); case hs => (simp; try omega)) | (with_reducible refine bl_step ?_ (by assumption)))); rw [e8.out])
      | (go_at_call 9; refine (chk_R D _ iD.out).mono ?_; rintro e v9 ⟨rfl, hqv9⟩; have yv9 : Below w3.heap.size w3 v9 := (by repeat (first | (with_reducible exact Below.refl _ _) | (with_reducible assumption) | (with_reducible apply bl_alloc) | (with_reducible apply bl_drew) | ((with_reducible refine bl_set ?_ ?hs _); case hs => (simp; try omega)) | (with_reducible refine bl_step ?_ (by assumption)))); rw [cD.out])
      | (go_at_call 11; refine (awake07 _).mono ?_; rintro e v10 ⟨rfl, hqv10⟩; have yv10 : Below w3.heap.size w3 v10 := (by repeat (first | (with_reducible exact Below.refl _ _) | (with_reducible assumption) | (with_reducible apply bl_alloc) | (with_reducible apply bl_drew) | ((with_reducible refine bl_set ?_ ?hs _); case hs => (simp; try omega)) | (with_reducible refine bl_step ?_ (by assumption))))))
    try (go_wp2_with fail)
    refine hK.out _ _ (by (try dsimp only); exact hS _ (by repeat (first | (with_reducible exact Below.refl _ _) | (with_reducible assumption) | (with_reducible apply bl_alloc) | (with_reducible apply bl_drew) | ((with_reducible refine bl_set ?_ ?hs _); case hs => (simp; try omega)) | (with_reducible refine bl_step ?_ (by assumption))))) (fun hHeld2 => ?_)
    clear hHeld
    rename _ => hHeld
    clear hK K
    (try simp only [Act.put, List.setIfInBounds_toArray, List.set_cons_zero, List.set_cons_succ])
    refine wpAnyH_take (i := 46) (v := ?_) rfl (by kernel_rfl) (by kernel_rfl) (by kernel_rfl) (fun _ _ _ h => h) (Or.inl ⟨by kernel_rfl, ?_⟩) (by assumption) ?_
    rotate_left
    · (intro w hSw; (try dsimp only at hSw); go_simp; try (with_reducible rfl))
    (try simp only [Act.put, List.setIfInBounds_toArray, List.set_cons_zero, List.set_cons_succ])
    refine wpAnyH_take (i := 47) (v := ?_) rfl (by kernel_rfl) (by kernel_rfl) (by kernel_rfl) (fun _ _ _ h => h) (Or.inl ⟨by rfl, ?_⟩) (by assumption) ?_
    rotate_left
    · (intro w hSw; (try dsimp only at hSw); go_simp; try (with_reducible rfl))
    (try simp only [Act.put, List.setIfInBounds_toArray, List.set_cons_zero, List.set_cons_succ])
    refine wpAnyH_take (i := 48) (v := ?_) rfl (by kernel_rfl) (by kernel_rfl) (by kernel_rfl) (fun _ _ _ h => h) (Or.inl ⟨by rfl, ?_⟩) (by assumption) ?_
    rotate_left
    · (intro w hSw; (try dsimp only at hSw); go_simp; try (with_reducible rfl))
    (try simp only [Act.put, List.setIfInBounds_toArray, List.set_cons_zero, List.set_cons_succ])
    refine wpAnyH_take (i := 49) (v := ?_) rfl (by kernel_rfl) (by kernel_rfl) (by kernel_rfl) (fun _ _ _ h => h) (Or.inl ⟨by rfl, ?_⟩) (by assumption) ?_
    rotate_left
    · (intro w hSw; (try dsimp only at hSw); go_simp; try (with_reducible rfl))
    (try simp only [Act.put, List.setIfInBounds_toArray, List.set_cons_zero, List.set_cons_succ])
    refine wpAnyH_take (i := 50) (v := ?_) rfl (by kernel_rfl) (by kernel_rfl) (by kernel_rfl) (fun _ _ _ h => h) (Or.inl ⟨by rfl, ?_⟩) (by assumption) ?_
    rotate_left
    · (intro w hSw; (try dsimp only at hSw); go_simp; try (with_reducible rfl))
    (try simp only [Act.put, List.setIfInBounds_toArray, List.set_cons_zero, List.set_cons_succ])
    refine wpAnyH_take (i := 52) (v := ?_) rfl (by kernel_rfl) (by kernel_rfl) (by kernel_rfl) (fun _ _ _ h => h) (Or.inl ⟨by rfl, ?_⟩) (by assumption) ?_
    rotate_left
    · (intro w hSw; (try dsimp only at hSw); go_simp; try (with_reducible rfl))
    (try simp only [Act.put, List.setIfInBounds_toArray, List.set_cons_zero, List.set_cons_succ])
    refine wpAnyH_ready (rs := [51]) (by kernel_rfl) (by simp) ?_
    refine AllReadyH.cons (i := 51) rfl (fun K hK => ?_) AllReadyH.nil
    go_simp
    (first
      | (go_at_call_of 17 b.x; refine (cut_R b a _ sb.out sa.out).mono ?_; rintro e v1 ⟨rfl, hqv1⟩; have yv1 : Below w3.heap.size w3 v1 := (by repeat (first | (with_reducible exact Below.refl _ _) | (with_reducible assumption) | (with_reducible apply bl_alloc) | (with_reducible apply bl_drew) | ((with_reducible refine bl_set ?_ ?hs _); case hs => (simp; try omega)) | (with_reducible refine bl_step ?_ (by assumption)))); rw [e1.out])
      | (go_at_call_of 14 b.x; refine (cover_R b a _ sb.out sa.out).mono ?_; rintro e v2 ⟨rfl, hqv2⟩; have yv2 : Below w3.heap.size w3 v2 := (by repeat (first | (with_reducible exact Below.refl _ _) | (with_reducible assumption) | (with_reducible apply bl_alloc) | (with_reducible apply bl_drew) | ((with_reducible refine bl_set ?_ ?hs _); case hs => (simp; try omega)) | (with_reducible refine bl_step ?_ (by assumption)))); rw [e2.out])
      | (go_at_call_of 17 D.x; refine (cut_R a D _ sa.out sD.out).mono ?_; rintro e v5 ⟨rfl, hqv5⟩; have yv5 : Below w3.heap.size w3 v5 := (by repeat (first | (with_reducible exact Below.refl _ _) | (with_reducible assumption) | (with_reducible apply bl_alloc) | (with_reducible apply bl_drew) | ((with_reducible refine bl_set ?_ ?hs _); case hs => (simp; try omega)) | (with_reducible refine bl_step ?_ (by assumption)))); rw [e5.out])
      | (go_at_call 17; refine (cut_R a a _ sa.out sa.out).mono ?_; rintro e v3 ⟨rfl, hqv3⟩; have yv3 : Below w3.heap.size w3 v3 := (by repeat (first | (with_reducible exact Below.refl _ _) | (with_reducible assumption) | (with_reducible apply bl_alloc) | (with_reducible apply bl_drew) | ((with_reducible refine bl_set ?_ ?hs _); case hs => (simp; try omega)) | (with_reducible refine bl_step ?_ (by assumption)))); rw [e3.out])
      | (go_at_call_of 14 C.x; refine (cover_R a C _ sa.out sC.out).mono ?_; rintro e v7 ⟨rfl, hqv7⟩; have yv7 : Below w3.heap.size w3 v7 := (by repeat (first | (with_reducible exact Below.refl _ _) | (with_reducible assumption) | (with_reducible apply bl_alloc) | (with_reducible apply bl_drew) | ((with_reducible refine bl_set ?_ ?hs _); case hs => (simp; try omega)) | (with_reducible refine bl_step ?_ (by assumption)))); rw [e7.out])
      | (go_at_call 14; refine (cover_R a a _ sa.out sa.out).mono ?_; rintro e v4 ⟨rfl, hqv4⟩; have yv4 : Below w3.heap.size w3 v4 := (by repeat (first | (with_reducible exact Below.refl _ _) | (with_reducible assumption) | (with_reducible apply bl_alloc) | (with_reducible apply bl_drew) | ((with_reducible refine bl_set ?_ ?hs _); case hs => (simp; try omega)) | (with_reducible refine bl_step ?_ (by assumption)))); rw [e4.out])
      | (go_at_call 18; refine (empty_R C _).mono ?_; rintro e v6 ⟨rfl, hqv6⟩; have yv6 : Below w3.heap.size w3 v6 := (by repeat (first | (with_reducible exact Below.refl _ _) | (with_reducible assumption) | (with_reducible apply bl_alloc) | (with_reducible apply bl_drew) | ((with_reducible refine bl_set ?_ ?hs _); case hs => (simp; try omega)) | (with_reducible refine bl_step ?_ (by assumption)))); rw [hE.out])
      | (go_at_call 16; refine (bound_R a _ ia.out).mono ?_; rintro e v8 ⟨rfl, hqv8⟩; have yv8 : Below w3.heap.size w3 v8 := (by repeat (first | (with_reducible exact Below.refl _ _) | (with_reducible assumption) | (with_reducible apply bl_alloc) | (with_reducible apply bl_drew) | ((with_reducible refine bl_set ?_ ?hs _); case hs => (simp; try omega)) | (with_reducible refine bl_step ?_ (by assumption)))); rw [e8.out])
      | (go_at_call 9; refine (chk_R D _ iD.out).mono ?_; rintro e v9 ⟨rfl, hqv9⟩; have yv9 : Below w3.heap.size w3 v9 := (by repeat (first | (with_reducible exact Below.refl _ _) | (with_reducible assumption) | (with_reducible apply bl_alloc) | (with_reducible apply bl_drew) | ((with_reducible refine bl_set ?_ ?hs _); case hs => (simp; try omega)) | (with_reducible refine bl_step ?_ (by assumption)))); rw [cD.out])
      | (go_at_call 11; refine (awake07 _).mono ?_; rintro e v10 ⟨rfl, hqv10⟩; have yv10 : Below w3.heap.size w3 v10 := (by repeat (first | (with_reducible exact Below.refl _ _) | (with_reducible assumption) | (with_reducible apply bl_alloc) | (with_reducible apply bl_drew) | ((with_reducible refine bl_set ?_ ?hs _); case hs => (simp; try omega)) | (with_reducible refine bl_step ?_ (by assumption))))))
    try (go_wp2_with fail)
    refine hK.out _ _ (by (try dsimp only); exact hS _ (by repeat (first | (with_reducible exact Below.refl _ _) | (with_reducible assumption) | (with_reducible apply bl_alloc) | (with_reducible apply bl_drew) | ((with_reducible refine bl_set ?_ ?hs _); case hs => (simp; try omega)) | (with_reducible refine bl_step ?_ (by assumption))))) (fun hHeld2 => ?_)
    clear hHeld
    rename _ => hHeld
    clear hK K
    (try simp only [Act.put, List.setIfInBounds_toArray, List.set_cons_zero, List.set_cons_succ])
    refine wpAnyH_take (i := 53) (v := ?_) rfl (by kernel_rfl) (by kernel_rfl) (by kernel_rfl) (fun _ _ _ h => h) (Or.inl ⟨by rfl, ?_⟩) (by assumption) ?_
    rotate_left
    · (intro w hSw; (try dsimp only at hSw); go_simp; try (with_reducible rfl))
    (try simp only [Act.put, List.setIfInBounds_toArray, List.set_cons_zero, List.set_cons_succ])
    refine wpAnyH_take (i := 54) (v := ?_) rfl (by kernel_rfl) (by kernel_rfl) (by kernel_rfl) (fun _ _ _ h => h) (Or.inl ⟨by rfl, ?_⟩) (by assumption) ?_
    rotate_left
    · (intro w hSw; (try dsimp only at hSw); go_simp; try (with_reducible rfl))
    (try simp only [Act.put, List.setIfInBounds_toArray, List.set_cons_zero, List.set_cons_succ])
    refine wpAnyH_take (i := 55) (v := ?_) rfl (by kernel_rfl) (by kernel_rfl) (by kernel_rfl) (fun _ _ _ h => h) (Or.inl ⟨by rfl, ?_⟩) (by assumption) ?_
    rotate_left
    · (intro w hSw; (try dsimp only at hSw); go_simp; try (with_reducible rfl))
    (try simp only [Act.put, List.setIfInBounds_toArray, List.set_cons_zero, List.set_cons_succ])
    refine wpAnyH_take (i := 56) (v := ?_) rfl (by kernel_rfl) (by kernel_rfl) (by kernel_rfl) (fun _ _ _ h => h) (Or.inl ⟨by rfl, ?_⟩) (by assumption) ?_
    rotate_left
    · (intro w hSw; (try dsimp only at hSw); go_simp; try (with_reducible rfl))
    (try simp only [Act.put, List.setIfInBounds_toArray, List.set_cons_zero, List.set_cons_succ])
    refine wpAnyH_ready (rs := [57]) (by kernel_rfl) (by simp) ?_
    refine AllReadyH.cons (i := 57) rfl (fun K hK => ?_) AllReadyH.nil
    go_simp
    (first
      | (go_at_call_of 17 b.x; refine (cut_R b a _ sb.out sa.out).mono ?_; rintro e v1 ⟨rfl, hqv1⟩; have yv1 : Below w3.heap.size w3 v1 := (by repeat (first | (with_reducible exact Below.refl _ _) | (with_reducible assumption) | (with_reducible apply bl_alloc) | (with_reducible apply bl_drew) | ((with_reducible refine bl_set ?_ ?hs _); case hs => (simp; try omega)) | (with_reducible refine bl_step ?_ (by assumption)))); rw [e1.out])
      | (go_at_call_of 14 b.x; refine (cover_R b a _ sb.out sa.out).mono ?_; rintro e v2 ⟨rfl, hqv2⟩; have yv2 : Below w3.heap.size w3 v2 := (by repeat (first | (with_reducible exact Below.refl _ _) | (with_reducible assumption) | (with_reducible apply bl_alloc) | (with_reducible apply bl_drew) | ((with_reducible refine bl_set ?_ ?hs _); case hs => (simp; try omega)) | (with_reducible refine bl_step ?_ (by assumption)))); rw [e2.out])
      | (go_at_call_of 17 D.x; refine (cut_R a D _ sa.out sD.out).mono ?_; rintro e v5 ⟨rfl, hqv5⟩; have yv5 : Below w3.heap.size w3 v5 := (by repeat (first | (with_reducible exact Below.refl _ _) | (with_reducible assumption) | (with_reducible apply bl_alloc) | (with_reducible apply bl_drew) | ((with_reducible refine bl_set ?_ ?hs _); case hs => (simp; try omega)) | (with_reducible refine bl_step ?_ (by assumption)))); rw [e5.out])
      | (go_at_call 17; refine (cut_R a a _ sa.out sa.out).mono ?_; rintro e v3 ⟨rfl, hqv3⟩; have yv3 : Below w3.heap.size w3 v3 := (by repeat (first | (with_reducible exact Below.refl _ _) | (with_reducible assumption) | (with_reducible apply bl_alloc) | (with_reducible apply bl_drew) | ((with_reducible refine bl_set ?_ ?hs _); case hs => (simp; try omega)) | (with_reducible refine bl_step ?_ (by assumption)))); rw [e3.out])
      | (go_at_call_of 14 C.x; refine (cover_R a C _ sa.out sC.out).mono ?_; rintro e v7 ⟨rfl, hqv7⟩; have yv7 : Below w3.heap.size w3 v7 := (by repeat (first | (with_reducible exact Below.refl _ _) | (with_reducible assumption) | (with_reducible apply bl_alloc) | (with_reducible apply bl_drew) | ((with_reducible refine bl_set ?_ ?hs _); case hs => (simp; try omega)) | (with_reducible refine bl_step ?_ (by assumption)))); rw [e7.out])
      | (go_at_call 14; refine (cover_R a a _ sa.out sa.out).mono ?_; rintro e v4 ⟨rfl, hqv4⟩; have yv4 : Below w3.heap.size w3 v4 := (by repeat (first | (with_reducible exact Below.refl _ _) | (with_reducible assumption) | (with_reducible apply bl_alloc) | (with_reducible apply bl_drew) | ((with_reducible refine bl_set ?_ ?hs _); case hs => (simp; try omega)) | (with_reducible refine bl_step ?_ (by assumption)))); rw [e4.out])
      | (go_at_call 18; refine (empty_R C _).mono ?_; rintro e v6 ⟨rfl, hqv6⟩; have yv6 : Below w3.heap.size w3 v6 := (by repeat (first | (with_reducible exact Below.refl _ _) | (with_reducible assumption) | (with_reducible apply bl_alloc) | (with_reducible apply bl_drew) | ((with_reducible refine bl_set ?_ ?hs _); case hs => (simp; try omega)) | (with_reducible refine bl_step ?_ (by assumption)))); rw [hE.out])
      | (go_at_call 16; refine (bound_R a _ ia.out).mono ?_; rintro e v8 ⟨rfl, hqv8⟩; have yv8 : Below w3.heap.size w3 v8 := (by repeat (first | (with_reducible exact Below.refl _ _) | (with_reducible assumption) | (with_reducible apply bl_alloc) | (with_reducible apply bl_drew) | ((with_reducible refine bl_set ?_ ?hs _); case hs => (simp; try omega)) | (with_reducible refine bl_step ?_ (by assumption)))); rw [e8.out])
      | (go_at_call 9; refine (chk_R D _ iD.out).mono ?_; rintro e v9 ⟨rfl, hqv9⟩; have yv9 : Below w3.heap.size w3 v9 := (by repeat (first | (with_reducible exact Below.refl _ _) | (with_reducible assumption) | (with_reducible apply bl_alloc) | (with_reducible apply bl_drew) | ((with_reducible refine bl_set ?_ ?hs _); case hs => (simp; try omega)) | (with_reducible refine bl_step ?_ (by assumption)))); rw [cD.out])
      | (go_at_call 11; refine (awake07 _).mono ?_; rintro e v10 ⟨rfl, hqv10⟩; have yv10 : Below w3.heap.size w3 v10 := (by repeat (first | (with_reducible exact Below.refl _ _) | (with_reducible assumption) | (with_reducible apply bl_alloc) | (with_reducible apply bl_drew) | ((with_reducible refine bl_set ?_ ?hs _); case hs => (simp; try omega)) | (with_reducible refine bl_step ?_ (by assumption))))))
    try (go_wp2_with fail)
    refine hK.out _ _ (by (try dsimp only); exact hS _ (by repeat (first | (with_reducible exact Below.refl _ _) | (with_reducible assumption) | (with_reducible apply bl_alloc) | (with_reducible apply bl_drew) | ((with_reducible refine bl_set ?_ ?hs _); case hs => (simp; try omega)) | (with_reducible refine bl_step ?_ (by assumption))))) (fun hHeld2 => ?_)
    clear hHeld
    rename _ => hHeld
    clear hK K
    (try simp only [Act.put, List.setIfInBounds_toArray, List.set_cons_zero, List.set_cons_succ])
    refine wpAnyH_take (i := 58) (v := ?_) rfl (by kernel_rfl) (by kernel_rfl) (by kernel_rfl) (fun _ _ _ h => h) (Or.inl ⟨by rfl, ?_⟩) (by assumption) ?_
    rotate_left
    · (intro w hSw; (try dsimp only at hSw); go_simp; try (with_reducible rfl))
    (try simp only [Act.put, List.setIfInBounds_toArray, List.set_cons_zero, List.set_cons_succ])
    refine wpAnyH_take (i := 59) (v := ?_) rfl (by kernel_rfl) (by kernel_rfl) (by kernel_rfl) (fun _ _ _ h => h) (Or.inl ⟨by rfl, ?_⟩) (by assumption) ?_
    rotate_left
    · (intro w hSw; (try dsimp only at hSw); go_simp; try (with_reducible rfl))
    (try simp only [Act.put, List.setIfInBounds_toArray, List.set_cons_zero, List.set_cons_succ])
    refine wpAnyH_ready (rs := [60]) (by kernel_rfl) (by simp) ?_
    refine AllReadyH.cons (i := 60) rfl (fun K hK => ?_) AllReadyH.nil
    go_simp
    (first
      | (go_at_call_of 17 b.x; refine (cut_R b a _ sb.out sa.out).mono ?_; rintro e v1 ⟨rfl, hqv1⟩; have yv1 : Below w3.heap.size w3 v1 := (by repeat (first | (with_reducible exact Below.refl _ _) | (with_reducible assumption) | (with_reducible apply bl_alloc) | (with_reducible apply bl_drew) | ((with_reducible refine bl_set ?_ ?hs _); case hs => (simp; try omega)) | (with_reducible refine bl_step ?_ (by assumption)))); rw [e1.out])
      | (go_at_call_of 14 b.x; refine (cover_R b a _ sb.out sa.out).mono ?_; rintro e v2 ⟨rfl, hqv2⟩; have yv2 : Below w3.heap.size w3 v2 := (by repeat (first | (with_reducible exact Below.refl _ _) | (with_reducible assumption) | (with_reducible apply bl_alloc) | (with_reducible apply bl_drew) | ((with_reducible refine bl_set ?_ ?hs _); case hs => (simp; try omega)) | (with_reducible refine bl_step ?_ (by assumption)))); rw [e2.out])
      | (go_at_call_of 17 D.x; refine (cut_R a D _ sa.out sD.out).mono ?_; rintro e v5 ⟨rfl, hqv5⟩; have yv5 : Below w3.heap.size w3 v5 := (by repeat (first | (with_reducible exact Below.refl _ _) | (with_reducible assumption) | (with_reducible apply bl_alloc) | (with_reducible apply bl_drew) | ((with_reducible refine bl_set ?_ ?hs _); case hs => (simp; try omega)) | (with_reducible refine bl_step ?_ (by assumption)))); rw [e5.out])
      | (go_at_call 17; refine (cut_R a a _ sa.out sa.out).mono ?_; rintro e v3 ⟨rfl, hqv3⟩; have yv3 : Below w3.heap.size w3 v3 := (by repeat (first | (with_reducible exact Below.refl _ _) | (with_reducible assumption) | (with_reducible apply bl_alloc) | (with_reducible apply bl_drew) | ((with_reducible refine bl_set ?_ ?hs _); case hs => (simp; try omega)) | (with_reducible refine bl_step ?_ (by assumption)))); rw [e3.out])
      | (go_at_call_of 14 C.x; refine (cover_R a C _ sa.out sC.out).mono ?_; rintro e v7 ⟨rfl, hqv7⟩; have yv7 : Below w3.heap.size w3 v7 := (by repeat (first | (with_reducible exact Below.refl _ _) | (with_reducible assumption) | (with_reducible apply bl_alloc) | (with_reducible apply bl_drew) | ((with_reducible refine bl_set ?_ ?hs _); case hs => (simp; try omega)) | (with_reducible refine bl_step ?_ (by assumption)))); rw [e7.out])
      | (go_at_call 14; refine (cover_R a a _ sa.out sa.out).mono ?_; rintro e v4 ⟨rfl, hqv4⟩; have yv4 : Below w3.heap.size w3 v4 := (by repeat (first | (with_reducible exact Below.refl _ _) | (with_reducible assumption) | (with_reducible apply bl_alloc) | (with_reducible apply bl_drew) | ((with_reducible refine bl_set ?_ ?hs _); case hs => (simp; try omega)) | (with_reducible refine bl_step ?_ (by assumption)))); rw [e4.out])
      | (go_at_call 18; refine (empty_R C _).mono ?_; rintro e v6 ⟨rfl, hqv6⟩; have yv6 : Below w3.heap.size w3 v6 := (by repeat (first | (with_reducible exact Below.refl _ _) | (with_reducible assumption) | (with_reducible apply bl_alloc) | (with_reducible apply bl_drew) | ((with_reducible refine bl_set ?_ ?hs _); case hs => (simp; try omega)) | (with_reducible refine bl_step ?_ (by assumption)))); rw [hE.out])
      | (go_at_call 16; refine (bound_R a _ ia.out).mono ?_; rintro e v8 ⟨rfl, hqv8⟩; have yv8 : Below w3.heap.size w3 v8 := (by repeat (first | (with_reducible exact Below.refl _ _) | (with_reducible assumption) | (with_reducible apply bl_alloc) | (with_reducible apply bl_drew) | ((with_reducible refine bl_set ?_ ?hs _); case hs => (simp; try omega)) | (with_reducible refine bl_step ?_ (by assumption)))); rw [e8.out])
      | (go_at_call 9; refine (chk_R D _ iD.out).mono ?_; rintro e v9 ⟨rfl, hqv9⟩; have yv9 : Below w3.heap.size w3 v9 := (by repeat (first | (with_reducible exact Below.refl _ _) | (with_reducible assumption) | (with_reducible apply bl_alloc) | (with_reducible apply bl_drew) | ((with_reducible refine bl_set ?_ ?hs _); case hs => (simp; try omega)) | (with_reducible refine bl_step ?_ (by assumption)))); rw [cD.out])
      | (go_at_call 11; refine (awake07 _).mono ?_; rintro e v10 ⟨rfl, hqv10⟩; have yv10 : Below w3.heap.size w3 v10 := (by repeat (first | (with_reducible exact Below.refl _ _) | (with_reducible assumption) | (with_reducible apply bl_alloc) | (with_reducible apply bl_drew) | ((with_reducible refine bl_set ?_ ?hs _); case hs => (simp; try omega)) | (with_reducible refine bl_step ?_ (by assumption))))))
    try (go_wp2_with fail)
    refine hK.out _ _ (by (try dsimp only); exact hS _ (by repeat (first | (with_reducible exact Below.refl _ _) | (with_reducible assumption) | (with_reducible apply bl_alloc) | (with_reducible apply bl_drew) | ((with_reducible refine bl_set ?_ ?hs _); case hs => (simp; try omega)) | (with_reducible refine bl_step ?_ (by assumption))))) (fun hHeld2 => ?_)
    clear hHeld
    rename _ => hHeld
    clear hK K
    (try simp only [Act.put, List.setIfInBounds_toArray, List.set_cons_zero, List.set_cons_succ])
    refine wpAnyH_take (i := 61) (v := ?_) rfl (by kernel_rfl) (by kernel_rfl) (by kernel_rfl) (fun _ _ _ h => h) (Or.inl ⟨by rfl, ?_⟩) (by assumption) ?_
    rotate_left
    · (intro w hSw; (try dsimp only at hSw); go_simp; try (with_reducible rfl))
    (try simp only [Act.put, List.setIfInBounds_toArray, List.set_cons_zero, List.set_cons_succ])
    refine wpAnyH_ready (rs := [62]) (by kernel_rfl) (by simp) ?_
    refine AllReadyH.cons (i := 62) rfl (fun K hK => ?_) AllReadyH.nil
    go_simp
    refine hK.out _ _ hHeld (fun hHeld2 => ?_)
    clear hHeld2 hK K
    (try simp only [Act.put, List.setIfInBounds_toArray, List.set_cons_zero, List.set_cons_succ])
    refine wpAnyH_done (by kernel_rfl) ?_ _
    go_wp2_with fail
    go_ret
    exact ⟨rfl, bl_step hw3 (by repeat (first | (with_reducible exact Below.refl _ _) | (with_reducible assumption) | (with_reducible apply bl_alloc) | (with_reducible apply bl_drew) | ((with_reducible refine bl_set ?_ ?hs _); case hs => (simp; try omega)) | (with_reducible refine bl_step ?_ (by assumption))))⟩
theorem RectOrder_walk (a00 : Int) (w00 : (Lit.int .i64 a00).wf = true) (a01 : Int) (w01 : (Lit.int .i64 a01).wf = true) (a02 : Int) (w02 : (Lit.int .i64 a02).wf = true) (a03 : Int) (w03 : (Lit.int .i64 a03).wf = true) (a10 : Int) (w10 : (Lit.int .i64 a10).wf = true) (a11 : Int) (w11 : (Lit.int .i64 a11).wf = true) (a12 : Int) (w12 : (Lit.int .i64 a12).wf = true) (a13 : Int) (w13 : (Lit.int .i64 a13).wf = true) (w : World) :
    Calls Try.prog 6 #[.agg #[.int .i64 a00, .int .i64 a01, .int .i64 a02, .int .i64 a03], .agg #[.int .i64 a10, .int .i64 a11, .int .i64 a12, .int .i64 a13]] w fun e w' => e = .returned (.bool true) ∧ Below w.heap.size w w' :=
  order_law ⟨a00, a01, a02, a03⟩ ⟨a10, a11, a12, a13⟩ w ⟨bounds_i64 w00, bounds_i64 w01, bounds_i64 w02, bounds_i64 w03⟩ ⟨bounds_i64 w10, bounds_i64 w11, bounds_i64 w12, bounds_i64 w13⟩
end Go.Proofs.Ytamgbnjdpmlfdaa.Rect
