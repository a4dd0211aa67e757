/- The walks through the package pixel, its reference and Place: what each call answers. -/
import Derived.Test.YtjjdgbhplechbaaDoorRows
import Derived.WalkKit
import Derived.WalkSpells
import Derived.WalkLawsBesides
import Derived.StillTailTactics
import Derived.BigQuiet
import Derived.Deep.RegionWith
import Derived.Deep.RegionHeld3
import Derived.Deep.AppendLies
import Derived.Deep.QuietTactic
import Derived.Lib.Hide
import Derived.Test.YtjjdgbhplechbaaDoorPixMath
import Derived.Test.YtjjdgbhplechbaaDoorKit
set_option linter.unusedVariables false
set_option linter.unusedSimpArgs false
namespace Go.Proofs.YtjjdgbhplechbaaDoor.Pix
open Go.RowKit Go.Proofs.YtjjdgbhplechbaaDoor.Kit

set_option maxHeartbeats 1000000 in
theorem cut_any (v : Int) (w : World) : Calls Tryd.prog 95 #[.int .i64 v] w fun e w' => e = .returned (.int .i64 (cut v)) ∧ w = w' := by
  go_enter Tryd.func95, Tryd.ntmps95
  go_wp2
  all_goals
    go_ret
    exact ⟨ret_int (by unfold cut; (repeat' split) <;> omega), rfl⟩

set_option maxHeartbeats 1000000 in
theorem scale_any (x y : Int) (w : World) : Calls Tryd.prog 80 #[.int .i64 x, .int .i64 y] w fun e w' => e = .returned (.int .i64 (scl x y)) ∧ w = w' := by
  have hx := cut_bd x
  have hy := cut_bd y
  have hm := mul_bd hx.1 hx.2 hy.1 hy.2
  obtain ⟨hx0, hx1⟩ := hx
  obtain ⟨hy0, hy1⟩ := hy
  obtain ⟨hm0, hm1⟩ := hm
  go_enter Tryd.func80, Tryd.ntmps80
  go_wp2_with fail
  refine (cut_any x _).mono ?_
  rintro e w' ⟨rfl, rfl⟩
  go_wp2_with fail
  refine (cut_any y _).mono ?_
  rintro e w' ⟨rfl, rfl⟩
  go_wp2_with fail
  go_ret
  exact ⟨ret_int (by unfold scl; rfl), rfl⟩

theorem scale_any' (x y : Int) (w : World) : Calls Tryd.prog 80 #[.int .i64 x, .int .i64 y] w fun e w' => e = .returned (.int .i64 (scl x y)) ∧ w' = w :=
  (scale_any x y w).mono fun _ _ ⟨h, h'⟩ => ⟨h, h'.symm⟩
set_option maxHeartbeats 2000000 in
theorem parts_any (v : Int) (w : World) (h0 : 0 ≤ v) (h1 : v < 4294967296) :
    Calls Tryd.prog 79 #[.int .u32 v] w fun e w' => e = .returned (.agg #[.int .i64 (pa v), .int .i64 (pr v), .int .i64 (pg v), .int .i64 (pb v)]) ∧ Below w.heap.size w w' := by
  have e1 : bits .and .u32 (v / 16777216) 255 = pa v := and255 (by omega) (by omega)
  have e2 : bits .and .u32 (v / 65536) 255 = pr v := and255 (by omega) (by omega)
  have e3 : bits .and .u32 (v / 256) 255 = pg v := and255 (by omega) (by omega)
  have e4 : bits .and .u32 v 255 = pb v := and255 (by omega) (by omega)
  obtain ⟨a0, a1⟩ := pa_bd v
  obtain ⟨r0, r1⟩ := pr_bd v
  obtain ⟨g0, g1⟩ := pg_bd v
  obtain ⟨b0, b1⟩ := pb_bd v
  go_enter Tryd.func79, Tryd.ntmps79
  go_wp2
  refine wp_loop_rounds 5 ?_
  rw [rounds_succ]
  go_wp2
  rw [rounds_succ]
  go_wp2
  rw [rounds_succ]
  go_wp2
  rw [rounds_succ]
  go_wp2
  rw [rounds_succ]
  go_wp2
  refine bodyPost_ret (v := .agg #[.int .i64 (pa v), .int .i64 (pr v), .int .i64 (pg v), .int .i64 (pb v)]) (by simp [results, Tryd.results79, go_sem]) rfl ⟨rfl, ?_⟩
  exact ((Below.refl _ _).alloc (Nat.le_refl _) _).alloc (by simp) _

theorem shl8 {v : Int} (h0 : 0 ≤ v) (h1 : v < 16777216) : v * 256 % 4294967296 = v * 256 := by omega

set_option maxHeartbeats 2000000 in
theorem join_any (a r g b : Int) (w : World) :
    Calls Tryd.prog 81 #[.agg #[.int .i64 a, .int .i64 r, .int .i64 g, .int .i64 b]] w fun e w' => e = .returned (.int .u32 (jn a r g b)) ∧ Below w.heap.size w w' := by
  obtain ⟨a0, a1⟩ := cut_bd a
  obtain ⟨r0, r1⟩ := cut_bd r
  obtain ⟨g0, g1⟩ := cut_bd g
  obtain ⟨b0, b1⟩ := cut_bd b
  have f1 : bits .or .u32 0 (cut a) = cut a := by rw [or_low (by omega) (by omega) (by omega) (by omega) (by omega)]; omega
  have f2 : bits .or .u32 (cut a * 256) (cut r) = cut a * 256 + cut r := or_low (by omega) (by omega) (by omega) (by omega) (by omega)
  have f3 : bits .or .u32 ((cut a * 256 + cut r) * 256) (cut g) = (cut a * 256 + cut r) * 256 + cut g := or_low (by omega) (by omega) (by omega) (by omega) (by omega)
  have f4 : bits .or .u32 (((cut a * 256 + cut r) * 256 + cut g) * 256) (cut b) = ((cut a * 256 + cut r) * 256 + cut g) * 256 + cut b := or_low (by omega) (by omega) (by omega) (by omega) (by omega)
  go_enter Tryd.func81, Tryd.ntmps81
  go_wp2_with fail
  refine wp_loop_rounds 5 ?_
  rw [rounds_succ]
  go_wp2_with (go_at_call 95; refine (cut_any _ _).mono ?_; rintro e w' ⟨rfl, rfl⟩)
  rw [rounds_succ]
  go_wp2_with (go_at_call 95; refine (cut_any _ _).mono ?_; rintro e w' ⟨rfl, rfl⟩)
  rw [rounds_succ]
  go_wp2_with (go_at_call 95; refine (cut_any _ _).mono ?_; rintro e w' ⟨rfl, rfl⟩)
  rw [rounds_succ]
  go_wp2_with (go_at_call 95; refine (cut_any _ _).mono ?_; rintro e w' ⟨rfl, rfl⟩)
  rw [rounds_succ]
  go_wp2_with fail
  go_ret
  exact ⟨ret_int (by unfold jn; omega), (Below.refl _ _).alloc (Nat.le_refl _) _⟩


set_option maxHeartbeats 4000000 in
theorem over_any (u o : Int) (w : World) (h0 : 0 ≤ u) (h1 : u < 4294967296) (h2 : 0 ≤ o) (h3 : o < 4294967296) :
    Calls Tryd.prog 53 #[.int .u32 u, .int .u32 o] w fun e w' => e = .returned (.int .u32 (ovr u o)) ∧ Below w.heap.size w w' := by
  obtain ⟨a0, a1⟩ := pa_bd o
  have q : IntKind.i64.wrap (255 - pa o) = 255 - pa o := i64_in (by omega) (by omega)
  have qpa : IntKind.i64.wrap (pa o + scl (pa u) (255 - pa o)) = pa o + scl (pa u) (255 - pa o) := by
    have := pa_bd o
    have := scl_bd (pa u) (255 - pa o)
    exact i64_in (by omega) (by omega)
  have qpr : IntKind.i64.wrap (pr o + scl (pr u) (255 - pa o)) = pr o + scl (pr u) (255 - pa o) := by
    have := pr_bd o
    have := scl_bd (pr u) (255 - pa o)
    exact i64_in (by omega) (by omega)
  have qpg : IntKind.i64.wrap (pg o + scl (pg u) (255 - pa o)) = pg o + scl (pg u) (255 - pa o) := by
    have := pg_bd o
    have := scl_bd (pg u) (255 - pa o)
    exact i64_in (by omega) (by omega)
  have qpb : IntKind.i64.wrap (pb o + scl (pb u) (255 - pa o)) = pb o + scl (pb u) (255 - pa o) := by
    have := pb_bd o
    have := scl_bd (pb u) (255 - pa o)
    exact i64_in (by omega) (by omega)
  clear a0 a1
  go_enter Tryd.func53, Tryd.ntmps53
  go_wp2_with fail
  refine (parts_any u _ h0 h1).mono ?_
  rintro e w1 ⟨rfl, hb1⟩
  go_wp2_with fail
  refine (parts_any o _ h2 h3).mono ?_
  rintro e w2 ⟨rfl, hb2⟩
  go_wp2_with fail
  refine wp_loop_rounds 5 ?_
  rw [rounds_succ]
  go_wp2_with fail
  go_region_held3 (fun w' => w'.cell? ⟨w2.heap.size, 0, none⟩ = some (.int .i64 (pa u)) ∧ w'.cell? ⟨w2.heap.size + 1, 0, none⟩ = some (.int .i64 (pa o)) ∧ w'.cell? ⟨w2.heap.size + 1, 0, none⟩ = some (.int .i64 (pa o)))
    (first
      | go_keep)
    ((go_at_call 80; refine (scale_any _ _ _).mono ?_; rintro e w' ⟨rfl, rfl⟩))
  go_wp2_with fail
  rw [rounds_succ]
  go_wp2_with fail
  go_region_held3 (fun w' => w'.cell? ⟨w2.heap.size, 1, none⟩ = some (.int .i64 (pr u)) ∧ w'.cell? ⟨w2.heap.size + 1, 1, none⟩ = some (.int .i64 (pr o)) ∧ w'.cell? ⟨w2.heap.size + 1, 0, none⟩ = some (.int .i64 (pa o)))
    (first
      | go_keep)
    ((go_at_call 80; refine (scale_any _ _ _).mono ?_; rintro e w' ⟨rfl, rfl⟩))
  go_wp2_with fail
  rw [rounds_succ]
  go_wp2_with fail
  go_region_held3 (fun w' => w'.cell? ⟨w2.heap.size, 2, none⟩ = some (.int .i64 (pg u)) ∧ w'.cell? ⟨w2.heap.size + 1, 2, none⟩ = some (.int .i64 (pg o)) ∧ w'.cell? ⟨w2.heap.size + 1, 0, none⟩ = some (.int .i64 (pa o)))
    (first
      | go_keep)
    ((go_at_call 80; refine (scale_any _ _ _).mono ?_; rintro e w' ⟨rfl, rfl⟩))
  go_wp2_with fail
  rw [rounds_succ]
  go_wp2_with fail
  go_region_held3 (fun w' => w'.cell? ⟨w2.heap.size, 3, none⟩ = some (.int .i64 (pb u)) ∧ w'.cell? ⟨w2.heap.size + 1, 3, none⟩ = some (.int .i64 (pb o)) ∧ w'.cell? ⟨w2.heap.size + 1, 0, none⟩ = some (.int .i64 (pa o)))
    (first
      | go_keep)
    ((go_at_call 80; refine (scale_any _ _ _).mono ?_; rintro e w' ⟨rfl, rfl⟩))
  go_wp2_with fail
  rw [rounds_succ]
  go_wp2_with fail
  refine (join_any _ _ _ _ _).mono ?_
  rintro e w3 ⟨rfl, hb3⟩
  go_wp2_with fail
  go_ret
  refine ⟨ret_int rfl, ?_⟩
  repeat (first | exact Below.refl _ _ | apply bl_alloc | apply bl_drew | apply bl_drewN | (refine bl_step ?_ (by assumption)))

set_option maxHeartbeats 1000000 in
theorem Load_any (v f : Int) (w : World) (h0 : 0 ≤ v) (h1 : v < 4294967296) :
    Calls Tryd.prog 64 #[.int .u32 v, .int .i64 f] w fun e w' => e = .returned (.int .u32 (ld v f)) ∧ w = w' := by
  have e1 := or_high h0 h1
  go_enter Tryd.func64, Tryd.ntmps64
  go_wp2_with fail
  all_goals
    go_ret
    refine ⟨ret_int ?_, rfl⟩
  · have h : f = 0 := by simpa using ‹(f == 0) = true›
    unfold ld; rw [if_pos h]
  · have h : ¬ f = 0 := by simpa using ‹(f == 0) = false›
    have h' : f = 1 := by simpa using ‹(f == 1) = true›
    unfold ld; rw [if_neg h, if_pos h']
  · have h : ¬ f = 0 := by simpa using ‹(f == 0) = false›
    have h' : ¬ f = 1 := by simpa using ‹(f == 1) = false›
    unfold ld; rw [if_neg h, if_neg h']

/-! the reference -/
theorem ret_any4 (v : Int) : v / 2 ^ (8 * (0:Int)).toNat % 256 = pb v ∧ v / 2 ^ (8 * (1:Int)).toNat % 256 = pg v ∧ v / 2 ^ (8 * (2:Int)).toNat % 256 = pr v ∧ v / 2 ^ (8 * (3:Int)).toNat % 256 = pa v := by
  refine ⟨?_, rfl, rfl, rfl⟩
  show v / 1 % 256 = _
  rw [Int.ediv_one]; rfl
theorem shr_bd (v : Int) (k : Nat) (h0 : 0 ≤ v) (h1 : v < 4294967296) : 0 ≤ v / 2 ^ k ∧ v / 2 ^ k < 4294967296 := by
  constructor
  · exact Int.ediv_nonneg h0 (Int.pow_nonneg (by omega))
  · exact Int.lt_of_le_of_lt (Int.ediv_le_self _ h0) h1

set_option maxHeartbeats 1000000 in
theorem rPart_any (v i : Int) (w : World) (h0 : 0 ≤ v) (h1 : v < 4294967296) (h2 : 0 ≤ i) (h3 : i ≤ 3) :
    Calls Tryd.prog 54 #[.int .u32 v, .int .i64 i] w fun e w' => e = .returned (.int .i64 (v / 2 ^ (8 * i).toNat % 256)) ∧ w = w' := by
  go_enter Tryd.func54, Tryd.ntmps54
  go_wp2_with fail
  go_ret
  refine ⟨ret_int ?_, rfl⟩
  obtain ⟨h4, h5⟩ := shr_bd v (8 * i).toNat h0 h1
  show wrap64 _ = _
  rw [and255 h4 h5]
  exact w64_in (by omega) (by omega)
section
variable (v : Int) (w : World) (h0 : 0 ≤ v) (h1 : v < 4294967296)
include h0 h1
theorem rPart0 : Calls Tryd.prog 54 #[.int .u32 v, .int .i64 0] w fun e w' => e = .returned (.int .i64 (pb v)) ∧ w = w' :=
  (rPart_any v 0 w h0 h1 (by omega) (by omega)).mono fun _ _ ⟨h, h'⟩ => ⟨by rw [h, (ret_any4 v).1], h'⟩
theorem rPart1 : Calls Tryd.prog 54 #[.int .u32 v, .int .i64 1] w fun e w' => e = .returned (.int .i64 (pg v)) ∧ w = w' :=
  (rPart_any v 1 w h0 h1 (by omega) (by omega)).mono fun _ _ ⟨h, h'⟩ => ⟨by rw [h, (ret_any4 v).2.1], h'⟩
theorem rPart2 : Calls Tryd.prog 54 #[.int .u32 v, .int .i64 2] w fun e w' => e = .returned (.int .i64 (pr v)) ∧ w = w' :=
  (rPart_any v 2 w h0 h1 (by omega) (by omega)).mono fun _ _ ⟨h, h'⟩ => ⟨by rw [h, (ret_any4 v).2.2.1], h'⟩
theorem rPart3 : Calls Tryd.prog 54 #[.int .u32 v, .int .i64 3] w fun e w' => e = .returned (.int .i64 (pa v)) ∧ w = w' :=
  (rPart_any v 3 w h0 h1 (by omega) (by omega)).mono fun _ _ ⟨h, h'⟩ => ⟨by rw [h, (ret_any4 v).2.2.2], h'⟩
end

set_option maxHeartbeats 1000000 in
theorem rcut_any (v : Int) (w : World) : Calls Tryd.prog 82 #[.int .i64 v] w fun e w' => e = .returned (.int .i64 (cut v)) ∧ w = w' := by
  go_enter Tryd.func82, Tryd.ntmps82
  go_wp2
  all_goals
    go_ret
    exact ⟨ret_int (by unfold cut; (repeat' split) <;> omega), rfl⟩

set_option maxHeartbeats 1000000 in
theorem rscale_any (x y : Int) (w : World) : Calls Tryd.prog 55 #[.int .i64 x, .int .i64 y] w fun e w' => e = .returned (.int .i64 (scl x y)) ∧ w = w' := by
  have hx := cut_bd x
  have hy := cut_bd y
  have hm := mul_bd hx.1 hx.2 hy.1 hy.2
  obtain ⟨hx0, hx1⟩ := hx
  obtain ⟨hy0, hy1⟩ := hy
  obtain ⟨hm0, hm1⟩ := hm
  go_enter Tryd.func55, Tryd.ntmps55
  go_wp2_with fail
  refine (rcut_any x _).mono ?_
  rintro e w' ⟨rfl, rfl⟩
  go_wp2_with fail
  refine (rcut_any y _).mono ?_
  rintro e w' ⟨rfl, rfl⟩
  go_wp2_with fail
  go_ret
  exact ⟨ret_int (by unfold scl; rfl), rfl⟩

set_option maxHeartbeats 1000000 in
theorem rLoad_any (v f : Int) (w : World) (h0 : 0 ≤ v) (h1 : v < 4294967296) :
    Calls Tryd.prog 66 #[.int .u32 v, .int .i64 f] w fun e w' => e = .returned (.int .u32 (ld v f)) ∧ w = w' := by
  have e1 := and24 h0 h1
  go_enter Tryd.func66, Tryd.ntmps66
  go_wp2_with fail
  all_goals
    go_ret
    refine ⟨ret_int ?_, rfl⟩
  · have h : f = 0 := by simpa using ‹(f == 0) = true›
    unfold ld; rw [if_pos h]
  · have h : ¬ f = 0 := by simpa using ‹(f == 0) = false›
    have h' : f = 1 := by simpa using ‹(f == 1) = true›
    unfold ld; rw [if_neg h, if_pos h']; try omega
  · have h : ¬ f = 0 := by simpa using ‹(f == 0) = false›
    have h' : ¬ f = 1 := by simpa using ‹(f == 1) = false›
    unfold ld; rw [if_neg h, if_neg h']

theorem min_cut {n : Int} (h : 0 ≤ n) : (if 255 < n then 255 else n) = cut n := by
  unfold cut; rw [if_neg (by omega : ¬ n < 0)]
set_option maxHeartbeats 4000000 in
theorem rOver_any (u o : Int) (w : World) (h0 : 0 ≤ u) (h1 : u < 4294967296) (h2 : 0 ≤ o) (h3 : o < 4294967296) :
    Calls Tryd.prog 22 #[.int .u32 u, .int .u32 o] w fun e w' => e = .returned (.int .u32 (ovr u o)) ∧ w = w' := by
  obtain ⟨a0, a1⟩ := pa_bd o
  obtain ⟨spa0, spa1⟩ := scl_bd (pa u) (255 - pa o)
  obtain ⟨cpa0, cpa1⟩ := cut_bd (pa o + scl (pa u) (255 - pa o))
  have mpa : (if 255 < pa o + scl (pa u) (255 - pa o) then 255 else pa o + scl (pa u) (255 - pa o)) = cut (pa o + scl (pa u) (255 - pa o)) := min_cut (by omega)
  obtain ⟨pr0, pr1⟩ := pr_bd o
  obtain ⟨spr0, spr1⟩ := scl_bd (pr u) (255 - pa o)
  obtain ⟨cpr0, cpr1⟩ := cut_bd (pr o + scl (pr u) (255 - pa o))
  have mpr : (if 255 < pr o + scl (pr u) (255 - pa o) then 255 else pr o + scl (pr u) (255 - pa o)) = cut (pr o + scl (pr u) (255 - pa o)) := min_cut (by omega)
  obtain ⟨pg0, pg1⟩ := pg_bd o
  obtain ⟨spg0, spg1⟩ := scl_bd (pg u) (255 - pa o)
  obtain ⟨cpg0, cpg1⟩ := cut_bd (pg o + scl (pg u) (255 - pa o))
  have mpg : (if 255 < pg o + scl (pg u) (255 - pa o) then 255 else pg o + scl (pg u) (255 - pa o)) = cut (pg o + scl (pg u) (255 - pa o)) := min_cut (by omega)
  obtain ⟨pb0, pb1⟩ := pb_bd o
  obtain ⟨spb0, spb1⟩ := scl_bd (pb u) (255 - pa o)
  obtain ⟨cpb0, cpb1⟩ := cut_bd (pb o + scl (pb u) (255 - pa o))
  have mpb : (if 255 < pb o + scl (pb u) (255 - pa o) then 255 else pb o + scl (pb u) (255 - pa o)) = cut (pb o + scl (pb u) (255 - pa o)) := min_cut (by omega)
  go_enter Tryd.func22, Tryd.ntmps22
  go_wp2_with fail
  refine wp_loop_rounds 5 ?_
  rw [rounds_succ]
  go_wp2_with fail
  refine (rPart0 o _ h2 h3).mono ?_
  rintro e w' ⟨rfl, rfl⟩
  go_wp2_with fail
  refine (rPart0 u _ h0 h1).mono ?_
  rintro e w' ⟨rfl, rfl⟩
  go_wp2_with fail
  refine (rPart3 o _ h2 h3).mono ?_
  rintro e w' ⟨rfl, rfl⟩
  go_wp2_with fail
  refine (rscale_any _ _ _).mono ?_
  rintro e w' ⟨rfl, rfl⟩
  go_wp2_with fail
  rw [rounds_succ]
  go_wp2_with fail
  refine (rPart1 o _ h2 h3).mono ?_
  rintro e w' ⟨rfl, rfl⟩
  go_wp2_with fail
  refine (rPart1 u _ h0 h1).mono ?_
  rintro e w' ⟨rfl, rfl⟩
  go_wp2_with fail
  refine (rPart3 o _ h2 h3).mono ?_
  rintro e w' ⟨rfl, rfl⟩
  go_wp2_with fail
  refine (rscale_any _ _ _).mono ?_
  rintro e w' ⟨rfl, rfl⟩
  go_wp2_with fail
  rw [rounds_succ]
  go_wp2_with fail
  refine (rPart2 o _ h2 h3).mono ?_
  rintro e w' ⟨rfl, rfl⟩
  go_wp2_with fail
  refine (rPart2 u _ h0 h1).mono ?_
  rintro e w' ⟨rfl, rfl⟩
  go_wp2_with fail
  refine (rPart3 o _ h2 h3).mono ?_
  rintro e w' ⟨rfl, rfl⟩
  go_wp2_with fail
  refine (rscale_any _ _ _).mono ?_
  rintro e w' ⟨rfl, rfl⟩
  go_wp2_with fail
  rw [rounds_succ]
  go_wp2_with fail
  refine (rPart3 o _ h2 h3).mono ?_
  rintro e w' ⟨rfl, rfl⟩
  go_wp2_with fail
  refine (rPart3 u _ h0 h1).mono ?_
  rintro e w' ⟨rfl, rfl⟩
  go_wp2_with fail
  refine (rPart3 o _ h2 h3).mono ?_
  rintro e w' ⟨rfl, rfl⟩
  go_wp2_with fail
  refine (rscale_any _ _ _).mono ?_
  rintro e w' ⟨rfl, rfl⟩
  go_wp2_with fail
  rw [rounds_succ]
  go_wp2_with fail
  go_ret
  refine ⟨ret_int ?_, rfl⟩
  show _ = jn _ _ _ _
  unfold jn
  omega

end Go.Proofs.YtjjdgbhplechbaaDoor.Pix
