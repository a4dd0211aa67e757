/- The walks of the laws on colours. -/
import Derived.Test.YtghgngfmmncomaaPixWalk
import Derived.Test.YtghgngfmmncomaaPlace
import Derived.OpenShut
namespace Go.Proofs.Ytghgngfmmncomaa.Pix
open Go.RowKit Go.Proofs.Ytghgngfmmncomaa.Kit
attribute [local go_sem high] bmax2 bmin2 bmax_2 bmin_2 bmax_3 bmin_3 bmax_4 bmin_4

set_option maxHeartbeats 2000000 in
theorem awake13 (w : World) : Calls Try.prog 21 #[] w fun e w' => e = .returned (.bool true) ∧ Below w.heap.size w w' := by
  have e1 : ovr 4278190335 2155872256 = 4286578815 := by decide +kernel
  have e2 : jn 1 2 3 4 = 16909060 := by decide +kernel
  go_enter Try.func21, Try.ntmps21
  go_wp2_with fail
  refine (over_any _ _ _ (by omega) (by omega) (by omega) (by omega)).mono ?_
  rintro e w1 ⟨rfl, hb1⟩
  go_wp2_with fail
  refine (Join_any _ _ _ _ _).mono ?_
  rintro e w2 ⟨rfl, hb2⟩
  go_wp2_with fail
  go_ret
  refine ⟨rfl, ?_⟩
  repeat (first | exact Below.refl _ _ | apply bl_alloc | apply bl_drew | apply bl_drewN | (refine bl_step ?_ (by assumption)))

theorem i64_bd {n : Int} (h : (Lit.int .i64 n).wf = true) : -9223372036854775808 ≤ n ∧ n ≤ 9223372036854775807 := by
  exact bounds_i64 h
theorem u32_bd {n : Int} (h : (Lit.int .u32 n).wf = true) : 0 ≤ n ∧ n < 4294967296 := by
  have := bounds_u32 h
  omega

set_option maxHeartbeats 2000000 in
theorem PixelScales_walk (x : Int) (_ : (Lit.int .i64 x).wf = true) (y : Int) (_ : (Lit.int .i64 y).wf = true) (z : Int) (_ : (Lit.int .i64 z).wf = true) (w : World) :
    Calls Try.prog 4 #[.int .i64 x, .int .i64 y, .int .i64 z] w fun e w' => e = .returned (.bool true) ∧ Below w.heap.size w w' := by
  have ha : 0 ≤ x % 256 ∧ x % 256 < 256 := by omega
  have hb : 0 ≤ y % 256 ∧ y % 256 < 256 := by omega
  have hc : 0 ≤ z % 256 ∧ z % 256 < 256 := by omega
  have qa := fun w => place_any x 256 w (by omega) (by omega)
  have qb := fun w => place_any y 256 w (by omega) (by omega)
  have qc := fun w => place_any z 256 w (by omega) (by omega)
  generalize x % 256 = a at *
  generalize y % 256 = b at *
  generalize z % 256 = c at *
  have Qa := Lib.hid qa
  have Qb := Lib.hid qb
  have Qc := Lib.hid qc
  clear qa qb qc
  obtain ⟨a0, a1⟩ := ha
  obtain ⟨b0, b1⟩ := hb
  obtain ⟨c0, c1⟩ := hc
  have hm := mul_bd a0 (show a ≤ 255 by omega) b0 (show b ≤ 255 by omega)
  have hs : scl a b = (a * b + 127) / 255 := by unfold scl; rw [cut_id a0 (by omega), cut_id b0 (by omega)]
  obtain ⟨m0, m1⟩ := hm
  have s0 := (scl_bd a b).1
  have s1 := (scl_bd a b).2
  have d0 : -127 ≤ 255 * scl a b - a * b := by rw [hs]; omega
  have d1 : 255 * scl a b - a * b ≤ 127 := by rw [hs]; omega
  clear hs
  have E1 := Lib.hid (scl_255 a0 (by omega))
  have E2 := Lib.hid (scl_0 a)
  have E3 := Lib.hid (scl_comm b a)
  go_enter Try.func4, Try.ntmps4
  go_wp2_with fail
  refine (Qa.out _).mono ?_
  rintro e w' ⟨rfl, rfl⟩
  go_wp2_with fail
  refine (Qb.out _).mono ?_
  rintro e w' ⟨rfl, rfl⟩
  go_wp2_with fail
  refine (Qc.out _).mono ?_
  rintro e w' ⟨rfl, rfl⟩
  go_wp2_with fail
  refine (scale_any _ _ _).mono ?_
  rintro e w' ⟨rfl, rfl⟩
  go_wp2_with fail
  refine (scale_any _ _ _).mono ?_
  rintro e w' ⟨rfl, rfl⟩
  rw [E1.out]
  go_wp2_with fail
  refine (scale_any _ _ _).mono ?_
  rintro e w' ⟨rfl, rfl⟩
  rw [E2.out]
  go_wp2_with fail
  refine (scale_any _ _ _).mono ?_
  rintro e w' ⟨rfl, rfl⟩
  rw [E3.out]
  go_wp2_with fail
  · refine (scale_any _ _ _).mono ?_
    rintro e w' ⟨rfl, rfl⟩
    have hle : scl a b ≤ scl a c := scl_mono (by assumption)
    go_wp2_with fail
    refine (awake13 _).mono ?_
    rintro e w' ⟨rfl, hb1⟩
    go_wp2_with fail
    go_ret
    refine ⟨rfl, ?_⟩
    repeat (first | exact Below.refl _ _ | apply bl_alloc | apply bl_drew | apply bl_drewN | (refine bl_step ?_ (by assumption)))
  · refine (awake13 _).mono ?_
    rintro e w' ⟨rfl, hb1⟩
    go_wp2_with fail
    go_ret
    refine ⟨rfl, ?_⟩
    repeat (first | exact Below.refl _ _ | apply bl_alloc | apply bl_drew | apply bl_drewN | (refine bl_step ?_ (by assumption)))

theorem sub0 {n : Int} : (255 : Int) - n = 255 - n := rfl
set_option maxHeartbeats 4000000 in
theorem PixelOvers_walk (u : Int) (hu : (Lit.int .u32 u).wf = true) (o : Int) (ho : (Lit.int .u32 o).wf = true) (w : World) :
    Calls Try.prog 11 #[.int .u32 u, .int .u32 o] w fun e w' => e = .returned (.bool true) ∧ Below w.heap.size w w' := by
  obtain ⟨u0, u1⟩ := u32_bd hu
  obtain ⟨o0, o1⟩ := u32_bd ho
  clear hu ho
  have q1 := or_high u0 u1
  have q2 := or_high o0 o1
  have U0 : 0 ≤ u % 16777216 + 4278190080 := by omega
  have U1 : u % 16777216 + 4278190080 < 4294967296 := by omega
  have O0 : 0 ≤ o % 16777216 + 4278190080 := by omega
  have O1 : o % 16777216 + 4278190080 < 4294967296 := by omega
  have Pu : pa (u % 16777216 + 4278190080) = 255 := by unfold pa; omega
  have Po : pa (o % 16777216 + 4278190080) = 255 := by unfold pa; omega
  have F1 := Lib.hid (ovr_full (u := u) O0 O1 Po)
  have F2 := Lib.hid (ovr_none u0 u1)
  have F3 := Lib.hid (pa_ovr (o := o) Pu)
  have F4 := Lib.hid (ovr_under o0 o1)
  have F5 : Hid (ld u 1 = u % 16777216 + 4278190080) := Lib.hid rfl
  clear Pu Po
  obtain ⟨v0, v1⟩ := ovr_bd (u % 16777216 + 4278190080) o
  go_enter Try.func11, Try.ntmps11
  go_wp2_with fail
  refine (over_any _ _ _ U0 U1 o0 o1).mono ?_
  rintro e w1 ⟨rfl, hb1⟩
  go_wp2_with fail
  refine (Parts_any _ _ v0 v1).mono ?_
  rintro e w2 ⟨rfl, hb2⟩
  rw [F3.out]
  go_wp2_with fail
  refine (over_any _ _ _ u0 u1 O0 O1).mono ?_
  rintro e w3 ⟨rfl, hb3⟩
  rw [F1.out]
  go_wp2_with fail
  refine (over_any _ _ _ u0 u1 (by omega) (by omega)).mono ?_
  rintro e w4 ⟨rfl, hb4⟩
  rw [F2.out]
  go_wp2_with fail
  refine (over_any _ _ _ (by omega) (by omega) o0 o1).mono ?_
  rintro e w5 ⟨rfl, hb5⟩
  rw [F4.out]
  go_wp2_with fail
  refine (Load_any _ _ _ u0 u1).mono ?_
  rintro e w6 ⟨rfl, rfl⟩
  rw [F5.out]
  go_wp2_with fail
  refine (awake13 _).mono ?_
  rintro e w7 ⟨rfl, hb7⟩
  go_wp2_with fail
  go_ret
  refine ⟨rfl, ?_⟩
  repeat (first | exact Below.refl _ _ | apply bl_alloc | apply bl_drew | apply bl_drewN | (refine bl_step ?_ (by assumption)))

theorem ld_other {v f : Int} (h : 2 ≤ f) : ld v f = 0 := by unfold ld; rw [if_neg (by omega), if_neg (by omega)]
theorem ovr_pa_full {u f : Int} (h0 : 0 ≤ f) (h1 : f < 4294967296) (h : pa f = 255) (o : Int) : ovr (ovr u f) o = ovr f o := by rw [ovr_full h0 h1 h]
set_option maxHeartbeats 4000000 in
theorem PixelThree_walk (u : Int) (hu : (Lit.int .u32 u).wf = true) (v : Int) (hv : (Lit.int .u32 v).wf = true) (o : Int) (ho : (Lit.int .u32 o).wf = true) (n : Int) (_ : (Lit.int .i64 n).wf = true) (w : World) :
    Calls Try.prog 8 #[.int .u32 u, .int .u32 v, .int .u32 o, .int .i64 n] w fun e w' => e = .returned (.bool true) ∧ Below w.heap.size w w' := by
  obtain ⟨u0, u1⟩ := u32_bd hu
  obtain ⟨v0, v1⟩ := u32_bd hv
  obtain ⟨o0, o1⟩ := u32_bd ho
  clear hu ho hv
  have q1 := or_high v0 v1
  have V0 : 0 ≤ v % 16777216 + 4278190080 := by omega
  have V1 : v % 16777216 + 4278190080 < 4294967296 := by omega
  have Pv : pa (v % 16777216 + 4278190080) = 255 := by unfold pa; omega
  have F1 := Lib.hid (ovr_full (u := u) V0 V1 Pv)
  clear Pv
  have n0 : 0 ≤ n % 100 := by omega
  have n1 : n % 100 < 100 := by omega
  have F2 := Lib.hid (ld_other (v := v) (f := 2 + n % 100) (by omega))
  have F3 : Hid (ld v 0 = v) := Lib.hid rfl
  obtain ⟨x0, x1⟩ := ovr_bd u (v % 16777216 + 4278190080)
  go_enter Try.func8, Try.ntmps8
  go_wp2_with fail
  refine (over_any _ _ _ u0 u1 V0 V1).mono ?_
  rintro e w1 ⟨rfl, hb1⟩
  rw [F1.out]
  go_wp2_with fail
  refine (over_any _ _ _ V0 V1 o0 o1).mono ?_
  rintro e w2 ⟨rfl, hb2⟩
  go_wp2_with fail
  refine (over_any _ _ _ V0 V1 o0 o1).mono ?_
  rintro e w3 ⟨rfl, hb3⟩
  go_wp2_with fail
  refine (place_any _ _ _ (by omega) (by omega)).mono ?_
  rintro e w4 ⟨rfl, rfl⟩
  go_wp2_with fail
  refine (Load_any _ _ _ v0 v1).mono ?_
  rintro e w5 ⟨rfl, rfl⟩
  rw [F2.out]
  go_wp2_with fail
  refine (Load_any _ _ _ v0 v1).mono ?_
  rintro e w5 ⟨rfl, rfl⟩
  rw [F3.out]
  go_wp2_with fail
  refine (awake13 _).mono ?_
  rintro e w7 ⟨rfl, hb7⟩
  go_wp2_with fail
  go_ret
  refine ⟨rfl, ?_⟩
  repeat (first | exact Below.refl _ _ | apply bl_alloc | apply bl_drew | apply bl_drewN | (refine bl_step ?_ (by assumption)))

set_option maxHeartbeats 4000000 in
theorem PixelAll_walk (u : Int) (hu : (Lit.int .u32 u).wf = true) (o : Int) (ho : (Lit.int .u32 o).wf = true) (a : Int) (_ : (Lit.int .i64 a).wf = true) (r : Int) (_ : (Lit.int .i64 r).wf = true) (g : Int) (_ : (Lit.int .i64 g).wf = true) (b : Int) (_ : (Lit.int .i64 b).wf = true) (w : World) :
    Calls Try.prog 10 #[.int .u32 u, .int .u32 o, .int .i64 a, .int .i64 r, .int .i64 g, .int .i64 b] w fun e w' => e = .returned (.bool true) ∧ Below w.heap.size w w' := by
  obtain ⟨u0, u1⟩ := u32_bd hu
  obtain ⟨o0, o1⟩ := u32_bd ho
  clear hu ho
  go_enter Try.func10, Try.ntmps10
  go_wp2_with fail
  refine (Parts_any _ _ u0 u1).mono ?_
  rintro e w1 ⟨rfl, hb1⟩
  go_wp2_with fail
  refine (over_any _ _ _ u0 u1 o0 o1).mono ?_
  rintro e w2 ⟨rfl, hb2⟩
  go_wp2_with fail
  refine (rOver_any _ _ _ u0 u1 o0 o1).mono ?_
  rintro e wx ⟨rfl, rfl⟩
  go_wp2_with fail
  refine (Join_any _ _ _ _ _).mono ?_
  rintro e w3 ⟨rfl, hb3⟩
  go_wp2_with fail
  refine (rJoin_any _ _ _ _ _).mono ?_
  rintro e wx ⟨rfl, rfl⟩
  go_wp2_with fail
  refine (scale_any _ _ _).mono ?_
  rintro e wx ⟨rfl, rfl⟩
  go_wp2_with fail
  refine (rscale_any _ _ _).mono ?_
  rintro e wx ⟨rfl, rfl⟩
  go_wp2_with fail
  refine (Load_any _ _ _ u0 u1).mono ?_
  rintro e wx ⟨rfl, rfl⟩
  go_wp2_with fail
  refine (rLoad_any _ _ _ u0 u1).mono ?_
  rintro e wx ⟨rfl, rfl⟩
  go_wp2_with fail
  refine (rPart3 _ _ u0 u1).mono ?_
  rintro e wx ⟨rfl, rfl⟩
  go_wp2_with fail
  refine (rPart2 _ _ u0 u1).mono ?_
  rintro e wx ⟨rfl, rfl⟩
  go_wp2_with fail
  refine (rPart1 _ _ u0 u1).mono ?_
  rintro e wx ⟨rfl, rfl⟩
  go_wp2_with fail
  refine (rPart0 _ _ u0 u1).mono ?_
  rintro e wx ⟨rfl, rfl⟩
  go_wp2_with fail
  refine (awake13 _).mono ?_
  rintro e w7 ⟨rfl, hb7⟩
  go_wp2_with fail
  go_ret
  refine ⟨rfl, ?_⟩
  repeat (first | exact Below.refl _ _ | apply bl_alloc | apply bl_drew | apply bl_drewN | (refine bl_step ?_ (by assumption)))

set_option maxHeartbeats 4000000 in
theorem PixelParts_walk (u : Int) (hu : (Lit.int .u32 u).wf = true) (o : Int) (ho : (Lit.int .u32 o).wf = true) (w : World) :
    Calls Try.prog 6 #[.int .u32 u, .int .u32 o] w fun e w' => e = .returned (.bool true) ∧ Below w.heap.size w w' := by
  obtain ⟨u0, u1⟩ := u32_bd hu
  obtain ⟨o0, o1⟩ := u32_bd ho
  clear hu ho
  obtain ⟨opa0, opa1⟩ := pa_bd o
  obtain ⟨upa0, upa1⟩ := pa_bd u
  obtain ⟨spa0, spa1⟩ := scl_bd (pa u) (255 - pa o)
  obtain ⟨opr0, opr1⟩ := pr_bd o
  obtain ⟨upr0, upr1⟩ := pr_bd u
  obtain ⟨spr0, spr1⟩ := scl_bd (pr u) (255 - pa o)
  obtain ⟨opg0, opg1⟩ := pg_bd o
  obtain ⟨upg0, upg1⟩ := pg_bd u
  obtain ⟨spg0, spg1⟩ := scl_bd (pg u) (255 - pa o)
  obtain ⟨opb0, opb1⟩ := pb_bd o
  obtain ⟨upb0, upb1⟩ := pb_bd u
  obtain ⟨spb0, spb1⟩ := scl_bd (pb u) (255 - pa o)
  have M1 : mxI (mxI (mxI (pa u) (pr u)) (pg u)) (pb u) ≤ 255 := by simp only [mxI_max]; omega
  have M2 : 0 ≤ mnI (mnI (mnI (pa u) (pr u)) (pg u)) (pb u) := by simp only [mnI_min]; omega
  have F1 := Lib.hid (jn_parts u0 u1)
  have F2 : Hid (ovr u o = jn (pa o + scl (pa u) (255 - pa o)) (pr o + scl (pr u) (255 - pa o)) (pg o + scl (pg u) (255 - pa o)) (pb o + scl (pb u) (255 - pa o))) := Lib.hid rfl
  go_enter Try.func6, Try.ntmps6
  go_wp2_with fail
  refine (Parts_any _ _ u0 u1).mono ?_
  rintro e w1 ⟨rfl, hb1⟩
  go_wp2_with fail
  refine (Parts_any _ _ o0 o1).mono ?_
  rintro e w2 ⟨rfl, hb2⟩
  go_wp2_with fail
  refine (over_any _ _ _ u0 u1 o0 o1).mono ?_
  rintro e w3 ⟨rfl, hb3⟩
  rw [F2.out]
  go_wp2_with fail
  refine (scale_any _ _ _).mono ?_
  rintro e wx ⟨rfl, rfl⟩
  go_wp2_with fail
  refine (scale_any _ _ _).mono ?_
  rintro e wx ⟨rfl, rfl⟩
  go_wp2_with fail
  refine (scale_any _ _ _).mono ?_
  rintro e wx ⟨rfl, rfl⟩
  go_wp2_with fail
  refine (scale_any _ _ _).mono ?_
  rintro e wx ⟨rfl, rfl⟩
  go_wp2_with fail
  refine (Join_any _ _ _ _ _).mono ?_
  rintro e w4 ⟨rfl, hb4⟩
  go_wp2_with fail
  refine (Join_any _ _ _ _ _).mono ?_
  rintro e w5 ⟨rfl, hb5⟩
  rw [F1.out]
  go_wp2_with fail
  refine (awake13 _).mono ?_
  rintro e w7 ⟨rfl, hb7⟩
  go_wp2_with fail
  go_ret
  refine ⟨rfl, ?_⟩
  repeat (first | exact Below.refl _ _ | apply bl_alloc | apply bl_drew | apply bl_drewN | (refine bl_step ?_ (by assumption)))

theorem scl_monol {a b c : Int} (h : a ≤ b) : scl a c ≤ scl b c := by rw [scl_comm a, scl_comm b]; exact scl_mono h
theorem cut_mono {a b : Int} (h : a ≤ b) : cut a ≤ cut b := by unfold cut; split <;> (try split) <;> (try split) <;> (try split) <;> omega
theorem mnI_bd {x y : Int} (hx : 0 ≤ x) (hy : 0 ≤ y) (hx' : x ≤ 255) : 0 ≤ mnI x y ∧ mnI x y ≤ 255 ∧ mnI x y ≤ y := by rw [mnI_min]; omega
/-- Of colours whose parts are at most their a so is what comes of both. -/
theorem bounded (a r g b c s h d : Int) (ha : 0 ≤ a ∧ a ≤ 255) (hr : 0 ≤ r ∧ r ≤ 255) (hg : 0 ≤ g ∧ g ≤ 255) (hb : 0 ≤ b ∧ b ≤ 255)
    (hc : 0 ≤ c ∧ c ≤ 255) (hs : 0 ≤ s ∧ s ≤ 255) (hh : 0 ≤ h ∧ h ≤ 255) (hd : 0 ≤ d ∧ d ≤ 255) :
    let x := ovr (jn a (mnI r a) (mnI g a) (mnI b a)) (jn c (mnI s c) (mnI h c) (mnI d c))
    c ≤ pa x ∧ pr x ≤ pa x ∧ pg x ≤ pa x ∧ pb x ≤ pa x := by
  have h1 := mnI_bd hr.1 ha.1 hr.2
  have h2 := mnI_bd hg.1 ha.1 hg.2
  have h3 := mnI_bd hb.1 ha.1 hb.2
  have h4 := mnI_bd hs.1 hc.1 hs.2
  have h5 := mnI_bd hh.1 hc.1 hh.2
  have h6 := mnI_bd hd.1 hc.1 hd.2
  intro x
  show c ≤ pa (ovr _ _) ∧ pr (ovr _ _) ≤ pa (ovr _ _) ∧ pg (ovr _ _) ≤ pa (ovr _ _) ∧ pb (ovr _ _) ≤ pa (ovr _ _)
  unfold ovr
  simp only [pa_jn, pr_jn, pg_jn, pb_jn, cut_id ha.1 ha.2, cut_id hc.1 hc.2, cut_id h1.1 h1.2.1, cut_id h2.1 h2.2.1, cut_id h3.1 h3.2.1, cut_id h4.1 h4.2.1, cut_id h5.1 h5.2.1, cut_id h6.1 h6.2.1]
  have k1 := scl_monol (c := 255 - c) h1.2.2
  have k2 := scl_monol (c := 255 - c) h2.2.2
  have k3 := scl_monol (c := 255 - c) h3.2.2
  have k0 := (scl_bd a (255 - c)).1
  refine ⟨?_, cut_mono (by omega), cut_mono (by omega), cut_mono (by omega)⟩
  have := cut_mono (show c ≤ c + scl a (255 - c) by omega)
  rwa [cut_id hc.1 hc.2] at this

set_option maxHeartbeats 4000000 in
theorem PixelBounds_walk (u : Int) (hu : (Lit.int .u32 u).wf = true) (o : Int) (ho : (Lit.int .u32 o).wf = true) (w : World) :
    Calls Try.prog 5 #[.int .u32 u, .int .u32 o] w fun e w' => e = .returned (.bool true) ∧ Below w.heap.size w w' := by
  obtain ⟨u0, u1⟩ := u32_bd hu
  obtain ⟨o0, o1⟩ := u32_bd ho
  clear hu ho
  have hx := bounded (pa u) (pr u) (pg u) (pb u) (pa o) (pr o) (pg o) (pb o) (pa_bd u) (pr_bd u) (pg_bd u) (pb_bd u) (pa_bd o) (pr_bd o) (pg_bd o) (pb_bd o)
  obtain ⟨x1, x2, x3, x4⟩ := hx
  obtain ⟨y0, y1⟩ := ovr_bd (jn (pa u) (mnI (pr u) (pa u)) (mnI (pg u) (pa u)) (mnI (pb u) (pa u))) (jn (pa o) (mnI (pr o) (pa o)) (mnI (pg o) (pa o)) (mnI (pb o) (pa o)))
  obtain ⟨j0, j1⟩ := jn_bd (pa u) (mnI (pr u) (pa u)) (mnI (pg u) (pa u)) (mnI (pb u) (pa u))
  obtain ⟨k0, k1⟩ := jn_bd (pa o) (mnI (pr o) (pa o)) (mnI (pg o) (pa o)) (mnI (pb o) (pa o))
  generalize hX : ovr (jn (pa u) (mnI (pr u) (pa u)) (mnI (pg u) (pa u)) (mnI (pb u) (pa u))) (jn (pa o) (mnI (pr o) (pa o)) (mnI (pg o) (pa o)) (mnI (pb o) (pa o))) = X at *
  have HX := Lib.hid hX
  clear hX
  have hp : pa X % 256 = pa X := by have := pa_bd X; omega
  have HP := Lib.hid hp
  clear hp
  go_enter Try.func5, Try.ntmps5
  go_wp2_with fail
  refine (Parts_any _ _ u0 u1).mono ?_
  rintro e w1 ⟨rfl, hb1⟩
  go_wp2_with fail
  refine (Parts_any _ _ o0 o1).mono ?_
  rintro e w2 ⟨rfl, hb2⟩
  go_wp2_with fail
  refine (Join_any _ _ _ _ _).mono ?_
  rintro e w3 ⟨rfl, hb3⟩
  go_wp2_with fail
  refine (Join_any _ _ _ _ _).mono ?_
  rintro e w4 ⟨rfl, hb4⟩
  go_wp2_with fail
  refine (over_any _ _ _ j0 j1 k0 k1).mono ?_
  rintro e w5 ⟨rfl, hb5⟩
  rw [HX.out]
  go_wp2_with fail
  refine (Parts_any _ _ y0 y1).mono ?_
  rintro e w6 ⟨rfl, hb6⟩
  go_wp2_with fail
  refine (place_any _ _ _ (by omega) (by omega)).mono ?_
  rintro e wx ⟨rfl, rfl⟩
  rw [HP.out]
  go_wp2_with fail
  refine (awake13 _).mono ?_
  rintro e w7 ⟨rfl, hb7⟩
  go_wp2_with fail
  go_ret
  refine ⟨rfl, ?_⟩
  repeat (first | exact Below.refl _ _ | apply bl_alloc | apply bl_drew | apply bl_drewN | (refine bl_step ?_ (by assumption)))
end Go.Proofs.Ytghgngfmmncomaa.Pix
