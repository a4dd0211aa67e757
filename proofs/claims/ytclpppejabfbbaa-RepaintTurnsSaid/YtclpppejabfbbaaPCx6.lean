/- Texts of this claim, one behind the other: each begins with its own remark. -/
import Derived.Test.YtclpppejabfbbaaPCx0
import Derived.Test.YtclpppejabfbbaaPCx1
import Derived.Test.YtclpppejabfbbaaPCx3
import Derived.Test.YtclpppejabfbbaaPCx5
import Derived.Test.YtclpppejabfbbaaPCGivenS
import Derived.Test.YtclpppejabfbbaaCut3
-- Printed for this claim by a program over the kit's print.
namespace Go.Proofs.Ytclpppejabfbbaa.PC
open Go.RowKit Go.Proofs.YtclpppejabfbbaaW.PrintWords Go.Proofs.YtclpppejabfbbaaW.PrintLast Go.Proofs.YtclpppejabfbbaaW.PrintMore
attribute [local go_sem] max2_int min2_int max_two min_two max_three min_three max_four min_four   -- for this text's walks alone
set_option linter.unusedVariables false
set_option linter.unusedSimpArgs false

attribute [local go_sem high] eqA26 eqA54

/-! ### repaint_Changed: function 43 -/
mutual
def repaint_Changed.l0 : Nat → List (S54) → List (S54) → List (S52) → List (S26) → Int → Int → Option ((List (S26)))
 | 0, _, _, _, _, _, _ => none
 | k + 1, x0, x1, x2, x7, x17, x18 => if x18 < x17 then ((repaint_at.f x0 x18).bind fun bt217 => ((repaint_at.f x1 x18).bind fun bt225 => (if bt217.2.2.2.2.2.2 = true then (if bt225.2.2.2.2.2.2 = true then (repaint_Changed.j1 k x0 x1 x2 x7 bt217.2.2.2.2.2.2 bt225.2.2.2.2.2.2 x17 x18 (bt217.1 == bt225.1 && (bt217.2.1 == bt225.2.1 && (bt217.2.2.1 == bt225.2.2.1 && (bt217.2.2.2.1 == bt225.2.2.2.1 && (bt217.2.2.2.2.1 == bt225.2.2.2.2.1 && (bt217.2.2.2.2.2.1 == bt225.2.2.2.2.2.1)))))) bt217.1 bt217.2.1 bt217.2.2.1 bt217.2.2.2.1 bt217.2.2.2.2.1 bt217.2.2.2.2.2.1 bt225.1 bt225.2.1 bt225.2.2.1 bt225.2.2.2.1 bt225.2.2.2.2.1 bt225.2.2.2.2.2.1) else (repaint_Changed.j1 k x0 x1 x2 x7 bt217.2.2.2.2.2.2 bt225.2.2.2.2.2.2 x17 x18 false bt217.1 bt217.2.1 bt217.2.2.1 bt217.2.2.2.1 bt217.2.2.2.2.1 bt217.2.2.2.2.2.1 bt225.1 bt225.2.1 bt225.2.2.1 bt225.2.2.2.1 bt225.2.2.2.2.1 bt225.2.2.2.2.2.1)) else (repaint_Changed.j1 k x0 x1 x2 x7 bt217.2.2.2.2.2.2 bt225.2.2.2.2.2.2 x17 x18 false bt217.1 bt217.2.1 bt217.2.2.1 bt217.2.2.2.1 bt217.2.2.2.2.1 bt217.2.2.2.2.2.1 bt225.1 bt225.2.1 bt225.2.2.1 bt225.2.2.2.1 bt225.2.2.2.2.1 bt225.2.2.2.2.2.1)))) else (if 0 ≤ (x7.length : Int) then (if (x7.length : Int) ≤ (x7.length : Int) then (some (x7.take ((x7.length : Int) : Int).toNat)) else (none)) else (none))
def repaint_Changed.j1 : Nat → List (S54) → List (S54) → List (S52) → List (S26) → Bool → Bool → Int → Int → Bool → Int → Int → Int → Int → Int → Int → Int → Int → Int → Int → Int → Int → Option ((List (S26)))
 | 0, _, _, _, _, _, _, _, _, _, _, _, _, _, _, _, _, _, _, _, _, _ => none
 | k + 1, x0, x1, x2, x7, x10, x12, x17, x18, x41, x225000, x225001, x225002, x225003, x225004, x225005, x233000, x233001, x233002, x233003, x233004, x233005 => if x41 = true then ((repaint_dirt.f k x7 x225000 x225001 x225002 x225003 x225004 x225005 x2).bind fun t233 => (repaint_Changed.l0 k x0 x1 x2 t233 x17 (wrap64 (x18 + 1)))) else (if x10 = true then ((repaint_of.f x225000 x225001 x225002 x225003 x225004 x225005).bind fun bt236 => ((damage_Add.f k x7 bt236.1 bt236.2.1 bt236.2.2.1 bt236.2.2.2).bind fun t240 => (repaint_Changed.j2 k x0 x1 x2 t240 x12 x17 x18 x233000 x233001 x233002 x233003 x233004 x233005))) else (repaint_Changed.j2 k x0 x1 x2 x7 x12 x17 x18 x233000 x233001 x233002 x233003 x233004 x233005))
def repaint_Changed.j2 : Nat → List (S54) → List (S54) → List (S52) → List (S26) → Bool → Int → Int → Int → Int → Int → Int → Int → Int → Option ((List (S26)))
 | 0, _, _, _, _, _, _, _, _, _, _, _, _, _ => none
 | k + 1, x0, x1, x2, x7, x12, x17, x18, x233000, x233001, x233002, x233003, x233004, x233005 => if x12 = true then ((repaint_of.f x233000 x233001 x233002 x233003 x233004 x233005).bind fun bt243 => ((damage_Add.f k x7 bt243.1 bt243.2.1 bt243.2.2.1 bt243.2.2.2).bind fun t247 => (repaint_Changed.l0 k x0 x1 x2 t247 x17 (wrap64 (x18 + 1))))) else (repaint_Changed.l0 k x0 x1 x2 x7 x17 (wrap64 (x18 + 1)))
end
def repaint_Changed.f (k : Nat) (l0 : List (S54)) (l1 : List (S54)) (l2 : List (S52)) : Option ((List (S26))) := repaint_Changed.l0 k l0 l1 l2 ([] : List (S26)) (mx (l0.length : Int) (l1.length : Int)) 0
theorem repaint_Changed.mono_l : ∀ k, (∀ y0 y1 y2 y3 y4 y5, LeO (repaint_Changed.l0 k y0 y1 y2 y3 y4 y5) (repaint_Changed.l0 (k + 1) y0 y1 y2 y3 y4 y5)) ∧ (∀ y0 y1 y2 y3 y4 y5 y6 y7 y8 y9 y10 y11 y12 y13 y14 y15 y16 y17 y18 y19 y20, LeO (repaint_Changed.j1 k y0 y1 y2 y3 y4 y5 y6 y7 y8 y9 y10 y11 y12 y13 y14 y15 y16 y17 y18 y19 y20) (repaint_Changed.j1 (k + 1) y0 y1 y2 y3 y4 y5 y6 y7 y8 y9 y10 y11 y12 y13 y14 y15 y16 y17 y18 y19 y20)) ∧ (∀ y0 y1 y2 y3 y4 y5 y6 y7 y8 y9 y10 y11 y12, LeO (repaint_Changed.j2 k y0 y1 y2 y3 y4 y5 y6 y7 y8 y9 y10 y11 y12) (repaint_Changed.j2 (k + 1) y0 y1 y2 y3 y4 y5 y6 y7 y8 y9 y10 y11 y12))
 | 0 => ⟨fun _ _ _ _ _ _ r h => by simp [repaint_Changed.l0] at h, fun _ _ _ _ _ _ _ _ _ _ _ _ _ _ _ _ _ _ _ _ _ r h => by simp [repaint_Changed.j1] at h, fun _ _ _ _ _ _ _ _ _ _ _ _ _ r h => by simp [repaint_Changed.j2] at h⟩
 | k + 1 => by
  obtain ⟨ih0, ih1, ih2⟩ := repaint_Changed.mono_l k
  refine ⟨?_, ?_, ?_⟩
  · intro y0 y1 y2 y3 y4 y5
    unfold repaint_Changed.l0
    repeat' first
    | (with_reducible exact ih0 _ _ _ _ _ _)
    | (with_reducible exact ih1 _ _ _ _ _ _ _ _ _ _ _ _ _ _ _ _ _ _ _ _ _)
    | (with_reducible exact ih2 _ _ _ _ _ _ _ _ _ _ _ _ _)
    | (with_reducible exact damage_Add.mono _ _ _ _ _ _)
    | (with_reducible exact repaint_dirt.mono _ _ _ _ _ _ _ _ _)
    | (with_reducible exact LeO.refl _)
    | (with_reducible exact LeO.none _)
    | (with_reducible refine LeO.ite ?_ ?_)
    | (with_reducible refine LeO.bind ?_ (fun _ => ?_))
    | exact ih0 _ _ _ _ _ _
    | exact ih1 _ _ _ _ _ _ _ _ _ _ _ _ _ _ _ _ _ _ _ _ _
    | exact ih2 _ _ _ _ _ _ _ _ _ _ _ _ _
    | exact damage_Add.mono _ _ _ _ _ _
    | exact repaint_dirt.mono _ _ _ _ _ _ _ _ _
    | exact LeO.none _
    | refine LeO.ite ?_ ?_
    | refine LeO.bind ?_ (fun _ => ?_)
  · intro y0 y1 y2 y3 y4 y5 y6 y7 y8 y9 y10 y11 y12 y13 y14 y15 y16 y17 y18 y19 y20
    unfold repaint_Changed.j1
    repeat' first
    | (with_reducible exact ih0 _ _ _ _ _ _)
    | (with_reducible exact ih1 _ _ _ _ _ _ _ _ _ _ _ _ _ _ _ _ _ _ _ _ _)
    | (with_reducible exact ih2 _ _ _ _ _ _ _ _ _ _ _ _ _)
    | (with_reducible exact damage_Add.mono _ _ _ _ _ _)
    | (with_reducible exact repaint_dirt.mono _ _ _ _ _ _ _ _ _)
    | (with_reducible exact LeO.refl _)
    | (with_reducible exact LeO.none _)
    | (with_reducible refine LeO.ite ?_ ?_)
    | (with_reducible refine LeO.bind ?_ (fun _ => ?_))
    | exact ih0 _ _ _ _ _ _
    | exact ih1 _ _ _ _ _ _ _ _ _ _ _ _ _ _ _ _ _ _ _ _ _
    | exact ih2 _ _ _ _ _ _ _ _ _ _ _ _ _
    | exact damage_Add.mono _ _ _ _ _ _
    | exact repaint_dirt.mono _ _ _ _ _ _ _ _ _
    | exact LeO.none _
    | refine LeO.ite ?_ ?_
    | refine LeO.bind ?_ (fun _ => ?_)
  · intro y0 y1 y2 y3 y4 y5 y6 y7 y8 y9 y10 y11 y12
    unfold repaint_Changed.j2
    repeat' first
    | (with_reducible exact ih0 _ _ _ _ _ _)
    | (with_reducible exact ih1 _ _ _ _ _ _ _ _ _ _ _ _ _ _ _ _ _ _ _ _ _)
    | (with_reducible exact ih2 _ _ _ _ _ _ _ _ _ _ _ _ _)
    | (with_reducible exact damage_Add.mono _ _ _ _ _ _)
    | (with_reducible exact repaint_dirt.mono _ _ _ _ _ _ _ _ _)
    | (with_reducible exact LeO.refl _)
    | (with_reducible exact LeO.none _)
    | (with_reducible refine LeO.ite ?_ ?_)
    | (with_reducible refine LeO.bind ?_ (fun _ => ?_))
    | exact ih0 _ _ _ _ _ _
    | exact ih1 _ _ _ _ _ _ _ _ _ _ _ _ _ _ _ _ _ _ _ _ _
    | exact ih2 _ _ _ _ _ _ _ _ _ _ _ _ _
    | exact damage_Add.mono _ _ _ _ _ _
    | exact repaint_dirt.mono _ _ _ _ _ _ _ _ _
    | exact LeO.none _
    | refine LeO.ite ?_ ?_
    | refine LeO.bind ?_ (fun _ => ?_)
theorem repaint_Changed.mono : ∀ a0 a1 a2 k, LeO (repaint_Changed.f k a0 a1 a2) (repaint_Changed.f (k + 1) a0 a1 a2) := by
 intro a0 a1 a2 k
 obtain ⟨ih0, ih1, ih2⟩ := repaint_Changed.mono_l k
 unfold repaint_Changed.f
 repeat' first
  | (with_reducible exact ih0 _ _ _ _ _ _)
  | (with_reducible exact ih1 _ _ _ _ _ _ _ _ _ _ _ _ _ _ _ _ _ _ _ _ _)
  | (with_reducible exact ih2 _ _ _ _ _ _ _ _ _ _ _ _ _)
  | (with_reducible exact damage_Add.mono _ _ _ _ _ _)
  | (with_reducible exact repaint_dirt.mono _ _ _ _ _ _ _ _ _)
  | (with_reducible exact LeO.refl _)
  | (with_reducible exact LeO.none _)
  | (with_reducible refine LeO.ite ?_ ?_)
  | (with_reducible refine LeO.bind ?_ (fun _ => ?_))
  | exact ih0 _ _ _ _ _ _
  | exact ih1 _ _ _ _ _ _ _ _ _ _ _ _ _ _ _ _ _ _ _ _ _
  | exact ih2 _ _ _ _ _ _ _ _ _ _ _ _ _
  | exact damage_Add.mono _ _ _ _ _ _
  | exact repaint_dirt.mono _ _ _ _ _ _ _ _ _
  | exact LeO.none _
  | refine LeO.ite ?_ ?_
  | refine LeO.bind ?_ (fun _ => ?_)
set_option maxHeartbeats 8000000 in
set_option maxRecDepth 100000 in
theorem repaint_Changed.calls (k : Nat) (A0 : Option Addr) (c0 : Nat) (l0 : List (S54)) (A1 : Option Addr) (c1 : Nat) (l1 : List (S54)) (A2 : Option Addr) (c2 : Nat) (l2 : List (S52)) (r : List (S26)) (w : World) (hr0 : Kd.C k54 w A0 l0.length l0) (hc0 : l0.length ≤ c0) (hr1 : Kd.C k54 w A1 l1.length l1) (hc1 : l1.length ≤ c1) (hr2 : Kd.C k52 w A2 l2.length l2) (hc2 : l2.length ≤ c2) (h : repaint_Changed.f k l0 l1 l2 = some r) :
 Calls Try.prog 43 #[.slice A0 l0.length c0, .slice A1 l1.length c1, .slice A2 l2.length c2] w fun e w' => ∃ v0_ : Value, e = .returned (v0_) ∧ Kd.V k26 26 w' w.heap.size (fun k_ => (w.heap.size ≤ k_)) v0_ r ∧ Below w.heap.size w w' := by
 have hu54 := Try.underlying54
 have HR0 := Aside0.mk hr0
 have HC0 := Aside0.mk hc0
 clear hr0 hc0
 have HR1 := Aside0.mk hr1
 have HC1 := Aside0.mk hc1
 clear hr1 hc1
 have HR2 := Aside0.mk hr2
 have HC2 := Aside0.mk hc2
 clear hr2 hc2
 have HB := Aside0.mk (Below.refl w.heap.size w)
 have H : (repaint_Changed.l0 k l0 l1 l2 ([] : List (S26)) (mx (l0.length : Int) (l1.length : Int)) 0) = some r := h
 clear h
 obtain ⟨ji4, hji4⟩ : ∃ j_ : Int, (mx (l0.length : Int) (l1.length : Int)) = j_ := ⟨_, rfl⟩
 replace H : (repaint_Changed.l0 k l0 l1 l2 ([] : List (S26)) ji4 0) = some r := by first | (rw [hji4] at H; exact H) | (simp only [hji4] at H ⊢; exact H)
 (try (have hji4l : 0 ≤ ji4 := by (rw [← hji4]; unfold mx; (repeat' split) <;> omega)))
 (try (have hji4m : 0 ≤ ji4 := by omega))
 have hji4_ : (if (l0.length : Int) < (l1.length : Int) then (l1.length : Int) else (l0.length : Int)) = ji4 := hji4
 have hji4n_ : (if l0.length < l1.length then (l1.length : Int) else (l0.length : Int)) = ji4 := by
  rw [← hji4_]
  simp only [Int.ofNat_lt]
 have H' := Aside0.mk H
 clear H
 go_enter Try.func43, Try.ntmps43
 go_wp2
 go_loopg [7, 18] k (fun kq v7 v18 w' => ∃ (x7_1 : List (S26)) (x18_1 : Int), v18 = .int .i64 x18_1 ∧ Aside0 (repaint_Changed.l0 kq l0 l1 l2 x7_1 ji4 x18_1 = some r) ∧ Aside0 (kq ≤ k) ∧ Aside0 (Kd.V k26 26 w' w.heap.size (fun k_ => (w.heap.size ≤ k_)) v7 x7_1) ∧ Aside0 (Below w.heap.size w w'))
 case atStart => exact ⟨(([] : List (S26))), (0), (by first | rfl | (simp; done) | (simp [*]; done)), H', ⟨Nat.le_refl _⟩, ⟨Kd.V_nil _ _ _ _ _⟩, ⟨by repeat (first | (with_reducible first | exact HB.out | apply below_alloc | apply pw_below_drewN | apply below_drew1) | exact HB.out)⟩⟩
 case round =>
  clear H'
  try clear c1
  try clear c2
  try clear p2
  try clear c4
  obtain ⟨x7_1, x18_1, rfl, HA, HK1, HO_7, HB⟩ := hrel
  cases gk with
  | zero => exact absurd HA.out (by simp [repaint_Changed.l0])
  | succ k1 =>
   have H := HA.out
   clear HA
   simp only [repaint_Changed.l0] at H
   by_cases c5 : x18_1 < ji4
   · rw [if_pos c5] at H
     have c5b0 : decide (x18_1 < ji4) = true := decide_eq_true c5
     clear c5
     replace H := Option.bind_eq_some_iff.mp H
     obtain ⟨⟨t217, t218, t219, t220, t221, t222, t223⟩, A60, H⟩ := H
     replace H : ((repaint_at.f l1 x18_1).bind fun bt225 => (if t223 = true then (if bt225.2.2.2.2.2.2 = true then (repaint_Changed.j1 k1 l0 l1 l2 x7_1 t223 bt225.2.2.2.2.2.2 ji4 x18_1 (t217 == bt225.1 && (t218 == bt225.2.1 && (t219 == bt225.2.2.1 && (t220 == bt225.2.2.2.1 && (t221 == bt225.2.2.2.2.1 && (t222 == bt225.2.2.2.2.2.1)))))) t217 t218 t219 t220 t221 t222 bt225.1 bt225.2.1 bt225.2.2.1 bt225.2.2.2.1 bt225.2.2.2.2.1 bt225.2.2.2.2.2.1) else (repaint_Changed.j1 k1 l0 l1 l2 x7_1 t223 bt225.2.2.2.2.2.2 ji4 x18_1 false t217 t218 t219 t220 t221 t222 bt225.1 bt225.2.1 bt225.2.2.1 bt225.2.2.2.1 bt225.2.2.2.2.1 bt225.2.2.2.2.2.1)) else (repaint_Changed.j1 k1 l0 l1 l2 x7_1 t223 bt225.2.2.2.2.2.2 ji4 x18_1 false t217 t218 t219 t220 t221 t222 bt225.1 bt225.2.1 bt225.2.2.1 bt225.2.2.2.1 bt225.2.2.2.2.1 bt225.2.2.2.2.2.1))) = some r := H
     have A6 := Aside0.mk A60
     clear A60
     replace H := Option.bind_eq_some_iff.mp H
     obtain ⟨⟨t225, t226, t227, t228, t229, t230, t231⟩, A70, H⟩ := H
     replace H : (if t223 = true then (if t231 = true then (repaint_Changed.j1 k1 l0 l1 l2 x7_1 t223 t231 ji4 x18_1 (t217 == t225 && (t218 == t226 && (t219 == t227 && (t220 == t228 && (t221 == t229 && (t222 == t230)))))) t217 t218 t219 t220 t221 t222 t225 t226 t227 t228 t229 t230) else (repaint_Changed.j1 k1 l0 l1 l2 x7_1 t223 t231 ji4 x18_1 false t217 t218 t219 t220 t221 t222 t225 t226 t227 t228 t229 t230)) else (repaint_Changed.j1 k1 l0 l1 l2 x7_1 t223 t231 ji4 x18_1 false t217 t218 t219 t220 t221 t222 t225 t226 t227 t228 t229 t230)) = some r := H
     have A7 := Aside0.mk A70
     clear A70
     have HC8 := Aside0.mk H
     clear H
     go_upto_region 7 with (first | ((with_reducible refine gate_callee (f := 69) rfl ?_); refine goesL_ (some 24) rfl rfl Try.func69 (by kernel_rfl) rfl #[.slice A0 l0.length c0, .int .i64 x18_1] rfl (by (try simp only [List.map_toArray, List.map_cons, List.map_nil]); first | done | rfl | (simp only [List.length_drop, List.length_take]; rfl)) ?_; (with_reducible refine (repaint_at.calls _ _ l0 x18_1 t217 t218 t219 t220 t221 t222 t223 _ ?side1 ?side2 A6.out).mono ?_); (case side1 => repeat (first | exact (Kd.C_below HR0.out HB.out) | (with_reducible refine Kd.C_alloc ?_ _) | (with_reducible refine Kd.C_drewN ?_ _) | (with_reducible refine Kd.C_drew ?_))); (case side2 => exact HC0.out); rintro e w9 ⟨rfl, hb⟩; refine ⟨_, rfl, ?_⟩; have n0_ := Aside0.mk (Kd.V_below (by (with_reducible repeat (first | apply Kd.V_alloc | apply Kd.V_drewN | apply Kd.V_drew)); exact HO_7.out) hb); have n1_ := Aside0.mk (below_step (by repeat (first | (with_reducible first | exact HB.out | apply below_alloc | apply pw_below_drewN | apply below_drew1) | exact HB.out)) hb); clear HO_7; clear HB; have HO_7 := n0_; have HB := n1_; clear n0_ n1_; (try clear hb); (try clear hb2); (try clear hk); (try clear hi)) | ((with_reducible refine gate_dst (N := 9) rfl ?_); refine box_event ?hg (N := 9) ?hd (cs := #[.int .i64 0, .int .i64 0, .int .i64 0, .int .i64 0, .int .i64 0, .int .i64 0]) (t := 54) ?hr ?_; (case hd => rfl); (case hg => rfl); (case hr => first | (go_simp; done) | (go_simp; rfl)); intro gb224 hg w10 hbox hb; have n0_ := Aside0.mk (Kd.V_below (Kd.V_elderB (by (with_reducible repeat (first | apply Kd.V_alloc | apply Kd.V_drewN | apply Kd.V_drew)); exact HO_7.out) gb224 (Nat.le_of_eq hg.symm)) hb); have n1_ := Aside0.mk (below_step (by repeat (first | (with_reducible first | exact HB.out | apply below_alloc | apply pw_below_drewN | apply below_drew1) | exact HB.out)) hb); have n2_ := Aside0.mk (hbox); have n3_ := Aside0.mk ((by rw [hg]; exact (below_size (by repeat (first | (with_reducible first | exact HB.out | apply below_alloc | apply pw_below_drewN | apply below_drew1) | exact HB.out))) : w.heap.size ≤ gb224)); have n4_ := Aside0.mk ((by rw [hg]; exact (below_size (by repeat (first | (with_reducible first | exact HB.out | apply below_alloc | apply pw_below_drewN | apply below_drew1) | exact HB.out))) : w.heap.size ≤ gb224)); clear HO_7; clear HB; have HO_7 := n0_; have HB := n1_; have BK224 := n2_; have GW224 := n3_; have GE224 := n4_; clear n0_ n1_ n2_ n3_ n4_; clear hb hbox hg; have hcz11_0 : w10.cell? ⟨gb224, 0, none⟩ = some (.int .i64 0) := (blk_cell BK224.out 0).trans rfl; have hcz11_1 : w10.cell? ⟨gb224, 1, none⟩ = some (.int .i64 0) := (blk_cell BK224.out 1).trans rfl; have hcz11_2 : w10.cell? ⟨gb224, 2, none⟩ = some (.int .i64 0) := (blk_cell BK224.out 2).trans rfl; have hcz11_3 : w10.cell? ⟨gb224, 3, none⟩ = some (.int .i64 0) := (blk_cell BK224.out 3).trans rfl; have hcz11_4 : w10.cell? ⟨gb224, 4, none⟩ = some (.int .i64 0) := (blk_cell BK224.out 4).trans rfl; have hcz11_5 : w10.cell? ⟨gb224, 5, none⟩ = some (.int .i64 0) := (blk_cell BK224.out 5).trans rfl; have hfz11_0 := blk_frozen BK224.out 0; have hfz11_1 := blk_frozen BK224.out 1; have hfz11_2 := blk_frozen BK224.out 2; have hfz11_3 := blk_frozen BK224.out 3; have hfz11_4 := blk_frozen BK224.out 4; have hfz11_5 := blk_frozen BK224.out 5) | ((with_reducible refine gate_callee (f := 69) rfl ?_); refine goesL_ (some 30) rfl rfl Try.func69 (by kernel_rfl) rfl #[.slice A1 l1.length c1, .int .i64 x18_1] rfl (by (try simp only [List.map_toArray, List.map_cons, List.map_nil]); first | done | rfl | (simp only [List.length_drop, List.length_take]; rfl)) ?_; (with_reducible refine (repaint_at.calls _ _ l1 x18_1 t225 t226 t227 t228 t229 t230 t231 _ ?side1 ?side2 A7.out).mono ?_); (case side1 => exact Kd.C_below HR1.out (by repeat (first | (with_reducible first | exact HB.out | apply below_alloc | apply pw_below_drewN | apply below_drew1 | refine below_set ?_ GE224.out) | exact HB.out))); (case side2 => exact HC1.out); rintro e w12 ⟨rfl, hb⟩; refine ⟨_, rfl, ?_⟩; have n0_ := Aside0.mk (Kd.V_below (by (with_reducible repeat (first | apply Kd.V_alloc | apply Kd.V_drewN | apply Kd.V_drew)); exact (Kd.V_mono (Kd.V_far (p := ⟨gb224, 5, none⟩) (Kd.V_far (p := ⟨gb224, 4, none⟩) (Kd.V_far (p := ⟨gb224, 3, none⟩) (Kd.V_far (p := ⟨gb224, 2, none⟩) (Kd.V_far (p := ⟨gb224, 1, none⟩) (Kd.V_far (p := ⟨gb224, 0, none⟩) (Kd.V_mono HO_7.out (fun k_ hk => (⟨hk, hk.2⟩ : _ ∧ k_ ≠ gb224))) (fun _ hk => hk.2) (.int .i64 t217)) (fun _ hk => hk.2) (.int .i64 t218)) (fun _ hk => hk.2) (.int .i64 t219)) (fun _ hk => hk.2) (.int .i64 t220)) (fun _ hk => hk.2) (.int .i64 t221)) (fun _ hk => hk.2) (.int .i64 t222)) (fun _ h_ => h_.1))) hb); have n1_ := Aside0.mk (blk_below (g := gb224) (o := .cells #[.int .i64 t217, .int .i64 t218, .int .i64 t219, .int .i64 t220, .int .i64 t221, .int .i64 t222] 54 (0, 0)) (by (with_reducible repeat (first | refine blk_drewN ?_ _ | refine blk_drew ?_ | refine blk_alloc ?_ _)); refine blk_put (cs := #[.int .i64 t217, .int .i64 t218, .int .i64 t219, .int .i64 t220, .int .i64 t221, .int .i64 0]) ?_ 5 _ rfl; (with_reducible repeat (first | refine blk_drewN ?_ _ | refine blk_drew ?_ | refine blk_alloc ?_ _)); refine blk_put (cs := #[.int .i64 t217, .int .i64 t218, .int .i64 t219, .int .i64 t220, .int .i64 0, .int .i64 0]) ?_ 4 _ rfl; (with_reducible repeat (first | refine blk_drewN ?_ _ | refine blk_drew ?_ | refine blk_alloc ?_ _)); refine blk_put (cs := #[.int .i64 t217, .int .i64 t218, .int .i64 t219, .int .i64 0, .int .i64 0, .int .i64 0]) ?_ 3 _ rfl; (with_reducible repeat (first | refine blk_drewN ?_ _ | refine blk_drew ?_ | refine blk_alloc ?_ _)); refine blk_put (cs := #[.int .i64 t217, .int .i64 t218, .int .i64 0, .int .i64 0, .int .i64 0, .int .i64 0]) ?_ 2 _ rfl; (with_reducible repeat (first | refine blk_drewN ?_ _ | refine blk_drew ?_ | refine blk_alloc ?_ _)); refine blk_put (cs := #[.int .i64 t217, .int .i64 0, .int .i64 0, .int .i64 0, .int .i64 0, .int .i64 0]) ?_ 1 _ rfl; (with_reducible repeat (first | refine blk_drewN ?_ _ | refine blk_drew ?_ | refine blk_alloc ?_ _)); refine blk_put (cs := #[.int .i64 0, .int .i64 0, .int .i64 0, .int .i64 0, .int .i64 0, .int .i64 0]) ?_ 0 _ rfl; (with_reducible repeat (first | refine blk_drewN ?_ _ | refine blk_drew ?_ | refine blk_alloc ?_ _)); exact BK224.out) hb); have n2_ := Aside0.mk (below_step (by repeat (first | (with_reducible first | exact HB.out | apply below_alloc | apply pw_below_drewN | apply below_drew1 | refine below_set ?_ GE224.out) | exact HB.out)) hb); clear HO_7; clear BK224; clear HB; have HO_7 := n0_; have BK224 := n1_; have HB := n2_; clear n0_ n1_ n2_; (try clear hb); (try clear hb2); (try clear hk); (try clear hi)) | ((with_reducible refine gate_dst (N := 11) rfl ?_); refine box_event ?hg (N := 11) ?hd (cs := #[.int .i64 0, .int .i64 0, .int .i64 0, .int .i64 0, .int .i64 0, .int .i64 0]) (t := 54) ?hr ?_; (case hd => rfl); (case hg => rfl); (case hr => first | (go_simp; done) | (go_simp; rfl)); intro gb232 hg w13 hbox hb; have n0_ := Aside0.mk (Kd.V_below (Kd.V_elderB (by (with_reducible repeat (first | apply Kd.V_alloc | apply Kd.V_drewN | apply Kd.V_drew)); exact HO_7.out) gb232 (Nat.le_of_eq hg.symm)) hb); have n1_ := Aside0.mk (blk_below (g := gb224) (o := .cells #[.int .i64 t217, .int .i64 t218, .int .i64 t219, .int .i64 t220, .int .i64 t221, .int .i64 t222] 54 (0, 0)) (by (with_reducible repeat (first | refine blk_drewN ?_ _ | refine blk_drew ?_ | refine blk_alloc ?_ _)); exact BK224.out) hb); have n2_ := Aside0.mk (below_step (by repeat (first | (with_reducible first | exact HB.out | apply below_alloc | apply pw_below_drewN | apply below_drew1 | refine below_set ?_ GE224.out) | exact HB.out)) hb); have n3_ := Aside0.mk (hbox); have n4_ := Aside0.mk ((by rw [hg]; exact (below_size (by repeat (first | (with_reducible first | exact HB.out | apply below_alloc | apply pw_below_drewN | apply below_drew1 | refine below_set ?_ GE224.out) | exact HB.out))) : w.heap.size ≤ gb232)); have n5_ := Aside0.mk ((by rw [hg]; exact (below_size (by repeat (first | (with_reducible first | exact HB.out | apply below_alloc | apply pw_below_drewN | apply below_drew1 | refine below_set ?_ GE224.out) | exact HB.out))) : w.heap.size ≤ gb232)); have n6_ := Aside0.mk ((by rw [hg]; exact Nat.ne_of_lt (blk_lt (g := gb224) (o := .cells #[.int .i64 t217, .int .i64 t218, .int .i64 t219, .int .i64 t220, .int .i64 t221, .int .i64 t222] 54 (0, 0)) (by (with_reducible repeat (first | refine blk_drewN ?_ _ | refine blk_drew ?_ | refine blk_alloc ?_ _)); exact BK224.out)) : gb224 ≠ gb232)); have n7_ := Aside0.mk ((by rw [hg]; exact Nat.ne_of_gt (blk_lt (g := gb224) (o := .cells #[.int .i64 t217, .int .i64 t218, .int .i64 t219, .int .i64 t220, .int .i64 t221, .int .i64 t222] 54 (0, 0)) (by (with_reducible repeat (first | refine blk_drewN ?_ _ | refine blk_drew ?_ | refine blk_alloc ?_ _)); exact BK224.out)) : gb232 ≠ gb224)); clear HO_7; clear BK224; clear HB; have HO_7 := n0_; have BK224 := n1_; have HB := n2_; have BK232 := n3_; have GW232 := n4_; have GE232 := n5_; have NB224_232 := n6_; have NB232_224 := n7_; clear n0_ n1_ n2_ n3_ n4_ n5_ n6_ n7_; clear hb hbox hg; have hnb14 := NB232_224.out; have hnc14 := NB224_232.out; have hcz15_0 : w13.cell? ⟨gb232, 0, none⟩ = some (.int .i64 0) := (blk_cell BK232.out 0).trans rfl; have hcz15_1 : w13.cell? ⟨gb232, 1, none⟩ = some (.int .i64 0) := (blk_cell BK232.out 1).trans rfl; have hcz15_2 : w13.cell? ⟨gb232, 2, none⟩ = some (.int .i64 0) := (blk_cell BK232.out 2).trans rfl; have hcz15_3 : w13.cell? ⟨gb232, 3, none⟩ = some (.int .i64 0) := (blk_cell BK232.out 3).trans rfl; have hcz15_4 : w13.cell? ⟨gb232, 4, none⟩ = some (.int .i64 0) := (blk_cell BK232.out 4).trans rfl; have hcz15_5 : w13.cell? ⟨gb232, 5, none⟩ = some (.int .i64 0) := (blk_cell BK232.out 5).trans rfl; have hfz15_0 := blk_frozen BK232.out 0; have hfz15_1 := blk_frozen BK232.out 1; have hfz15_2 := blk_frozen BK232.out 2; have hfz15_3 := blk_frozen BK232.out 3; have hfz15_4 := blk_frozen BK232.out 4; have hfz15_5 := blk_frozen BK232.out 5))
     (try simp only [Act.put, List.setIfInBounds_toArray, List.set_cons_zero, List.set_cons_succ])
     go_cut [41] (fun v41 wc => ∃ (kq : Nat) (x41_7 : Bool), v41 = .bool x41_7 ∧ Aside0 (repaint_Changed.j1 kq l0 l1 l2 x7_1 t223 t231 ji4 x18_1 x41_7 t217 t218 t219 t220 t221 t222 t225 t226 t227 t228 t229 t230 = some r) ∧ Aside0 (kq ≤ k1) ∧ Aside0 (Kd.V k26 26 wc w.heap.size (fun k_ => (w.heap.size ≤ k_) ∧ k_ ≠ gb224 ∧ k_ ≠ gb232) u7 x7_1) ∧ Aside0 (wc.heap[gb224]? = some (.cells #[.int .i64 t217, .int .i64 t218, .int .i64 t219, .int .i64 t220, .int .i64 t221, .int .i64 t222] 54 (0, 0))) ∧ Aside0 (wc.heap[gb232]? = some (.cells #[.int .i64 t225, .int .i64 t226, .int .i64 t227, .int .i64 t228, .int .i64 t229, .int .i64 t230] 54 (0, 0))) ∧ Aside0 (Below w.heap.size w wc))
     case first =>
      have H := HC8.out
      clear HC8
      by_cases c16 : t223 = true
      · subst c16
        have H1 : (if t231 = true then (repaint_Changed.j1 k1 l0 l1 l2 x7_1 true t231 ji4 x18_1 (t217 == t225 && (t218 == t226 && (t219 == t227 && (t220 == t228 && (t221 == t229 && (t222 == t230)))))) t217 t218 t219 t220 t221 t222 t225 t226 t227 t228 t229 t230) else (repaint_Changed.j1 k1 l0 l1 l2 x7_1 true t231 ji4 x18_1 false t217 t218 t219 t220 t221 t222 t225 t226 t227 t228 t229 t230)) = some r := by rw [if_pos rfl] at H; exact H
        clear H
        have H := H1
        clear H1
        by_cases c17 : t231 = true
        · subst c17
          have H1 : (repaint_Changed.j1 k1 l0 l1 l2 x7_1 true true ji4 x18_1 (t217 == t225 && (t218 == t226 && (t219 == t227 && (t220 == t228 && (t221 == t229 && (t222 == t230)))))) t217 t218 t219 t220 t221 t222 t225 t226 t227 t228 t229 t230) = some r := by rw [if_pos rfl] at H; exact H
          clear H
          have H := H1
          clear H1
          have H' := Aside0.mk H
          clear H
          have hnb18 := NB224_232.out
          have hnc18 := NB232_224.out
          have hcz19_0 : w13.cell? ⟨gb224, 0, none⟩ = some (.int .i64 t217) := (blk_cell BK224.out 0).trans rfl
          have hcz19_1 : w13.cell? ⟨gb224, 1, none⟩ = some (.int .i64 t218) := (blk_cell BK224.out 1).trans rfl
          have hcz19_2 : w13.cell? ⟨gb224, 2, none⟩ = some (.int .i64 t219) := (blk_cell BK224.out 2).trans rfl
          have hcz19_3 : w13.cell? ⟨gb224, 3, none⟩ = some (.int .i64 t220) := (blk_cell BK224.out 3).trans rfl
          have hcz19_4 : w13.cell? ⟨gb224, 4, none⟩ = some (.int .i64 t221) := (blk_cell BK224.out 4).trans rfl
          have hcz19_5 : w13.cell? ⟨gb224, 5, none⟩ = some (.int .i64 t222) := (blk_cell BK224.out 5).trans rfl
          have hfz19_0 := blk_frozen BK224.out 0
          have hfz19_1 := blk_frozen BK224.out 1
          have hfz19_2 := blk_frozen BK224.out 2
          have hfz19_3 := blk_frozen BK224.out 3
          have hfz19_4 := blk_frozen BK224.out 4
          have hfz19_5 := blk_frozen BK224.out 5
          have hcz20_0 : w13.cell? ⟨gb232, 0, none⟩ = some (.int .i64 0) := (blk_cell BK232.out 0).trans rfl
          have hcz20_1 : w13.cell? ⟨gb232, 1, none⟩ = some (.int .i64 0) := (blk_cell BK232.out 1).trans rfl
          have hcz20_2 : w13.cell? ⟨gb232, 2, none⟩ = some (.int .i64 0) := (blk_cell BK232.out 2).trans rfl
          have hcz20_3 : w13.cell? ⟨gb232, 3, none⟩ = some (.int .i64 0) := (blk_cell BK232.out 3).trans rfl
          have hcz20_4 : w13.cell? ⟨gb232, 4, none⟩ = some (.int .i64 0) := (blk_cell BK232.out 4).trans rfl
          have hcz20_5 : w13.cell? ⟨gb232, 5, none⟩ = some (.int .i64 0) := (blk_cell BK232.out 5).trans rfl
          have hfz20_0 := blk_frozen BK232.out 0
          have hfz20_1 := blk_frozen BK232.out 1
          have hfz20_2 := blk_frozen BK232.out 2
          have hfz20_3 := blk_frozen BK232.out 3
          have hfz20_4 := blk_frozen BK232.out 4
          have hfz20_5 := blk_frozen BK232.out 5
          go_wp2
          go_meet
          case rel => exact ⟨_, ((t217 == t225 && (t218 == t226 && (t219 == t227 && (t220 == t228 && (t221 == t229 && (t222 == t230))))))), (by first | rfl | (simp; done) | (simp [*]; done)), H', ⟨by have := HK1.out; first | omega | exact Nat.le_refl _⟩, ⟨by (with_reducible repeat (first | apply Kd.V_alloc | apply Kd.V_drewN | apply Kd.V_drew)); exact Kd.V_mono (Kd.V_far (p := ⟨gb232, 5, none⟩) (Kd.V_far (p := ⟨gb232, 4, none⟩) (Kd.V_far (p := ⟨gb232, 3, none⟩) (Kd.V_far (p := ⟨gb232, 2, none⟩) (Kd.V_far (p := ⟨gb232, 1, none⟩) (Kd.V_far (p := ⟨gb232, 0, none⟩) (Kd.V_mono HO_7.out (fun k_ hk => (⟨hk, hk.2⟩ : _ ∧ k_ ≠ gb232))) (fun _ hk => hk.2) (.int .i64 t225)) (fun _ hk => hk.2) (.int .i64 t226)) (fun _ hk => hk.2) (.int .i64 t227)) (fun _ hk => hk.2) (.int .i64 t228)) (fun _ hk => hk.2) (.int .i64 t229)) (fun _ hk => hk.2) (.int .i64 t230)) (fun _ hk => ⟨hk.1.1.1, ⟨hk.1.1.2, hk.1.2⟩⟩)⟩, ⟨by (with_reducible repeat (first | refine blk_drewN ?_ _ | refine blk_drew ?_ | refine blk_alloc ?_ _)); refine blk_far ?_ NB224_232.out _; (with_reducible repeat (first | refine blk_drewN ?_ _ | refine blk_drew ?_ | refine blk_alloc ?_ _)); refine blk_far ?_ NB224_232.out _; (with_reducible repeat (first | refine blk_drewN ?_ _ | refine blk_drew ?_ | refine blk_alloc ?_ _)); refine blk_far ?_ NB224_232.out _; (with_reducible repeat (first | refine blk_drewN ?_ _ | refine blk_drew ?_ | refine blk_alloc ?_ _)); refine blk_far ?_ NB224_232.out _; (with_reducible repeat (first | refine blk_drewN ?_ _ | refine blk_drew ?_ | refine blk_alloc ?_ _)); refine blk_far ?_ NB224_232.out _; (with_reducible repeat (first | refine blk_drewN ?_ _ | refine blk_drew ?_ | refine blk_alloc ?_ _)); refine blk_far ?_ NB224_232.out _; (with_reducible repeat (first | refine blk_drewN ?_ _ | refine blk_drew ?_ | refine blk_alloc ?_ _)); exact BK224.out⟩, ⟨by (with_reducible repeat (first | refine blk_drewN ?_ _ | refine blk_drew ?_ | refine blk_alloc ?_ _)); refine blk_put (cs := #[.int .i64 t225, .int .i64 t226, .int .i64 t227, .int .i64 t228, .int .i64 t229, .int .i64 0]) ?_ 5 _ rfl; (with_reducible repeat (first | refine blk_drewN ?_ _ | refine blk_drew ?_ | refine blk_alloc ?_ _)); refine blk_put (cs := #[.int .i64 t225, .int .i64 t226, .int .i64 t227, .int .i64 t228, .int .i64 0, .int .i64 0]) ?_ 4 _ rfl; (with_reducible repeat (first | refine blk_drewN ?_ _ | refine blk_drew ?_ | refine blk_alloc ?_ _)); refine blk_put (cs := #[.int .i64 t225, .int .i64 t226, .int .i64 t227, .int .i64 0, .int .i64 0, .int .i64 0]) ?_ 3 _ rfl; (with_reducible repeat (first | refine blk_drewN ?_ _ | refine blk_drew ?_ | refine blk_alloc ?_ _)); refine blk_put (cs := #[.int .i64 t225, .int .i64 t226, .int .i64 0, .int .i64 0, .int .i64 0, .int .i64 0]) ?_ 2 _ rfl; (with_reducible repeat (first | refine blk_drewN ?_ _ | refine blk_drew ?_ | refine blk_alloc ?_ _)); refine blk_put (cs := #[.int .i64 t225, .int .i64 0, .int .i64 0, .int .i64 0, .int .i64 0, .int .i64 0]) ?_ 1 _ rfl; (with_reducible repeat (first | refine blk_drewN ?_ _ | refine blk_drew ?_ | refine blk_alloc ?_ _)); refine blk_put (cs := #[.int .i64 0, .int .i64 0, .int .i64 0, .int .i64 0, .int .i64 0, .int .i64 0]) ?_ 0 _ rfl; (with_reducible repeat (first | refine blk_drewN ?_ _ | refine blk_drew ?_ | refine blk_alloc ?_ _)); exact BK232.out⟩, ⟨by repeat (first | (with_reducible first | exact HB.out | apply below_alloc | apply pw_below_drewN | apply below_drew1 | refine below_set ?_ GE224.out | refine below_set ?_ GE232.out) | exact HB.out)⟩⟩
        · replace c17 := Bool.eq_false_iff.mpr c17
          subst c17
          have H1 : (repaint_Changed.j1 k1 l0 l1 l2 x7_1 true false ji4 x18_1 false t217 t218 t219 t220 t221 t222 t225 t226 t227 t228 t229 t230) = some r := by rw [if_neg (show ¬ (false = true) by decide)] at H; exact H
          clear H
          have H := H1
          clear H1
          have H' := Aside0.mk H
          clear H
          go_wp2
          go_meet
          case rel => exact ⟨_, (false), (by first | rfl | (simp; done) | (simp [*]; done)), H', ⟨by have := HK1.out; first | omega | exact Nat.le_refl _⟩, ⟨by (with_reducible repeat (first | apply Kd.V_alloc | apply Kd.V_drewN | apply Kd.V_drew)); exact Kd.V_mono (Kd.V_far (p := ⟨gb232, 5, none⟩) (Kd.V_far (p := ⟨gb232, 4, none⟩) (Kd.V_far (p := ⟨gb232, 3, none⟩) (Kd.V_far (p := ⟨gb232, 2, none⟩) (Kd.V_far (p := ⟨gb232, 1, none⟩) (Kd.V_far (p := ⟨gb232, 0, none⟩) (Kd.V_mono HO_7.out (fun k_ hk => (⟨hk, hk.2⟩ : _ ∧ k_ ≠ gb232))) (fun _ hk => hk.2) (.int .i64 t225)) (fun _ hk => hk.2) (.int .i64 t226)) (fun _ hk => hk.2) (.int .i64 t227)) (fun _ hk => hk.2) (.int .i64 t228)) (fun _ hk => hk.2) (.int .i64 t229)) (fun _ hk => hk.2) (.int .i64 t230)) (fun _ hk => ⟨hk.1.1.1, ⟨hk.1.1.2, hk.1.2⟩⟩)⟩, ⟨by (with_reducible repeat (first | refine blk_drewN ?_ _ | refine blk_drew ?_ | refine blk_alloc ?_ _)); refine blk_far ?_ NB224_232.out _; (with_reducible repeat (first | refine blk_drewN ?_ _ | refine blk_drew ?_ | refine blk_alloc ?_ _)); refine blk_far ?_ NB224_232.out _; (with_reducible repeat (first | refine blk_drewN ?_ _ | refine blk_drew ?_ | refine blk_alloc ?_ _)); refine blk_far ?_ NB224_232.out _; (with_reducible repeat (first | refine blk_drewN ?_ _ | refine blk_drew ?_ | refine blk_alloc ?_ _)); refine blk_far ?_ NB224_232.out _; (with_reducible repeat (first | refine blk_drewN ?_ _ | refine blk_drew ?_ | refine blk_alloc ?_ _)); refine blk_far ?_ NB224_232.out _; (with_reducible repeat (first | refine blk_drewN ?_ _ | refine blk_drew ?_ | refine blk_alloc ?_ _)); refine blk_far ?_ NB224_232.out _; (with_reducible repeat (first | refine blk_drewN ?_ _ | refine blk_drew ?_ | refine blk_alloc ?_ _)); exact BK224.out⟩, ⟨by (with_reducible repeat (first | refine blk_drewN ?_ _ | refine blk_drew ?_ | refine blk_alloc ?_ _)); refine blk_put (cs := #[.int .i64 t225, .int .i64 t226, .int .i64 t227, .int .i64 t228, .int .i64 t229, .int .i64 0]) ?_ 5 _ rfl; (with_reducible repeat (first | refine blk_drewN ?_ _ | refine blk_drew ?_ | refine blk_alloc ?_ _)); refine blk_put (cs := #[.int .i64 t225, .int .i64 t226, .int .i64 t227, .int .i64 t228, .int .i64 0, .int .i64 0]) ?_ 4 _ rfl; (with_reducible repeat (first | refine blk_drewN ?_ _ | refine blk_drew ?_ | refine blk_alloc ?_ _)); refine blk_put (cs := #[.int .i64 t225, .int .i64 t226, .int .i64 t227, .int .i64 0, .int .i64 0, .int .i64 0]) ?_ 3 _ rfl; (with_reducible repeat (first | refine blk_drewN ?_ _ | refine blk_drew ?_ | refine blk_alloc ?_ _)); refine blk_put (cs := #[.int .i64 t225, .int .i64 t226, .int .i64 0, .int .i64 0, .int .i64 0, .int .i64 0]) ?_ 2 _ rfl; (with_reducible repeat (first | refine blk_drewN ?_ _ | refine blk_drew ?_ | refine blk_alloc ?_ _)); refine blk_put (cs := #[.int .i64 t225, .int .i64 0, .int .i64 0, .int .i64 0, .int .i64 0, .int .i64 0]) ?_ 1 _ rfl; (with_reducible repeat (first | refine blk_drewN ?_ _ | refine blk_drew ?_ | refine blk_alloc ?_ _)); refine blk_put (cs := #[.int .i64 0, .int .i64 0, .int .i64 0, .int .i64 0, .int .i64 0, .int .i64 0]) ?_ 0 _ rfl; (with_reducible repeat (first | refine blk_drewN ?_ _ | refine blk_drew ?_ | refine blk_alloc ?_ _)); exact BK232.out⟩, ⟨by repeat (first | (with_reducible first | exact HB.out | apply below_alloc | apply pw_below_drewN | apply below_drew1 | refine below_set ?_ GE224.out | refine below_set ?_ GE232.out) | exact HB.out)⟩⟩
      · replace c16 := Bool.eq_false_iff.mpr c16
        subst c16
        have H1 : (repaint_Changed.j1 k1 l0 l1 l2 x7_1 false t231 ji4 x18_1 false t217 t218 t219 t220 t221 t222 t225 t226 t227 t228 t229 t230) = some r := by rw [if_neg (show ¬ (false = true) by decide)] at H; exact H
        clear H
        have H := H1
        clear H1
        have H' := Aside0.mk H
        clear H
        go_wp2
        go_meet
        case rel => exact ⟨_, (false), (by first | rfl | (simp; done) | (simp [*]; done)), H', ⟨by have := HK1.out; first | omega | exact Nat.le_refl _⟩, ⟨by (with_reducible repeat (first | apply Kd.V_alloc | apply Kd.V_drewN | apply Kd.V_drew)); exact Kd.V_mono (Kd.V_far (p := ⟨gb232, 5, none⟩) (Kd.V_far (p := ⟨gb232, 4, none⟩) (Kd.V_far (p := ⟨gb232, 3, none⟩) (Kd.V_far (p := ⟨gb232, 2, none⟩) (Kd.V_far (p := ⟨gb232, 1, none⟩) (Kd.V_far (p := ⟨gb232, 0, none⟩) (Kd.V_mono HO_7.out (fun k_ hk => (⟨hk, hk.2⟩ : _ ∧ k_ ≠ gb232))) (fun _ hk => hk.2) (.int .i64 t225)) (fun _ hk => hk.2) (.int .i64 t226)) (fun _ hk => hk.2) (.int .i64 t227)) (fun _ hk => hk.2) (.int .i64 t228)) (fun _ hk => hk.2) (.int .i64 t229)) (fun _ hk => hk.2) (.int .i64 t230)) (fun _ hk => ⟨hk.1.1.1, ⟨hk.1.1.2, hk.1.2⟩⟩)⟩, ⟨by (with_reducible repeat (first | refine blk_drewN ?_ _ | refine blk_drew ?_ | refine blk_alloc ?_ _)); refine blk_far ?_ NB224_232.out _; (with_reducible repeat (first | refine blk_drewN ?_ _ | refine blk_drew ?_ | refine blk_alloc ?_ _)); refine blk_far ?_ NB224_232.out _; (with_reducible repeat (first | refine blk_drewN ?_ _ | refine blk_drew ?_ | refine blk_alloc ?_ _)); refine blk_far ?_ NB224_232.out _; (with_reducible repeat (first | refine blk_drewN ?_ _ | refine blk_drew ?_ | refine blk_alloc ?_ _)); refine blk_far ?_ NB224_232.out _; (with_reducible repeat (first | refine blk_drewN ?_ _ | refine blk_drew ?_ | refine blk_alloc ?_ _)); refine blk_far ?_ NB224_232.out _; (with_reducible repeat (first | refine blk_drewN ?_ _ | refine blk_drew ?_ | refine blk_alloc ?_ _)); refine blk_far ?_ NB224_232.out _; (with_reducible repeat (first | refine blk_drewN ?_ _ | refine blk_drew ?_ | refine blk_alloc ?_ _)); exact BK224.out⟩, ⟨by (with_reducible repeat (first | refine blk_drewN ?_ _ | refine blk_drew ?_ | refine blk_alloc ?_ _)); refine blk_put (cs := #[.int .i64 t225, .int .i64 t226, .int .i64 t227, .int .i64 t228, .int .i64 t229, .int .i64 0]) ?_ 5 _ rfl; (with_reducible repeat (first | refine blk_drewN ?_ _ | refine blk_drew ?_ | refine blk_alloc ?_ _)); refine blk_put (cs := #[.int .i64 t225, .int .i64 t226, .int .i64 t227, .int .i64 t228, .int .i64 0, .int .i64 0]) ?_ 4 _ rfl; (with_reducible repeat (first | refine blk_drewN ?_ _ | refine blk_drew ?_ | refine blk_alloc ?_ _)); refine blk_put (cs := #[.int .i64 t225, .int .i64 t226, .int .i64 t227, .int .i64 0, .int .i64 0, .int .i64 0]) ?_ 3 _ rfl; (with_reducible repeat (first | refine blk_drewN ?_ _ | refine blk_drew ?_ | refine blk_alloc ?_ _)); refine blk_put (cs := #[.int .i64 t225, .int .i64 t226, .int .i64 0, .int .i64 0, .int .i64 0, .int .i64 0]) ?_ 2 _ rfl; (with_reducible repeat (first | refine blk_drewN ?_ _ | refine blk_drew ?_ | refine blk_alloc ?_ _)); refine blk_put (cs := #[.int .i64 t225, .int .i64 0, .int .i64 0, .int .i64 0, .int .i64 0, .int .i64 0]) ?_ 1 _ rfl; (with_reducible repeat (first | refine blk_drewN ?_ _ | refine blk_drew ?_ | refine blk_alloc ?_ _)); refine blk_put (cs := #[.int .i64 0, .int .i64 0, .int .i64 0, .int .i64 0, .int .i64 0, .int .i64 0]) ?_ 0 _ rfl; (with_reducible repeat (first | refine blk_drewN ?_ _ | refine blk_drew ?_ | refine blk_alloc ?_ _)); exact BK232.out⟩, ⟨by repeat (first | (with_reducible first | exact HB.out | apply below_alloc | apply pw_below_drewN | apply below_drew1 | refine below_set ?_ GE224.out | refine below_set ?_ GE232.out) | exact HB.out)⟩⟩
     case rest =>
      clear HC8
      try clear c1
      try clear c2
      try clear p2
      try clear c4
      try clear c5
      try clear c5b0
      try clear c6
      try clear c14
      try clear c16
      try clear c17
      try clear c18
      try clear hcz11_0
      try clear hcz11_1
      try clear hcz11_2
      try clear hcz11_3
      try clear hcz11_4
      try clear hcz11_5
      try clear hcz15_0
      try clear hcz15_1
      try clear hcz15_2
      try clear hcz15_3
      try clear hcz15_4
      try clear hcz15_5
      try clear hcz19_0
      try clear hcz19_1
      try clear hcz19_2
      try clear hcz19_3
      try clear hcz19_4
      try clear hcz19_5
      try clear hcz20_0
      try clear hcz20_1
      try clear hcz20_2
      try clear hcz20_3
      try clear hcz20_4
      try clear hcz20_5
      try clear hfz11_0
      try clear hfz11_1
      try clear hfz11_2
      try clear hfz11_3
      try clear hfz11_4
      try clear hfz11_5
      try clear hfz15_0
      try clear hfz15_1
      try clear hfz15_2
      try clear hfz15_3
      try clear hfz15_4
      try clear hfz15_5
      try clear hfz19_0
      try clear hfz19_1
      try clear hfz19_2
      try clear hfz19_3
      try clear hfz19_4
      try clear hfz19_5
      try clear hfz20_0
      try clear hfz20_1
      try clear hfz20_2
      try clear hfz20_3
      try clear hfz20_4
      try clear hfz20_5
      try clear p2
      obtain ⟨kq, x41_7, rfl, HA, HJ7, HO_7, BK224, BK232, HB⟩ := hcut
      cases kq with
      | zero => exact absurd HA.out (by simp [repaint_Changed.j1])
      | succ kj7 =>
       have H := HA.out
       clear HA
       simp only [repaint_Changed.j1] at H
       by_cases c21 : x41_7 = true
       · subst c21
         have H1 : ((repaint_dirt.f kj7 x7_1 t217 t218 t219 t220 t221 t222 l2).bind fun t233 => (repaint_Changed.l0 kj7 l0 l1 l2 t233 ji4 (wrap64 (x18_1 + 1)))) = some r := by rw [if_pos rfl] at H; exact H
         clear H
         have H := H1
         clear H1
         replace H := Option.bind_eq_some_iff.mp H
         obtain ⟨t233, A220, H⟩ := H
         replace H : (repaint_Changed.l0 kj7 l0 l1 l2 t233 ji4 (wrap64 (x18_1 + 1))) = some r := H
         have A22 := Aside0.mk A220
         clear A220
         have H' := Aside0.mk H
         clear H
         have hnb23 := NB224_232.out
         have hnc23 := NB232_224.out
         have hcz24_0 : wc.cell? ⟨gb224, 0, none⟩ = some (.int .i64 t217) := (blk_cell BK224.out 0).trans rfl
         have hcz24_1 : wc.cell? ⟨gb224, 1, none⟩ = some (.int .i64 t218) := (blk_cell BK224.out 1).trans rfl
         have hcz24_2 : wc.cell? ⟨gb224, 2, none⟩ = some (.int .i64 t219) := (blk_cell BK224.out 2).trans rfl
         have hcz24_3 : wc.cell? ⟨gb224, 3, none⟩ = some (.int .i64 t220) := (blk_cell BK224.out 3).trans rfl
         have hcz24_4 : wc.cell? ⟨gb224, 4, none⟩ = some (.int .i64 t221) := (blk_cell BK224.out 4).trans rfl
         have hcz24_5 : wc.cell? ⟨gb224, 5, none⟩ = some (.int .i64 t222) := (blk_cell BK224.out 5).trans rfl
         have hfz24_0 := blk_frozen BK224.out 0
         have hfz24_1 := blk_frozen BK224.out 1
         have hfz24_2 := blk_frozen BK224.out 2
         have hfz24_3 := blk_frozen BK224.out 3
         have hfz24_4 := blk_frozen BK224.out 4
         have hfz24_5 := blk_frozen BK224.out 5
         obtain ⟨Ao25, co25, eo25⟩ := Kd.V_slice HO_7.out
         subst eo25
         go_wp2_with (first | ((with_reducible refine gate_callee (f := 70) rfl ?_); refine goesL_ (some 45) rfl rfl Try.func70 (by kernel_rfl) rfl #[.slice Ao25 x7_1.length co25, .agg #[.int .i64 t217, .int .i64 t218, .int .i64 t219, .int .i64 t220, .int .i64 t221, .int .i64 t222], .slice A2 l2.length c2] rfl (by (try simp only [List.map_toArray, List.map_cons, List.map_nil]); first | done | rfl | (simp only [List.length_drop, List.length_take]; rfl)) ?_; (with_reducible refine (repaint_dirt.calls kj7 (fun k_ => ((w.heap.size ≤ k_) ∧ (k_ ≠ gb224 ∧ k_ ≠ gb232))) _ _ x7_1 t217 t218 t219 t220 t221 t222 _ _ l2 t233 _ ?side1 ?side2 ?side3 A22.out).mono ?_); (case side1 => exact HO_7.out); (case side2 => repeat (first | exact (Kd.C_below HR2.out HB.out) | (with_reducible refine Kd.C_alloc ?_ _) | (with_reducible refine Kd.C_drewN ?_ _) | (with_reducible refine Kd.C_drew ?_))); (case side3 => exact HC2.out); rintro e w26 ⟨v234, rfl, ho0, hb⟩; refine ⟨_, rfl, ?_⟩; have n0_ := Aside0.mk (Kd.V_below (by (with_reducible repeat (first | apply Kd.V_alloc | apply Kd.V_drewN | apply Kd.V_drew)); exact HO_7.out) hb); have n1_ := Aside0.mk (Kd.V_lower (Kd.V_mono (ok' := fun k_ => (w.heap.size ≤ k_) ∧ k_ ≠ gb224 ∧ k_ ≠ gb232) ho0 (fun k_ hk_ => ⟨Or.elim hk_ (fun hs_ => hs_.1) (fun hn_ => (Nat.le_trans (below_size (by repeat (first | (with_reducible first | exact HB.out | apply below_alloc | apply pw_below_drewN | apply below_drew1 | refine below_set ?_ GE224.out | refine below_set ?_ GE232.out) | exact HB.out))) hn_)), Or.elim hk_ (fun hs_ => hs_.2.1) (fun hn_ => (Kd.freshB (g := gb224) (o := .cells #[.int .i64 t217, .int .i64 t218, .int .i64 t219, .int .i64 t220, .int .i64 t221, .int .i64 t222] 54 (0, 0)) (by (with_reducible repeat (first | refine blk_drewN ?_ _ | refine blk_drew ?_ | refine blk_alloc ?_ _)); exact BK224.out) k_ hn_)), Or.elim hk_ (fun hs_ => hs_.2.2) (fun hn_ => (Kd.freshB (g := gb232) (o := .cells #[.int .i64 t225, .int .i64 t226, .int .i64 t227, .int .i64 t228, .int .i64 t229, .int .i64 t230] 54 (0, 0)) (by (with_reducible repeat (first | refine blk_drewN ?_ _ | refine blk_drew ?_ | refine blk_alloc ?_ _)); exact BK232.out) k_ hn_))⟩)) (below_size (by repeat (first | (with_reducible first | exact HB.out | apply below_alloc | apply pw_below_drewN | apply below_drew1 | refine below_set ?_ GE224.out | refine below_set ?_ GE232.out) | exact HB.out)))); have n2_ := Aside0.mk (blk_below (g := gb224) (o := .cells #[.int .i64 t217, .int .i64 t218, .int .i64 t219, .int .i64 t220, .int .i64 t221, .int .i64 t222] 54 (0, 0)) (by (with_reducible repeat (first | refine blk_drewN ?_ _ | refine blk_drew ?_ | refine blk_alloc ?_ _)); exact BK224.out) hb); have n3_ := Aside0.mk (blk_below (g := gb232) (o := .cells #[.int .i64 t225, .int .i64 t226, .int .i64 t227, .int .i64 t228, .int .i64 t229, .int .i64 t230] 54 (0, 0)) (by (with_reducible repeat (first | refine blk_drewN ?_ _ | refine blk_drew ?_ | refine blk_alloc ?_ _)); exact BK232.out) hb); have n4_ := Aside0.mk (below_step (by repeat (first | (with_reducible first | exact HB.out | apply below_alloc | apply pw_below_drewN | apply below_drew1 | refine below_set ?_ GE224.out | refine below_set ?_ GE232.out) | exact HB.out)) hb); clear HO_7; clear BK224; clear BK232; clear HB; have HO_7 := n0_; have HO235 := n1_; have BK224 := n2_; have BK232 := n3_; have HB := n4_; clear n0_ n1_ n2_ n3_ n4_; (try clear hb); (try clear hb2); (try clear hk); (try clear hi); (try clear ho0)))
         go_roundg kj7
         case measure => have := HK1.out; have := HJ7.out; omega
         case rel => exact ⟨(t233), (wrap64 (x18_1 + 1)), (by first | rfl | (simp; done) | (simp [*]; done)), H', ⟨by have := HK1.out; have := HJ7.out; omega⟩, ⟨by (with_reducible repeat (first | apply Kd.V_alloc | apply Kd.V_drewN | apply Kd.V_drew)); exact Kd.V_mono HO235.out (fun _ hk => hk.1)⟩, ⟨by repeat (first | (with_reducible first | exact HB.out | apply below_alloc | apply pw_below_drewN | apply below_drew1 | refine below_set ?_ GE224.out | refine below_set ?_ GE232.out) | exact HB.out)⟩⟩
       · replace c21 := Bool.eq_false_iff.mpr c21
         subst c21
         have H1 : (if t223 = true then ((repaint_of.f t217 t218 t219 t220 t221 t222).bind fun bt236 => ((damage_Add.f kj7 x7_1 bt236.1 bt236.2.1 bt236.2.2.1 bt236.2.2.2).bind fun t240 => (repaint_Changed.j2 kj7 l0 l1 l2 t240 t231 ji4 x18_1 t225 t226 t227 t228 t229 t230))) else (repaint_Changed.j2 kj7 l0 l1 l2 x7_1 t231 ji4 x18_1 t225 t226 t227 t228 t229 t230)) = some r := by rw [if_neg (show ¬ (false = true) by decide)] at H; exact H
         clear H
         have H := H1
         clear H1
         have HC27 := Aside0.mk H
         clear H
         go_upto_if 46 with (fail)
         go_cut [7] (fun v7 wc => ∃ (kq : Nat) (x7_26 : List (S26)), Aside0 (repaint_Changed.j2 kq l0 l1 l2 x7_26 t231 ji4 x18_1 t225 t226 t227 t228 t229 t230 = some r) ∧ Aside0 (kq ≤ kj7) ∧ Aside0 (Kd.V k26 26 wc w.heap.size (fun k_ => (w.heap.size ≤ k_) ∧ k_ ≠ gb224 ∧ k_ ≠ gb232) v7 x7_26) ∧ Aside0 (wc.heap[gb224]? = some (.cells #[.int .i64 t217, .int .i64 t218, .int .i64 t219, .int .i64 t220, .int .i64 t221, .int .i64 t222] 54 (0, 0))) ∧ Aside0 (wc.heap[gb232]? = some (.cells #[.int .i64 t225, .int .i64 t226, .int .i64 t227, .int .i64 t228, .int .i64 t229, .int .i64 t230] 54 (0, 0))) ∧ Aside0 (Below w.heap.size w wc))
         case first =>
          have H := HC27.out
          clear HC27
          by_cases c28 : t223 = true
          · subst c28
            have H1 : ((repaint_of.f t217 t218 t219 t220 t221 t222).bind fun bt236 => ((damage_Add.f kj7 x7_1 bt236.1 bt236.2.1 bt236.2.2.1 bt236.2.2.2).bind fun t240 => (repaint_Changed.j2 kj7 l0 l1 l2 t240 t231 ji4 x18_1 t225 t226 t227 t228 t229 t230))) = some r := by rw [if_pos rfl] at H; exact H
            clear H
            have H := H1
            clear H1
            replace H := Option.bind_eq_some_iff.mp H
            obtain ⟨⟨t236, t237, t238, t239⟩, A290, H⟩ := H
            replace H : ((damage_Add.f kj7 x7_1 t236 t237 t238 t239).bind fun t240 => (repaint_Changed.j2 kj7 l0 l1 l2 t240 t231 ji4 x18_1 t225 t226 t227 t228 t229 t230)) = some r := H
            have A29 := Aside0.mk A290
            clear A290
            replace H := Option.bind_eq_some_iff.mp H
            obtain ⟨t240, A300, H⟩ := H
            replace H : (repaint_Changed.j2 kj7 l0 l1 l2 t240 t231 ji4 x18_1 t225 t226 t227 t228 t229 t230) = some r := H
            have A30 := Aside0.mk A300
            clear A300
            have H' := Aside0.mk H
            clear H
            have hnb31 := NB224_232.out
            have hnc31 := NB232_224.out
            have hcz32_0 : wc.cell? ⟨gb224, 0, none⟩ = some (.int .i64 t217) := (blk_cell BK224.out 0).trans rfl
            have hcz32_1 : wc.cell? ⟨gb224, 1, none⟩ = some (.int .i64 t218) := (blk_cell BK224.out 1).trans rfl
            have hcz32_2 : wc.cell? ⟨gb224, 2, none⟩ = some (.int .i64 t219) := (blk_cell BK224.out 2).trans rfl
            have hcz32_3 : wc.cell? ⟨gb224, 3, none⟩ = some (.int .i64 t220) := (blk_cell BK224.out 3).trans rfl
            have hcz32_4 : wc.cell? ⟨gb224, 4, none⟩ = some (.int .i64 t221) := (blk_cell BK224.out 4).trans rfl
            have hcz32_5 : wc.cell? ⟨gb224, 5, none⟩ = some (.int .i64 t222) := (blk_cell BK224.out 5).trans rfl
            have hfz32_0 := blk_frozen BK224.out 0
            have hfz32_1 := blk_frozen BK224.out 1
            have hfz32_2 := blk_frozen BK224.out 2
            have hfz32_3 := blk_frozen BK224.out 3
            have hfz32_4 := blk_frozen BK224.out 4
            have hfz32_5 := blk_frozen BK224.out 5
            go_wp2_with (first | ((with_reducible refine gate_callee (f := 71) rfl ?_); refine goesL_ (some 49) rfl rfl Try.func71 (by kernel_rfl) rfl #[.agg #[.int .i64 t217, .int .i64 t218, .int .i64 t219, .int .i64 t220, .int .i64 t221, .int .i64 t222]] rfl (by (try simp only [List.map_toArray, List.map_cons, List.map_nil]); first | done | rfl | (simp only [List.length_drop, List.length_take]; rfl)) ?_; (with_reducible refine (repaint_of.calls t217 t218 t219 t220 t221 t222 t236 t237 t238 t239 _ A29.out).mono ?_); rintro e w33 ⟨rfl, hb⟩; refine ⟨_, rfl, ?_⟩; have n0_ := Aside0.mk (Kd.V_below (by (with_reducible repeat (first | apply Kd.V_alloc | apply Kd.V_drewN | apply Kd.V_drew)); exact HO_7.out) hb); have n1_ := Aside0.mk (blk_below (g := gb224) (o := .cells #[.int .i64 t217, .int .i64 t218, .int .i64 t219, .int .i64 t220, .int .i64 t221, .int .i64 t222] 54 (0, 0)) (by (with_reducible repeat (first | refine blk_drewN ?_ _ | refine blk_drew ?_ | refine blk_alloc ?_ _)); exact BK224.out) hb); have n2_ := Aside0.mk (blk_below (g := gb232) (o := .cells #[.int .i64 t225, .int .i64 t226, .int .i64 t227, .int .i64 t228, .int .i64 t229, .int .i64 t230] 54 (0, 0)) (by (with_reducible repeat (first | refine blk_drewN ?_ _ | refine blk_drew ?_ | refine blk_alloc ?_ _)); exact BK232.out) hb); have n3_ := Aside0.mk (below_step (by repeat (first | (with_reducible first | exact HB.out | apply below_alloc | apply pw_below_drewN | apply below_drew1 | refine below_set ?_ GE224.out | refine below_set ?_ GE232.out) | exact HB.out)) hb); clear HO_7; clear BK224; clear BK232; clear HB; have HO_7 := n0_; have BK224 := n1_; have BK232 := n2_; have HB := n3_; clear n0_ n1_ n2_ n3_; (try clear hb); (try clear hb2); (try clear hk); (try clear hi); obtain ⟨Ao34, co34, eo34⟩ := Kd.V_slice HO_7.out; subst eo34) | ((with_reducible refine gate_callee (f := 21) rfl ?_); refine goesL_ (some 50) rfl rfl Try.func21 (by kernel_rfl) rfl #[.slice Ao34 x7_1.length co34, .agg #[.int .i64 t236, .int .i64 t237, .int .i64 t238, .int .i64 t239]] rfl (by (try simp only [List.map_toArray, List.map_cons, List.map_nil]); first | done | rfl | (simp only [List.length_drop, List.length_take]; rfl)) ?_; (with_reducible refine (damage_Add.calls kj7 _ _ x7_1 t236 t237 t238 t239 t240 _ ?side1 ?side2 A30.out).mono ?_); (case side1 => repeat (first | exact (Kd.V_reads' HO_7.out).2.2 | (with_reducible refine Kd.C_alloc ?_ _) | (with_reducible refine Kd.C_drewN ?_ _) | (with_reducible refine Kd.C_drew ?_))); (case side2 => exact (Kd.V_reads' HO_7.out).2.1); rintro e w35 ⟨v241, rfl, ho0, hb⟩; refine ⟨_, rfl, ?_⟩; have n0_ := Aside0.mk (Kd.V_below (by (with_reducible repeat (first | apply Kd.V_alloc | apply Kd.V_drewN | apply Kd.V_drew)); exact HO_7.out) hb); have n1_ := Aside0.mk (Kd.V_lower (Kd.V_mono (ok' := fun k_ => (w.heap.size ≤ k_) ∧ k_ ≠ gb224 ∧ k_ ≠ gb232) ho0 (fun k_ hk_ => ⟨(Nat.le_trans (below_size (by repeat (first | (with_reducible first | exact HB.out | apply below_alloc | apply pw_below_drewN | apply below_drew1 | refine below_set ?_ GE224.out | refine below_set ?_ GE232.out) | exact HB.out))) hk_), (Kd.freshB (g := gb224) (o := .cells #[.int .i64 t217, .int .i64 t218, .int .i64 t219, .int .i64 t220, .int .i64 t221, .int .i64 t222] 54 (0, 0)) (by (with_reducible repeat (first | refine blk_drewN ?_ _ | refine blk_drew ?_ | refine blk_alloc ?_ _)); exact BK224.out) k_ hk_), (Kd.freshB (g := gb232) (o := .cells #[.int .i64 t225, .int .i64 t226, .int .i64 t227, .int .i64 t228, .int .i64 t229, .int .i64 t230] 54 (0, 0)) (by (with_reducible repeat (first | refine blk_drewN ?_ _ | refine blk_drew ?_ | refine blk_alloc ?_ _)); exact BK232.out) k_ hk_)⟩)) (below_size (by repeat (first | (with_reducible first | exact HB.out | apply below_alloc | apply pw_below_drewN | apply below_drew1 | refine below_set ?_ GE224.out | refine below_set ?_ GE232.out) | exact HB.out)))); have n2_ := Aside0.mk (blk_below (g := gb224) (o := .cells #[.int .i64 t217, .int .i64 t218, .int .i64 t219, .int .i64 t220, .int .i64 t221, .int .i64 t222] 54 (0, 0)) (by (with_reducible repeat (first | refine blk_drewN ?_ _ | refine blk_drew ?_ | refine blk_alloc ?_ _)); exact BK224.out) hb); have n3_ := Aside0.mk (blk_below (g := gb232) (o := .cells #[.int .i64 t225, .int .i64 t226, .int .i64 t227, .int .i64 t228, .int .i64 t229, .int .i64 t230] 54 (0, 0)) (by (with_reducible repeat (first | refine blk_drewN ?_ _ | refine blk_drew ?_ | refine blk_alloc ?_ _)); exact BK232.out) hb); have n4_ := Aside0.mk (below_step (by repeat (first | (with_reducible first | exact HB.out | apply below_alloc | apply pw_below_drewN | apply below_drew1 | refine below_set ?_ GE224.out | refine below_set ?_ GE232.out) | exact HB.out)) hb); clear HO_7; clear BK224; clear BK232; clear HB; have HO_7 := n0_; have HO242 := n1_; have BK224 := n2_; have BK232 := n3_; have HB := n4_; clear n0_ n1_ n2_ n3_ n4_; (try clear hb); (try clear hb2); (try clear hk); (try clear hi); (try clear ho0)))
            go_meet
            case rel => exact ⟨_, (t240), H', ⟨by have := HK1.out; have := HJ7.out; first | omega | exact Nat.le_refl _⟩, ⟨by (with_reducible repeat (first | apply Kd.V_alloc | apply Kd.V_drewN | apply Kd.V_drew)); exact HO242.out⟩, ⟨by (with_reducible repeat (first | refine blk_drewN ?_ _ | refine blk_drew ?_ | refine blk_alloc ?_ _)); exact BK224.out⟩, ⟨by (with_reducible repeat (first | refine blk_drewN ?_ _ | refine blk_drew ?_ | refine blk_alloc ?_ _)); exact BK232.out⟩, ⟨by repeat (first | (with_reducible first | exact HB.out | apply below_alloc | apply pw_below_drewN | apply below_drew1 | refine below_set ?_ GE224.out | refine below_set ?_ GE232.out) | exact HB.out)⟩⟩
          · replace c28 := Bool.eq_false_iff.mpr c28
            subst c28
            have H1 : (repaint_Changed.j2 kj7 l0 l1 l2 x7_1 t231 ji4 x18_1 t225 t226 t227 t228 t229 t230) = some r := by rw [if_neg (show ¬ (false = true) by decide)] at H; exact H
            clear H
            have H := H1
            clear H1
            have H' := Aside0.mk H
            clear H
            go_wp2
            go_meet
            case rel => exact ⟨_, (x7_1), H', ⟨by have := HK1.out; have := HJ7.out; first | omega | exact Nat.le_refl _⟩, ⟨by (with_reducible repeat (first | apply Kd.V_alloc | apply Kd.V_drewN | apply Kd.V_drew)); exact HO_7.out⟩, ⟨by (with_reducible repeat (first | refine blk_drewN ?_ _ | refine blk_drew ?_ | refine blk_alloc ?_ _)); exact BK224.out⟩, ⟨by (with_reducible repeat (first | refine blk_drewN ?_ _ | refine blk_drew ?_ | refine blk_alloc ?_ _)); exact BK232.out⟩, ⟨by repeat (first | (with_reducible first | exact HB.out | apply below_alloc | apply pw_below_drewN | apply below_drew1 | refine below_set ?_ GE224.out | refine below_set ?_ GE232.out) | exact HB.out)⟩⟩
         case rest =>
          clear HC27
          try clear c1
          try clear c2
          try clear p2
          try clear c3
          try clear c4
          try clear c5
          try clear c5b0
          try clear c6
          try clear p6
          try clear c7
          try clear c14
          try clear c16
          try clear c17
          try clear c18
          try clear c21
          try clear c23
          try clear c28
          try clear c31
          try clear hcz11_0
          try clear hcz11_1
          try clear hcz11_2
          try clear hcz11_3
          try clear hcz11_4
          try clear hcz11_5
          try clear hcz15_0
          try clear hcz15_1
          try clear hcz15_2
          try clear hcz15_3
          try clear hcz15_4
          try clear hcz15_5
          try clear hcz19_0
          try clear hcz19_1
          try clear hcz19_2
          try clear hcz19_3
          try clear hcz19_4
          try clear hcz19_5
          try clear hcz20_0
          try clear hcz20_1
          try clear hcz20_2
          try clear hcz20_3
          try clear hcz20_4
          try clear hcz20_5
          try clear hcz24_0
          try clear hcz24_1
          try clear hcz24_2
          try clear hcz24_3
          try clear hcz24_4
          try clear hcz24_5
          try clear hcz32_0
          try clear hcz32_1
          try clear hcz32_2
          try clear hcz32_3
          try clear hcz32_4
          try clear hcz32_5
          try clear hfz11_0
          try clear hfz11_1
          try clear hfz11_2
          try clear hfz11_3
          try clear hfz11_4
          try clear hfz11_5
          try clear hfz15_0
          try clear hfz15_1
          try clear hfz15_2
          try clear hfz15_3
          try clear hfz15_4
          try clear hfz15_5
          try clear hfz19_0
          try clear hfz19_1
          try clear hfz19_2
          try clear hfz19_3
          try clear hfz19_4
          try clear hfz19_5
          try clear hfz20_0
          try clear hfz20_1
          try clear hfz20_2
          try clear hfz20_3
          try clear hfz20_4
          try clear hfz20_5
          try clear hfz24_0
          try clear hfz24_1
          try clear hfz24_2
          try clear hfz24_3
          try clear hfz24_4
          try clear hfz24_5
          try clear hfz32_0
          try clear hfz32_1
          try clear hfz32_2
          try clear hfz32_3
          try clear hfz32_4
          try clear hfz32_5
          try clear p2
          obtain ⟨kq, x7_26, HA, HJ26, HO_7, BK224, BK232, HB⟩ := hcut
          cases kq with
          | zero => exact absurd HA.out (by simp [repaint_Changed.j2])
          | succ kj26 =>
           have H := HA.out
           clear HA
           simp only [repaint_Changed.j2] at H
           by_cases c36 : t231 = true
           · subst c36
             have H1 : ((repaint_of.f t225 t226 t227 t228 t229 t230).bind fun bt243 => ((damage_Add.f kj26 x7_26 bt243.1 bt243.2.1 bt243.2.2.1 bt243.2.2.2).bind fun t247 => (repaint_Changed.l0 kj26 l0 l1 l2 t247 ji4 (wrap64 (x18_1 + 1))))) = some r := by rw [if_pos rfl] at H; exact H
             clear H
             have H := H1
             clear H1
             replace H := Option.bind_eq_some_iff.mp H
             obtain ⟨⟨t243, t244, t245, t246⟩, A370, H⟩ := H
             replace H : ((damage_Add.f kj26 x7_26 t243 t244 t245 t246).bind fun t247 => (repaint_Changed.l0 kj26 l0 l1 l2 t247 ji4 (wrap64 (x18_1 + 1)))) = some r := H
             have A37 := Aside0.mk A370
             clear A370
             replace H := Option.bind_eq_some_iff.mp H
             obtain ⟨t247, A380, H⟩ := H
             replace H : (repaint_Changed.l0 kj26 l0 l1 l2 t247 ji4 (wrap64 (x18_1 + 1))) = some r := H
             have A38 := Aside0.mk A380
             clear A380
             have H' := Aside0.mk H
             clear H
             have hnb39 := NB232_224.out
             have hnc39 := NB224_232.out
             have hcz40_0 : wc.cell? ⟨gb232, 0, none⟩ = some (.int .i64 t225) := (blk_cell BK232.out 0).trans rfl
             have hcz40_1 : wc.cell? ⟨gb232, 1, none⟩ = some (.int .i64 t226) := (blk_cell BK232.out 1).trans rfl
             have hcz40_2 : wc.cell? ⟨gb232, 2, none⟩ = some (.int .i64 t227) := (blk_cell BK232.out 2).trans rfl
             have hcz40_3 : wc.cell? ⟨gb232, 3, none⟩ = some (.int .i64 t228) := (blk_cell BK232.out 3).trans rfl
             have hcz40_4 : wc.cell? ⟨gb232, 4, none⟩ = some (.int .i64 t229) := (blk_cell BK232.out 4).trans rfl
             have hcz40_5 : wc.cell? ⟨gb232, 5, none⟩ = some (.int .i64 t230) := (blk_cell BK232.out 5).trans rfl
             have hfz40_0 := blk_frozen BK232.out 0
             have hfz40_1 := blk_frozen BK232.out 1
             have hfz40_2 := blk_frozen BK232.out 2
             have hfz40_3 := blk_frozen BK232.out 3
             have hfz40_4 := blk_frozen BK232.out 4
             have hfz40_5 := blk_frozen BK232.out 5
             go_wp2_with (first | ((with_reducible refine gate_callee (f := 71) rfl ?_); refine goesL_ (some 54) rfl rfl Try.func71 (by kernel_rfl) rfl #[.agg #[.int .i64 t225, .int .i64 t226, .int .i64 t227, .int .i64 t228, .int .i64 t229, .int .i64 t230]] rfl (by (try simp only [List.map_toArray, List.map_cons, List.map_nil]); first | done | rfl | (simp only [List.length_drop, List.length_take]; rfl)) ?_; (with_reducible refine (repaint_of.calls t225 t226 t227 t228 t229 t230 t243 t244 t245 t246 _ A37.out).mono ?_); rintro e w41 ⟨rfl, hb⟩; refine ⟨_, rfl, ?_⟩; have n0_ := Aside0.mk (Kd.V_below (by (with_reducible repeat (first | apply Kd.V_alloc | apply Kd.V_drewN | apply Kd.V_drew)); exact HO_7.out) hb); have n1_ := Aside0.mk (blk_below (g := gb224) (o := .cells #[.int .i64 t217, .int .i64 t218, .int .i64 t219, .int .i64 t220, .int .i64 t221, .int .i64 t222] 54 (0, 0)) (by (with_reducible repeat (first | refine blk_drewN ?_ _ | refine blk_drew ?_ | refine blk_alloc ?_ _)); exact BK224.out) hb); have n2_ := Aside0.mk (blk_below (g := gb232) (o := .cells #[.int .i64 t225, .int .i64 t226, .int .i64 t227, .int .i64 t228, .int .i64 t229, .int .i64 t230] 54 (0, 0)) (by (with_reducible repeat (first | refine blk_drewN ?_ _ | refine blk_drew ?_ | refine blk_alloc ?_ _)); exact BK232.out) hb); have n3_ := Aside0.mk (below_step (by repeat (first | (with_reducible first | exact HB.out | apply below_alloc | apply pw_below_drewN | apply below_drew1 | refine below_set ?_ GE224.out | refine below_set ?_ GE232.out) | exact HB.out)) hb); clear HO_7; clear BK224; clear BK232; clear HB; have HO_7 := n0_; have BK224 := n1_; have BK232 := n2_; have HB := n3_; clear n0_ n1_ n2_ n3_; (try clear hb); (try clear hb2); (try clear hk); (try clear hi); obtain ⟨Ao42, co42, eo42⟩ := Kd.V_slice HO_7.out; subst eo42) | ((with_reducible refine gate_callee (f := 21) rfl ?_); refine goesL_ (some 55) rfl rfl Try.func21 (by kernel_rfl) rfl #[.slice Ao42 x7_26.length co42, .agg #[.int .i64 t243, .int .i64 t244, .int .i64 t245, .int .i64 t246]] rfl (by (try simp only [List.map_toArray, List.map_cons, List.map_nil]); first | done | rfl | (simp only [List.length_drop, List.length_take]; rfl)) ?_; (with_reducible refine (damage_Add.calls kj26 _ _ x7_26 t243 t244 t245 t246 t247 _ ?side1 ?side2 A38.out).mono ?_); (case side1 => repeat (first | exact (Kd.V_reads' HO_7.out).2.2 | (with_reducible refine Kd.C_alloc ?_ _) | (with_reducible refine Kd.C_drewN ?_ _) | (with_reducible refine Kd.C_drew ?_))); (case side2 => exact (Kd.V_reads' HO_7.out).2.1); rintro e w43 ⟨v248, rfl, ho0, hb⟩; refine ⟨_, rfl, ?_⟩; have n0_ := Aside0.mk (Kd.V_below (by (with_reducible repeat (first | apply Kd.V_alloc | apply Kd.V_drewN | apply Kd.V_drew)); exact HO_7.out) hb); have n1_ := Aside0.mk (Kd.V_lower (Kd.V_mono (ok' := fun k_ => (w.heap.size ≤ k_) ∧ k_ ≠ gb224 ∧ k_ ≠ gb232) ho0 (fun k_ hk_ => ⟨(Nat.le_trans (below_size (by repeat (first | (with_reducible first | exact HB.out | apply below_alloc | apply pw_below_drewN | apply below_drew1 | refine below_set ?_ GE224.out | refine below_set ?_ GE232.out) | exact HB.out))) hk_), (Kd.freshB (g := gb224) (o := .cells #[.int .i64 t217, .int .i64 t218, .int .i64 t219, .int .i64 t220, .int .i64 t221, .int .i64 t222] 54 (0, 0)) (by (with_reducible repeat (first | refine blk_drewN ?_ _ | refine blk_drew ?_ | refine blk_alloc ?_ _)); exact BK224.out) k_ hk_), (Kd.freshB (g := gb232) (o := .cells #[.int .i64 t225, .int .i64 t226, .int .i64 t227, .int .i64 t228, .int .i64 t229, .int .i64 t230] 54 (0, 0)) (by (with_reducible repeat (first | refine blk_drewN ?_ _ | refine blk_drew ?_ | refine blk_alloc ?_ _)); exact BK232.out) k_ hk_)⟩)) (below_size (by repeat (first | (with_reducible first | exact HB.out | apply below_alloc | apply pw_below_drewN | apply below_drew1 | refine below_set ?_ GE224.out | refine below_set ?_ GE232.out) | exact HB.out)))); have n2_ := Aside0.mk (blk_below (g := gb224) (o := .cells #[.int .i64 t217, .int .i64 t218, .int .i64 t219, .int .i64 t220, .int .i64 t221, .int .i64 t222] 54 (0, 0)) (by (with_reducible repeat (first | refine blk_drewN ?_ _ | refine blk_drew ?_ | refine blk_alloc ?_ _)); exact BK224.out) hb); have n3_ := Aside0.mk (blk_below (g := gb232) (o := .cells #[.int .i64 t225, .int .i64 t226, .int .i64 t227, .int .i64 t228, .int .i64 t229, .int .i64 t230] 54 (0, 0)) (by (with_reducible repeat (first | refine blk_drewN ?_ _ | refine blk_drew ?_ | refine blk_alloc ?_ _)); exact BK232.out) hb); have n4_ := Aside0.mk (below_step (by repeat (first | (with_reducible first | exact HB.out | apply below_alloc | apply pw_below_drewN | apply below_drew1 | refine below_set ?_ GE224.out | refine below_set ?_ GE232.out) | exact HB.out)) hb); clear HO_7; clear BK224; clear BK232; clear HB; have HO_7 := n0_; have HO249 := n1_; have BK224 := n2_; have BK232 := n3_; have HB := n4_; clear n0_ n1_ n2_ n3_ n4_; (try clear hb); (try clear hb2); (try clear hk); (try clear hi); (try clear ho0)))
             go_roundg kj26
             case measure => have := HK1.out; have := HJ7.out; have := HJ26.out; omega
             case rel => exact ⟨(t247), (wrap64 (x18_1 + 1)), (by first | rfl | (simp; done) | (simp [*]; done)), H', ⟨by have := HK1.out; have := HJ7.out; have := HJ26.out; omega⟩, ⟨by (with_reducible repeat (first | apply Kd.V_alloc | apply Kd.V_drewN | apply Kd.V_drew)); exact Kd.V_mono HO249.out (fun _ hk => hk.1)⟩, ⟨by repeat (first | (with_reducible first | exact HB.out | apply below_alloc | apply pw_below_drewN | apply below_drew1 | refine below_set ?_ GE224.out | refine below_set ?_ GE232.out) | exact HB.out)⟩⟩
           · replace c36 := Bool.eq_false_iff.mpr c36
             subst c36
             have H1 : (repaint_Changed.l0 kj26 l0 l1 l2 x7_26 ji4 (wrap64 (x18_1 + 1))) = some r := by rw [if_neg (show ¬ (false = true) by decide)] at H; exact H
             clear H
             have H := H1
             clear H1
             have H' := Aside0.mk H
             clear H
             go_wp2
             go_roundg kj26
             case measure => have := HK1.out; have := HJ7.out; have := HJ26.out; omega
             case rel => exact ⟨(x7_26), (wrap64 (x18_1 + 1)), (by first | rfl | (simp; done) | (simp [*]; done)), H', ⟨by have := HK1.out; have := HJ7.out; have := HJ26.out; omega⟩, ⟨by (with_reducible repeat (first | apply Kd.V_alloc | apply Kd.V_drewN | apply Kd.V_drew)); exact Kd.V_mono HO_7.out (fun _ hk => hk.1)⟩, ⟨by repeat (first | (with_reducible first | exact HB.out | apply below_alloc | apply pw_below_drewN | apply below_drew1 | refine below_set ?_ GE224.out | refine below_set ?_ GE232.out) | exact HB.out)⟩⟩
   · rw [if_neg c5] at H
     have c5b0 : decide (x18_1 < ji4) = false := decide_eq_false c5
     clear c5
     by_cases c44 : 0 ≤ (x7_1.length : Int)
     · rw [if_pos c44] at H
       have c44b0 := eq_true c44
       have c44b1 : decide (0 ≤ (x7_1.length : Int)) = true := decide_eq_true c44
       clear c44
       by_cases c45 : (x7_1.length : Int) ≤ (x7_1.length : Int)
       · rw [if_pos c45] at H
         have c45b0 := eq_true c45
         have c45b1 : decide ((x7_1.length : Int) ≤ (x7_1.length : Int)) = true := decide_eq_true c45
         clear c45
         obtain ⟨y212, hy212⟩ : ∃ y_ : List (S26), y_ = (x7_1.take ((x7_1.length : Int) : Int).toNat) := ⟨_, rfl⟩
         replace H : (some y212) = some r := by first | (rw [hy212]; with_reducible exact H) | (have H2_ := (Option.bind_some _ _).symm.trans H; rw [hy212]; with_reducible exact H2_) | (have H2_ := (Option.bind_some _ _).symm.trans H; with_reducible exact H2_) | with_reducible exact H | (rw [hy212]; exact H) | exact H
         have Ny212 := Aside0.mk hy212
         clear hy212
         obtain rfl := Option.some.inj H
         obtain ⟨Ao46, co46, eo46⟩ := Kd.V_slice HO_7.out
         subst eo46
         have q47 : ((x7_1.length : Int) : Int) ≤ ((x7_1.length : Int) : Int) := of_decide_eq_true (by first | (with_reducible assumption) | assumption)
         obtain ⟨i047, hi047, _, hsz47, _⟩ := info_parts info26
         have hroom47 : x7_1.length ≤ co46 := (Kd.V_reads' HO_7.out).2.1
         have hC47 : Kd.F k26 _ _ Ao46 x7_1.length x7_1 := (Kd.V_at (base := w.heap.size) HO_7.out).2.2
         have hcut47 := Go.Proofs.Ytclpppejabfbbaa.Cut3.cut_to3 (P := Try.prog) 22 26 .i64 .i64 Try.underlying22 hi047 Ao46 x7_1.length co46 (x7_1.length : Int) (of_decide_eq_true (by first | (with_reducible assumption) | assumption)) q47 hroom47
         have hr47 := Kd.F_take (m := ((x7_1.length : Int) : Int).toNat) hC47 (by omega)
         have hy47 : y212.length = ((x7_1.length : Int) : Int).toNat := (by rw [Ny212.out, List.length_take]; omega)
         rw [← Ny212.out] at hr47
         rw [← hy47] at hcut47
         have HO216 := Aside0.mk (show Kd.V k26 26 _ w.heap.size _ (.slice Ao46 y212.length y212.length) y212 from Kd.V_mk (by omega) hr47)
         have HC216 := Aside0.mk (show y212.length ≤ y212.length from by omega)
         clear hr47 hC47 hroom47 hi047 hsz47
         have KY47 := Aside0.mk hy47
         clear hy47
         replace q47 := eq_true q47
         go_wp2
         go_ret
         exact ⟨_, by first | rfl | (simp [errW_none, errW_some] <;> rfl) | (simp only [← hji4]; first | rfl | (simp [errW_none, errW_some] <;> rfl)) | (simp [*, errW_none, errW_some] <;> rfl), by (with_reducible repeat (first | apply Kd.V_alloc | apply Kd.V_drewN | apply Kd.V_drew)); exact HO216.out, by repeat (first | (with_reducible first | exact HB.out | apply below_alloc | apply pw_below_drewN | apply below_drew1) | exact HB.out)⟩
       · rw [if_neg c45] at H
         exact absurd H (by simp)
     · rw [if_neg c44] at H
       exact absurd H (by simp)

/-! ### tableaulaw24_awake: function 42 -/
def tableaulaw24_awake.f (k : Nat)  : Option (Bool) := (some (([(⟨1, 0, 0, 0, 2, 2⟩ : S54)] : List (S54)) : List (S54))).bind fun y250 => ((repaint_Changed.f k ([] : List (S54)) y250 ([] : List (S52))).bind fun t253 => ((repaint_Changed.f k y250 y250 ([] : List (S52))).bind fun t256 => (if (t256.length : Int) = 0 then (if (t253.length : Int) = 1 then (if 0 < (t253.length : Int) then (some (((rd_T26 t253 0).f0) == 0 && (((rd_T26 t253 0).f1) == 0 && (((rd_T26 t253 0).f2) == 2 && (((rd_T26 t253 0).f3) == 2))))) else (none)) else (some false)) else (some false))))
theorem tableaulaw24_awake.mono : ∀ k, LeO (tableaulaw24_awake.f k ) (tableaulaw24_awake.f (k + 1) ) := by
 intro  k
 unfold tableaulaw24_awake.f
 repeat' first
  | (with_reducible exact repaint_Changed.mono _ _ _ _)
  | (with_reducible exact LeO.refl _)
  | (with_reducible exact LeO.none _)
  | (with_reducible refine LeO.ite ?_ ?_)
  | (with_reducible refine LeO.bind ?_ (fun _ => ?_))
  | exact repaint_Changed.mono _ _ _ _
  | exact LeO.none _
  | refine LeO.ite ?_ ?_
  | refine LeO.bind ?_ (fun _ => ?_)
set_option maxHeartbeats 8000000 in
set_option maxRecDepth 100000 in
theorem tableaulaw24_awake.calls (k : Nat)  (r : Bool) (w : World) (h : tableaulaw24_awake.f k  = some r) :
 Calls Try.prog 42 #[] w fun e w' => e = .returned (.bool r) ∧ Below w.heap.size w w' := by
 have hu54 := Try.underlying54
 have hu26 := Try.underlying26
 have HB := Aside0.mk (Below.refl w.heap.size w)
 have H : ((some (([(⟨1, 0, 0, 0, 2, 2⟩ : S54)] : List (S54)) : List (S54))).bind fun y250 => ((repaint_Changed.f k ([] : List (S54)) y250 ([] : List (S52))).bind fun t253 => ((repaint_Changed.f k y250 y250 ([] : List (S52))).bind fun t256 => (if (t256.length : Int) = 0 then (if (t253.length : Int) = 1 then (if 0 < (t253.length : Int) then (some (((rd_T26 t253 0).f0) == 0 && (((rd_T26 t253 0).f1) == 0 && (((rd_T26 t253 0).f2) == 2 && (((rd_T26 t253 0).f3) == 2))))) else (none)) else (some false)) else (some false))))) = some r := h
 clear h
 obtain ⟨y250, hy250⟩ : ∃ y_ : List (S54), y_ = (([(⟨1, 0, 0, 0, 2, 2⟩ : S54)] : List (S54))) := ⟨_, rfl⟩
 replace H : ((repaint_Changed.f k ([] : List (S54)) y250 ([] : List (S52))).bind fun t253 => ((repaint_Changed.f k y250 y250 ([] : List (S52))).bind fun t256 => (if (t256.length : Int) = 0 then (if (t253.length : Int) = 1 then (if 0 < (t253.length : Int) then (some (((rd_T26 t253 0).f0) == 0 && (((rd_T26 t253 0).f1) == 0 && (((rd_T26 t253 0).f2) == 2 && (((rd_T26 t253 0).f3) == 2))))) else (none)) else (some false)) else (some false)))) = some r := by first | (rw [hy250]; with_reducible exact H) | (have H2_ := (Option.bind_some _ _).symm.trans H; rw [hy250]; with_reducible exact H2_) | (have H2_ := (Option.bind_some _ _).symm.trans H; with_reducible exact H2_) | with_reducible exact H | (rw [hy250]; exact H) | exact H
 have Ny250 := Aside0.mk hy250
 clear hy250
 replace H := Option.bind_eq_some_iff.mp H
 obtain ⟨t253, A10, H⟩ := H
 replace H : ((repaint_Changed.f k y250 y250 ([] : List (S52))).bind fun t256 => (if (t256.length : Int) = 0 then (if (t253.length : Int) = 1 then (if 0 < (t253.length : Int) then (some (((rd_T26 t253 0).f0) == 0 && (((rd_T26 t253 0).f1) == 0 && (((rd_T26 t253 0).f2) == 2 && (((rd_T26 t253 0).f3) == 2))))) else (none)) else (some false)) else (some false))) = some r := H
 have A1 := Aside0.mk A10
 clear A10
 replace H := Option.bind_eq_some_iff.mp H
 obtain ⟨t256, A20, H⟩ := H
 replace H : (if (t256.length : Int) = 0 then (if (t253.length : Int) = 1 then (if 0 < (t253.length : Int) then (some (((rd_T26 t253 0).f0) == 0 && (((rd_T26 t253 0).f1) == 0 && (((rd_T26 t253 0).f2) == 2 && (((rd_T26 t253 0).f3) == 2))))) else (none)) else (some false)) else (some false)) = some r := H
 have A2 := Aside0.mk A20
 clear A20
 by_cases c3 : (t256.length : Int) = 0
 · rw [if_pos c3] at H
   have c3b0 : ((t256.length : Int) == 0) = true := beq_iff_eq.mpr c3
   have c3b1 : ((t256.length : Int) != 0) = false := bne_eq_false_iff_eq.mpr c3
   clear c3
   by_cases c4 : (t253.length : Int) = 1
   · rw [if_pos c4] at H
     have c4b0 : ((t253.length : Int) == 1) = true := beq_iff_eq.mpr c4
     have c4b1 : ((t253.length : Int) != 1) = false := bne_eq_false_iff_eq.mpr c4
     clear c4
     by_cases c5 : 0 < (t253.length : Int)
     · rw [if_pos c5] at H
       have c5b0 : decide (0 < (t253.length : Int)) = true := decide_eq_true c5
       have c5b1 : decide (0 < t253.length) = true := decide_eq_true (by omega)
       clear c5
       obtain rfl := Option.some.inj H
       go_enter Try.func42, Try.ntmps42
       go_wp2_with (first | ((with_reducible refine gate_dst (N := 4) rfl ?_); (try (refine gate_guard (by rfl) ?_; dsimp only)); refine Kd.R_lit k54 _ 54 ?hg (N := 4) ?hd (xs := ([(⟨1, 0, 0, 0, 2, 2⟩ : S54)] : List (S54))) (inner := [.int .i64 1, .int .i64 0, .int .i64 0, .int .i64 0, .int .i64 2, .int .i64 2]) (ok := fun _ => True) (okp := fun _ => True) ?hr ?hp (fun _ hk => hk) trivial (Below.refl _ _) (Nat.le_refl _) (by simp) ?_; (case hd => rfl); (case hg => rfl); (case hr => first | (go_simp; done) | (go_simp; rfl)); (case hp => exact (Reps.c6 (show Kd.M k54 _ _ _ (⟨1, 0, 0, 0, 2, 2⟩ : S54) [.int .i64 1, .int .i64 0, .int .i64 0, .int .i64 0, .int .i64 2, .int .i64 2] from (k54_mkM _ _ _ (⟨1, 0, 0, 0, 2, 2⟩ : S54) )) (Reps.none _ _))); intro v251 w6 ho7 hb hg_ hnew_; clear hg_ hnew_; (first | rw [← Ny250.out] at ho7 | (simp only [Int.reduceToNat] at ho7; rw [← Ny250.out] at ho7)); have n0_ := Aside0.mk (Kd.R_lower ho7 (below_size (by repeat (first | (with_reducible first | exact HB.out | apply below_alloc | apply pw_below_drewN | apply below_drew1) | exact HB.out)))); have n1_ := Aside0.mk (below_step (by repeat (first | (with_reducible first | exact HB.out | apply below_alloc | apply pw_below_drewN | apply below_drew1) | exact HB.out)) hb); clear HB; have HO252 := n0_; have HB := n1_; clear n0_ n1_; clear hb ho7; obtain ⟨Ao8, co8, eo8⟩ := Kd.R_slice HO252.out; subst eo8) | ((with_reducible refine gate_callee (f := 43) rfl ?_); refine goesL_ (some 6) rfl rfl Try.func43 (by kernel_rfl) rfl #[.slice none 0 0, .slice Ao8 y250.length co8, .slice none 0 0] rfl (by (try simp only [List.map_toArray, List.map_cons, List.map_nil]); first | done | rfl | (simp only [List.length_drop, List.length_take]; rfl)) ?_; (refine (repaint_Changed.calls k _ _ ([] : List (S54)) _ _ y250 _ _ ([] : List (S52)) t253 _ ?side1 ?side2 ?side3 ?side4 ?side5 ?side6 A1.out).mono ?_); (case side1 => exact Kd.C_nil _ _); (case side2 => exact Nat.le_refl _); (case side3 => repeat (first | exact (Kd.R_reads' HO252.out).2.2 | (with_reducible refine Kd.C_alloc ?_ _) | (with_reducible refine Kd.C_drewN ?_ _) | (with_reducible refine Kd.C_drew ?_))); (case side4 => exact (Kd.R_reads' HO252.out).2.1); (case side5 => exact Kd.C_nil _ _); (case side6 => exact Nat.le_refl _); rintro e w9 ⟨v254, rfl, ho0, hb⟩; refine ⟨_, rfl, ?_⟩; have n0_ := Aside0.mk (Kd.R_below (by (with_reducible repeat (first | apply Kd.R_alloc | apply Kd.R_drewN | apply Kd.R_drew)); exact HO252.out) hb); have n1_ := Aside0.mk (Kd.V_lower (Kd.V_mono (ok' := fun k_ => some k_ ≠ (.slice Ao8 y250.length co8 : Value).ownBlock) ho0 (fun k_ hk_ => (Kd.fresh' (Kd.R_lt (by (with_reducible repeat (first | apply Kd.R_alloc | apply Kd.R_drewN | apply Kd.R_drew)); exact HO252.out)) k_ hk_))) (below_size (by repeat (first | (with_reducible first | exact HB.out | apply below_alloc | apply pw_below_drewN | apply below_drew1) | exact HB.out)))); have n2_ := Aside0.mk (below_step (by repeat (first | (with_reducible first | exact HB.out | apply below_alloc | apply pw_below_drewN | apply below_drew1) | exact HB.out)) hb); clear HO252; clear HB; have HO252 := n0_; have HO255 := n1_; have HB := n2_; clear n0_ n1_ n2_; (try clear hb); (try clear hb2); (try clear hk); (try clear hi); (try clear ho0)) | ((with_reducible refine gate_callee (f := 43) rfl ?_); refine goesL_ (some 9) rfl rfl Try.func43 (by kernel_rfl) rfl #[.slice Ao8 y250.length co8, .slice Ao8 y250.length co8, .slice none 0 0] rfl (by (try simp only [List.map_toArray, List.map_cons, List.map_nil]); first | done | rfl | (simp only [List.length_drop, List.length_take]; rfl)) ?_; (refine (repaint_Changed.calls k _ _ y250 _ _ y250 _ _ ([] : List (S52)) t256 _ ?side1 ?side2 ?side3 ?side4 ?side5 ?side6 A2.out).mono ?_); (case side1 => repeat (first | exact (Kd.R_reads' HO252.out).2.2 | (with_reducible refine Kd.C_alloc ?_ _) | (with_reducible refine Kd.C_drewN ?_ _) | (with_reducible refine Kd.C_drew ?_))); (case side2 => exact (Kd.R_reads' HO252.out).2.1); (case side3 => repeat (first | exact (Kd.R_reads' HO252.out).2.2 | (with_reducible refine Kd.C_alloc ?_ _) | (with_reducible refine Kd.C_drewN ?_ _) | (with_reducible refine Kd.C_drew ?_))); (case side4 => exact (Kd.R_reads' HO252.out).2.1); (case side5 => exact Kd.C_nil _ _); (case side6 => exact Nat.le_refl _); rintro e w10 ⟨v257, rfl, ho0, hb⟩; refine ⟨_, rfl, ?_⟩; have n0_ := Aside0.mk (Kd.R_below (by (with_reducible repeat (first | apply Kd.R_alloc | apply Kd.R_drewN | apply Kd.R_drew)); exact HO252.out) hb); have n1_ := Aside0.mk (Kd.V_below (by (with_reducible repeat (first | apply Kd.V_alloc | apply Kd.V_drewN | apply Kd.V_drew)); exact HO255.out) hb); have n2_ := Aside0.mk (Kd.V_lower (Kd.V_mono (ok' := fun k_ => some k_ ≠ (.slice Ao8 y250.length co8 : Value).ownBlock) ho0 (fun k_ hk_ => (Kd.fresh' (Kd.R_lt (by (with_reducible repeat (first | apply Kd.R_alloc | apply Kd.R_drewN | apply Kd.R_drew)); exact HO252.out)) k_ hk_))) (below_size (by repeat (first | (with_reducible first | exact HB.out | apply below_alloc | apply pw_below_drewN | apply below_drew1) | exact HB.out)))); have n3_ := Aside0.mk (below_step (by repeat (first | (with_reducible first | exact HB.out | apply below_alloc | apply pw_below_drewN | apply below_drew1) | exact HB.out)) hb); clear HO252; clear HO255; clear HB; have HO252 := n0_; have HO255 := n1_; have HO258 := n2_; have HB := n3_; clear n0_ n1_ n2_ n3_; (try clear hb); (try clear hb2); (try clear hk); (try clear hi); (try clear ho0); obtain ⟨Ao11, co11, eo11⟩ := Kd.V_slice HO258.out; subst eo11; obtain ⟨Ao12, co12, eo12⟩ := Kd.V_slice HO255.out; subst eo12; have p259 : 0 ≤ (0 : Int) := (by omega); have q259 : 0 < (t253.length : Int) := of_decide_eq_true (by first | (with_reducible assumption) | assumption); obtain ⟨ad259, e259, hx259_0, hx259_1, hx259_2, hx259_3⟩ := at_T26 (Kd.V_reads' HO255.out).2.2 0 p259 q259; cases e259; have qi259 : (0 < t253.length) = True := eq_true (by omega); (try rw [show ((0 : Int)).toNat = 0 from rfl] at hx259_0); (try rw [show 0 * 4 = 0 from rfl] at hx259_0); (try rw [Addr.add_zero'] at hx259_0); (try rw [show ((0 : Int)).toNat = 0 from rfl] at hx259_1); (try rw [show 0 * 4 = 0 from rfl] at hx259_1); (try rw [Addr.add_zero'] at hx259_1); (try rw [show ((0 : Int)).toNat = 0 from rfl] at hx259_2); (try rw [show 0 * 4 = 0 from rfl] at hx259_2); (try rw [Addr.add_zero'] at hx259_2); (try rw [show ((0 : Int)).toNat = 0 from rfl] at hx259_3); (try rw [show 0 * 4 = 0 from rfl] at hx259_3); (try rw [Addr.add_zero'] at hx259_3); replace p259 := eq_true p259; replace q259 := eq_true q259))
       go_ret
       exact ⟨by first | rfl | (simp [errW_none, errW_some] <;> rfl) | (simp [*, errW_none, errW_some] <;> rfl), by repeat (first | (with_reducible first | exact HB.out | apply below_alloc | apply pw_below_drewN | apply below_drew1) | exact HB.out)⟩
     · rw [if_neg c5] at H
       exact absurd H (by simp)
   · rw [if_neg c4] at H
     have c4b0 : ((t253.length : Int) == 1) = false := beq_eq_false_iff_ne.mpr c4
     have c4b1 : ((t253.length : Int) != 1) = true := bne_iff_ne.mpr c4
     obtain rfl := Option.some.inj H
     go_enter Try.func42, Try.ntmps42
     go_wp2_with (first | ((with_reducible refine gate_dst (N := 4) rfl ?_); (try (refine gate_guard (by rfl) ?_; dsimp only)); refine Kd.R_lit k54 _ 54 ?hg (N := 4) ?hd (xs := ([(⟨1, 0, 0, 0, 2, 2⟩ : S54)] : List (S54))) (inner := [.int .i64 1, .int .i64 0, .int .i64 0, .int .i64 0, .int .i64 2, .int .i64 2]) (ok := fun _ => True) (okp := fun _ => True) ?hr ?hp (fun _ hk => hk) trivial (Below.refl _ _) (Nat.le_refl _) (by simp) ?_; (case hd => rfl); (case hg => rfl); (case hr => first | (go_simp; done) | (go_simp; rfl)); (case hp => exact (Reps.c6 (show Kd.M k54 _ _ _ (⟨1, 0, 0, 0, 2, 2⟩ : S54) [.int .i64 1, .int .i64 0, .int .i64 0, .int .i64 0, .int .i64 2, .int .i64 2] from (k54_mkM _ _ _ (⟨1, 0, 0, 0, 2, 2⟩ : S54) )) (Reps.none _ _))); intro v251 w13 ho14 hb hg_ hnew_; clear hg_ hnew_; (first | rw [← Ny250.out] at ho14 | (simp only [Int.reduceToNat] at ho14; rw [← Ny250.out] at ho14)); have n0_ := Aside0.mk (Kd.R_lower ho14 (below_size (by repeat (first | (with_reducible first | exact HB.out | apply below_alloc | apply pw_below_drewN | apply below_drew1) | exact HB.out)))); have n1_ := Aside0.mk (below_step (by repeat (first | (with_reducible first | exact HB.out | apply below_alloc | apply pw_below_drewN | apply below_drew1) | exact HB.out)) hb); clear HB; have HO252 := n0_; have HB := n1_; clear n0_ n1_; clear hb ho14; obtain ⟨Ao15, co15, eo15⟩ := Kd.R_slice HO252.out; subst eo15) | ((with_reducible refine gate_callee (f := 43) rfl ?_); refine goesL_ (some 6) rfl rfl Try.func43 (by kernel_rfl) rfl #[.slice none 0 0, .slice Ao15 y250.length co15, .slice none 0 0] rfl (by (try simp only [List.map_toArray, List.map_cons, List.map_nil]); first | done | rfl | (simp only [List.length_drop, List.length_take]; rfl)) ?_; (refine (repaint_Changed.calls k _ _ ([] : List (S54)) _ _ y250 _ _ ([] : List (S52)) t253 _ ?side1 ?side2 ?side3 ?side4 ?side5 ?side6 A1.out).mono ?_); (case side1 => exact Kd.C_nil _ _); (case side2 => exact Nat.le_refl _); (case side3 => repeat (first | exact (Kd.R_reads' HO252.out).2.2 | (with_reducible refine Kd.C_alloc ?_ _) | (with_reducible refine Kd.C_drewN ?_ _) | (with_reducible refine Kd.C_drew ?_))); (case side4 => exact (Kd.R_reads' HO252.out).2.1); (case side5 => exact Kd.C_nil _ _); (case side6 => exact Nat.le_refl _); rintro e w16 ⟨v254, rfl, ho0, hb⟩; refine ⟨_, rfl, ?_⟩; have n0_ := Aside0.mk (Kd.R_below (by (with_reducible repeat (first | apply Kd.R_alloc | apply Kd.R_drewN | apply Kd.R_drew)); exact HO252.out) hb); have n1_ := Aside0.mk (Kd.V_lower (Kd.V_mono (ok' := fun k_ => some k_ ≠ (.slice Ao15 y250.length co15 : Value).ownBlock) ho0 (fun k_ hk_ => (Kd.fresh' (Kd.R_lt (by (with_reducible repeat (first | apply Kd.R_alloc | apply Kd.R_drewN | apply Kd.R_drew)); exact HO252.out)) k_ hk_))) (below_size (by repeat (first | (with_reducible first | exact HB.out | apply below_alloc | apply pw_below_drewN | apply below_drew1) | exact HB.out)))); have n2_ := Aside0.mk (below_step (by repeat (first | (with_reducible first | exact HB.out | apply below_alloc | apply pw_below_drewN | apply below_drew1) | exact HB.out)) hb); clear HO252; clear HB; have HO252 := n0_; have HO255 := n1_; have HB := n2_; clear n0_ n1_ n2_; (try clear hb); (try clear hb2); (try clear hk); (try clear hi); (try clear ho0)) | ((with_reducible refine gate_callee (f := 43) rfl ?_); refine goesL_ (some 9) rfl rfl Try.func43 (by kernel_rfl) rfl #[.slice Ao15 y250.length co15, .slice Ao15 y250.length co15, .slice none 0 0] rfl (by (try simp only [List.map_toArray, List.map_cons, List.map_nil]); first | done | rfl | (simp only [List.length_drop, List.length_take]; rfl)) ?_; (refine (repaint_Changed.calls k _ _ y250 _ _ y250 _ _ ([] : List (S52)) t256 _ ?side1 ?side2 ?side3 ?side4 ?side5 ?side6 A2.out).mono ?_); (case side1 => repeat (first | exact (Kd.R_reads' HO252.out).2.2 | (with_reducible refine Kd.C_alloc ?_ _) | (with_reducible refine Kd.C_drewN ?_ _) | (with_reducible refine Kd.C_drew ?_))); (case side2 => exact (Kd.R_reads' HO252.out).2.1); (case side3 => repeat (first | exact (Kd.R_reads' HO252.out).2.2 | (with_reducible refine Kd.C_alloc ?_ _) | (with_reducible refine Kd.C_drewN ?_ _) | (with_reducible refine Kd.C_drew ?_))); (case side4 => exact (Kd.R_reads' HO252.out).2.1); (case side5 => exact Kd.C_nil _ _); (case side6 => exact Nat.le_refl _); rintro e w17 ⟨v257, rfl, ho0, hb⟩; refine ⟨_, rfl, ?_⟩; have n0_ := Aside0.mk (Kd.R_below (by (with_reducible repeat (first | apply Kd.R_alloc | apply Kd.R_drewN | apply Kd.R_drew)); exact HO252.out) hb); have n1_ := Aside0.mk (Kd.V_below (by (with_reducible repeat (first | apply Kd.V_alloc | apply Kd.V_drewN | apply Kd.V_drew)); exact HO255.out) hb); have n2_ := Aside0.mk (Kd.V_lower (Kd.V_mono (ok' := fun k_ => some k_ ≠ (.slice Ao15 y250.length co15 : Value).ownBlock) ho0 (fun k_ hk_ => (Kd.fresh' (Kd.R_lt (by (with_reducible repeat (first | apply Kd.R_alloc | apply Kd.R_drewN | apply Kd.R_drew)); exact HO252.out)) k_ hk_))) (below_size (by repeat (first | (with_reducible first | exact HB.out | apply below_alloc | apply pw_below_drewN | apply below_drew1) | exact HB.out)))); have n3_ := Aside0.mk (below_step (by repeat (first | (with_reducible first | exact HB.out | apply below_alloc | apply pw_below_drewN | apply below_drew1) | exact HB.out)) hb); clear HO252; clear HO255; clear HB; have HO252 := n0_; have HO255 := n1_; have HO258 := n2_; have HB := n3_; clear n0_ n1_ n2_ n3_; (try clear hb); (try clear hb2); (try clear hk); (try clear hi); (try clear ho0); obtain ⟨Ao18, co18, eo18⟩ := Kd.V_slice HO258.out; subst eo18; obtain ⟨Ao19, co19, eo19⟩ := Kd.V_slice HO255.out; subst eo19))
     go_ret
     exact ⟨by first | rfl | (simp [errW_none, errW_some] <;> rfl) | (simp [*, errW_none, errW_some] <;> rfl), by repeat (first | (with_reducible first | exact HB.out | apply below_alloc | apply pw_below_drewN | apply below_drew1) | exact HB.out)⟩
 · rw [if_neg c3] at H
   have c3b0 : ((t256.length : Int) == 0) = false := beq_eq_false_iff_ne.mpr c3
   have c3b1 : ((t256.length : Int) != 0) = true := bne_iff_ne.mpr c3
   have c3b2 : ¬ (t256 = []) := fun h_ => c3 (by rw [h_]; rfl)
   obtain rfl := Option.some.inj H
   go_enter Try.func42, Try.ntmps42
   go_wp2_with (first | ((with_reducible refine gate_dst (N := 4) rfl ?_); (try (refine gate_guard (by rfl) ?_; dsimp only)); refine Kd.R_lit k54 _ 54 ?hg (N := 4) ?hd (xs := ([(⟨1, 0, 0, 0, 2, 2⟩ : S54)] : List (S54))) (inner := [.int .i64 1, .int .i64 0, .int .i64 0, .int .i64 0, .int .i64 2, .int .i64 2]) (ok := fun _ => True) (okp := fun _ => True) ?hr ?hp (fun _ hk => hk) trivial (Below.refl _ _) (Nat.le_refl _) (by simp) ?_; (case hd => rfl); (case hg => rfl); (case hr => first | (go_simp; done) | (go_simp; rfl)); (case hp => exact (Reps.c6 (show Kd.M k54 _ _ _ (⟨1, 0, 0, 0, 2, 2⟩ : S54) [.int .i64 1, .int .i64 0, .int .i64 0, .int .i64 0, .int .i64 2, .int .i64 2] from (k54_mkM _ _ _ (⟨1, 0, 0, 0, 2, 2⟩ : S54) )) (Reps.none _ _))); intro v251 w20 ho21 hb hg_ hnew_; clear hg_ hnew_; (first | rw [← Ny250.out] at ho21 | (simp only [Int.reduceToNat] at ho21; rw [← Ny250.out] at ho21)); have n0_ := Aside0.mk (Kd.R_lower ho21 (below_size (by repeat (first | (with_reducible first | exact HB.out | apply below_alloc | apply pw_below_drewN | apply below_drew1) | exact HB.out)))); have n1_ := Aside0.mk (below_step (by repeat (first | (with_reducible first | exact HB.out | apply below_alloc | apply pw_below_drewN | apply below_drew1) | exact HB.out)) hb); clear HB; have HO252 := n0_; have HB := n1_; clear n0_ n1_; clear hb ho21; obtain ⟨Ao22, co22, eo22⟩ := Kd.R_slice HO252.out; subst eo22) | ((with_reducible refine gate_callee (f := 43) rfl ?_); refine goesL_ (some 6) rfl rfl Try.func43 (by kernel_rfl) rfl #[.slice none 0 0, .slice Ao22 y250.length co22, .slice none 0 0] rfl (by (try simp only [List.map_toArray, List.map_cons, List.map_nil]); first | done | rfl | (simp only [List.length_drop, List.length_take]; rfl)) ?_; (refine (repaint_Changed.calls k _ _ ([] : List (S54)) _ _ y250 _ _ ([] : List (S52)) t253 _ ?side1 ?side2 ?side3 ?side4 ?side5 ?side6 A1.out).mono ?_); (case side1 => exact Kd.C_nil _ _); (case side2 => exact Nat.le_refl _); (case side3 => repeat (first | exact (Kd.R_reads' HO252.out).2.2 | (with_reducible refine Kd.C_alloc ?_ _) | (with_reducible refine Kd.C_drewN ?_ _) | (with_reducible refine Kd.C_drew ?_))); (case side4 => exact (Kd.R_reads' HO252.out).2.1); (case side5 => exact Kd.C_nil _ _); (case side6 => exact Nat.le_refl _); rintro e w23 ⟨v254, rfl, ho0, hb⟩; refine ⟨_, rfl, ?_⟩; have n0_ := Aside0.mk (Kd.R_below (by (with_reducible repeat (first | apply Kd.R_alloc | apply Kd.R_drewN | apply Kd.R_drew)); exact HO252.out) hb); have n1_ := Aside0.mk (Kd.V_lower (Kd.V_mono (ok' := fun k_ => some k_ ≠ (.slice Ao22 y250.length co22 : Value).ownBlock) ho0 (fun k_ hk_ => (Kd.fresh' (Kd.R_lt (by (with_reducible repeat (first | apply Kd.R_alloc | apply Kd.R_drewN | apply Kd.R_drew)); exact HO252.out)) k_ hk_))) (below_size (by repeat (first | (with_reducible first | exact HB.out | apply below_alloc | apply pw_below_drewN | apply below_drew1) | exact HB.out)))); have n2_ := Aside0.mk (below_step (by repeat (first | (with_reducible first | exact HB.out | apply below_alloc | apply pw_below_drewN | apply below_drew1) | exact HB.out)) hb); clear HO252; clear HB; have HO252 := n0_; have HO255 := n1_; have HB := n2_; clear n0_ n1_ n2_; (try clear hb); (try clear hb2); (try clear hk); (try clear hi); (try clear ho0)) | ((with_reducible refine gate_callee (f := 43) rfl ?_); refine goesL_ (some 9) rfl rfl Try.func43 (by kernel_rfl) rfl #[.slice Ao22 y250.length co22, .slice Ao22 y250.length co22, .slice none 0 0] rfl (by (try simp only [List.map_toArray, List.map_cons, List.map_nil]); first | done | rfl | (simp only [List.length_drop, List.length_take]; rfl)) ?_; (refine (repaint_Changed.calls k _ _ y250 _ _ y250 _ _ ([] : List (S52)) t256 _ ?side1 ?side2 ?side3 ?side4 ?side5 ?side6 A2.out).mono ?_); (case side1 => repeat (first | exact (Kd.R_reads' HO252.out).2.2 | (with_reducible refine Kd.C_alloc ?_ _) | (with_reducible refine Kd.C_drewN ?_ _) | (with_reducible refine Kd.C_drew ?_))); (case side2 => exact (Kd.R_reads' HO252.out).2.1); (case side3 => repeat (first | exact (Kd.R_reads' HO252.out).2.2 | (with_reducible refine Kd.C_alloc ?_ _) | (with_reducible refine Kd.C_drewN ?_ _) | (with_reducible refine Kd.C_drew ?_))); (case side4 => exact (Kd.R_reads' HO252.out).2.1); (case side5 => exact Kd.C_nil _ _); (case side6 => exact Nat.le_refl _); rintro e w24 ⟨v257, rfl, ho0, hb⟩; refine ⟨_, rfl, ?_⟩; have n0_ := Aside0.mk (Kd.R_below (by (with_reducible repeat (first | apply Kd.R_alloc | apply Kd.R_drewN | apply Kd.R_drew)); exact HO252.out) hb); have n1_ := Aside0.mk (Kd.V_below (by (with_reducible repeat (first | apply Kd.V_alloc | apply Kd.V_drewN | apply Kd.V_drew)); exact HO255.out) hb); have n2_ := Aside0.mk (Kd.V_lower (Kd.V_mono (ok' := fun k_ => some k_ ≠ (.slice Ao22 y250.length co22 : Value).ownBlock) ho0 (fun k_ hk_ => (Kd.fresh' (Kd.R_lt (by (with_reducible repeat (first | apply Kd.R_alloc | apply Kd.R_drewN | apply Kd.R_drew)); exact HO252.out)) k_ hk_))) (below_size (by repeat (first | (with_reducible first | exact HB.out | apply below_alloc | apply pw_below_drewN | apply below_drew1) | exact HB.out)))); have n3_ := Aside0.mk (below_step (by repeat (first | (with_reducible first | exact HB.out | apply below_alloc | apply pw_below_drewN | apply below_drew1) | exact HB.out)) hb); clear HO252; clear HO255; clear HB; have HO252 := n0_; have HO255 := n1_; have HO258 := n2_; have HB := n3_; clear n0_ n1_ n2_ n3_; (try clear hb); (try clear hb2); (try clear hk); (try clear hi); (try clear ho0); obtain ⟨Ao25, co25, eo25⟩ := Kd.V_slice HO258.out; subst eo25))
   go_ret
   exact ⟨by first | rfl | (simp [errW_none, errW_some] <;> rfl) | (simp [*, errW_none, errW_some] <;> rfl), by repeat (first | (with_reducible first | exact HB.out | apply below_alloc | apply pw_below_drewN | apply below_drew1) | exact HB.out)⟩

/-! ### tableauref08_Check: function 30 -/
def tableauref08_Check.l0 : Nat → List (S26) → Int → Option (Bool)
 | 0, _, _ => none
 | k + 1, x0, x3 => if x3 < (x0.length : Int) then (if 0 ≤ x3 then ((tableauref07_Check.f ((rd_T26 x0 x3).f0) ((rd_T26 x0 x3).f1) ((rd_T26 x0 x3).f2) ((rd_T26 x0 x3).f3)).bind fun t294 => (if t294 = true then (tableauref08_Check.l0 k x0 (wrap64 (x3 + 1))) else (some false))) else (none)) else ((tableauref08_make1.f x0 ([] : List (S26)) 0).bind fun t295 => ((tableauref08_Same.f k x0 t295).bind fun t298 => (some t298)))
def tableauref08_Check.f (k : Nat) (l0 : List (S26)) : Option (Bool) := tableauref08_Check.l0 k l0 0
theorem tableauref08_Check.mono_l : ∀ k, (∀ y0 y1, LeO (tableauref08_Check.l0 k y0 y1) (tableauref08_Check.l0 (k + 1) y0 y1))
 | 0 => fun _ _ r h => by simp [tableauref08_Check.l0] at h
 | k + 1 => by
  have ih0 := tableauref08_Check.mono_l k
  · intro y0 y1
    unfold tableauref08_Check.l0
    repeat' first
    | (with_reducible exact ih0 _ _)
    | (with_reducible exact tableauref08_Same.mono _ _ _)
    | (with_reducible exact LeO.refl _)
    | (with_reducible exact LeO.none _)
    | (with_reducible refine LeO.ite ?_ ?_)
    | (with_reducible refine LeO.bind ?_ (fun _ => ?_))
    | exact ih0 _ _
    | exact tableauref08_Same.mono _ _ _
    | exact LeO.none _
    | refine LeO.ite ?_ ?_
    | refine LeO.bind ?_ (fun _ => ?_)
theorem tableauref08_Check.mono : ∀ a0 k, LeO (tableauref08_Check.f k a0) (tableauref08_Check.f (k + 1) a0) := by
 intro a0 k
 have ih0 := tableauref08_Check.mono_l k
 unfold tableauref08_Check.f
 repeat' first
  | (with_reducible exact ih0 _ _)
  | (with_reducible exact tableauref08_Same.mono _ _ _)
  | (with_reducible exact LeO.refl _)
  | (with_reducible exact LeO.none _)
  | (with_reducible refine LeO.ite ?_ ?_)
  | (with_reducible refine LeO.bind ?_ (fun _ => ?_))
  | exact ih0 _ _
  | exact tableauref08_Same.mono _ _ _
  | exact LeO.none _
  | refine LeO.ite ?_ ?_
  | refine LeO.bind ?_ (fun _ => ?_)
set_option maxHeartbeats 8000000 in
set_option maxRecDepth 100000 in
theorem tableauref08_Check.calls (k : Nat) (A0 : Option Addr) (c0 : Nat) (l0 : List (S26)) (r : Bool) (w : World) (hr0 : Kd.C k26 w A0 l0.length l0) (hc0 : l0.length ≤ c0) (h : tableauref08_Check.f k l0 = some r) :
 Calls Try.prog 30 #[.slice A0 l0.length c0] w fun e w' => e = .returned (.bool r) ∧ Below w.heap.size w w' := by
 have hu26 := Try.underlying26
 have HR0 := Aside0.mk hr0
 have HC0 := Aside0.mk hc0
 clear hr0 hc0
 have HB := Aside0.mk (Below.refl w.heap.size w)
 have H : (tableauref08_Check.l0 k l0 0) = some r := h
 clear h
 have H' := Aside0.mk H
 clear H
 go_enter Try.func30, Try.ntmps30
 go_wp2
 go_loopg [3] k (fun kq v3 w' => ∃ (x3_1 : Int), v3 = .int .i64 x3_1 ∧ Aside0 (tableauref08_Check.l0 kq l0 x3_1 = some r) ∧ Aside0 (kq ≤ k) ∧ Aside0 (Below w.heap.size w w'))
 case atStart => exact ⟨(0), (by first | rfl | (simp; done) | (simp [*]; done)), H', ⟨Nat.le_refl _⟩, ⟨by repeat (first | (with_reducible first | exact HB.out | apply below_alloc | apply pw_below_drewN | apply below_drew1) | exact HB.out)⟩⟩
 case round =>
  clear H'
  obtain ⟨x3_1, rfl, HA, HK1, HB⟩ := hrel
  cases gk with
  | zero => exact absurd HA.out (by simp [tableauref08_Check.l0])
  | succ k1 =>
   have H := HA.out
   clear HA
   simp only [tableauref08_Check.l0] at H
   by_cases c2 : x3_1 < (l0.length : Int)
   · rw [if_pos c2] at H
     have c2b0 : decide (x3_1 < (l0.length : Int)) = true := decide_eq_true c2
     clear c2
     by_cases c3 : 0 ≤ x3_1
     · rw [if_pos c3] at H
       have c3b0 : decide (0 ≤ x3_1) = true := decide_eq_true c3
       clear c3
       replace H := Option.bind_eq_some_iff.mp H
       obtain ⟨t294, A40, H⟩ := H
       replace H : (if t294 = true then (tableauref08_Check.l0 k1 l0 (wrap64 (x3_1 + 1))) else (some false)) = some r := H
       have A4 := Aside0.mk A40
       clear A40
       by_cases c5 : t294 = true
       · subst c5
         have H1 : (tableauref08_Check.l0 k1 l0 (wrap64 (x3_1 + 1))) = some r := by rw [if_pos rfl] at H; exact H
         clear H
         have H := H1
         clear H1
         have H' := Aside0.mk H
         clear H
         have p293 : 0 ≤ (x3_1 : Int) := of_decide_eq_true (by first | (with_reducible assumption) | assumption)
         have q293 : x3_1 < (l0.length : Int) := of_decide_eq_true (by first | (with_reducible assumption) | assumption)
         obtain ⟨ad293, e293, hx293_0, hx293_1, hx293_2, hx293_3⟩ := at_T26 HR0.out x3_1 p293 q293
         cases e293
         replace hx293_0 := (HB.out.cell (World.block_lt_of_cell? w _ hx293_0)).trans hx293_0
         replace hx293_1 := (HB.out.cell (World.block_lt_of_cell? w _ hx293_1)).trans hx293_1
         replace hx293_2 := (HB.out.cell (World.block_lt_of_cell? w _ hx293_2)).trans hx293_2
         replace hx293_3 := (HB.out.cell (World.block_lt_of_cell? w _ hx293_3)).trans hx293_3
         replace p293 := eq_true p293
         replace q293 := eq_true q293
         go_wp2_with (first | ((with_reducible refine gate_callee (f := 56) rfl ?_); refine goesL_ (some 14) rfl rfl Try.func56 (by kernel_rfl) rfl #[.agg #[.int .i64 ((rd_T26 l0 x3_1).f0), .int .i64 ((rd_T26 l0 x3_1).f1), .int .i64 ((rd_T26 l0 x3_1).f2), .int .i64 ((rd_T26 l0 x3_1).f3)]] rfl (by (try simp only [List.map_toArray, List.map_cons, List.map_nil]); first | done | rfl | (simp only [List.length_drop, List.length_take]; rfl)) ?_; (with_reducible refine (tableauref07_Check.calls ((rd_T26 l0 x3_1).f0) ((rd_T26 l0 x3_1).f1) ((rd_T26 l0 x3_1).f2) ((rd_T26 l0 x3_1).f3) true _ A4.out).mono ?_); rintro e w6 ⟨rfl, hb⟩; refine ⟨_, rfl, ?_⟩; have n0_ := Aside0.mk (below_step (by repeat (first | (with_reducible first | exact HB.out | apply below_alloc | apply pw_below_drewN | apply below_drew1) | exact HB.out)) hb); clear HB; have HB := n0_; clear n0_; (try clear hb); (try clear hb2); (try clear hk); (try clear hi)))
         go_roundg k1
         case measure => have := HK1.out; omega
         case rel => exact ⟨(wrap64 (x3_1 + 1)), (by first | rfl | (simp; done) | (simp [*]; done)), H', ⟨by have := HK1.out; omega⟩, ⟨by repeat (first | (with_reducible first | exact HB.out | apply below_alloc | apply pw_below_drewN | apply below_drew1) | exact HB.out)⟩⟩
       · replace c5 := Bool.eq_false_iff.mpr c5
         subst c5
         have H1 : (some false) = some r := by rw [if_neg (show ¬ (false = true) by decide)] at H; exact H
         clear H
         have H := H1
         clear H1
         obtain rfl := Option.some.inj H
         have p293 : 0 ≤ (x3_1 : Int) := of_decide_eq_true (by first | (with_reducible assumption) | assumption)
         have q293 : x3_1 < (l0.length : Int) := of_decide_eq_true (by first | (with_reducible assumption) | assumption)
         obtain ⟨ad293, e293, hx293_0, hx293_1, hx293_2, hx293_3⟩ := at_T26 HR0.out x3_1 p293 q293
         cases e293
         replace hx293_0 := (HB.out.cell (World.block_lt_of_cell? w _ hx293_0)).trans hx293_0
         replace hx293_1 := (HB.out.cell (World.block_lt_of_cell? w _ hx293_1)).trans hx293_1
         replace hx293_2 := (HB.out.cell (World.block_lt_of_cell? w _ hx293_2)).trans hx293_2
         replace hx293_3 := (HB.out.cell (World.block_lt_of_cell? w _ hx293_3)).trans hx293_3
         replace p293 := eq_true p293
         replace q293 := eq_true q293
         go_wp2_with (first | ((with_reducible refine gate_callee (f := 56) rfl ?_); refine goesL_ (some 14) rfl rfl Try.func56 (by kernel_rfl) rfl #[.agg #[.int .i64 ((rd_T26 l0 x3_1).f0), .int .i64 ((rd_T26 l0 x3_1).f1), .int .i64 ((rd_T26 l0 x3_1).f2), .int .i64 ((rd_T26 l0 x3_1).f3)]] rfl (by (try simp only [List.map_toArray, List.map_cons, List.map_nil]); first | done | rfl | (simp only [List.length_drop, List.length_take]; rfl)) ?_; (with_reducible refine (tableauref07_Check.calls ((rd_T26 l0 x3_1).f0) ((rd_T26 l0 x3_1).f1) ((rd_T26 l0 x3_1).f2) ((rd_T26 l0 x3_1).f3) false _ A4.out).mono ?_); rintro e w7 ⟨rfl, hb⟩; refine ⟨_, rfl, ?_⟩; have n0_ := Aside0.mk (below_step (by repeat (first | (with_reducible first | exact HB.out | apply below_alloc | apply pw_below_drewN | apply below_drew1) | exact HB.out)) hb); clear HB; have HB := n0_; clear n0_; (try clear hb); (try clear hb2); (try clear hk); (try clear hi)))
         go_ret
         exact ⟨by first | rfl | (simp [errW_none, errW_some] <;> rfl) | (simp [*, errW_none, errW_some] <;> rfl), by repeat (first | (with_reducible first | exact HB.out | apply below_alloc | apply pw_below_drewN | apply below_drew1) | exact HB.out)⟩
     · rw [if_neg c3] at H
       exact absurd H (by simp)
   · rw [if_neg c2] at H
     have c2b0 : decide (x3_1 < (l0.length : Int)) = false := decide_eq_false c2
     clear c2
     replace H := Option.bind_eq_some_iff.mp H
     obtain ⟨t295, A80, H⟩ := H
     replace H : ((tableauref08_Same.f k1 l0 t295).bind fun t298 => (some t298)) = some r := H
     have A8 := Aside0.mk A80
     clear A80
     replace H := Option.bind_eq_some_iff.mp H
     obtain ⟨t298, A90, H⟩ := H
     replace H : (some t298) = some r := H
     have A9 := Aside0.mk A90
     clear A90
     obtain rfl := Option.some.inj H
     go_wp2_with (first | ((with_reducible refine gate_callee (f := 58) rfl ?_); refine goesL_ (some 18) rfl rfl Try.func58 (by kernel_rfl) rfl #[.slice A0 l0.length c0, .slice none 0 0, .int .i64 0] rfl (by (try simp only [List.map_toArray, List.map_cons, List.map_nil]); first | done | rfl | (simp only [List.length_drop, List.length_take]; rfl)) ?_; (refine (tableauref08_make1.calls _ _ l0 _ _ ([] : List (S26)) 0 t295 _ ?side1 ?side2 ?side3 ?side4 A8.out).mono ?_); (case side1 => repeat (first | exact (Kd.C_below HR0.out HB.out) | (with_reducible refine Kd.C_alloc ?_ _) | (with_reducible refine Kd.C_drewN ?_ _) | (with_reducible refine Kd.C_drew ?_))); (case side2 => exact HC0.out); (case side3 => exact Kd.C_nil _ _); (case side4 => exact Nat.le_refl _); rintro e w10 ⟨v296, rfl, ho0, hb⟩; refine ⟨_, rfl, ?_⟩; have n0_ := Aside0.mk (Kd.R_lower ho0 (below_size (by repeat (first | (with_reducible first | exact HB.out | apply below_alloc | apply pw_below_drewN | apply below_drew1) | exact HB.out)))); have n1_ := Aside0.mk (below_step (by repeat (first | (with_reducible first | exact HB.out | apply below_alloc | apply pw_below_drewN | apply below_drew1) | exact HB.out)) hb); clear HB; have HO297 := n0_; have HB := n1_; clear n0_ n1_; (try clear hb); (try clear hb2); (try clear hk); (try clear hi); (try clear ho0); obtain ⟨Ao11, co11, eo11⟩ := Kd.R_slice HO297.out; subst eo11) | ((with_reducible refine gate_callee (f := 57) rfl ?_); refine goesL_ (some 19) rfl rfl Try.func57 (by kernel_rfl) rfl #[.slice A0 l0.length c0, .slice Ao11 t295.length co11] rfl (by (try simp only [List.map_toArray, List.map_cons, List.map_nil]); first | done | rfl | (simp only [List.length_drop, List.length_take]; rfl)) ?_; (with_reducible refine (tableauref08_Same.calls k1 _ _ l0 _ _ t295 t298 _ ?side1 ?side2 ?side3 ?side4 A9.out).mono ?_); (case side1 => repeat (first | exact (Kd.C_below HR0.out HB.out) | (with_reducible refine Kd.C_alloc ?_ _) | (with_reducible refine Kd.C_drewN ?_ _) | (with_reducible refine Kd.C_drew ?_))); (case side2 => exact HC0.out); (case side3 => repeat (first | exact (Kd.R_reads' HO297.out).2.2 | (with_reducible refine Kd.C_alloc ?_ _) | (with_reducible refine Kd.C_drewN ?_ _) | (with_reducible refine Kd.C_drew ?_))); (case side4 => exact (Kd.R_reads' HO297.out).2.1); rintro e w' ⟨rfl, ⟨nd, rfl⟩⟩; refine ⟨_, rfl, ?_⟩))
     go_ret
     exact ⟨by first | rfl | (simp [errW_none, errW_some] <;> rfl) | (simp [*, errW_none, errW_some] <;> rfl), by repeat (first | (with_reducible first | exact HB.out | apply below_alloc | apply pw_below_drewN | apply below_drew1) | exact HB.out)⟩


end Go.Proofs.Ytclpppejabfbbaa.PC
-- Printed for this claim by a program over the kit's print.
namespace Go.Proofs.Ytclpppejabfbbaa.PC
open Go.RowKit Go.Proofs.YtclpppejabfbbaaW.PrintWords Go.Proofs.YtclpppejabfbbaaW.PrintLast Go.Proofs.YtclpppejabfbbaaW.PrintMore
attribute [local go_sem] max2_int min2_int max_two min_two max_three min_three max_four min_four   -- for this text's walks alone
set_option linter.unusedVariables false
set_option linter.unusedSimpArgs false

attribute [local go_sem high] eqA26 eqA54


end Go.Proofs.Ytclpppejabfbbaa.PC
