-- Printed for this claim by a program over the kit's print.
import Derived.Test.YtclpppejabfbbaaPFx0
import Derived.Test.YtclpppejabfbbaaPFx1
import Derived.Test.YtclpppejabfbbaaPFx3
import Derived.Test.YtclpppejabfbbaaPFx4
import Derived.Test.YtclpppejabfbbaaPFGivenT
import Derived.Test.YtclpppejabfbbaaCut3
namespace Go.Proofs.Ytclpppejabfbbaa.PF
open Go.RowKit Go.Proofs.YtclpppejabfbbaaW.PrintWords Go.Proofs.YtclpppejabfbbaaW.PrintLast Go.Proofs.YtclpppejabfbbaaW.PrintMore
attribute [local go_sem] max2_int min2_int max_two min_two max_three min_three max_four min_four   -- for this text's walks alone
set_option linter.unusedVariables false
set_option linter.unusedSimpArgs false

attribute [local go_sem high] eqA26 eqA54

/-! ### repaint_Changed: function 43 -/
mutual
def repaint_Changed.l0 : Nat → List (S54) → List (S54) → List (S52) → List (S26) → Int → Int → Option ((List (S26)))
 | 0, _, _, _, _, _, _ => none
 | k + 1, x0, x1, x2, x7, x17, x18 => if x18 < x17 then ((repaint_at.f x0 x18).bind fun bt199 => ((repaint_at.f x1 x18).bind fun bt207 => (if bt199.2.2.2.2.2.2 = true then (if bt207.2.2.2.2.2.2 = true then (repaint_Changed.j1 k x0 x1 x2 x7 bt199.2.2.2.2.2.2 bt207.2.2.2.2.2.2 x17 x18 (bt199.1 == bt207.1 && (bt199.2.1 == bt207.2.1 && (bt199.2.2.1 == bt207.2.2.1 && (bt199.2.2.2.1 == bt207.2.2.2.1 && (bt199.2.2.2.2.1 == bt207.2.2.2.2.1 && (bt199.2.2.2.2.2.1 == bt207.2.2.2.2.2.1)))))) bt199.1 bt199.2.1 bt199.2.2.1 bt199.2.2.2.1 bt199.2.2.2.2.1 bt199.2.2.2.2.2.1 bt207.1 bt207.2.1 bt207.2.2.1 bt207.2.2.2.1 bt207.2.2.2.2.1 bt207.2.2.2.2.2.1) else (repaint_Changed.j1 k x0 x1 x2 x7 bt199.2.2.2.2.2.2 bt207.2.2.2.2.2.2 x17 x18 false bt199.1 bt199.2.1 bt199.2.2.1 bt199.2.2.2.1 bt199.2.2.2.2.1 bt199.2.2.2.2.2.1 bt207.1 bt207.2.1 bt207.2.2.1 bt207.2.2.2.1 bt207.2.2.2.2.1 bt207.2.2.2.2.2.1)) else (repaint_Changed.j1 k x0 x1 x2 x7 bt199.2.2.2.2.2.2 bt207.2.2.2.2.2.2 x17 x18 false bt199.1 bt199.2.1 bt199.2.2.1 bt199.2.2.2.1 bt199.2.2.2.2.1 bt199.2.2.2.2.2.1 bt207.1 bt207.2.1 bt207.2.2.1 bt207.2.2.2.1 bt207.2.2.2.2.1 bt207.2.2.2.2.2.1)))) else (if 0 ≤ (x7.length : Int) then (if (x7.length : Int) ≤ (x7.length : Int) then (some (x7.take ((x7.length : Int) : Int).toNat)) else (none)) else (none))
def repaint_Changed.j1 : Nat → List (S54) → List (S54) → List (S52) → List (S26) → Bool → Bool → Int → Int → Bool → Int → Int → Int → Int → Int → Int → Int → Int → Int → Int → Int → Int → Option ((List (S26)))
 | 0, _, _, _, _, _, _, _, _, _, _, _, _, _, _, _, _, _, _, _, _, _ => none
 | k + 1, x0, x1, x2, x7, x10, x12, x17, x18, x41, x207000, x207001, x207002, x207003, x207004, x207005, x215000, x215001, x215002, x215003, x215004, x215005 => if x41 = true then ((repaint_dirt.f k x7 x207000 x207001 x207002 x207003 x207004 x207005 x2).bind fun t215 => (repaint_Changed.l0 k x0 x1 x2 t215 x17 (wrap64 (x18 + 1)))) else (if x10 = true then ((repaint_of.f x207000 x207001 x207002 x207003 x207004 x207005).bind fun bt218 => ((damage_Add.f k x7 bt218.1 bt218.2.1 bt218.2.2.1 bt218.2.2.2).bind fun t222 => (repaint_Changed.j2 k x0 x1 x2 t222 x12 x17 x18 x215000 x215001 x215002 x215003 x215004 x215005))) else (repaint_Changed.j2 k x0 x1 x2 x7 x12 x17 x18 x215000 x215001 x215002 x215003 x215004 x215005))
def repaint_Changed.j2 : Nat → List (S54) → List (S54) → List (S52) → List (S26) → Bool → Int → Int → Int → Int → Int → Int → Int → Int → Option ((List (S26)))
 | 0, _, _, _, _, _, _, _, _, _, _, _, _, _ => none
 | k + 1, x0, x1, x2, x7, x12, x17, x18, x215000, x215001, x215002, x215003, x215004, x215005 => if x12 = true then ((repaint_of.f x215000 x215001 x215002 x215003 x215004 x215005).bind fun bt225 => ((damage_Add.f k x7 bt225.1 bt225.2.1 bt225.2.2.1 bt225.2.2.2).bind fun t229 => (repaint_Changed.l0 k x0 x1 x2 t229 x17 (wrap64 (x18 + 1))))) else (repaint_Changed.l0 k x0 x1 x2 x7 x17 (wrap64 (x18 + 1)))
end
def repaint_Changed.f (k : Nat) (l0 : List (S54)) (l1 : List (S54)) (l2 : List (S52)) : Option ((List (S26))) := repaint_Changed.l0 k l0 l1 l2 ([] : List (S26)) (mx (l0.length : Int) (l1.length : Int)) 0
theorem repaint_Changed.mono_l : ∀ k, (∀ y0 y1 y2 y3 y4 y5, LeO (repaint_Changed.l0 k y0 y1 y2 y3 y4 y5) (repaint_Changed.l0 (k + 1) y0 y1 y2 y3 y4 y5)) ∧ (∀ y0 y1 y2 y3 y4 y5 y6 y7 y8 y9 y10 y11 y12 y13 y14 y15 y16 y17 y18 y19 y20, LeO (repaint_Changed.j1 k y0 y1 y2 y3 y4 y5 y6 y7 y8 y9 y10 y11 y12 y13 y14 y15 y16 y17 y18 y19 y20) (repaint_Changed.j1 (k + 1) y0 y1 y2 y3 y4 y5 y6 y7 y8 y9 y10 y11 y12 y13 y14 y15 y16 y17 y18 y19 y20)) ∧ (∀ y0 y1 y2 y3 y4 y5 y6 y7 y8 y9 y10 y11 y12, LeO (repaint_Changed.j2 k y0 y1 y2 y3 y4 y5 y6 y7 y8 y9 y10 y11 y12) (repaint_Changed.j2 (k + 1) y0 y1 y2 y3 y4 y5 y6 y7 y8 y9 y10 y11 y12))
 | 0 => ⟨fun _ _ _ _ _ _ r h => by simp [repaint_Changed.l0] at h, fun _ _ _ _ _ _ _ _ _ _ _ _ _ _ _ _ _ _ _ _ _ r h => by simp [repaint_Changed.j1] at h, fun _ _ _ _ _ _ _ _ _ _ _ _ _ r h => by simp [repaint_Changed.j2] at h⟩
 | k + 1 => by
  obtain ⟨ih0, ih1, ih2⟩ := repaint_Changed.mono_l k
  refine ⟨?_, ?_, ?_⟩
  · intro y0 y1 y2 y3 y4 y5
    unfold repaint_Changed.l0
    repeat' first
    | (with_reducible exact ih0 _ _ _ _ _ _)
    | (with_reducible exact ih1 _ _ _ _ _ _ _ _ _ _ _ _ _ _ _ _ _ _ _ _ _)
    | (with_reducible exact ih2 _ _ _ _ _ _ _ _ _ _ _ _ _)
    | (with_reducible exact damage_Add.mono _ _ _ _ _ _)
    | (with_reducible exact repaint_dirt.mono _ _ _ _ _ _ _ _ _)
    | (with_reducible exact LeO.refl _)
    | (with_reducible exact LeO.none _)
    | (with_reducible refine LeO.ite ?_ ?_)
    | (with_reducible refine LeO.bind ?_ (fun _ => ?_))
    | exact ih0 _ _ _ _ _ _
    | exact ih1 _ _ _ _ _ _ _ _ _ _ _ _ _ _ _ _ _ _ _ _ _
    | exact ih2 _ _ _ _ _ _ _ _ _ _ _ _ _
    | exact damage_Add.mono _ _ _ _ _ _
    | exact repaint_dirt.mono _ _ _ _ _ _ _ _ _
    | exact LeO.none _
    | refine LeO.ite ?_ ?_
    | refine LeO.bind ?_ (fun _ => ?_)
  · intro y0 y1 y2 y3 y4 y5 y6 y7 y8 y9 y10 y11 y12 y13 y14 y15 y16 y17 y18 y19 y20
    unfold repaint_Changed.j1
    repeat' first
    | (with_reducible exact ih0 _ _ _ _ _ _)
    | (with_reducible exact ih1 _ _ _ _ _ _ _ _ _ _ _ _ _ _ _ _ _ _ _ _ _)
    | (with_reducible exact ih2 _ _ _ _ _ _ _ _ _ _ _ _ _)
    | (with_reducible exact damage_Add.mono _ _ _ _ _ _)
    | (with_reducible exact repaint_dirt.mono _ _ _ _ _ _ _ _ _)
    | (with_reducible exact LeO.refl _)
    | (with_reducible exact LeO.none _)
    | (with_reducible refine LeO.ite ?_ ?_)
    | (with_reducible refine LeO.bind ?_ (fun _ => ?_))
    | exact ih0 _ _ _ _ _ _
    | exact ih1 _ _ _ _ _ _ _ _ _ _ _ _ _ _ _ _ _ _ _ _ _
    | exact ih2 _ _ _ _ _ _ _ _ _ _ _ _ _
    | exact damage_Add.mono _ _ _ _ _ _
    | exact repaint_dirt.mono _ _ _ _ _ _ _ _ _
    | exact LeO.none _
    | refine LeO.ite ?_ ?_
    | refine LeO.bind ?_ (fun _ => ?_)
  · intro y0 y1 y2 y3 y4 y5 y6 y7 y8 y9 y10 y11 y12
    unfold repaint_Changed.j2
    repeat' first
    | (with_reducible exact ih0 _ _ _ _ _ _)
    | (with_reducible exact ih1 _ _ _ _ _ _ _ _ _ _ _ _ _ _ _ _ _ _ _ _ _)
    | (with_reducible exact ih2 _ _ _ _ _ _ _ _ _ _ _ _ _)
    | (with_reducible exact damage_Add.mono _ _ _ _ _ _)
    | (with_reducible exact repaint_dirt.mono _ _ _ _ _ _ _ _ _)
    | (with_reducible exact LeO.refl _)
    | (with_reducible exact LeO.none _)
    | (with_reducible refine LeO.ite ?_ ?_)
    | (with_reducible refine LeO.bind ?_ (fun _ => ?_))
    | exact ih0 _ _ _ _ _ _
    | exact ih1 _ _ _ _ _ _ _ _ _ _ _ _ _ _ _ _ _ _ _ _ _
    | exact ih2 _ _ _ _ _ _ _ _ _ _ _ _ _
    | exact damage_Add.mono _ _ _ _ _ _
    | exact repaint_dirt.mono _ _ _ _ _ _ _ _ _
    | exact LeO.none _
    | refine LeO.ite ?_ ?_
    | refine LeO.bind ?_ (fun _ => ?_)
theorem repaint_Changed.mono : ∀ a0 a1 a2 k, LeO (repaint_Changed.f k a0 a1 a2) (repaint_Changed.f (k + 1) a0 a1 a2) := by
 intro a0 a1 a2 k
 obtain ⟨ih0, ih1, ih2⟩ := repaint_Changed.mono_l k
 unfold repaint_Changed.f
 repeat' first
  | (with_reducible exact ih0 _ _ _ _ _ _)
  | (with_reducible exact ih1 _ _ _ _ _ _ _ _ _ _ _ _ _ _ _ _ _ _ _ _ _)
  | (with_reducible exact ih2 _ _ _ _ _ _ _ _ _ _ _ _ _)
  | (with_reducible exact damage_Add.mono _ _ _ _ _ _)
  | (with_reducible exact repaint_dirt.mono _ _ _ _ _ _ _ _ _)
  | (with_reducible exact LeO.refl _)
  | (with_reducible exact LeO.none _)
  | (with_reducible refine LeO.ite ?_ ?_)
  | (with_reducible refine LeO.bind ?_ (fun _ => ?_))
  | exact ih0 _ _ _ _ _ _
  | exact ih1 _ _ _ _ _ _ _ _ _ _ _ _ _ _ _ _ _ _ _ _ _
  | exact ih2 _ _ _ _ _ _ _ _ _ _ _ _ _
  | exact damage_Add.mono _ _ _ _ _ _
  | exact repaint_dirt.mono _ _ _ _ _ _ _ _ _
  | exact LeO.none _
  | refine LeO.ite ?_ ?_
  | refine LeO.bind ?_ (fun _ => ?_)
set_option maxHeartbeats 8000000 in
set_option maxRecDepth 100000 in
theorem repaint_Changed.calls (k : Nat) (A0 : Option Addr) (c0 : Nat) (l0 : List (S54)) (A1 : Option Addr) (c1 : Nat) (l1 : List (S54)) (A2 : Option Addr) (c2 : Nat) (l2 : List (S52)) (r : List (S26)) (w : World) (hr0 : Kd.C k54 w A0 l0.length l0) (hc0 : l0.length ≤ c0) (hr1 : Kd.C k54 w A1 l1.length l1) (hc1 : l1.length ≤ c1) (hr2 : Kd.C k52 w A2 l2.length l2) (hc2 : l2.length ≤ c2) (h : repaint_Changed.f k l0 l1 l2 = some r) :
 Calls Try.prog 43 #[.slice A0 l0.length c0, .slice A1 l1.length c1, .slice A2 l2.length c2] w fun e w' => ∃ v0_ : Value, e = .returned (v0_) ∧ Kd.V k26 26 w' w.heap.size (fun k_ => (w.heap.size ≤ k_)) v0_ r ∧ Below w.heap.size w w' := by
 have hu54 := Try.underlying54
 have HR0 := Aside0.mk hr0
 have HC0 := Aside0.mk hc0
 clear hr0 hc0
 have HR1 := Aside0.mk hr1
 have HC1 := Aside0.mk hc1
 clear hr1 hc1
 have HR2 := Aside0.mk hr2
 have HC2 := Aside0.mk hc2
 clear hr2 hc2
 have HB := Aside0.mk (Below.refl w.heap.size w)
 have H : (repaint_Changed.l0 k l0 l1 l2 ([] : List (S26)) (mx (l0.length : Int) (l1.length : Int)) 0) = some r := h
 clear h
 obtain ⟨ji4, hji4⟩ : ∃ j_ : Int, (mx (l0.length : Int) (l1.length : Int)) = j_ := ⟨_, rfl⟩
 replace H : (repaint_Changed.l0 k l0 l1 l2 ([] : List (S26)) ji4 0) = some r := by first | (rw [hji4] at H; exact H) | (simp only [hji4] at H ⊢; exact H)
 (try (have hji4l : 0 ≤ ji4 := by (rw [← hji4]; unfold mx; (repeat' split) <;> omega)))
 (try (have hji4m : 0 ≤ ji4 := by omega))
 have hji4_ : (if (l0.length : Int) < (l1.length : Int) then (l1.length : Int) else (l0.length : Int)) = ji4 := hji4
 have hji4n_ : (if l0.length < l1.length then (l1.length : Int) else (l0.length : Int)) = ji4 := by
  rw [← hji4_]
  simp only [Int.ofNat_lt]
 have H' := Aside0.mk H
 clear H
 go_enter Try.func43, Try.ntmps43
 go_wp2
 go_loopg [7, 18] k (fun kq v7 v18 w' => ∃ (x7_1 : List (S26)) (x18_1 : Int), v18 = .int .i64 x18_1 ∧ Aside0 (repaint_Changed.l0 kq l0 l1 l2 x7_1 ji4 x18_1 = some r) ∧ Aside0 (kq ≤ k) ∧ Aside0 (Kd.V k26 26 w' w.heap.size (fun k_ => (w.heap.size ≤ k_)) v7 x7_1) ∧ Aside0 (Below w.heap.size w w'))
 case atStart => exact ⟨(([] : List (S26))), (0), (by first | rfl | (simp; done) | (simp [*]; done)), H', ⟨Nat.le_refl _⟩, ⟨Kd.V_nil _ _ _ _ _⟩, ⟨by repeat (first | (with_reducible first | exact HB.out | apply pbA | apply pbN | apply pbD) | exact HB.out)⟩⟩
 case round =>
  clear H'
  try clear c1
  try clear c2
  try clear p2
  try clear c4
  obtain ⟨x7_1, x18_1, rfl, HA, HK1, HO_7, HB⟩ := hrel
  cases gk with
  | zero => exact absurd HA.out (by simp [repaint_Changed.l0])
  | succ k1 =>
   have H := HA.out
   clear HA
   simp only [repaint_Changed.l0] at H
   by_cases c5 : x18_1 < ji4
   · rw [if_pos c5] at H
     have c5b0 : decide (x18_1 < ji4) = true := decide_eq_true c5
     clear c5
     replace H := Option.bind_eq_some_iff.mp H
     obtain ⟨⟨t199, t200, t201, t202, t203, t204, t205⟩, A60, H⟩ := H
     replace H : ((repaint_at.f l1 x18_1).bind fun bt207 => (if t205 = true then (if bt207.2.2.2.2.2.2 = true then (repaint_Changed.j1 k1 l0 l1 l2 x7_1 t205 bt207.2.2.2.2.2.2 ji4 x18_1 (t199 == bt207.1 && (t200 == bt207.2.1 && (t201 == bt207.2.2.1 && (t202 == bt207.2.2.2.1 && (t203 == bt207.2.2.2.2.1 && (t204 == bt207.2.2.2.2.2.1)))))) t199 t200 t201 t202 t203 t204 bt207.1 bt207.2.1 bt207.2.2.1 bt207.2.2.2.1 bt207.2.2.2.2.1 bt207.2.2.2.2.2.1) else (repaint_Changed.j1 k1 l0 l1 l2 x7_1 t205 bt207.2.2.2.2.2.2 ji4 x18_1 false t199 t200 t201 t202 t203 t204 bt207.1 bt207.2.1 bt207.2.2.1 bt207.2.2.2.1 bt207.2.2.2.2.1 bt207.2.2.2.2.2.1)) else (repaint_Changed.j1 k1 l0 l1 l2 x7_1 t205 bt207.2.2.2.2.2.2 ji4 x18_1 false t199 t200 t201 t202 t203 t204 bt207.1 bt207.2.1 bt207.2.2.1 bt207.2.2.2.1 bt207.2.2.2.2.1 bt207.2.2.2.2.2.1))) = some r := H
     have A6 := Aside0.mk A60
     clear A60
     replace H := Option.bind_eq_some_iff.mp H
     obtain ⟨⟨t207, t208, t209, t210, t211, t212, t213⟩, A70, H⟩ := H
     replace H : (if t205 = true then (if t213 = true then (repaint_Changed.j1 k1 l0 l1 l2 x7_1 t205 t213 ji4 x18_1 (t199 == t207 && (t200 == t208 && (t201 == t209 && (t202 == t210 && (t203 == t211 && (t204 == t212)))))) t199 t200 t201 t202 t203 t204 t207 t208 t209 t210 t211 t212) else (repaint_Changed.j1 k1 l0 l1 l2 x7_1 t205 t213 ji4 x18_1 false t199 t200 t201 t202 t203 t204 t207 t208 t209 t210 t211 t212)) else (repaint_Changed.j1 k1 l0 l1 l2 x7_1 t205 t213 ji4 x18_1 false t199 t200 t201 t202 t203 t204 t207 t208 t209 t210 t211 t212)) = some r := H
     have A7 := Aside0.mk A70
     clear A70
     have HC8 := Aside0.mk H
     clear H
     go_upto_region 7 with (first | ((with_reducible refine gate_callee (f := 69) rfl ?_); refine goesL_ (some 24) rfl rfl Try.func69 (by kernel_rfl) rfl #[.slice A0 l0.length c0, .int .i64 x18_1] rfl (by (try simp only [List.map_toArray, List.map_cons, List.map_nil]); first | done | rfl | (simp only [List.length_drop, List.length_take]; rfl)) ?_; (with_reducible refine (repaint_at.calls _ _ l0 x18_1 t199 t200 t201 t202 t203 t204 t205 _ ?side1 ?side2 A6.out).mono ?_); (case side1 => repeat (first | exact (Kd.C_below HR0.out HB.out) | (with_reducible refine Kd.C_alloc ?_ _) | (with_reducible refine Kd.C_drewN ?_ _) | (with_reducible refine Kd.C_drew ?_))); (case side2 => exact HC0.out); rintro e w9 ⟨rfl, hb⟩; refine ⟨_, rfl, ?_⟩; have n0_ := Aside0.mk (Kd.V_below (by (with_reducible repeat (first | apply Kd.V_alloc | apply Kd.V_drewN | apply Kd.V_drew)); exact HO_7.out) hb); have n1_ := Aside0.mk (pbP (by repeat (first | (with_reducible first | exact HB.out | apply pbA | apply pbN | apply pbD) | exact HB.out)) hb); clear HO_7; clear HB; have HO_7 := n0_; have HB := n1_; clear n0_ n1_; (try clear hb); (try clear hb2); (try clear hk); (try clear hi)) | ((with_reducible refine gate_dst (N := 9) rfl ?_); refine box_event ?hg (N := 9) ?hd (cs := #[.int .i64 0, .int .i64 0, .int .i64 0, .int .i64 0, .int .i64 0, .int .i64 0]) (t := 54) ?hr ?_; (case hd => rfl); (case hg => rfl); (case hr => first | (go_simp; done) | (go_simp; rfl)); intro gb206 hg w10 hbox hb; have n0_ := Aside0.mk (Kd.V_below (Kd.V_elderB (by (with_reducible repeat (first | apply Kd.V_alloc | apply Kd.V_drewN | apply Kd.V_drew)); exact HO_7.out) gb206 (Nat.le_of_eq hg.symm)) hb); have n1_ := Aside0.mk (pbP (by repeat (first | (with_reducible first | exact HB.out | apply pbA | apply pbN | apply pbD) | exact HB.out)) hb); have n2_ := Aside0.mk (hbox); have n3_ := Aside0.mk ((by rw [hg]; exact (pbZ (by repeat (first | (with_reducible first | exact HB.out | apply pbA | apply pbN | apply pbD) | exact HB.out))) : w.heap.size ≤ gb206)); have n4_ := Aside0.mk ((by rw [hg]; exact (pbZ (by repeat (first | (with_reducible first | exact HB.out | apply pbA | apply pbN | apply pbD) | exact HB.out))) : w.heap.size ≤ gb206)); clear HO_7; clear HB; have HO_7 := n0_; have HB := n1_; have BK206 := n2_; have GW206 := n3_; have GE206 := n4_; clear n0_ n1_ n2_ n3_ n4_; clear hb hbox hg; have hcz11_0 : w10.cell? ⟨gb206, 0, none⟩ = some (.int .i64 0) := (bkC BK206.out 0).trans rfl; have hcz11_1 : w10.cell? ⟨gb206, 1, none⟩ = some (.int .i64 0) := (bkC BK206.out 1).trans rfl; have hcz11_2 : w10.cell? ⟨gb206, 2, none⟩ = some (.int .i64 0) := (bkC BK206.out 2).trans rfl; have hcz11_3 : w10.cell? ⟨gb206, 3, none⟩ = some (.int .i64 0) := (bkC BK206.out 3).trans rfl; have hcz11_4 : w10.cell? ⟨gb206, 4, none⟩ = some (.int .i64 0) := (bkC BK206.out 4).trans rfl; have hcz11_5 : w10.cell? ⟨gb206, 5, none⟩ = some (.int .i64 0) := (bkC BK206.out 5).trans rfl; have hfz11_0 := bkF BK206.out 0; have hfz11_1 := bkF BK206.out 1; have hfz11_2 := bkF BK206.out 2; have hfz11_3 := bkF BK206.out 3; have hfz11_4 := bkF BK206.out 4; have hfz11_5 := bkF BK206.out 5) | ((with_reducible refine gate_callee (f := 69) rfl ?_); refine goesL_ (some 30) rfl rfl Try.func69 (by kernel_rfl) rfl #[.slice A1 l1.length c1, .int .i64 x18_1] rfl (by (try simp only [List.map_toArray, List.map_cons, List.map_nil]); first | done | rfl | (simp only [List.length_drop, List.length_take]; rfl)) ?_; (with_reducible refine (repaint_at.calls _ _ l1 x18_1 t207 t208 t209 t210 t211 t212 t213 _ ?side1 ?side2 A7.out).mono ?_); (case side1 => exact Kd.C_below HR1.out (by repeat (first | (with_reducible first | exact HB.out | apply pbA | apply pbN | apply pbD | refine pbS ?_ GE206.out) | exact HB.out))); (case side2 => exact HC1.out); rintro e w12 ⟨rfl, hb⟩; refine ⟨_, rfl, ?_⟩; have n0_ := Aside0.mk (Kd.V_below (by (with_reducible repeat (first | apply Kd.V_alloc | apply Kd.V_drewN | apply Kd.V_drew)); exact (Kd.V_mono (Kd.V_far (p := ⟨gb206, 5, none⟩) (Kd.V_far (p := ⟨gb206, 4, none⟩) (Kd.V_far (p := ⟨gb206, 3, none⟩) (Kd.V_far (p := ⟨gb206, 2, none⟩) (Kd.V_far (p := ⟨gb206, 1, none⟩) (Kd.V_far (p := ⟨gb206, 0, none⟩) (Kd.V_mono HO_7.out (fun k_ hk => (⟨hk, hk.2⟩ : _ ∧ k_ ≠ gb206))) (fun _ hk => hk.2) (.int .i64 t199)) (fun _ hk => hk.2) (.int .i64 t200)) (fun _ hk => hk.2) (.int .i64 t201)) (fun _ hk => hk.2) (.int .i64 t202)) (fun _ hk => hk.2) (.int .i64 t203)) (fun _ hk => hk.2) (.int .i64 t204)) (fun _ h_ => h_.1))) hb); have n1_ := Aside0.mk (bkB (g := gb206) (o := .cells #[.int .i64 t199, .int .i64 t200, .int .i64 t201, .int .i64 t202, .int .i64 t203, .int .i64 t204] 54 (0, 0)) (by (with_reducible repeat (first | refine bkN ?_ _ | refine bkD ?_ | refine bkA ?_ _)); refine blk_put (cs := #[.int .i64 t199, .int .i64 t200, .int .i64 t201, .int .i64 t202, .int .i64 t203, .int .i64 0]) ?_ 5 _ rfl; (with_reducible repeat (first | refine bkN ?_ _ | refine bkD ?_ | refine bkA ?_ _)); refine blk_put (cs := #[.int .i64 t199, .int .i64 t200, .int .i64 t201, .int .i64 t202, .int .i64 0, .int .i64 0]) ?_ 4 _ rfl; (with_reducible repeat (first | refine bkN ?_ _ | refine bkD ?_ | refine bkA ?_ _)); refine blk_put (cs := #[.int .i64 t199, .int .i64 t200, .int .i64 t201, .int .i64 0, .int .i64 0, .int .i64 0]) ?_ 3 _ rfl; (with_reducible repeat (first | refine bkN ?_ _ | refine bkD ?_ | refine bkA ?_ _)); refine blk_put (cs := #[.int .i64 t199, .int .i64 t200, .int .i64 0, .int .i64 0, .int .i64 0, .int .i64 0]) ?_ 2 _ rfl; (with_reducible repeat (first | refine bkN ?_ _ | refine bkD ?_ | refine bkA ?_ _)); refine blk_put (cs := #[.int .i64 t199, .int .i64 0, .int .i64 0, .int .i64 0, .int .i64 0, .int .i64 0]) ?_ 1 _ rfl; (with_reducible repeat (first | refine bkN ?_ _ | refine bkD ?_ | refine bkA ?_ _)); refine blk_put (cs := #[.int .i64 0, .int .i64 0, .int .i64 0, .int .i64 0, .int .i64 0, .int .i64 0]) ?_ 0 _ rfl; (with_reducible repeat (first | refine bkN ?_ _ | refine bkD ?_ | refine bkA ?_ _)); exact BK206.out) hb); have n2_ := Aside0.mk (pbP (by repeat (first | (with_reducible first | exact HB.out | apply pbA | apply pbN | apply pbD | refine pbS ?_ GE206.out) | exact HB.out)) hb); clear HO_7; clear BK206; clear HB; have HO_7 := n0_; have BK206 := n1_; have HB := n2_; clear n0_ n1_ n2_; (try clear hb); (try clear hb2); (try clear hk); (try clear hi)) | ((with_reducible refine gate_dst (N := 11) rfl ?_); refine box_event ?hg (N := 11) ?hd (cs := #[.int .i64 0, .int .i64 0, .int .i64 0, .int .i64 0, .int .i64 0, .int .i64 0]) (t := 54) ?hr ?_; (case hd => rfl); (case hg => rfl); (case hr => first | (go_simp; done) | (go_simp; rfl)); intro gb214 hg w13 hbox hb; have n0_ := Aside0.mk (Kd.V_below (Kd.V_elderB (by (with_reducible repeat (first | apply Kd.V_alloc | apply Kd.V_drewN | apply Kd.V_drew)); exact HO_7.out) gb214 (Nat.le_of_eq hg.symm)) hb); have n1_ := Aside0.mk (bkB (g := gb206) (o := .cells #[.int .i64 t199, .int .i64 t200, .int .i64 t201, .int .i64 t202, .int .i64 t203, .int .i64 t204] 54 (0, 0)) (by (with_reducible repeat (first | refine bkN ?_ _ | refine bkD ?_ | refine bkA ?_ _)); exact BK206.out) hb); have n2_ := Aside0.mk (pbP (by repeat (first | (with_reducible first | exact HB.out | apply pbA | apply pbN | apply pbD | refine pbS ?_ GE206.out) | exact HB.out)) hb); have n3_ := Aside0.mk (hbox); have n4_ := Aside0.mk ((by rw [hg]; exact (pbZ (by repeat (first | (with_reducible first | exact HB.out | apply pbA | apply pbN | apply pbD | refine pbS ?_ GE206.out) | exact HB.out))) : w.heap.size ≤ gb214)); have n5_ := Aside0.mk ((by rw [hg]; exact (pbZ (by repeat (first | (with_reducible first | exact HB.out | apply pbA | apply pbN | apply pbD | refine pbS ?_ GE206.out) | exact HB.out))) : w.heap.size ≤ gb214)); have n6_ := Aside0.mk ((by rw [hg]; exact Nat.ne_of_lt (blk_lt (g := gb206) (o := .cells #[.int .i64 t199, .int .i64 t200, .int .i64 t201, .int .i64 t202, .int .i64 t203, .int .i64 t204] 54 (0, 0)) (by (with_reducible repeat (first | refine bkN ?_ _ | refine bkD ?_ | refine bkA ?_ _)); exact BK206.out)) : gb206 ≠ gb214)); have n7_ := Aside0.mk ((by rw [hg]; exact Nat.ne_of_gt (blk_lt (g := gb206) (o := .cells #[.int .i64 t199, .int .i64 t200, .int .i64 t201, .int .i64 t202, .int .i64 t203, .int .i64 t204] 54 (0, 0)) (by (with_reducible repeat (first | refine bkN ?_ _ | refine bkD ?_ | refine bkA ?_ _)); exact BK206.out)) : gb214 ≠ gb206)); clear HO_7; clear BK206; clear HB; have HO_7 := n0_; have BK206 := n1_; have HB := n2_; have BK214 := n3_; have GW214 := n4_; have GE214 := n5_; have NB206_214 := n6_; have NB214_206 := n7_; clear n0_ n1_ n2_ n3_ n4_ n5_ n6_ n7_; clear hb hbox hg; have hnb14 := NB214_206.out; have hnc14 := NB206_214.out; have hcz15_0 : w13.cell? ⟨gb214, 0, none⟩ = some (.int .i64 0) := (bkC BK214.out 0).trans rfl; have hcz15_1 : w13.cell? ⟨gb214, 1, none⟩ = some (.int .i64 0) := (bkC BK214.out 1).trans rfl; have hcz15_2 : w13.cell? ⟨gb214, 2, none⟩ = some (.int .i64 0) := (bkC BK214.out 2).trans rfl; have hcz15_3 : w13.cell? ⟨gb214, 3, none⟩ = some (.int .i64 0) := (bkC BK214.out 3).trans rfl; have hcz15_4 : w13.cell? ⟨gb214, 4, none⟩ = some (.int .i64 0) := (bkC BK214.out 4).trans rfl; have hcz15_5 : w13.cell? ⟨gb214, 5, none⟩ = some (.int .i64 0) := (bkC BK214.out 5).trans rfl; have hfz15_0 := bkF BK214.out 0; have hfz15_1 := bkF BK214.out 1; have hfz15_2 := bkF BK214.out 2; have hfz15_3 := bkF BK214.out 3; have hfz15_4 := bkF BK214.out 4; have hfz15_5 := bkF BK214.out 5))
     (try simp only [Act.put, List.setIfInBounds_toArray, List.set_cons_zero, List.set_cons_succ])
     go_cut [41] (fun v41 wc => ∃ (kq : Nat) (x41_7 : Bool), v41 = .bool x41_7 ∧ Aside0 (repaint_Changed.j1 kq l0 l1 l2 x7_1 t205 t213 ji4 x18_1 x41_7 t199 t200 t201 t202 t203 t204 t207 t208 t209 t210 t211 t212 = some r) ∧ Aside0 (kq ≤ k1) ∧ Aside0 (Kd.V k26 26 wc w.heap.size (fun k_ => (w.heap.size ≤ k_) ∧ k_ ≠ gb206 ∧ k_ ≠ gb214) u7 x7_1) ∧ Aside0 (wc.heap[gb206]? = some (.cells #[.int .i64 t199, .int .i64 t200, .int .i64 t201, .int .i64 t202, .int .i64 t203, .int .i64 t204] 54 (0, 0))) ∧ Aside0 (wc.heap[gb214]? = some (.cells #[.int .i64 t207, .int .i64 t208, .int .i64 t209, .int .i64 t210, .int .i64 t211, .int .i64 t212] 54 (0, 0))) ∧ Aside0 (Below w.heap.size w wc))
     case first =>
      have H := HC8.out
      clear HC8
      by_cases c16 : t205 = true
      · subst c16
        have H1 : (if t213 = true then (repaint_Changed.j1 k1 l0 l1 l2 x7_1 true t213 ji4 x18_1 (t199 == t207 && (t200 == t208 && (t201 == t209 && (t202 == t210 && (t203 == t211 && (t204 == t212)))))) t199 t200 t201 t202 t203 t204 t207 t208 t209 t210 t211 t212) else (repaint_Changed.j1 k1 l0 l1 l2 x7_1 true t213 ji4 x18_1 false t199 t200 t201 t202 t203 t204 t207 t208 t209 t210 t211 t212)) = some r := by rw [if_pos rfl] at H; exact H
        clear H
        have H := H1
        clear H1
        by_cases c17 : t213 = true
        · subst c17
          have H1 : (repaint_Changed.j1 k1 l0 l1 l2 x7_1 true true ji4 x18_1 (t199 == t207 && (t200 == t208 && (t201 == t209 && (t202 == t210 && (t203 == t211 && (t204 == t212)))))) t199 t200 t201 t202 t203 t204 t207 t208 t209 t210 t211 t212) = some r := by rw [if_pos rfl] at H; exact H
          clear H
          have H := H1
          clear H1
          have H' := Aside0.mk H
          clear H
          have hnb18 := NB206_214.out
          have hnc18 := NB214_206.out
          have hcz19_0 : w13.cell? ⟨gb206, 0, none⟩ = some (.int .i64 t199) := (bkC BK206.out 0).trans rfl
          have hcz19_1 : w13.cell? ⟨gb206, 1, none⟩ = some (.int .i64 t200) := (bkC BK206.out 1).trans rfl
          have hcz19_2 : w13.cell? ⟨gb206, 2, none⟩ = some (.int .i64 t201) := (bkC BK206.out 2).trans rfl
          have hcz19_3 : w13.cell? ⟨gb206, 3, none⟩ = some (.int .i64 t202) := (bkC BK206.out 3).trans rfl
          have hcz19_4 : w13.cell? ⟨gb206, 4, none⟩ = some (.int .i64 t203) := (bkC BK206.out 4).trans rfl
          have hcz19_5 : w13.cell? ⟨gb206, 5, none⟩ = some (.int .i64 t204) := (bkC BK206.out 5).trans rfl
          have hfz19_0 := bkF BK206.out 0
          have hfz19_1 := bkF BK206.out 1
          have hfz19_2 := bkF BK206.out 2
          have hfz19_3 := bkF BK206.out 3
          have hfz19_4 := bkF BK206.out 4
          have hfz19_5 := bkF BK206.out 5
          have hcz20_0 : w13.cell? ⟨gb214, 0, none⟩ = some (.int .i64 0) := (bkC BK214.out 0).trans rfl
          have hcz20_1 : w13.cell? ⟨gb214, 1, none⟩ = some (.int .i64 0) := (bkC BK214.out 1).trans rfl
          have hcz20_2 : w13.cell? ⟨gb214, 2, none⟩ = some (.int .i64 0) := (bkC BK214.out 2).trans rfl
          have hcz20_3 : w13.cell? ⟨gb214, 3, none⟩ = some (.int .i64 0) := (bkC BK214.out 3).trans rfl
          have hcz20_4 : w13.cell? ⟨gb214, 4, none⟩ = some (.int .i64 0) := (bkC BK214.out 4).trans rfl
          have hcz20_5 : w13.cell? ⟨gb214, 5, none⟩ = some (.int .i64 0) := (bkC BK214.out 5).trans rfl
          have hfz20_0 := bkF BK214.out 0
          have hfz20_1 := bkF BK214.out 1
          have hfz20_2 := bkF BK214.out 2
          have hfz20_3 := bkF BK214.out 3
          have hfz20_4 := bkF BK214.out 4
          have hfz20_5 := bkF BK214.out 5
          go_wp2
          go_meet
          case rel => exact ⟨_, ((t199 == t207 && (t200 == t208 && (t201 == t209 && (t202 == t210 && (t203 == t211 && (t204 == t212))))))), (by first | rfl | (simp; done) | (simp [*]; done)), H', ⟨by have := HK1.out; first | omega | exact Nat.le_refl _⟩, ⟨by (with_reducible repeat (first | apply Kd.V_alloc | apply Kd.V_drewN | apply Kd.V_drew)); exact Kd.V_mono (Kd.V_far (p := ⟨gb214, 5, none⟩) (Kd.V_far (p := ⟨gb214, 4, none⟩) (Kd.V_far (p := ⟨gb214, 3, none⟩) (Kd.V_far (p := ⟨gb214, 2, none⟩) (Kd.V_far (p := ⟨gb214, 1, none⟩) (Kd.V_far (p := ⟨gb214, 0, none⟩) (Kd.V_mono HO_7.out (fun k_ hk => (⟨hk, hk.2⟩ : _ ∧ k_ ≠ gb214))) (fun _ hk => hk.2) (.int .i64 t207)) (fun _ hk => hk.2) (.int .i64 t208)) (fun _ hk => hk.2) (.int .i64 t209)) (fun _ hk => hk.2) (.int .i64 t210)) (fun _ hk => hk.2) (.int .i64 t211)) (fun _ hk => hk.2) (.int .i64 t212)) (fun _ hk => ⟨hk.1.1.1, ⟨hk.1.1.2, hk.1.2⟩⟩)⟩, ⟨by (with_reducible repeat (first | refine bkN ?_ _ | refine bkD ?_ | refine bkA ?_ _)); refine blk_far ?_ NB206_214.out _; (with_reducible repeat (first | refine bkN ?_ _ | refine bkD ?_ | refine bkA ?_ _)); refine blk_far ?_ NB206_214.out _; (with_reducible repeat (first | refine bkN ?_ _ | refine bkD ?_ | refine bkA ?_ _)); refine blk_far ?_ NB206_214.out _; (with_reducible repeat (first | refine bkN ?_ _ | refine bkD ?_ | refine bkA ?_ _)); refine blk_far ?_ NB206_214.out _; (with_reducible repeat (first | refine bkN ?_ _ | refine bkD ?_ | refine bkA ?_ _)); refine blk_far ?_ NB206_214.out _; (with_reducible repeat (first | refine bkN ?_ _ | refine bkD ?_ | refine bkA ?_ _)); refine blk_far ?_ NB206_214.out _; (with_reducible repeat (first | refine bkN ?_ _ | refine bkD ?_ | refine bkA ?_ _)); exact BK206.out⟩, ⟨by (with_reducible repeat (first | refine bkN ?_ _ | refine bkD ?_ | refine bkA ?_ _)); refine blk_put (cs := #[.int .i64 t207, .int .i64 t208, .int .i64 t209, .int .i64 t210, .int .i64 t211, .int .i64 0]) ?_ 5 _ rfl; (with_reducible repeat (first | refine bkN ?_ _ | refine bkD ?_ | refine bkA ?_ _)); refine blk_put (cs := #[.int .i64 t207, .int .i64 t208, .int .i64 t209, .int .i64 t210, .int .i64 0, .int .i64 0]) ?_ 4 _ rfl; (with_reducible repeat (first | refine bkN ?_ _ | refine bkD ?_ | refine bkA ?_ _)); refine blk_put (cs := #[.int .i64 t207, .int .i64 t208, .int .i64 t209, .int .i64 0, .int .i64 0, .int .i64 0]) ?_ 3 _ rfl; (with_reducible repeat (first | refine bkN ?_ _ | refine bkD ?_ | refine bkA ?_ _)); refine blk_put (cs := #[.int .i64 t207, .int .i64 t208, .int .i64 0, .int .i64 0, .int .i64 0, .int .i64 0]) ?_ 2 _ rfl; (with_reducible repeat (first | refine bkN ?_ _ | refine bkD ?_ | refine bkA ?_ _)); refine blk_put (cs := #[.int .i64 t207, .int .i64 0, .int .i64 0, .int .i64 0, .int .i64 0, .int .i64 0]) ?_ 1 _ rfl; (with_reducible repeat (first | refine bkN ?_ _ | refine bkD ?_ | refine bkA ?_ _)); refine blk_put (cs := #[.int .i64 0, .int .i64 0, .int .i64 0, .int .i64 0, .int .i64 0, .int .i64 0]) ?_ 0 _ rfl; (with_reducible repeat (first | refine bkN ?_ _ | refine bkD ?_ | refine bkA ?_ _)); exact BK214.out⟩, ⟨by repeat (first | (with_reducible first | exact HB.out | apply pbA | apply pbN | apply pbD | refine pbS ?_ GE206.out | refine pbS ?_ GE214.out) | exact HB.out)⟩⟩
        · replace c17 := Bool.eq_false_iff.mpr c17
          subst c17
          have H1 : (repaint_Changed.j1 k1 l0 l1 l2 x7_1 true false ji4 x18_1 false t199 t200 t201 t202 t203 t204 t207 t208 t209 t210 t211 t212) = some r := by rw [if_neg (show ¬ (false = true) by decide)] at H; exact H
          clear H
          have H := H1
          clear H1
          have H' := Aside0.mk H
          clear H
          go_wp2
          go_meet
          case rel => exact ⟨_, (false), (by first | rfl | (simp; done) | (simp [*]; done)), H', ⟨by have := HK1.out; first | omega | exact Nat.le_refl _⟩, ⟨by (with_reducible repeat (first | apply Kd.V_alloc | apply Kd.V_drewN | apply Kd.V_drew)); exact Kd.V_mono (Kd.V_far (p := ⟨gb214, 5, none⟩) (Kd.V_far (p := ⟨gb214, 4, none⟩) (Kd.V_far (p := ⟨gb214, 3, none⟩) (Kd.V_far (p := ⟨gb214, 2, none⟩) (Kd.V_far (p := ⟨gb214, 1, none⟩) (Kd.V_far (p := ⟨gb214, 0, none⟩) (Kd.V_mono HO_7.out (fun k_ hk => (⟨hk, hk.2⟩ : _ ∧ k_ ≠ gb214))) (fun _ hk => hk.2) (.int .i64 t207)) (fun _ hk => hk.2) (.int .i64 t208)) (fun _ hk => hk.2) (.int .i64 t209)) (fun _ hk => hk.2) (.int .i64 t210)) (fun _ hk => hk.2) (.int .i64 t211)) (fun _ hk => hk.2) (.int .i64 t212)) (fun _ hk => ⟨hk.1.1.1, ⟨hk.1.1.2, hk.1.2⟩⟩)⟩, ⟨by (with_reducible repeat (first | refine bkN ?_ _ | refine bkD ?_ | refine bkA ?_ _)); refine blk_far ?_ NB206_214.out _; (with_reducible repeat (first | refine bkN ?_ _ | refine bkD ?_ | refine bkA ?_ _)); refine blk_far ?_ NB206_214.out _; (with_reducible repeat (first | refine bkN ?_ _ | refine bkD ?_ | refine bkA ?_ _)); refine blk_far ?_ NB206_214.out _; (with_reducible repeat (first | refine bkN ?_ _ | refine bkD ?_ | refine bkA ?_ _)); refine blk_far ?_ NB206_214.out _; (with_reducible repeat (first | refine bkN ?_ _ | refine bkD ?_ | refine bkA ?_ _)); refine blk_far ?_ NB206_214.out _; (with_reducible repeat (first | refine bkN ?_ _ | refine bkD ?_ | refine bkA ?_ _)); refine blk_far ?_ NB206_214.out _; (with_reducible repeat (first | refine bkN ?_ _ | refine bkD ?_ | refine bkA ?_ _)); exact BK206.out⟩, ⟨by (with_reducible repeat (first | refine bkN ?_ _ | refine bkD ?_ | refine bkA ?_ _)); refine blk_put (cs := #[.int .i64 t207, .int .i64 t208, .int .i64 t209, .int .i64 t210, .int .i64 t211, .int .i64 0]) ?_ 5 _ rfl; (with_reducible repeat (first | refine bkN ?_ _ | refine bkD ?_ | refine bkA ?_ _)); refine blk_put (cs := #[.int .i64 t207, .int .i64 t208, .int .i64 t209, .int .i64 t210, .int .i64 0, .int .i64 0]) ?_ 4 _ rfl; (with_reducible repeat (first | refine bkN ?_ _ | refine bkD ?_ | refine bkA ?_ _)); refine blk_put (cs := #[.int .i64 t207, .int .i64 t208, .int .i64 t209, .int .i64 0, .int .i64 0, .int .i64 0]) ?_ 3 _ rfl; (with_reducible repeat (first | refine bkN ?_ _ | refine bkD ?_ | refine bkA ?_ _)); refine blk_put (cs := #[.int .i64 t207, .int .i64 t208, .int .i64 0, .int .i64 0, .int .i64 0, .int .i64 0]) ?_ 2 _ rfl; (with_reducible repeat (first | refine bkN ?_ _ | refine bkD ?_ | refine bkA ?_ _)); refine blk_put (cs := #[.int .i64 t207, .int .i64 0, .int .i64 0, .int .i64 0, .int .i64 0, .int .i64 0]) ?_ 1 _ rfl; (with_reducible repeat (first | refine bkN ?_ _ | refine bkD ?_ | refine bkA ?_ _)); refine blk_put (cs := #[.int .i64 0, .int .i64 0, .int .i64 0, .int .i64 0, .int .i64 0, .int .i64 0]) ?_ 0 _ rfl; (with_reducible repeat (first | refine bkN ?_ _ | refine bkD ?_ | refine bkA ?_ _)); exact BK214.out⟩, ⟨by repeat (first | (with_reducible first | exact HB.out | apply pbA | apply pbN | apply pbD | refine pbS ?_ GE206.out | refine pbS ?_ GE214.out) | exact HB.out)⟩⟩
      · replace c16 := Bool.eq_false_iff.mpr c16
        subst c16
        have H1 : (repaint_Changed.j1 k1 l0 l1 l2 x7_1 false t213 ji4 x18_1 false t199 t200 t201 t202 t203 t204 t207 t208 t209 t210 t211 t212) = some r := by rw [if_neg (show ¬ (false = true) by decide)] at H; exact H
        clear H
        have H := H1
        clear H1
        have H' := Aside0.mk H
        clear H
        go_wp2
        go_meet
        case rel => exact ⟨_, (false), (by first | rfl | (simp; done) | (simp [*]; done)), H', ⟨by have := HK1.out; first | omega | exact Nat.le_refl _⟩, ⟨by (with_reducible repeat (first | apply Kd.V_alloc | apply Kd.V_drewN | apply Kd.V_drew)); exact Kd.V_mono (Kd.V_far (p := ⟨gb214, 5, none⟩) (Kd.V_far (p := ⟨gb214, 4, none⟩) (Kd.V_far (p := ⟨gb214, 3, none⟩) (Kd.V_far (p := ⟨gb214, 2, none⟩) (Kd.V_far (p := ⟨gb214, 1, none⟩) (Kd.V_far (p := ⟨gb214, 0, none⟩) (Kd.V_mono HO_7.out (fun k_ hk => (⟨hk, hk.2⟩ : _ ∧ k_ ≠ gb214))) (fun _ hk => hk.2) (.int .i64 t207)) (fun _ hk => hk.2) (.int .i64 t208)) (fun _ hk => hk.2) (.int .i64 t209)) (fun _ hk => hk.2) (.int .i64 t210)) (fun _ hk => hk.2) (.int .i64 t211)) (fun _ hk => hk.2) (.int .i64 t212)) (fun _ hk => ⟨hk.1.1.1, ⟨hk.1.1.2, hk.1.2⟩⟩)⟩, ⟨by (with_reducible repeat (first | refine bkN ?_ _ | refine bkD ?_ | refine bkA ?_ _)); refine blk_far ?_ NB206_214.out _; (with_reducible repeat (first | refine bkN ?_ _ | refine bkD ?_ | refine bkA ?_ _)); refine blk_far ?_ NB206_214.out _; (with_reducible repeat (first | refine bkN ?_ _ | refine bkD ?_ | refine bkA ?_ _)); refine blk_far ?_ NB206_214.out _; (with_reducible repeat (first | refine bkN ?_ _ | refine bkD ?_ | refine bkA ?_ _)); refine blk_far ?_ NB206_214.out _; (with_reducible repeat (first | refine bkN ?_ _ | refine bkD ?_ | refine bkA ?_ _)); refine blk_far ?_ NB206_214.out _; (with_reducible repeat (first | refine bkN ?_ _ | refine bkD ?_ | refine bkA ?_ _)); refine blk_far ?_ NB206_214.out _; (with_reducible repeat (first | refine bkN ?_ _ | refine bkD ?_ | refine bkA ?_ _)); exact BK206.out⟩, ⟨by (with_reducible repeat (first | refine bkN ?_ _ | refine bkD ?_ | refine bkA ?_ _)); refine blk_put (cs := #[.int .i64 t207, .int .i64 t208, .int .i64 t209, .int .i64 t210, .int .i64 t211, .int .i64 0]) ?_ 5 _ rfl; (with_reducible repeat (first | refine bkN ?_ _ | refine bkD ?_ | refine bkA ?_ _)); refine blk_put (cs := #[.int .i64 t207, .int .i64 t208, .int .i64 t209, .int .i64 t210, .int .i64 0, .int .i64 0]) ?_ 4 _ rfl; (with_reducible repeat (first | refine bkN ?_ _ | refine bkD ?_ | refine bkA ?_ _)); refine blk_put (cs := #[.int .i64 t207, .int .i64 t208, .int .i64 t209, .int .i64 0, .int .i64 0, .int .i64 0]) ?_ 3 _ rfl; (with_reducible repeat (first | refine bkN ?_ _ | refine bkD ?_ | refine bkA ?_ _)); refine blk_put (cs := #[.int .i64 t207, .int .i64 t208, .int .i64 0, .int .i64 0, .int .i64 0, .int .i64 0]) ?_ 2 _ rfl; (with_reducible repeat (first | refine bkN ?_ _ | refine bkD ?_ | refine bkA ?_ _)); refine blk_put (cs := #[.int .i64 t207, .int .i64 0, .int .i64 0, .int .i64 0, .int .i64 0, .int .i64 0]) ?_ 1 _ rfl; (with_reducible repeat (first | refine bkN ?_ _ | refine bkD ?_ | refine bkA ?_ _)); refine blk_put (cs := #[.int .i64 0, .int .i64 0, .int .i64 0, .int .i64 0, .int .i64 0, .int .i64 0]) ?_ 0 _ rfl; (with_reducible repeat (first | refine bkN ?_ _ | refine bkD ?_ | refine bkA ?_ _)); exact BK214.out⟩, ⟨by repeat (first | (with_reducible first | exact HB.out | apply pbA | apply pbN | apply pbD | refine pbS ?_ GE206.out | refine pbS ?_ GE214.out) | exact HB.out)⟩⟩
     case rest =>
      clear HC8
      try clear c1
      try clear c2
      try clear p2
      try clear c4
      try clear c5
      try clear c5b0
      try clear c6
      try clear c14
      try clear c16
      try clear c17
      try clear c18
      try clear hcz11_0
      try clear hcz11_1
      try clear hcz11_2
      try clear hcz11_3
      try clear hcz11_4
      try clear hcz11_5
      try clear hcz15_0
      try clear hcz15_1
      try clear hcz15_2
      try clear hcz15_3
      try clear hcz15_4
      try clear hcz15_5
      try clear hcz19_0
      try clear hcz19_1
      try clear hcz19_2
      try clear hcz19_3
      try clear hcz19_4
      try clear hcz19_5
      try clear hcz20_0
      try clear hcz20_1
      try clear hcz20_2
      try clear hcz20_3
      try clear hcz20_4
      try clear hcz20_5
      try clear hfz11_0
      try clear hfz11_1
      try clear hfz11_2
      try clear hfz11_3
      try clear hfz11_4
      try clear hfz11_5
      try clear hfz15_0
      try clear hfz15_1
      try clear hfz15_2
      try clear hfz15_3
      try clear hfz15_4
      try clear hfz15_5
      try clear hfz19_0
      try clear hfz19_1
      try clear hfz19_2
      try clear hfz19_3
      try clear hfz19_4
      try clear hfz19_5
      try clear hfz20_0
      try clear hfz20_1
      try clear hfz20_2
      try clear hfz20_3
      try clear hfz20_4
      try clear hfz20_5
      try clear p2
      obtain ⟨kq, x41_7, rfl, HA, HJ7, HO_7, BK206, BK214, HB⟩ := hcut
      cases kq with
      | zero => exact absurd HA.out (by simp [repaint_Changed.j1])
      | succ kj7 =>
       have H := HA.out
       clear HA
       simp only [repaint_Changed.j1] at H
       by_cases c21 : x41_7 = true
       · subst c21
         have H1 : ((repaint_dirt.f kj7 x7_1 t199 t200 t201 t202 t203 t204 l2).bind fun t215 => (repaint_Changed.l0 kj7 l0 l1 l2 t215 ji4 (wrap64 (x18_1 + 1)))) = some r := by rw [if_pos rfl] at H; exact H
         clear H
         have H := H1
         clear H1
         replace H := Option.bind_eq_some_iff.mp H
         obtain ⟨t215, A220, H⟩ := H
         replace H : (repaint_Changed.l0 kj7 l0 l1 l2 t215 ji4 (wrap64 (x18_1 + 1))) = some r := H
         have A22 := Aside0.mk A220
         clear A220
         have H' := Aside0.mk H
         clear H
         have hnb23 := NB206_214.out
         have hnc23 := NB214_206.out
         have hcz24_0 : wc.cell? ⟨gb206, 0, none⟩ = some (.int .i64 t199) := (bkC BK206.out 0).trans rfl
         have hcz24_1 : wc.cell? ⟨gb206, 1, none⟩ = some (.int .i64 t200) := (bkC BK206.out 1).trans rfl
         have hcz24_2 : wc.cell? ⟨gb206, 2, none⟩ = some (.int .i64 t201) := (bkC BK206.out 2).trans rfl
         have hcz24_3 : wc.cell? ⟨gb206, 3, none⟩ = some (.int .i64 t202) := (bkC BK206.out 3).trans rfl
         have hcz24_4 : wc.cell? ⟨gb206, 4, none⟩ = some (.int .i64 t203) := (bkC BK206.out 4).trans rfl
         have hcz24_5 : wc.cell? ⟨gb206, 5, none⟩ = some (.int .i64 t204) := (bkC BK206.out 5).trans rfl
         have hfz24_0 := bkF BK206.out 0
         have hfz24_1 := bkF BK206.out 1
         have hfz24_2 := bkF BK206.out 2
         have hfz24_3 := bkF BK206.out 3
         have hfz24_4 := bkF BK206.out 4
         have hfz24_5 := bkF BK206.out 5
         obtain ⟨Ao25, co25, eo25⟩ := Kd.V_slice HO_7.out
         subst eo25
         go_wp2_with (first | ((with_reducible refine gate_callee (f := 70) rfl ?_); refine goesL_ (some 45) rfl rfl Try.func70 (by kernel_rfl) rfl #[.slice Ao25 x7_1.length co25, .agg #[.int .i64 t199, .int .i64 t200, .int .i64 t201, .int .i64 t202, .int .i64 t203, .int .i64 t204], .slice A2 l2.length c2] rfl (by (try simp only [List.map_toArray, List.map_cons, List.map_nil]); first | done | rfl | (simp only [List.length_drop, List.length_take]; rfl)) ?_; (with_reducible refine (repaint_dirt.calls kj7 (fun k_ => ((w.heap.size ≤ k_) ∧ (k_ ≠ gb206 ∧ k_ ≠ gb214))) _ _ x7_1 t199 t200 t201 t202 t203 t204 _ _ l2 t215 _ ?side1 ?side2 ?side3 A22.out).mono ?_); (case side1 => exact HO_7.out); (case side2 => repeat (first | exact (Kd.C_below HR2.out HB.out) | (with_reducible refine Kd.C_alloc ?_ _) | (with_reducible refine Kd.C_drewN ?_ _) | (with_reducible refine Kd.C_drew ?_))); (case side3 => exact HC2.out); rintro e w26 ⟨v216, rfl, ho0, hb⟩; refine ⟨_, rfl, ?_⟩; have n0_ := Aside0.mk (Kd.V_below (by (with_reducible repeat (first | apply Kd.V_alloc | apply Kd.V_drewN | apply Kd.V_drew)); exact HO_7.out) hb); have n1_ := Aside0.mk (Kd.V_lower (Kd.V_mono (ok' := fun k_ => (w.heap.size ≤ k_) ∧ k_ ≠ gb206 ∧ k_ ≠ gb214) ho0 (fun k_ hk_ => ⟨Or.elim hk_ (fun hs_ => hs_.1) (fun hn_ => (Nat.le_trans (pbZ (by repeat (first | (with_reducible first | exact HB.out | apply pbA | apply pbN | apply pbD | refine pbS ?_ GE206.out | refine pbS ?_ GE214.out) | exact HB.out))) hn_)), Or.elim hk_ (fun hs_ => hs_.2.1) (fun hn_ => (Kd.freshB (g := gb206) (o := .cells #[.int .i64 t199, .int .i64 t200, .int .i64 t201, .int .i64 t202, .int .i64 t203, .int .i64 t204] 54 (0, 0)) (by (with_reducible repeat (first | refine bkN ?_ _ | refine bkD ?_ | refine bkA ?_ _)); exact BK206.out) k_ hn_)), Or.elim hk_ (fun hs_ => hs_.2.2) (fun hn_ => (Kd.freshB (g := gb214) (o := .cells #[.int .i64 t207, .int .i64 t208, .int .i64 t209, .int .i64 t210, .int .i64 t211, .int .i64 t212] 54 (0, 0)) (by (with_reducible repeat (first | refine bkN ?_ _ | refine bkD ?_ | refine bkA ?_ _)); exact BK214.out) k_ hn_))⟩)) (pbZ (by repeat (first | (with_reducible first | exact HB.out | apply pbA | apply pbN | apply pbD | refine pbS ?_ GE206.out | refine pbS ?_ GE214.out) | exact HB.out)))); have n2_ := Aside0.mk (bkB (g := gb206) (o := .cells #[.int .i64 t199, .int .i64 t200, .int .i64 t201, .int .i64 t202, .int .i64 t203, .int .i64 t204] 54 (0, 0)) (by (with_reducible repeat (first | refine bkN ?_ _ | refine bkD ?_ | refine bkA ?_ _)); exact BK206.out) hb); have n3_ := Aside0.mk (bkB (g := gb214) (o := .cells #[.int .i64 t207, .int .i64 t208, .int .i64 t209, .int .i64 t210, .int .i64 t211, .int .i64 t212] 54 (0, 0)) (by (with_reducible repeat (first | refine bkN ?_ _ | refine bkD ?_ | refine bkA ?_ _)); exact BK214.out) hb); have n4_ := Aside0.mk (pbP (by repeat (first | (with_reducible first | exact HB.out | apply pbA | apply pbN | apply pbD | refine pbS ?_ GE206.out | refine pbS ?_ GE214.out) | exact HB.out)) hb); clear HO_7; clear BK206; clear BK214; clear HB; have HO_7 := n0_; have HO217 := n1_; have BK206 := n2_; have BK214 := n3_; have HB := n4_; clear n0_ n1_ n2_ n3_ n4_; (try clear hb); (try clear hb2); (try clear hk); (try clear hi); (try clear ho0)))
         go_roundg kj7
         case measure => have := HK1.out; have := HJ7.out; omega
         case rel => exact ⟨(t215), (wrap64 (x18_1 + 1)), (by first | rfl | (simp; done) | (simp [*]; done)), H', ⟨by have := HK1.out; have := HJ7.out; omega⟩, ⟨by (with_reducible repeat (first | apply Kd.V_alloc | apply Kd.V_drewN | apply Kd.V_drew)); exact Kd.V_mono HO217.out (fun _ hk => hk.1)⟩, ⟨by repeat (first | (with_reducible first | exact HB.out | apply pbA | apply pbN | apply pbD | refine pbS ?_ GE206.out | refine pbS ?_ GE214.out) | exact HB.out)⟩⟩
       · replace c21 := Bool.eq_false_iff.mpr c21
         subst c21
         have H1 : (if t205 = true then ((repaint_of.f t199 t200 t201 t202 t203 t204).bind fun bt218 => ((damage_Add.f kj7 x7_1 bt218.1 bt218.2.1 bt218.2.2.1 bt218.2.2.2).bind fun t222 => (repaint_Changed.j2 kj7 l0 l1 l2 t222 t213 ji4 x18_1 t207 t208 t209 t210 t211 t212))) else (repaint_Changed.j2 kj7 l0 l1 l2 x7_1 t213 ji4 x18_1 t207 t208 t209 t210 t211 t212)) = some r := by rw [if_neg (show ¬ (false = true) by decide)] at H; exact H
         clear H
         have H := H1
         clear H1
         have HC27 := Aside0.mk H
         clear H
         go_upto_if 46 with (fail)
         go_cut [7] (fun v7 wc => ∃ (kq : Nat) (x7_26 : List (S26)), Aside0 (repaint_Changed.j2 kq l0 l1 l2 x7_26 t213 ji4 x18_1 t207 t208 t209 t210 t211 t212 = some r) ∧ Aside0 (kq ≤ kj7) ∧ Aside0 (Kd.V k26 26 wc w.heap.size (fun k_ => (w.heap.size ≤ k_) ∧ k_ ≠ gb206 ∧ k_ ≠ gb214) v7 x7_26) ∧ Aside0 (wc.heap[gb206]? = some (.cells #[.int .i64 t199, .int .i64 t200, .int .i64 t201, .int .i64 t202, .int .i64 t203, .int .i64 t204] 54 (0, 0))) ∧ Aside0 (wc.heap[gb214]? = some (.cells #[.int .i64 t207, .int .i64 t208, .int .i64 t209, .int .i64 t210, .int .i64 t211, .int .i64 t212] 54 (0, 0))) ∧ Aside0 (Below w.heap.size w wc))
         case first =>
          have H := HC27.out
          clear HC27
          by_cases c28 : t205 = true
          · subst c28
            have H1 : ((repaint_of.f t199 t200 t201 t202 t203 t204).bind fun bt218 => ((damage_Add.f kj7 x7_1 bt218.1 bt218.2.1 bt218.2.2.1 bt218.2.2.2).bind fun t222 => (repaint_Changed.j2 kj7 l0 l1 l2 t222 t213 ji4 x18_1 t207 t208 t209 t210 t211 t212))) = some r := by rw [if_pos rfl] at H; exact H
            clear H
            have H := H1
            clear H1
            replace H := Option.bind_eq_some_iff.mp H
            obtain ⟨⟨t218, t219, t220, t221⟩, A290, H⟩ := H
            replace H : ((damage_Add.f kj7 x7_1 t218 t219 t220 t221).bind fun t222 => (repaint_Changed.j2 kj7 l0 l1 l2 t222 t213 ji4 x18_1 t207 t208 t209 t210 t211 t212)) = some r := H
            have A29 := Aside0.mk A290
            clear A290
            replace H := Option.bind_eq_some_iff.mp H
            obtain ⟨t222, A300, H⟩ := H
            replace H : (repaint_Changed.j2 kj7 l0 l1 l2 t222 t213 ji4 x18_1 t207 t208 t209 t210 t211 t212) = some r := H
            have A30 := Aside0.mk A300
            clear A300
            have H' := Aside0.mk H
            clear H
            have hnb31 := NB206_214.out
            have hnc31 := NB214_206.out
            have hcz32_0 : wc.cell? ⟨gb206, 0, none⟩ = some (.int .i64 t199) := (bkC BK206.out 0).trans rfl
            have hcz32_1 : wc.cell? ⟨gb206, 1, none⟩ = some (.int .i64 t200) := (bkC BK206.out 1).trans rfl
            have hcz32_2 : wc.cell? ⟨gb206, 2, none⟩ = some (.int .i64 t201) := (bkC BK206.out 2).trans rfl
            have hcz32_3 : wc.cell? ⟨gb206, 3, none⟩ = some (.int .i64 t202) := (bkC BK206.out 3).trans rfl
            have hcz32_4 : wc.cell? ⟨gb206, 4, none⟩ = some (.int .i64 t203) := (bkC BK206.out 4).trans rfl
            have hcz32_5 : wc.cell? ⟨gb206, 5, none⟩ = some (.int .i64 t204) := (bkC BK206.out 5).trans rfl
            have hfz32_0 := bkF BK206.out 0
            have hfz32_1 := bkF BK206.out 1
            have hfz32_2 := bkF BK206.out 2
            have hfz32_3 := bkF BK206.out 3
            have hfz32_4 := bkF BK206.out 4
            have hfz32_5 := bkF BK206.out 5
            go_wp2_with (first | ((with_reducible refine gate_callee (f := 71) rfl ?_); refine goesL_ (some 49) rfl rfl Try.func71 (by kernel_rfl) rfl #[.agg #[.int .i64 t199, .int .i64 t200, .int .i64 t201, .int .i64 t202, .int .i64 t203, .int .i64 t204]] rfl (by (try simp only [List.map_toArray, List.map_cons, List.map_nil]); first | done | rfl | (simp only [List.length_drop, List.length_take]; rfl)) ?_; (with_reducible refine (repaint_of.calls t199 t200 t201 t202 t203 t204 t218 t219 t220 t221 _ A29.out).mono ?_); rintro e w33 ⟨rfl, hb⟩; refine ⟨_, rfl, ?_⟩; have n0_ := Aside0.mk (Kd.V_below (by (with_reducible repeat (first | apply Kd.V_alloc | apply Kd.V_drewN | apply Kd.V_drew)); exact HO_7.out) hb); have n1_ := Aside0.mk (bkB (g := gb206) (o := .cells #[.int .i64 t199, .int .i64 t200, .int .i64 t201, .int .i64 t202, .int .i64 t203, .int .i64 t204] 54 (0, 0)) (by (with_reducible repeat (first | refine bkN ?_ _ | refine bkD ?_ | refine bkA ?_ _)); exact BK206.out) hb); have n2_ := Aside0.mk (bkB (g := gb214) (o := .cells #[.int .i64 t207, .int .i64 t208, .int .i64 t209, .int .i64 t210, .int .i64 t211, .int .i64 t212] 54 (0, 0)) (by (with_reducible repeat (first | refine bkN ?_ _ | refine bkD ?_ | refine bkA ?_ _)); exact BK214.out) hb); have n3_ := Aside0.mk (pbP (by repeat (first | (with_reducible first | exact HB.out | apply pbA | apply pbN | apply pbD | refine pbS ?_ GE206.out | refine pbS ?_ GE214.out) | exact HB.out)) hb); clear HO_7; clear BK206; clear BK214; clear HB; have HO_7 := n0_; have BK206 := n1_; have BK214 := n2_; have HB := n3_; clear n0_ n1_ n2_ n3_; (try clear hb); (try clear hb2); (try clear hk); (try clear hi); obtain ⟨Ao34, co34, eo34⟩ := Kd.V_slice HO_7.out; subst eo34) | ((with_reducible refine gate_callee (f := 21) rfl ?_); refine goesL_ (some 50) rfl rfl Try.func21 (by kernel_rfl) rfl #[.slice Ao34 x7_1.length co34, .agg #[.int .i64 t218, .int .i64 t219, .int .i64 t220, .int .i64 t221]] rfl (by (try simp only [List.map_toArray, List.map_cons, List.map_nil]); first | done | rfl | (simp only [List.length_drop, List.length_take]; rfl)) ?_; (with_reducible refine (damage_Add.calls kj7 _ _ x7_1 t218 t219 t220 t221 t222 _ ?side1 ?side2 A30.out).mono ?_); (case side1 => repeat (first | exact (Kd.V_reads' HO_7.out).2.2 | (with_reducible refine Kd.C_alloc ?_ _) | (with_reducible refine Kd.C_drewN ?_ _) | (with_reducible refine Kd.C_drew ?_))); (case side2 => exact (Kd.V_reads' HO_7.out).2.1); rintro e w35 ⟨v223, rfl, ho0, hb⟩; refine ⟨_, rfl, ?_⟩; have n0_ := Aside0.mk (Kd.V_below (by (with_reducible repeat (first | apply Kd.V_alloc | apply Kd.V_drewN | apply Kd.V_drew)); exact HO_7.out) hb); have n1_ := Aside0.mk (Kd.V_lower (Kd.V_mono (ok' := fun k_ => (w.heap.size ≤ k_) ∧ k_ ≠ gb206 ∧ k_ ≠ gb214) ho0 (fun k_ hk_ => ⟨(Nat.le_trans (pbZ (by repeat (first | (with_reducible first | exact HB.out | apply pbA | apply pbN | apply pbD | refine pbS ?_ GE206.out | refine pbS ?_ GE214.out) | exact HB.out))) hk_), (Kd.freshB (g := gb206) (o := .cells #[.int .i64 t199, .int .i64 t200, .int .i64 t201, .int .i64 t202, .int .i64 t203, .int .i64 t204] 54 (0, 0)) (by (with_reducible repeat (first | refine bkN ?_ _ | refine bkD ?_ | refine bkA ?_ _)); exact BK206.out) k_ hk_), (Kd.freshB (g := gb214) (o := .cells #[.int .i64 t207, .int .i64 t208, .int .i64 t209, .int .i64 t210, .int .i64 t211, .int .i64 t212] 54 (0, 0)) (by (with_reducible repeat (first | refine bkN ?_ _ | refine bkD ?_ | refine bkA ?_ _)); exact BK214.out) k_ hk_)⟩)) (pbZ (by repeat (first | (with_reducible first | exact HB.out | apply pbA | apply pbN | apply pbD | refine pbS ?_ GE206.out | refine pbS ?_ GE214.out) | exact HB.out)))); have n2_ := Aside0.mk (bkB (g := gb206) (o := .cells #[.int .i64 t199, .int .i64 t200, .int .i64 t201, .int .i64 t202, .int .i64 t203, .int .i64 t204] 54 (0, 0)) (by (with_reducible repeat (first | refine bkN ?_ _ | refine bkD ?_ | refine bkA ?_ _)); exact BK206.out) hb); have n3_ := Aside0.mk (bkB (g := gb214) (o := .cells #[.int .i64 t207, .int .i64 t208, .int .i64 t209, .int .i64 t210, .int .i64 t211, .int .i64 t212] 54 (0, 0)) (by (with_reducible repeat (first | refine bkN ?_ _ | refine bkD ?_ | refine bkA ?_ _)); exact BK214.out) hb); have n4_ := Aside0.mk (pbP (by repeat (first | (with_reducible first | exact HB.out | apply pbA | apply pbN | apply pbD | refine pbS ?_ GE206.out | refine pbS ?_ GE214.out) | exact HB.out)) hb); clear HO_7; clear BK206; clear BK214; clear HB; have HO_7 := n0_; have HO224 := n1_; have BK206 := n2_; have BK214 := n3_; have HB := n4_; clear n0_ n1_ n2_ n3_ n4_; (try clear hb); (try clear hb2); (try clear hk); (try clear hi); (try clear ho0)))
            go_meet
            case rel => exact ⟨_, (t222), H', ⟨by have := HK1.out; have := HJ7.out; first | omega | exact Nat.le_refl _⟩, ⟨by (with_reducible repeat (first | apply Kd.V_alloc | apply Kd.V_drewN | apply Kd.V_drew)); exact HO224.out⟩, ⟨by (with_reducible repeat (first | refine bkN ?_ _ | refine bkD ?_ | refine bkA ?_ _)); exact BK206.out⟩, ⟨by (with_reducible repeat (first | refine bkN ?_ _ | refine bkD ?_ | refine bkA ?_ _)); exact BK214.out⟩, ⟨by repeat (first | (with_reducible first | exact HB.out | apply pbA | apply pbN | apply pbD | refine pbS ?_ GE206.out | refine pbS ?_ GE214.out) | exact HB.out)⟩⟩
          · replace c28 := Bool.eq_false_iff.mpr c28
            subst c28
            have H1 : (repaint_Changed.j2 kj7 l0 l1 l2 x7_1 t213 ji4 x18_1 t207 t208 t209 t210 t211 t212) = some r := by rw [if_neg (show ¬ (false = true) by decide)] at H; exact H
            clear H
            have H := H1
            clear H1
            have H' := Aside0.mk H
            clear H
            go_wp2
            go_meet
            case rel => exact ⟨_, (x7_1), H', ⟨by have := HK1.out; have := HJ7.out; first | omega | exact Nat.le_refl _⟩, ⟨by (with_reducible repeat (first | apply Kd.V_alloc | apply Kd.V_drewN | apply Kd.V_drew)); exact HO_7.out⟩, ⟨by (with_reducible repeat (first | refine bkN ?_ _ | refine bkD ?_ | refine bkA ?_ _)); exact BK206.out⟩, ⟨by (with_reducible repeat (first | refine bkN ?_ _ | refine bkD ?_ | refine bkA ?_ _)); exact BK214.out⟩, ⟨by repeat (first | (with_reducible first | exact HB.out | apply pbA | apply pbN | apply pbD | refine pbS ?_ GE206.out | refine pbS ?_ GE214.out) | exact HB.out)⟩⟩
         case rest =>
          clear HC27
          try clear c1
          try clear c2
          try clear p2
          try clear c3
          try clear c4
          try clear c5
          try clear c5b0
          try clear c6
          try clear p6
          try clear c7
          try clear c14
          try clear c16
          try clear c17
          try clear c18
          try clear c21
          try clear c23
          try clear c28
          try clear c31
          try clear hcz11_0
          try clear hcz11_1
          try clear hcz11_2
          try clear hcz11_3
          try clear hcz11_4
          try clear hcz11_5
          try clear hcz15_0
          try clear hcz15_1
          try clear hcz15_2
          try clear hcz15_3
          try clear hcz15_4
          try clear hcz15_5
          try clear hcz19_0
          try clear hcz19_1
          try clear hcz19_2
          try clear hcz19_3
          try clear hcz19_4
          try clear hcz19_5
          try clear hcz20_0
          try clear hcz20_1
          try clear hcz20_2
          try clear hcz20_3
          try clear hcz20_4
          try clear hcz20_5
          try clear hcz24_0
          try clear hcz24_1
          try clear hcz24_2
          try clear hcz24_3
          try clear hcz24_4
          try clear hcz24_5
          try clear hcz32_0
          try clear hcz32_1
          try clear hcz32_2
          try clear hcz32_3
          try clear hcz32_4
          try clear hcz32_5
          try clear hfz11_0
          try clear hfz11_1
          try clear hfz11_2
          try clear hfz11_3
          try clear hfz11_4
          try clear hfz11_5
          try clear hfz15_0
          try clear hfz15_1
          try clear hfz15_2
          try clear hfz15_3
          try clear hfz15_4
          try clear hfz15_5
          try clear hfz19_0
          try clear hfz19_1
          try clear hfz19_2
          try clear hfz19_3
          try clear hfz19_4
          try clear hfz19_5
          try clear hfz20_0
          try clear hfz20_1
          try clear hfz20_2
          try clear hfz20_3
          try clear hfz20_4
          try clear hfz20_5
          try clear hfz24_0
          try clear hfz24_1
          try clear hfz24_2
          try clear hfz24_3
          try clear hfz24_4
          try clear hfz24_5
          try clear hfz32_0
          try clear hfz32_1
          try clear hfz32_2
          try clear hfz32_3
          try clear hfz32_4
          try clear hfz32_5
          try clear p2
          obtain ⟨kq, x7_26, HA, HJ26, HO_7, BK206, BK214, HB⟩ := hcut
          cases kq with
          | zero => exact absurd HA.out (by simp [repaint_Changed.j2])
          | succ kj26 =>
           have H := HA.out
           clear HA
           simp only [repaint_Changed.j2] at H
           by_cases c36 : t213 = true
           · subst c36
             have H1 : ((repaint_of.f t207 t208 t209 t210 t211 t212).bind fun bt225 => ((damage_Add.f kj26 x7_26 bt225.1 bt225.2.1 bt225.2.2.1 bt225.2.2.2).bind fun t229 => (repaint_Changed.l0 kj26 l0 l1 l2 t229 ji4 (wrap64 (x18_1 + 1))))) = some r := by rw [if_pos rfl] at H; exact H
             clear H
             have H := H1
             clear H1
             replace H := Option.bind_eq_some_iff.mp H
             obtain ⟨⟨t225, t226, t227, t228⟩, A370, H⟩ := H
             replace H : ((damage_Add.f kj26 x7_26 t225 t226 t227 t228).bind fun t229 => (repaint_Changed.l0 kj26 l0 l1 l2 t229 ji4 (wrap64 (x18_1 + 1)))) = some r := H
             have A37 := Aside0.mk A370
             clear A370
             replace H := Option.bind_eq_some_iff.mp H
             obtain ⟨t229, A380, H⟩ := H
             replace H : (repaint_Changed.l0 kj26 l0 l1 l2 t229 ji4 (wrap64 (x18_1 + 1))) = some r := H
             have A38 := Aside0.mk A380
             clear A380
             have H' := Aside0.mk H
             clear H
             have hnb39 := NB214_206.out
             have hnc39 := NB206_214.out
             have hcz40_0 : wc.cell? ⟨gb214, 0, none⟩ = some (.int .i64 t207) := (bkC BK214.out 0).trans rfl
             have hcz40_1 : wc.cell? ⟨gb214, 1, none⟩ = some (.int .i64 t208) := (bkC BK214.out 1).trans rfl
             have hcz40_2 : wc.cell? ⟨gb214, 2, none⟩ = some (.int .i64 t209) := (bkC BK214.out 2).trans rfl
             have hcz40_3 : wc.cell? ⟨gb214, 3, none⟩ = some (.int .i64 t210) := (bkC BK214.out 3).trans rfl
             have hcz40_4 : wc.cell? ⟨gb214, 4, none⟩ = some (.int .i64 t211) := (bkC BK214.out 4).trans rfl
             have hcz40_5 : wc.cell? ⟨gb214, 5, none⟩ = some (.int .i64 t212) := (bkC BK214.out 5).trans rfl
             have hfz40_0 := bkF BK214.out 0
             have hfz40_1 := bkF BK214.out 1
             have hfz40_2 := bkF BK214.out 2
             have hfz40_3 := bkF BK214.out 3
             have hfz40_4 := bkF BK214.out 4
             have hfz40_5 := bkF BK214.out 5
             go_wp2_with (first | ((with_reducible refine gate_callee (f := 71) rfl ?_); refine goesL_ (some 54) rfl rfl Try.func71 (by kernel_rfl) rfl #[.agg #[.int .i64 t207, .int .i64 t208, .int .i64 t209, .int .i64 t210, .int .i64 t211, .int .i64 t212]] rfl (by (try simp only [List.map_toArray, List.map_cons, List.map_nil]); first | done | rfl | (simp only [List.length_drop, List.length_take]; rfl)) ?_; (with_reducible refine (repaint_of.calls t207 t208 t209 t210 t211 t212 t225 t226 t227 t228 _ A37.out).mono ?_); rintro e w41 ⟨rfl, hb⟩; refine ⟨_, rfl, ?_⟩; have n0_ := Aside0.mk (Kd.V_below (by (with_reducible repeat (first | apply Kd.V_alloc | apply Kd.V_drewN | apply Kd.V_drew)); exact HO_7.out) hb); have n1_ := Aside0.mk (bkB (g := gb206) (o := .cells #[.int .i64 t199, .int .i64 t200, .int .i64 t201, .int .i64 t202, .int .i64 t203, .int .i64 t204] 54 (0, 0)) (by (with_reducible repeat (first | refine bkN ?_ _ | refine bkD ?_ | refine bkA ?_ _)); exact BK206.out) hb); have n2_ := Aside0.mk (bkB (g := gb214) (o := .cells #[.int .i64 t207, .int .i64 t208, .int .i64 t209, .int .i64 t210, .int .i64 t211, .int .i64 t212] 54 (0, 0)) (by (with_reducible repeat (first | refine bkN ?_ _ | refine bkD ?_ | refine bkA ?_ _)); exact BK214.out) hb); have n3_ := Aside0.mk (pbP (by repeat (first | (with_reducible first | exact HB.out | apply pbA | apply pbN | apply pbD | refine pbS ?_ GE206.out | refine pbS ?_ GE214.out) | exact HB.out)) hb); clear HO_7; clear BK206; clear BK214; clear HB; have HO_7 := n0_; have BK206 := n1_; have BK214 := n2_; have HB := n3_; clear n0_ n1_ n2_ n3_; (try clear hb); (try clear hb2); (try clear hk); (try clear hi); obtain ⟨Ao42, co42, eo42⟩ := Kd.V_slice HO_7.out; subst eo42) | ((with_reducible refine gate_callee (f := 21) rfl ?_); refine goesL_ (some 55) rfl rfl Try.func21 (by kernel_rfl) rfl #[.slice Ao42 x7_26.length co42, .agg #[.int .i64 t225, .int .i64 t226, .int .i64 t227, .int .i64 t228]] rfl (by (try simp only [List.map_toArray, List.map_cons, List.map_nil]); first | done | rfl | (simp only [List.length_drop, List.length_take]; rfl)) ?_; (with_reducible refine (damage_Add.calls kj26 _ _ x7_26 t225 t226 t227 t228 t229 _ ?side1 ?side2 A38.out).mono ?_); (case side1 => repeat (first | exact (Kd.V_reads' HO_7.out).2.2 | (with_reducible refine Kd.C_alloc ?_ _) | (with_reducible refine Kd.C_drewN ?_ _) | (with_reducible refine Kd.C_drew ?_))); (case side2 => exact (Kd.V_reads' HO_7.out).2.1); rintro e w43 ⟨v230, rfl, ho0, hb⟩; refine ⟨_, rfl, ?_⟩; have n0_ := Aside0.mk (Kd.V_below (by (with_reducible repeat (first | apply Kd.V_alloc | apply Kd.V_drewN | apply Kd.V_drew)); exact HO_7.out) hb); have n1_ := Aside0.mk (Kd.V_lower (Kd.V_mono (ok' := fun k_ => (w.heap.size ≤ k_) ∧ k_ ≠ gb206 ∧ k_ ≠ gb214) ho0 (fun k_ hk_ => ⟨(Nat.le_trans (pbZ (by repeat (first | (with_reducible first | exact HB.out | apply pbA | apply pbN | apply pbD | refine pbS ?_ GE206.out | refine pbS ?_ GE214.out) | exact HB.out))) hk_), (Kd.freshB (g := gb206) (o := .cells #[.int .i64 t199, .int .i64 t200, .int .i64 t201, .int .i64 t202, .int .i64 t203, .int .i64 t204] 54 (0, 0)) (by (with_reducible repeat (first | refine bkN ?_ _ | refine bkD ?_ | refine bkA ?_ _)); exact BK206.out) k_ hk_), (Kd.freshB (g := gb214) (o := .cells #[.int .i64 t207, .int .i64 t208, .int .i64 t209, .int .i64 t210, .int .i64 t211, .int .i64 t212] 54 (0, 0)) (by (with_reducible repeat (first | refine bkN ?_ _ | refine bkD ?_ | refine bkA ?_ _)); exact BK214.out) k_ hk_)⟩)) (pbZ (by repeat (first | (with_reducible first | exact HB.out | apply pbA | apply pbN | apply pbD | refine pbS ?_ GE206.out | refine pbS ?_ GE214.out) | exact HB.out)))); have n2_ := Aside0.mk (bkB (g := gb206) (o := .cells #[.int .i64 t199, .int .i64 t200, .int .i64 t201, .int .i64 t202, .int .i64 t203, .int .i64 t204] 54 (0, 0)) (by (with_reducible repeat (first | refine bkN ?_ _ | refine bkD ?_ | refine bkA ?_ _)); exact BK206.out) hb); have n3_ := Aside0.mk (bkB (g := gb214) (o := .cells #[.int .i64 t207, .int .i64 t208, .int .i64 t209, .int .i64 t210, .int .i64 t211, .int .i64 t212] 54 (0, 0)) (by (with_reducible repeat (first | refine bkN ?_ _ | refine bkD ?_ | refine bkA ?_ _)); exact BK214.out) hb); have n4_ := Aside0.mk (pbP (by repeat (first | (with_reducible first | exact HB.out | apply pbA | apply pbN | apply pbD | refine pbS ?_ GE206.out | refine pbS ?_ GE214.out) | exact HB.out)) hb); clear HO_7; clear BK206; clear BK214; clear HB; have HO_7 := n0_; have HO231 := n1_; have BK206 := n2_; have BK214 := n3_; have HB := n4_; clear n0_ n1_ n2_ n3_ n4_; (try clear hb); (try clear hb2); (try clear hk); (try clear hi); (try clear ho0)))
             go_roundg kj26
             case measure => have := HK1.out; have := HJ7.out; have := HJ26.out; omega
             case rel => exact ⟨(t229), (wrap64 (x18_1 + 1)), (by first | rfl | (simp; done) | (simp [*]; done)), H', ⟨by have := HK1.out; have := HJ7.out; have := HJ26.out; omega⟩, ⟨by (with_reducible repeat (first | apply Kd.V_alloc | apply Kd.V_drewN | apply Kd.V_drew)); exact Kd.V_mono HO231.out (fun _ hk => hk.1)⟩, ⟨by repeat (first | (with_reducible first | exact HB.out | apply pbA | apply pbN | apply pbD | refine pbS ?_ GE206.out | refine pbS ?_ GE214.out) | exact HB.out)⟩⟩
           · replace c36 := Bool.eq_false_iff.mpr c36
             subst c36
             have H1 : (repaint_Changed.l0 kj26 l0 l1 l2 x7_26 ji4 (wrap64 (x18_1 + 1))) = some r := by rw [if_neg (show ¬ (false = true) by decide)] at H; exact H
             clear H
             have H := H1
             clear H1
             have H' := Aside0.mk H
             clear H
             go_wp2
             go_roundg kj26
             case measure => have := HK1.out; have := HJ7.out; have := HJ26.out; omega
             case rel => exact ⟨(x7_26), (wrap64 (x18_1 + 1)), (by first | rfl | (simp; done) | (simp [*]; done)), H', ⟨by have := HK1.out; have := HJ7.out; have := HJ26.out; omega⟩, ⟨by (with_reducible repeat (first | apply Kd.V_alloc | apply Kd.V_drewN | apply Kd.V_drew)); exact Kd.V_mono HO_7.out (fun _ hk => hk.1)⟩, ⟨by repeat (first | (with_reducible first | exact HB.out | apply pbA | apply pbN | apply pbD | refine pbS ?_ GE206.out | refine pbS ?_ GE214.out) | exact HB.out)⟩⟩
   · rw [if_neg c5] at H
     have c5b0 : decide (x18_1 < ji4) = false := decide_eq_false c5
     clear c5
     by_cases c44 : 0 ≤ (x7_1.length : Int)
     · rw [if_pos c44] at H
       have c44b0 := eq_true c44
       have c44b1 : decide (0 ≤ (x7_1.length : Int)) = true := decide_eq_true c44
       clear c44
       by_cases c45 : (x7_1.length : Int) ≤ (x7_1.length : Int)
       · rw [if_pos c45] at H
         have c45b0 := eq_true c45
         have c45b1 : decide ((x7_1.length : Int) ≤ (x7_1.length : Int)) = true := decide_eq_true c45
         clear c45
         obtain ⟨y194, hy194⟩ : ∃ y_ : List (S26), y_ = (x7_1.take ((x7_1.length : Int) : Int).toNat) := ⟨_, rfl⟩
         replace H : (some y194) = some r := by first | (rw [hy194]; with_reducible exact H) | (have H2_ := (Option.bind_some _ _).symm.trans H; rw [hy194]; with_reducible exact H2_) | (have H2_ := (Option.bind_some _ _).symm.trans H; with_reducible exact H2_) | with_reducible exact H | (rw [hy194]; exact H) | exact H
         have Ny194 := Aside0.mk hy194
         clear hy194
         obtain rfl := Option.some.inj H
         obtain ⟨Ao46, co46, eo46⟩ := Kd.V_slice HO_7.out
         subst eo46
         have q47 : ((x7_1.length : Int) : Int) ≤ ((x7_1.length : Int) : Int) := of_decide_eq_true (by first | (with_reducible assumption) | assumption)
         obtain ⟨i047, hi047, _, hsz47, _⟩ := info_parts info26
         have hroom47 : x7_1.length ≤ co46 := (Kd.V_reads' HO_7.out).2.1
         have hC47 : Kd.F k26 _ _ Ao46 x7_1.length x7_1 := (Kd.V_at (base := w.heap.size) HO_7.out).2.2
         have hcut47 := Go.Proofs.Ytclpppejabfbbaa.Cut3.cut_to3 (P := Try.prog) 22 26 .i64 .i64 Try.underlying22 hi047 Ao46 x7_1.length co46 (x7_1.length : Int) (of_decide_eq_true (by first | (with_reducible assumption) | assumption)) q47 hroom47
         have hr47 := Kd.F_take (m := ((x7_1.length : Int) : Int).toNat) hC47 (by omega)
         have hy47 : y194.length = ((x7_1.length : Int) : Int).toNat := (by rw [Ny194.out, List.length_take]; omega)
         rw [← Ny194.out] at hr47
         rw [← hy47] at hcut47
         have HO198 := Aside0.mk (show Kd.V k26 26 _ w.heap.size _ (.slice Ao46 y194.length y194.length) y194 from Kd.V_mk (by omega) hr47)
         have HC198 := Aside0.mk (show y194.length ≤ y194.length from by omega)
         clear hr47 hC47 hroom47 hi047 hsz47
         have KY47 := Aside0.mk hy47
         clear hy47
         replace q47 := eq_true q47
         go_wp2
         go_ret
         exact ⟨_, by first | rfl | (simp [errW_none, errW_some] <;> rfl) | (simp only [← hji4]; first | rfl | (simp [errW_none, errW_some] <;> rfl)) | (simp [*, errW_none, errW_some] <;> rfl), by (with_reducible repeat (first | apply Kd.V_alloc | apply Kd.V_drewN | apply Kd.V_drew)); exact HO198.out, by repeat (first | (with_reducible first | exact HB.out | apply pbA | apply pbN | apply pbD) | exact HB.out)⟩
       · rw [if_neg c45] at H
         exact absurd H (by simp)
     · rw [if_neg c44] at H
       exact absurd H (by simp)

/-! ### tableaulaw24_awake: function 42 -/
def tableaulaw24_awake.f (k : Nat)  : Option (Bool) := (some (([(⟨1, 0, 0, 0, 2, 2⟩ : S54)] : List (S54)) : List (S54))).bind fun y232 => ((repaint_Changed.f k ([] : List (S54)) y232 ([] : List (S52))).bind fun t235 => ((repaint_Changed.f k y232 y232 ([] : List (S52))).bind fun t238 => (if (t238.length : Int) = 0 then (if (t235.length : Int) = 1 then (if 0 < (t235.length : Int) then (some (((rd_T26 t235 0).f0) == 0 && (((rd_T26 t235 0).f1) == 0 && (((rd_T26 t235 0).f2) == 2 && (((rd_T26 t235 0).f3) == 2))))) else (none)) else (some false)) else (some false))))
theorem tableaulaw24_awake.mono : ∀ k, LeO (tableaulaw24_awake.f k ) (tableaulaw24_awake.f (k + 1) ) := by
 intro  k
 unfold tableaulaw24_awake.f
 repeat' first
  | (with_reducible exact repaint_Changed.mono _ _ _ _)
  | (with_reducible exact LeO.refl _)
  | (with_reducible exact LeO.none _)
  | (with_reducible refine LeO.ite ?_ ?_)
  | (with_reducible refine LeO.bind ?_ (fun _ => ?_))
  | exact repaint_Changed.mono _ _ _ _
  | exact LeO.none _
  | refine LeO.ite ?_ ?_
  | refine LeO.bind ?_ (fun _ => ?_)
set_option maxHeartbeats 8000000 in
set_option maxRecDepth 100000 in
theorem tableaulaw24_awake.calls (k : Nat)  (r : Bool) (w : World) (h : tableaulaw24_awake.f k  = some r) :
 Calls Try.prog 42 #[] w fun e w' => e = .returned (.bool r) ∧ Below w.heap.size w w' := by
 have hu54 := Try.underlying54
 have hu26 := Try.underlying26
 have HB := Aside0.mk (Below.refl w.heap.size w)
 have H : ((some (([(⟨1, 0, 0, 0, 2, 2⟩ : S54)] : List (S54)) : List (S54))).bind fun y232 => ((repaint_Changed.f k ([] : List (S54)) y232 ([] : List (S52))).bind fun t235 => ((repaint_Changed.f k y232 y232 ([] : List (S52))).bind fun t238 => (if (t238.length : Int) = 0 then (if (t235.length : Int) = 1 then (if 0 < (t235.length : Int) then (some (((rd_T26 t235 0).f0) == 0 && (((rd_T26 t235 0).f1) == 0 && (((rd_T26 t235 0).f2) == 2 && (((rd_T26 t235 0).f3) == 2))))) else (none)) else (some false)) else (some false))))) = some r := h
 clear h
 obtain ⟨y232, hy232⟩ : ∃ y_ : List (S54), y_ = (([(⟨1, 0, 0, 0, 2, 2⟩ : S54)] : List (S54))) := ⟨_, rfl⟩
 replace H : ((repaint_Changed.f k ([] : List (S54)) y232 ([] : List (S52))).bind fun t235 => ((repaint_Changed.f k y232 y232 ([] : List (S52))).bind fun t238 => (if (t238.length : Int) = 0 then (if (t235.length : Int) = 1 then (if 0 < (t235.length : Int) then (some (((rd_T26 t235 0).f0) == 0 && (((rd_T26 t235 0).f1) == 0 && (((rd_T26 t235 0).f2) == 2 && (((rd_T26 t235 0).f3) == 2))))) else (none)) else (some false)) else (some false)))) = some r := by first | (rw [hy232]; with_reducible exact H) | (have H2_ := (Option.bind_some _ _).symm.trans H; rw [hy232]; with_reducible exact H2_) | (have H2_ := (Option.bind_some _ _).symm.trans H; with_reducible exact H2_) | with_reducible exact H | (rw [hy232]; exact H) | exact H
 have Ny232 := Aside0.mk hy232
 clear hy232
 replace H := Option.bind_eq_some_iff.mp H
 obtain ⟨t235, A10, H⟩ := H
 replace H : ((repaint_Changed.f k y232 y232 ([] : List (S52))).bind fun t238 => (if (t238.length : Int) = 0 then (if (t235.length : Int) = 1 then (if 0 < (t235.length : Int) then (some (((rd_T26 t235 0).f0) == 0 && (((rd_T26 t235 0).f1) == 0 && (((rd_T26 t235 0).f2) == 2 && (((rd_T26 t235 0).f3) == 2))))) else (none)) else (some false)) else (some false))) = some r := H
 have A1 := Aside0.mk A10
 clear A10
 replace H := Option.bind_eq_some_iff.mp H
 obtain ⟨t238, A20, H⟩ := H
 replace H : (if (t238.length : Int) = 0 then (if (t235.length : Int) = 1 then (if 0 < (t235.length : Int) then (some (((rd_T26 t235 0).f0) == 0 && (((rd_T26 t235 0).f1) == 0 && (((rd_T26 t235 0).f2) == 2 && (((rd_T26 t235 0).f3) == 2))))) else (none)) else (some false)) else (some false)) = some r := H
 have A2 := Aside0.mk A20
 clear A20
 by_cases c3 : (t238.length : Int) = 0
 · rw [if_pos c3] at H
   have c3b0 : ((t238.length : Int) == 0) = true := beq_iff_eq.mpr c3
   have c3b1 : ((t238.length : Int) != 0) = false := bne_eq_false_iff_eq.mpr c3
   clear c3
   by_cases c4 : (t235.length : Int) = 1
   · rw [if_pos c4] at H
     have c4b0 : ((t235.length : Int) == 1) = true := beq_iff_eq.mpr c4
     have c4b1 : ((t235.length : Int) != 1) = false := bne_eq_false_iff_eq.mpr c4
     clear c4
     by_cases c5 : 0 < (t235.length : Int)
     · rw [if_pos c5] at H
       have c5b0 : decide (0 < (t235.length : Int)) = true := decide_eq_true c5
       have c5b1 : decide (0 < t235.length) = true := decide_eq_true (by omega)
       clear c5
       obtain rfl := Option.some.inj H
       go_enter Try.func42, Try.ntmps42
       go_wp2_with (first | ((with_reducible refine gate_dst (N := 4) rfl ?_); (try (refine gate_guard (by rfl) ?_; dsimp only)); refine Kd.R_lit k54 _ 54 ?hg (N := 4) ?hd (xs := ([(⟨1, 0, 0, 0, 2, 2⟩ : S54)] : List (S54))) (inner := [.int .i64 1, .int .i64 0, .int .i64 0, .int .i64 0, .int .i64 2, .int .i64 2]) (ok := fun _ => True) (okp := fun _ => True) ?hr ?hp (fun _ hk => hk) trivial (Below.refl _ _) (Nat.le_refl _) (by simp) ?_; (case hd => rfl); (case hg => rfl); (case hr => first | (go_simp; done) | (go_simp; rfl)); (case hp => exact (Reps.c6 (show Kd.M k54 _ _ _ (⟨1, 0, 0, 0, 2, 2⟩ : S54) [.int .i64 1, .int .i64 0, .int .i64 0, .int .i64 0, .int .i64 2, .int .i64 2] from (k54_mkM _ _ _ (⟨1, 0, 0, 0, 2, 2⟩ : S54) )) (Reps.none _ _))); intro v233 w6 ho7 hb hg_ hnew_; clear hg_ hnew_; (first | rw [← Ny232.out] at ho7 | (simp only [Int.reduceToNat] at ho7; rw [← Ny232.out] at ho7)); have n0_ := Aside0.mk (Kd.R_lower ho7 (pbZ (by repeat (first | (with_reducible first | exact HB.out | apply pbA | apply pbN | apply pbD) | exact HB.out)))); have n1_ := Aside0.mk (pbP (by repeat (first | (with_reducible first | exact HB.out | apply pbA | apply pbN | apply pbD) | exact HB.out)) hb); clear HB; have HO234 := n0_; have HB := n1_; clear n0_ n1_; clear hb ho7; obtain ⟨Ao8, co8, eo8⟩ := Kd.R_slice HO234.out; subst eo8) | ((with_reducible refine gate_callee (f := 43) rfl ?_); refine goesL_ (some 6) rfl rfl Try.func43 (by kernel_rfl) rfl #[.slice none 0 0, .slice Ao8 y232.length co8, .slice none 0 0] rfl (by (try simp only [List.map_toArray, List.map_cons, List.map_nil]); first | done | rfl | (simp only [List.length_drop, List.length_take]; rfl)) ?_; (refine (repaint_Changed.calls k _ _ ([] : List (S54)) _ _ y232 _ _ ([] : List (S52)) t235 _ ?side1 ?side2 ?side3 ?side4 ?side5 ?side6 A1.out).mono ?_); (case side1 => exact Kd.C_nil _ _); (case side2 => exact Nat.le_refl _); (case side3 => repeat (first | exact (Kd.R_reads' HO234.out).2.2 | (with_reducible refine Kd.C_alloc ?_ _) | (with_reducible refine Kd.C_drewN ?_ _) | (with_reducible refine Kd.C_drew ?_))); (case side4 => exact (Kd.R_reads' HO234.out).2.1); (case side5 => exact Kd.C_nil _ _); (case side6 => exact Nat.le_refl _); rintro e w9 ⟨v236, rfl, ho0, hb⟩; refine ⟨_, rfl, ?_⟩; have n0_ := Aside0.mk (Kd.R_below (by (with_reducible repeat (first | apply Kd.R_alloc | apply Kd.R_drewN | apply Kd.R_drew)); exact HO234.out) hb); have n1_ := Aside0.mk (Kd.V_lower (Kd.V_mono (ok' := fun k_ => some k_ ≠ (.slice Ao8 y232.length co8 : Value).ownBlock) ho0 (fun k_ hk_ => (Kd.fresh' (Kd.R_lt (by (with_reducible repeat (first | apply Kd.R_alloc | apply Kd.R_drewN | apply Kd.R_drew)); exact HO234.out)) k_ hk_))) (pbZ (by repeat (first | (with_reducible first | exact HB.out | apply pbA | apply pbN | apply pbD) | exact HB.out)))); have n2_ := Aside0.mk (pbP (by repeat (first | (with_reducible first | exact HB.out | apply pbA | apply pbN | apply pbD) | exact HB.out)) hb); clear HO234; clear HB; have HO234 := n0_; have HO237 := n1_; have HB := n2_; clear n0_ n1_ n2_; (try clear hb); (try clear hb2); (try clear hk); (try clear hi); (try clear ho0)) | ((with_reducible refine gate_callee (f := 43) rfl ?_); refine goesL_ (some 9) rfl rfl Try.func43 (by kernel_rfl) rfl #[.slice Ao8 y232.length co8, .slice Ao8 y232.length co8, .slice none 0 0] rfl (by (try simp only [List.map_toArray, List.map_cons, List.map_nil]); first | done | rfl | (simp only [List.length_drop, List.length_take]; rfl)) ?_; (refine (repaint_Changed.calls k _ _ y232 _ _ y232 _ _ ([] : List (S52)) t238 _ ?side1 ?side2 ?side3 ?side4 ?side5 ?side6 A2.out).mono ?_); (case side1 => repeat (first | exact (Kd.R_reads' HO234.out).2.2 | (with_reducible refine Kd.C_alloc ?_ _) | (with_reducible refine Kd.C_drewN ?_ _) | (with_reducible refine Kd.C_drew ?_))); (case side2 => exact (Kd.R_reads' HO234.out).2.1); (case side3 => repeat (first | exact (Kd.R_reads' HO234.out).2.2 | (with_reducible refine Kd.C_alloc ?_ _) | (with_reducible refine Kd.C_drewN ?_ _) | (with_reducible refine Kd.C_drew ?_))); (case side4 => exact (Kd.R_reads' HO234.out).2.1); (case side5 => exact Kd.C_nil _ _); (case side6 => exact Nat.le_refl _); rintro e w10 ⟨v239, rfl, ho0, hb⟩; refine ⟨_, rfl, ?_⟩; have n0_ := Aside0.mk (Kd.R_below (by (with_reducible repeat (first | apply Kd.R_alloc | apply Kd.R_drewN | apply Kd.R_drew)); exact HO234.out) hb); have n1_ := Aside0.mk (Kd.V_below (by (with_reducible repeat (first | apply Kd.V_alloc | apply Kd.V_drewN | apply Kd.V_drew)); exact HO237.out) hb); have n2_ := Aside0.mk (Kd.V_lower (Kd.V_mono (ok' := fun k_ => some k_ ≠ (.slice Ao8 y232.length co8 : Value).ownBlock) ho0 (fun k_ hk_ => (Kd.fresh' (Kd.R_lt (by (with_reducible repeat (first | apply Kd.R_alloc | apply Kd.R_drewN | apply Kd.R_drew)); exact HO234.out)) k_ hk_))) (pbZ (by repeat (first | (with_reducible first | exact HB.out | apply pbA | apply pbN | apply pbD) | exact HB.out)))); have n3_ := Aside0.mk (pbP (by repeat (first | (with_reducible first | exact HB.out | apply pbA | apply pbN | apply pbD) | exact HB.out)) hb); clear HO234; clear HO237; clear HB; have HO234 := n0_; have HO237 := n1_; have HO240 := n2_; have HB := n3_; clear n0_ n1_ n2_ n3_; (try clear hb); (try clear hb2); (try clear hk); (try clear hi); (try clear ho0); obtain ⟨Ao11, co11, eo11⟩ := Kd.V_slice HO240.out; subst eo11; obtain ⟨Ao12, co12, eo12⟩ := Kd.V_slice HO237.out; subst eo12; have p241 : 0 ≤ (0 : Int) := (by omega); have q241 : 0 < (t235.length : Int) := of_decide_eq_true (by first | (with_reducible assumption) | assumption); obtain ⟨ad241, e241, hx241_0, hx241_1, hx241_2, hx241_3⟩ := at_T26 (Kd.V_reads' HO237.out).2.2 0 p241 q241; cases e241; have qi241 : (0 < t235.length) = True := eq_true (by omega); (try rw [show ((0 : Int)).toNat = 0 from rfl] at hx241_0); (try rw [show 0 * 4 = 0 from rfl] at hx241_0); (try rw [Addr.add_zero'] at hx241_0); (try rw [show ((0 : Int)).toNat = 0 from rfl] at hx241_1); (try rw [show 0 * 4 = 0 from rfl] at hx241_1); (try rw [Addr.add_zero'] at hx241_1); (try rw [show ((0 : Int)).toNat = 0 from rfl] at hx241_2); (try rw [show 0 * 4 = 0 from rfl] at hx241_2); (try rw [Addr.add_zero'] at hx241_2); (try rw [show ((0 : Int)).toNat = 0 from rfl] at hx241_3); (try rw [show 0 * 4 = 0 from rfl] at hx241_3); (try rw [Addr.add_zero'] at hx241_3); replace p241 := eq_true p241; replace q241 := eq_true q241))
       go_ret
       exact ⟨by first | rfl | (simp [errW_none, errW_some] <;> rfl) | (simp [*, errW_none, errW_some] <;> rfl), by repeat (first | (with_reducible first | exact HB.out | apply pbA | apply pbN | apply pbD) | exact HB.out)⟩
     · rw [if_neg c5] at H
       exact absurd H (by simp)
   · rw [if_neg c4] at H
     have c4b0 : ((t235.length : Int) == 1) = false := beq_eq_false_iff_ne.mpr c4
     have c4b1 : ((t235.length : Int) != 1) = true := bne_iff_ne.mpr c4
     obtain rfl := Option.some.inj H
     go_enter Try.func42, Try.ntmps42
     go_wp2_with (first | ((with_reducible refine gate_dst (N := 4) rfl ?_); (try (refine gate_guard (by rfl) ?_; dsimp only)); refine Kd.R_lit k54 _ 54 ?hg (N := 4) ?hd (xs := ([(⟨1, 0, 0, 0, 2, 2⟩ : S54)] : List (S54))) (inner := [.int .i64 1, .int .i64 0, .int .i64 0, .int .i64 0, .int .i64 2, .int .i64 2]) (ok := fun _ => True) (okp := fun _ => True) ?hr ?hp (fun _ hk => hk) trivial (Below.refl _ _) (Nat.le_refl _) (by simp) ?_; (case hd => rfl); (case hg => rfl); (case hr => first | (go_simp; done) | (go_simp; rfl)); (case hp => exact (Reps.c6 (show Kd.M k54 _ _ _ (⟨1, 0, 0, 0, 2, 2⟩ : S54) [.int .i64 1, .int .i64 0, .int .i64 0, .int .i64 0, .int .i64 2, .int .i64 2] from (k54_mkM _ _ _ (⟨1, 0, 0, 0, 2, 2⟩ : S54) )) (Reps.none _ _))); intro v233 w13 ho14 hb hg_ hnew_; clear hg_ hnew_; (first | rw [← Ny232.out] at ho14 | (simp only [Int.reduceToNat] at ho14; rw [← Ny232.out] at ho14)); have n0_ := Aside0.mk (Kd.R_lower ho14 (pbZ (by repeat (first | (with_reducible first | exact HB.out | apply pbA | apply pbN | apply pbD) | exact HB.out)))); have n1_ := Aside0.mk (pbP (by repeat (first | (with_reducible first | exact HB.out | apply pbA | apply pbN | apply pbD) | exact HB.out)) hb); clear HB; have HO234 := n0_; have HB := n1_; clear n0_ n1_; clear hb ho14; obtain ⟨Ao15, co15, eo15⟩ := Kd.R_slice HO234.out; subst eo15) | ((with_reducible refine gate_callee (f := 43) rfl ?_); refine goesL_ (some 6) rfl rfl Try.func43 (by kernel_rfl) rfl #[.slice none 0 0, .slice Ao15 y232.length co15, .slice none 0 0] rfl (by (try simp only [List.map_toArray, List.map_cons, List.map_nil]); first | done | rfl | (simp only [List.length_drop, List.length_take]; rfl)) ?_; (refine (repaint_Changed.calls k _ _ ([] : List (S54)) _ _ y232 _ _ ([] : List (S52)) t235 _ ?side1 ?side2 ?side3 ?side4 ?side5 ?side6 A1.out).mono ?_); (case side1 => exact Kd.C_nil _ _); (case side2 => exact Nat.le_refl _); (case side3 => repeat (first | exact (Kd.R_reads' HO234.out).2.2 | (with_reducible refine Kd.C_alloc ?_ _) | (with_reducible refine Kd.C_drewN ?_ _) | (with_reducible refine Kd.C_drew ?_))); (case side4 => exact (Kd.R_reads' HO234.out).2.1); (case side5 => exact Kd.C_nil _ _); (case side6 => exact Nat.le_refl _); rintro e w16 ⟨v236, rfl, ho0, hb⟩; refine ⟨_, rfl, ?_⟩; have n0_ := Aside0.mk (Kd.R_below (by (with_reducible repeat (first | apply Kd.R_alloc | apply Kd.R_drewN | apply Kd.R_drew)); exact HO234.out) hb); have n1_ := Aside0.mk (Kd.V_lower (Kd.V_mono (ok' := fun k_ => some k_ ≠ (.slice Ao15 y232.length co15 : Value).ownBlock) ho0 (fun k_ hk_ => (Kd.fresh' (Kd.R_lt (by (with_reducible repeat (first | apply Kd.R_alloc | apply Kd.R_drewN | apply Kd.R_drew)); exact HO234.out)) k_ hk_))) (pbZ (by repeat (first | (with_reducible first | exact HB.out | apply pbA | apply pbN | apply pbD) | exact HB.out)))); have n2_ := Aside0.mk (pbP (by repeat (first | (with_reducible first | exact HB.out | apply pbA | apply pbN | apply pbD) | exact HB.out)) hb); clear HO234; clear HB; have HO234 := n0_; have HO237 := n1_; have HB := n2_; clear n0_ n1_ n2_; (try clear hb); (try clear hb2); (try clear hk); (try clear hi); (try clear ho0)) | ((with_reducible refine gate_callee (f := 43) rfl ?_); refine goesL_ (some 9) rfl rfl Try.func43 (by kernel_rfl) rfl #[.slice Ao15 y232.length co15, .slice Ao15 y232.length co15, .slice none 0 0] rfl (by (try simp only [List.map_toArray, List.map_cons, List.map_nil]); first | done | rfl | (simp only [List.length_drop, List.length_take]; rfl)) ?_; (refine (repaint_Changed.calls k _ _ y232 _ _ y232 _ _ ([] : List (S52)) t238 _ ?side1 ?side2 ?side3 ?side4 ?side5 ?side6 A2.out).mono ?_); (case side1 => repeat (first | exact (Kd.R_reads' HO234.out).2.2 | (with_reducible refine Kd.C_alloc ?_ _) | (with_reducible refine Kd.C_drewN ?_ _) | (with_reducible refine Kd.C_drew ?_))); (case side2 => exact (Kd.R_reads' HO234.out).2.1); (case side3 => repeat (first | exact (Kd.R_reads' HO234.out).2.2 | (with_reducible refine Kd.C_alloc ?_ _) | (with_reducible refine Kd.C_drewN ?_ _) | (with_reducible refine Kd.C_drew ?_))); (case side4 => exact (Kd.R_reads' HO234.out).2.1); (case side5 => exact Kd.C_nil _ _); (case side6 => exact Nat.le_refl _); rintro e w17 ⟨v239, rfl, ho0, hb⟩; refine ⟨_, rfl, ?_⟩; have n0_ := Aside0.mk (Kd.R_below (by (with_reducible repeat (first | apply Kd.R_alloc | apply Kd.R_drewN | apply Kd.R_drew)); exact HO234.out) hb); have n1_ := Aside0.mk (Kd.V_below (by (with_reducible repeat (first | apply Kd.V_alloc | apply Kd.V_drewN | apply Kd.V_drew)); exact HO237.out) hb); have n2_ := Aside0.mk (Kd.V_lower (Kd.V_mono (ok' := fun k_ => some k_ ≠ (.slice Ao15 y232.length co15 : Value).ownBlock) ho0 (fun k_ hk_ => (Kd.fresh' (Kd.R_lt (by (with_reducible repeat (first | apply Kd.R_alloc | apply Kd.R_drewN | apply Kd.R_drew)); exact HO234.out)) k_ hk_))) (pbZ (by repeat (first | (with_reducible first | exact HB.out | apply pbA | apply pbN | apply pbD) | exact HB.out)))); have n3_ := Aside0.mk (pbP (by repeat (first | (with_reducible first | exact HB.out | apply pbA | apply pbN | apply pbD) | exact HB.out)) hb); clear HO234; clear HO237; clear HB; have HO234 := n0_; have HO237 := n1_; have HO240 := n2_; have HB := n3_; clear n0_ n1_ n2_ n3_; (try clear hb); (try clear hb2); (try clear hk); (try clear hi); (try clear ho0); obtain ⟨Ao18, co18, eo18⟩ := Kd.V_slice HO240.out; subst eo18; obtain ⟨Ao19, co19, eo19⟩ := Kd.V_slice HO237.out; subst eo19))
     go_ret
     exact ⟨by first | rfl | (simp [errW_none, errW_some] <;> rfl) | (simp [*, errW_none, errW_some] <;> rfl), by repeat (first | (with_reducible first | exact HB.out | apply pbA | apply pbN | apply pbD) | exact HB.out)⟩
 · rw [if_neg c3] at H
   have c3b0 : ((t238.length : Int) == 0) = false := beq_eq_false_iff_ne.mpr c3
   have c3b1 : ((t238.length : Int) != 0) = true := bne_iff_ne.mpr c3
   have c3b2 : ¬ (t238 = []) := fun h_ => c3 (by rw [h_]; rfl)
   obtain rfl := Option.some.inj H
   go_enter Try.func42, Try.ntmps42
   go_wp2_with (first | ((with_reducible refine gate_dst (N := 4) rfl ?_); (try (refine gate_guard (by rfl) ?_; dsimp only)); refine Kd.R_lit k54 _ 54 ?hg (N := 4) ?hd (xs := ([(⟨1, 0, 0, 0, 2, 2⟩ : S54)] : List (S54))) (inner := [.int .i64 1, .int .i64 0, .int .i64 0, .int .i64 0, .int .i64 2, .int .i64 2]) (ok := fun _ => True) (okp := fun _ => True) ?hr ?hp (fun _ hk => hk) trivial (Below.refl _ _) (Nat.le_refl _) (by simp) ?_; (case hd => rfl); (case hg => rfl); (case hr => first | (go_simp; done) | (go_simp; rfl)); (case hp => exact (Reps.c6 (show Kd.M k54 _ _ _ (⟨1, 0, 0, 0, 2, 2⟩ : S54) [.int .i64 1, .int .i64 0, .int .i64 0, .int .i64 0, .int .i64 2, .int .i64 2] from (k54_mkM _ _ _ (⟨1, 0, 0, 0, 2, 2⟩ : S54) )) (Reps.none _ _))); intro v233 w20 ho21 hb hg_ hnew_; clear hg_ hnew_; (first | rw [← Ny232.out] at ho21 | (simp only [Int.reduceToNat] at ho21; rw [← Ny232.out] at ho21)); have n0_ := Aside0.mk (Kd.R_lower ho21 (pbZ (by repeat (first | (with_reducible first | exact HB.out | apply pbA | apply pbN | apply pbD) | exact HB.out)))); have n1_ := Aside0.mk (pbP (by repeat (first | (with_reducible first | exact HB.out | apply pbA | apply pbN | apply pbD) | exact HB.out)) hb); clear HB; have HO234 := n0_; have HB := n1_; clear n0_ n1_; clear hb ho21; obtain ⟨Ao22, co22, eo22⟩ := Kd.R_slice HO234.out; subst eo22) | ((with_reducible refine gate_callee (f := 43) rfl ?_); refine goesL_ (some 6) rfl rfl Try.func43 (by kernel_rfl) rfl #[.slice none 0 0, .slice Ao22 y232.length co22, .slice none 0 0] rfl (by (try simp only [List.map_toArray, List.map_cons, List.map_nil]); first | done | rfl | (simp only [List.length_drop, List.length_take]; rfl)) ?_; (refine (repaint_Changed.calls k _ _ ([] : List (S54)) _ _ y232 _ _ ([] : List (S52)) t235 _ ?side1 ?side2 ?side3 ?side4 ?side5 ?side6 A1.out).mono ?_); (case side1 => exact Kd.C_nil _ _); (case side2 => exact Nat.le_refl _); (case side3 => repeat (first | exact (Kd.R_reads' HO234.out).2.2 | (with_reducible refine Kd.C_alloc ?_ _) | (with_reducible refine Kd.C_drewN ?_ _) | (with_reducible refine Kd.C_drew ?_))); (case side4 => exact (Kd.R_reads' HO234.out).2.1); (case side5 => exact Kd.C_nil _ _); (case side6 => exact Nat.le_refl _); rintro e w23 ⟨v236, rfl, ho0, hb⟩; refine ⟨_, rfl, ?_⟩; have n0_ := Aside0.mk (Kd.R_below (by (with_reducible repeat (first | apply Kd.R_alloc | apply Kd.R_drewN | apply Kd.R_drew)); exact HO234.out) hb); have n1_ := Aside0.mk (Kd.V_lower (Kd.V_mono (ok' := fun k_ => some k_ ≠ (.slice Ao22 y232.length co22 : Value).ownBlock) ho0 (fun k_ hk_ => (Kd.fresh' (Kd.R_lt (by (with_reducible repeat (first | apply Kd.R_alloc | apply Kd.R_drewN | apply Kd.R_drew)); exact HO234.out)) k_ hk_))) (pbZ (by repeat (first | (with_reducible first | exact HB.out | apply pbA | apply pbN | apply pbD) | exact HB.out)))); have n2_ := Aside0.mk (pbP (by repeat (first | (with_reducible first | exact HB.out | apply pbA | apply pbN | apply pbD) | exact HB.out)) hb); clear HO234; clear HB; have HO234 := n0_; have HO237 := n1_; have HB := n2_; clear n0_ n1_ n2_; (try clear hb); (try clear hb2); (try clear hk); (try clear hi); (try clear ho0)) | ((with_reducible refine gate_callee (f := 43) rfl ?_); refine goesL_ (some 9) rfl rfl Try.func43 (by kernel_rfl) rfl #[.slice Ao22 y232.length co22, .slice Ao22 y232.length co22, .slice none 0 0] rfl (by (try simp only [List.map_toArray, List.map_cons, List.map_nil]); first | done | rfl | (simp only [List.length_drop, List.length_take]; rfl)) ?_; (refine (repaint_Changed.calls k _ _ y232 _ _ y232 _ _ ([] : List (S52)) t238 _ ?side1 ?side2 ?side3 ?side4 ?side5 ?side6 A2.out).mono ?_); (case side1 => repeat (first | exact (Kd.R_reads' HO234.out).2.2 | (with_reducible refine Kd.C_alloc ?_ _) | (with_reducible refine Kd.C_drewN ?_ _) | (with_reducible refine Kd.C_drew ?_))); (case side2 => exact (Kd.R_reads' HO234.out).2.1); (case side3 => repeat (first | exact (Kd.R_reads' HO234.out).2.2 | (with_reducible refine Kd.C_alloc ?_ _) | (with_reducible refine Kd.C_drewN ?_ _) | (with_reducible refine Kd.C_drew ?_))); (case side4 => exact (Kd.R_reads' HO234.out).2.1); (case side5 => exact Kd.C_nil _ _); (case side6 => exact Nat.le_refl _); rintro e w24 ⟨v239, rfl, ho0, hb⟩; refine ⟨_, rfl, ?_⟩; have n0_ := Aside0.mk (Kd.R_below (by (with_reducible repeat (first | apply Kd.R_alloc | apply Kd.R_drewN | apply Kd.R_drew)); exact HO234.out) hb); have n1_ := Aside0.mk (Kd.V_below (by (with_reducible repeat (first | apply Kd.V_alloc | apply Kd.V_drewN | apply Kd.V_drew)); exact HO237.out) hb); have n2_ := Aside0.mk (Kd.V_lower (Kd.V_mono (ok' := fun k_ => some k_ ≠ (.slice Ao22 y232.length co22 : Value).ownBlock) ho0 (fun k_ hk_ => (Kd.fresh' (Kd.R_lt (by (with_reducible repeat (first | apply Kd.R_alloc | apply Kd.R_drewN | apply Kd.R_drew)); exact HO234.out)) k_ hk_))) (pbZ (by repeat (first | (with_reducible first | exact HB.out | apply pbA | apply pbN | apply pbD) | exact HB.out)))); have n3_ := Aside0.mk (pbP (by repeat (first | (with_reducible first | exact HB.out | apply pbA | apply pbN | apply pbD) | exact HB.out)) hb); clear HO234; clear HO237; clear HB; have HO234 := n0_; have HO237 := n1_; have HO240 := n2_; have HB := n3_; clear n0_ n1_ n2_ n3_; (try clear hb); (try clear hb2); (try clear hk); (try clear hi); (try clear ho0); obtain ⟨Ao25, co25, eo25⟩ := Kd.V_slice HO240.out; subst eo25))
   go_ret
   exact ⟨by first | rfl | (simp [errW_none, errW_some] <;> rfl) | (simp [*, errW_none, errW_some] <;> rfl), by repeat (first | (with_reducible first | exact HB.out | apply pbA | apply pbN | apply pbD) | exact HB.out)⟩

/-! ### tableauref08_Of: function 32 -/
def tableauref08_Of.f (a0_0 : Int) (a0_1 : Int) (a0_2 : Int) (a0_3 : Int) : Option ((List (S26))) := (tableauref07_Bound.f a0_0 a0_1 a0_2 a0_3).bind fun bt244 => ((tableauref07_Empty.f bt244.1 bt244.2.1 bt244.2.2.1 bt244.2.2.2).bind fun t249 => (if t249 = true then (some ([] : List (S26))) else (some (([(⟨bt244.1, bt244.2.1, bt244.2.2.1, bt244.2.2.2⟩ : S26)] : List (S26))))))
set_option maxHeartbeats 8000000 in
set_option maxRecDepth 100000 in
theorem tableauref08_Of.calls (a0_0 : Int) (a0_1 : Int) (a0_2 : Int) (a0_3 : Int) (r : List (S26)) (w : World) (h : tableauref08_Of.f a0_0 a0_1 a0_2 a0_3 = some r) :
 Calls Try.prog 32 #[.agg #[.int .i64 a0_0, .int .i64 a0_1, .int .i64 a0_2, .int .i64 a0_3]] w fun e w' => ∃ v0_ : Value, e = .returned (v0_) ∧ Kd.R k26 26 w' w.heap.size (fun _ => True) v0_ r ∧ Below w.heap.size w w' := by
 have hu26 := Try.underlying26
 have HB := Aside0.mk (Below.refl w.heap.size w)
 have H : ((tableauref07_Bound.f a0_0 a0_1 a0_2 a0_3).bind fun bt244 => ((tableauref07_Empty.f bt244.1 bt244.2.1 bt244.2.2.1 bt244.2.2.2).bind fun t249 => (if t249 = true then (some ([] : List (S26))) else (some (([(⟨bt244.1, bt244.2.1, bt244.2.2.1, bt244.2.2.2⟩ : S26)] : List (S26))))))) = some r := h
 clear h
 replace H := Option.bind_eq_some_iff.mp H
 obtain ⟨⟨t244, t245, t246, t247⟩, A20, H⟩ := H
 replace H : ((tableauref07_Empty.f t244 t245 t246 t247).bind fun t249 => (if t249 = true then (some ([] : List (S26))) else (some (([(⟨t244, t245, t246, t247⟩ : S26)] : List (S26)))))) = some r := H
 have A2 := Aside0.mk A20
 clear A20
 replace H := Option.bind_eq_some_iff.mp H
 obtain ⟨t249, A30, H⟩ := H
 replace H : (if t249 = true then (some ([] : List (S26))) else (some (([(⟨t244, t245, t246, t247⟩ : S26)] : List (S26))))) = some r := H
 have A3 := Aside0.mk A30
 clear A30
 by_cases c4 : t249 = true
 · subst c4
   have H1 : (some ([] : List (S26))) = some r := by rw [if_pos rfl] at H; exact H
   clear H
   have H := H1
   clear H1
   obtain rfl := Option.some.inj H
   go_enter Try.func32, Try.ntmps32
   go_wp2_with (first | ((with_reducible refine gate_dst (N := 1) rfl ?_); refine box_event ?hg (N := 1) ?hd (cs := #[.int .i64 a0_0, .int .i64 a0_1, .int .i64 a0_2, .int .i64 a0_3]) (t := 26) ?hr ?_; (case hd => rfl); (case hg => rfl); (case hr => first | (go_simp; done) | (go_simp; rfl)); intro gb243 hg w5 hbox hb; have n0_ := Aside0.mk (pbP (by repeat (first | (with_reducible first | exact HB.out | apply pbA | apply pbN | apply pbD) | exact HB.out)) hb); have n1_ := Aside0.mk (hbox); have n2_ := Aside0.mk ((by rw [hg]; exact (pbZ (by repeat (first | (with_reducible first | exact HB.out | apply pbA | apply pbN | apply pbD) | exact HB.out))) : w.heap.size ≤ gb243)); have n3_ := Aside0.mk ((by rw [hg]; exact (pbZ (by repeat (first | (with_reducible first | exact HB.out | apply pbA | apply pbN | apply pbD) | exact HB.out))) : w.heap.size ≤ gb243)); clear HB; have HB := n0_; have BK243 := n1_; have GW243 := n2_; have GE243 := n3_; clear n0_ n1_ n2_ n3_; clear hb hbox hg; have hcz6_0 : w5.cell? ⟨gb243, 0, none⟩ = some (.int .i64 a0_0) := (bkC BK243.out 0).trans rfl; have hcz6_1 : w5.cell? ⟨gb243, 1, none⟩ = some (.int .i64 a0_1) := (bkC BK243.out 1).trans rfl; have hcz6_2 : w5.cell? ⟨gb243, 2, none⟩ = some (.int .i64 a0_2) := (bkC BK243.out 2).trans rfl; have hcz6_3 : w5.cell? ⟨gb243, 3, none⟩ = some (.int .i64 a0_3) := (bkC BK243.out 3).trans rfl; have hfz6_0 := bkF BK243.out 0; have hfz6_1 := bkF BK243.out 1; have hfz6_2 := bkF BK243.out 2; have hfz6_3 := bkF BK243.out 3) | ((with_reducible refine gate_callee (f := 61) rfl ?_); refine goesL_ (some 5) rfl rfl Try.func61 (by kernel_rfl) rfl #[.agg #[.int .i64 a0_0, .int .i64 a0_1, .int .i64 a0_2, .int .i64 a0_3]] rfl (by (try simp only [List.map_toArray, List.map_cons, List.map_nil]); first | done | rfl | (simp only [List.length_drop, List.length_take]; rfl)) ?_; (with_reducible refine (tableauref07_Bound.calls a0_0 a0_1 a0_2 a0_3 t244 t245 t246 t247 _ A2.out).mono ?_); rintro e w7 ⟨rfl, hb⟩; refine ⟨_, rfl, ?_⟩; have n0_ := Aside0.mk (bkB (g := gb243) (o := .cells #[.int .i64 a0_0, .int .i64 a0_1, .int .i64 a0_2, .int .i64 a0_3] 26 (0, 0)) (by (with_reducible repeat (first | refine bkN ?_ _ | refine bkD ?_ | refine bkA ?_ _)); exact BK243.out) hb); have n1_ := Aside0.mk (pbP (by repeat (first | (with_reducible first | exact HB.out | apply pbA | apply pbN | apply pbD | refine pbS ?_ GE243.out) | exact HB.out)) hb); clear BK243; clear HB; have BK243 := n0_; have HB := n1_; clear n0_ n1_; (try clear hb); (try clear hb2); (try clear hk); (try clear hi)) | ((with_reducible refine gate_dst (N := 3) rfl ?_); refine box_event ?hg (N := 3) ?hd (cs := #[.int .i64 0, .int .i64 0, .int .i64 0, .int .i64 0]) (t := 26) ?hr ?_; (case hd => rfl); (case hg => rfl); (case hr => first | (go_simp; done) | (go_simp; rfl)); intro gb248 hg w8 hbox hb; have n0_ := Aside0.mk (bkB (g := gb243) (o := .cells #[.int .i64 a0_0, .int .i64 a0_1, .int .i64 a0_2, .int .i64 a0_3] 26 (0, 0)) (by (with_reducible repeat (first | refine bkN ?_ _ | refine bkD ?_ | refine bkA ?_ _)); exact BK243.out) hb); have n1_ := Aside0.mk (pbP (by repeat (first | (with_reducible first | exact HB.out | apply pbA | apply pbN | apply pbD | refine pbS ?_ GE243.out) | exact HB.out)) hb); have n2_ := Aside0.mk (hbox); have n3_ := Aside0.mk ((by rw [hg]; exact (pbZ (by repeat (first | (with_reducible first | exact HB.out | apply pbA | apply pbN | apply pbD | refine pbS ?_ GE243.out) | exact HB.out))) : w.heap.size ≤ gb248)); have n4_ := Aside0.mk ((by rw [hg]; exact (pbZ (by repeat (first | (with_reducible first | exact HB.out | apply pbA | apply pbN | apply pbD | refine pbS ?_ GE243.out) | exact HB.out))) : w.heap.size ≤ gb248)); have n5_ := Aside0.mk ((by rw [hg]; exact Nat.ne_of_lt (blk_lt (g := gb243) (o := .cells #[.int .i64 a0_0, .int .i64 a0_1, .int .i64 a0_2, .int .i64 a0_3] 26 (0, 0)) (by (with_reducible repeat (first | refine bkN ?_ _ | refine bkD ?_ | refine bkA ?_ _)); exact BK243.out)) : gb243 ≠ gb248)); have n6_ := Aside0.mk ((by rw [hg]; exact Nat.ne_of_gt (blk_lt (g := gb243) (o := .cells #[.int .i64 a0_0, .int .i64 a0_1, .int .i64 a0_2, .int .i64 a0_3] 26 (0, 0)) (by (with_reducible repeat (first | refine bkN ?_ _ | refine bkD ?_ | refine bkA ?_ _)); exact BK243.out)) : gb248 ≠ gb243)); clear BK243; clear HB; have BK243 := n0_; have HB := n1_; have BK248 := n2_; have GW248 := n3_; have GE248 := n4_; have NB243_248 := n5_; have NB248_243 := n6_; clear n0_ n1_ n2_ n3_ n4_ n5_ n6_; clear hb hbox hg; have hnb9 := NB248_243.out; have hnc9 := NB243_248.out; have hcz10_0 : w8.cell? ⟨gb248, 0, none⟩ = some (.int .i64 0) := (bkC BK248.out 0).trans rfl; have hcz10_1 : w8.cell? ⟨gb248, 1, none⟩ = some (.int .i64 0) := (bkC BK248.out 1).trans rfl; have hcz10_2 : w8.cell? ⟨gb248, 2, none⟩ = some (.int .i64 0) := (bkC BK248.out 2).trans rfl; have hcz10_3 : w8.cell? ⟨gb248, 3, none⟩ = some (.int .i64 0) := (bkC BK248.out 3).trans rfl; have hfz10_0 := bkF BK248.out 0; have hfz10_1 := bkF BK248.out 1; have hfz10_2 := bkF BK248.out 2; have hfz10_3 := bkF BK248.out 3) | ((with_reducible refine gate_callee (f := 62) rfl ?_); refine goesL_ (some 7) rfl rfl Try.func62 (by kernel_rfl) rfl #[.agg #[.int .i64 t244, .int .i64 t245, .int .i64 t246, .int .i64 t247]] rfl (by (try simp only [List.map_toArray, List.map_cons, List.map_nil]); first | done | rfl | (simp only [List.length_drop, List.length_take]; rfl)) ?_; (with_reducible refine (tableauref07_Empty.calls t244 t245 t246 t247 true _ A3.out).mono ?_); rintro e w11 ⟨rfl, hb⟩; refine ⟨_, rfl, ?_⟩; have n0_ := Aside0.mk (bkB (g := gb243) (o := .cells #[.int .i64 a0_0, .int .i64 a0_1, .int .i64 a0_2, .int .i64 a0_3] 26 (0, 0)) (by (with_reducible repeat (first | refine bkN ?_ _ | refine bkD ?_ | refine bkA ?_ _)); refine blk_far ?_ NB243_248.out _; (with_reducible repeat (first | refine bkN ?_ _ | refine bkD ?_ | refine bkA ?_ _)); refine blk_far ?_ NB243_248.out _; (with_reducible repeat (first | refine bkN ?_ _ | refine bkD ?_ | refine bkA ?_ _)); refine blk_far ?_ NB243_248.out _; (with_reducible repeat (first | refine bkN ?_ _ | refine bkD ?_ | refine bkA ?_ _)); refine blk_far ?_ NB243_248.out _; (with_reducible repeat (first | refine bkN ?_ _ | refine bkD ?_ | refine bkA ?_ _)); exact BK243.out) hb); have n1_ := Aside0.mk (bkB (g := gb248) (o := .cells #[.int .i64 t244, .int .i64 t245, .int .i64 t246, .int .i64 t247] 26 (0, 0)) (by (with_reducible repeat (first | refine bkN ?_ _ | refine bkD ?_ | refine bkA ?_ _)); refine blk_put (cs := #[.int .i64 t244, .int .i64 t245, .int .i64 t246, .int .i64 0]) ?_ 3 _ rfl; (with_reducible repeat (first | refine bkN ?_ _ | refine bkD ?_ | refine bkA ?_ _)); refine blk_put (cs := #[.int .i64 t244, .int .i64 t245, .int .i64 0, .int .i64 0]) ?_ 2 _ rfl; (with_reducible repeat (first | refine bkN ?_ _ | refine bkD ?_ | refine bkA ?_ _)); refine blk_put (cs := #[.int .i64 t244, .int .i64 0, .int .i64 0, .int .i64 0]) ?_ 1 _ rfl; (with_reducible repeat (first | refine bkN ?_ _ | refine bkD ?_ | refine bkA ?_ _)); refine blk_put (cs := #[.int .i64 0, .int .i64 0, .int .i64 0, .int .i64 0]) ?_ 0 _ rfl; (with_reducible repeat (first | refine bkN ?_ _ | refine bkD ?_ | refine bkA ?_ _)); exact BK248.out) hb); have n2_ := Aside0.mk (pbP (by repeat (first | (with_reducible first | exact HB.out | apply pbA | apply pbN | apply pbD | refine pbS ?_ GE243.out | refine pbS ?_ GE248.out) | exact HB.out)) hb); clear BK243; clear BK248; clear HB; have BK243 := n0_; have BK248 := n1_; have HB := n2_; clear n0_ n1_ n2_; (try clear hb); (try clear hb2); (try clear hk); (try clear hi)))
   go_ret
   exact ⟨_, by first | rfl | (simp [errW_none, errW_some] <;> rfl) | (simp [*, errW_none, errW_some] <;> rfl), by first | exact Kd.R_nil _ _ _ _ _ | exact Kd.N_nil _ _ _ _ _ | exact Kd.V_nil _ _ _ _ _ | exact Kd.Q_nil _ _ _ _ _ | exact Kd.S_nil _ _ _ _ _, by repeat (first | (with_reducible first | exact HB.out | apply pbA | apply pbN | apply pbD | refine pbS ?_ GE243.out | refine pbS ?_ GE248.out) | exact HB.out)⟩
 · replace c4 := Bool.eq_false_iff.mpr c4
   subst c4
   have H1 : (some (([(⟨t244, t245, t246, t247⟩ : S26)] : List (S26)))) = some r := by rw [if_neg (show ¬ (false = true) by decide)] at H; exact H
   clear H
   have H := H1
   clear H1
   obtain ⟨y250, hy250⟩ : ∃ y_ : List (S26), y_ = (([(⟨t244, t245, t246, t247⟩ : S26)] : List (S26))) := ⟨_, rfl⟩
   replace H : (some y250) = some r := by first | (rw [hy250]; with_reducible exact H) | (have H2_ := (Option.bind_some _ _).symm.trans H; rw [hy250]; with_reducible exact H2_) | (have H2_ := (Option.bind_some _ _).symm.trans H; with_reducible exact H2_) | with_reducible exact H | (rw [hy250]; exact H) | exact H
   have Ny250 := Aside0.mk hy250
   clear hy250
   obtain rfl := Option.some.inj H
   go_enter Try.func32, Try.ntmps32
   go_wp2_with (first | ((with_reducible refine gate_dst (N := 1) rfl ?_); refine box_event ?hg (N := 1) ?hd (cs := #[.int .i64 a0_0, .int .i64 a0_1, .int .i64 a0_2, .int .i64 a0_3]) (t := 26) ?hr ?_; (case hd => rfl); (case hg => rfl); (case hr => first | (go_simp; done) | (go_simp; rfl)); intro gb243 hg w12 hbox hb; have n0_ := Aside0.mk (pbP (by repeat (first | (with_reducible first | exact HB.out | apply pbA | apply pbN | apply pbD) | exact HB.out)) hb); have n1_ := Aside0.mk (hbox); have n2_ := Aside0.mk ((by rw [hg]; exact (pbZ (by repeat (first | (with_reducible first | exact HB.out | apply pbA | apply pbN | apply pbD) | exact HB.out))) : w.heap.size ≤ gb243)); have n3_ := Aside0.mk ((by rw [hg]; exact (pbZ (by repeat (first | (with_reducible first | exact HB.out | apply pbA | apply pbN | apply pbD) | exact HB.out))) : w.heap.size ≤ gb243)); clear HB; have HB := n0_; have BK243 := n1_; have GW243 := n2_; have GE243 := n3_; clear n0_ n1_ n2_ n3_; clear hb hbox hg; have hcz13_0 : w12.cell? ⟨gb243, 0, none⟩ = some (.int .i64 a0_0) := (bkC BK243.out 0).trans rfl; have hcz13_1 : w12.cell? ⟨gb243, 1, none⟩ = some (.int .i64 a0_1) := (bkC BK243.out 1).trans rfl; have hcz13_2 : w12.cell? ⟨gb243, 2, none⟩ = some (.int .i64 a0_2) := (bkC BK243.out 2).trans rfl; have hcz13_3 : w12.cell? ⟨gb243, 3, none⟩ = some (.int .i64 a0_3) := (bkC BK243.out 3).trans rfl; have hfz13_0 := bkF BK243.out 0; have hfz13_1 := bkF BK243.out 1; have hfz13_2 := bkF BK243.out 2; have hfz13_3 := bkF BK243.out 3) | ((with_reducible refine gate_callee (f := 61) rfl ?_); refine goesL_ (some 5) rfl rfl Try.func61 (by kernel_rfl) rfl #[.agg #[.int .i64 a0_0, .int .i64 a0_1, .int .i64 a0_2, .int .i64 a0_3]] rfl (by (try simp only [List.map_toArray, List.map_cons, List.map_nil]); first | done | rfl | (simp only [List.length_drop, List.length_take]; rfl)) ?_; (with_reducible refine (tableauref07_Bound.calls a0_0 a0_1 a0_2 a0_3 t244 t245 t246 t247 _ A2.out).mono ?_); rintro e w14 ⟨rfl, hb⟩; refine ⟨_, rfl, ?_⟩; have n0_ := Aside0.mk (bkB (g := gb243) (o := .cells #[.int .i64 a0_0, .int .i64 a0_1, .int .i64 a0_2, .int .i64 a0_3] 26 (0, 0)) (by (with_reducible repeat (first | refine bkN ?_ _ | refine bkD ?_ | refine bkA ?_ _)); exact BK243.out) hb); have n1_ := Aside0.mk (pbP (by repeat (first | (with_reducible first | exact HB.out | apply pbA | apply pbN | apply pbD | refine pbS ?_ GE243.out) | exact HB.out)) hb); clear BK243; clear HB; have BK243 := n0_; have HB := n1_; clear n0_ n1_; (try clear hb); (try clear hb2); (try clear hk); (try clear hi)) | ((with_reducible refine gate_dst (N := 3) rfl ?_); refine box_event ?hg (N := 3) ?hd (cs := #[.int .i64 0, .int .i64 0, .int .i64 0, .int .i64 0]) (t := 26) ?hr ?_; (case hd => rfl); (case hg => rfl); (case hr => first | (go_simp; done) | (go_simp; rfl)); intro gb248 hg w15 hbox hb; have n0_ := Aside0.mk (bkB (g := gb243) (o := .cells #[.int .i64 a0_0, .int .i64 a0_1, .int .i64 a0_2, .int .i64 a0_3] 26 (0, 0)) (by (with_reducible repeat (first | refine bkN ?_ _ | refine bkD ?_ | refine bkA ?_ _)); exact BK243.out) hb); have n1_ := Aside0.mk (pbP (by repeat (first | (with_reducible first | exact HB.out | apply pbA | apply pbN | apply pbD | refine pbS ?_ GE243.out) | exact HB.out)) hb); have n2_ := Aside0.mk (hbox); have n3_ := Aside0.mk ((by rw [hg]; exact (pbZ (by repeat (first | (with_reducible first | exact HB.out | apply pbA | apply pbN | apply pbD | refine pbS ?_ GE243.out) | exact HB.out))) : w.heap.size ≤ gb248)); have n4_ := Aside0.mk ((by rw [hg]; exact (pbZ (by repeat (first | (with_reducible first | exact HB.out | apply pbA | apply pbN | apply pbD | refine pbS ?_ GE243.out) | exact HB.out))) : w.heap.size ≤ gb248)); have n5_ := Aside0.mk ((by rw [hg]; exact Nat.ne_of_lt (blk_lt (g := gb243) (o := .cells #[.int .i64 a0_0, .int .i64 a0_1, .int .i64 a0_2, .int .i64 a0_3] 26 (0, 0)) (by (with_reducible repeat (first | refine bkN ?_ _ | refine bkD ?_ | refine bkA ?_ _)); exact BK243.out)) : gb243 ≠ gb248)); have n6_ := Aside0.mk ((by rw [hg]; exact Nat.ne_of_gt (blk_lt (g := gb243) (o := .cells #[.int .i64 a0_0, .int .i64 a0_1, .int .i64 a0_2, .int .i64 a0_3] 26 (0, 0)) (by (with_reducible repeat (first | refine bkN ?_ _ | refine bkD ?_ | refine bkA ?_ _)); exact BK243.out)) : gb248 ≠ gb243)); clear BK243; clear HB; have BK243 := n0_; have HB := n1_; have BK248 := n2_; have GW248 := n3_; have GE248 := n4_; have NB243_248 := n5_; have NB248_243 := n6_; clear n0_ n1_ n2_ n3_ n4_ n5_ n6_; clear hb hbox hg; have hnb16 := NB248_243.out; have hnc16 := NB243_248.out; have hcz17_0 : w15.cell? ⟨gb248, 0, none⟩ = some (.int .i64 0) := (bkC BK248.out 0).trans rfl; have hcz17_1 : w15.cell? ⟨gb248, 1, none⟩ = some (.int .i64 0) := (bkC BK248.out 1).trans rfl; have hcz17_2 : w15.cell? ⟨gb248, 2, none⟩ = some (.int .i64 0) := (bkC BK248.out 2).trans rfl; have hcz17_3 : w15.cell? ⟨gb248, 3, none⟩ = some (.int .i64 0) := (bkC BK248.out 3).trans rfl; have hfz17_0 := bkF BK248.out 0; have hfz17_1 := bkF BK248.out 1; have hfz17_2 := bkF BK248.out 2; have hfz17_3 := bkF BK248.out 3) | ((with_reducible refine gate_callee (f := 62) rfl ?_); refine goesL_ (some 7) rfl rfl Try.func62 (by kernel_rfl) rfl #[.agg #[.int .i64 t244, .int .i64 t245, .int .i64 t246, .int .i64 t247]] rfl (by (try simp only [List.map_toArray, List.map_cons, List.map_nil]); first | done | rfl | (simp only [List.length_drop, List.length_take]; rfl)) ?_; (with_reducible refine (tableauref07_Empty.calls t244 t245 t246 t247 false _ A3.out).mono ?_); rintro e w18 ⟨rfl, hb⟩; refine ⟨_, rfl, ?_⟩; have n0_ := Aside0.mk (bkB (g := gb243) (o := .cells #[.int .i64 a0_0, .int .i64 a0_1, .int .i64 a0_2, .int .i64 a0_3] 26 (0, 0)) (by (with_reducible repeat (first | refine bkN ?_ _ | refine bkD ?_ | refine bkA ?_ _)); refine blk_far ?_ NB243_248.out _; (with_reducible repeat (first | refine bkN ?_ _ | refine bkD ?_ | refine bkA ?_ _)); refine blk_far ?_ NB243_248.out _; (with_reducible repeat (first | refine bkN ?_ _ | refine bkD ?_ | refine bkA ?_ _)); refine blk_far ?_ NB243_248.out _; (with_reducible repeat (first | refine bkN ?_ _ | refine bkD ?_ | refine bkA ?_ _)); refine blk_far ?_ NB243_248.out _; (with_reducible repeat (first | refine bkN ?_ _ | refine bkD ?_ | refine bkA ?_ _)); exact BK243.out) hb); have n1_ := Aside0.mk (bkB (g := gb248) (o := .cells #[.int .i64 t244, .int .i64 t245, .int .i64 t246, .int .i64 t247] 26 (0, 0)) (by (with_reducible repeat (first | refine bkN ?_ _ | refine bkD ?_ | refine bkA ?_ _)); refine blk_put (cs := #[.int .i64 t244, .int .i64 t245, .int .i64 t246, .int .i64 0]) ?_ 3 _ rfl; (with_reducible repeat (first | refine bkN ?_ _ | refine bkD ?_ | refine bkA ?_ _)); refine blk_put (cs := #[.int .i64 t244, .int .i64 t245, .int .i64 0, .int .i64 0]) ?_ 2 _ rfl; (with_reducible repeat (first | refine bkN ?_ _ | refine bkD ?_ | refine bkA ?_ _)); refine blk_put (cs := #[.int .i64 t244, .int .i64 0, .int .i64 0, .int .i64 0]) ?_ 1 _ rfl; (with_reducible repeat (first | refine bkN ?_ _ | refine bkD ?_ | refine bkA ?_ _)); refine blk_put (cs := #[.int .i64 0, .int .i64 0, .int .i64 0, .int .i64 0]) ?_ 0 _ rfl; (with_reducible repeat (first | refine bkN ?_ _ | refine bkD ?_ | refine bkA ?_ _)); exact BK248.out) hb); have n2_ := Aside0.mk (pbP (by repeat (first | (with_reducible first | exact HB.out | apply pbA | apply pbN | apply pbD | refine pbS ?_ GE243.out | refine pbS ?_ GE248.out) | exact HB.out)) hb); clear BK243; clear BK248; clear HB; have BK243 := n0_; have BK248 := n1_; have HB := n2_; clear n0_ n1_ n2_; (try clear hb); (try clear hb2); (try clear hk); (try clear hi); have hcz19_0 : w18.cell? ⟨gb248, 0, none⟩ = some (.int .i64 t244) := (bkC BK248.out 0).trans rfl; have hcz19_1 : w18.cell? ⟨gb248, 1, none⟩ = some (.int .i64 t245) := (bkC BK248.out 1).trans rfl; have hcz19_2 : w18.cell? ⟨gb248, 2, none⟩ = some (.int .i64 t246) := (bkC BK248.out 2).trans rfl; have hcz19_3 : w18.cell? ⟨gb248, 3, none⟩ = some (.int .i64 t247) := (bkC BK248.out 3).trans rfl; have hfz19_0 := bkF BK248.out 0; have hfz19_1 := bkF BK248.out 1; have hfz19_2 := bkF BK248.out 2; have hfz19_3 := bkF BK248.out 3) | ((with_reducible refine gate_dst (N := 9) rfl ?_); refine Kd.R_lit k26 _ 26 ?hg (N := 9) ?hd (xs := ([(⟨t244, t245, t246, t247⟩ : S26)] : List (S26))) (inner := [.int .i64 t244, .int .i64 t245, .int .i64 t246, .int .i64 t247]) (ok := fun _ => True) (okp := fun _ => True) ?hr ?hp (fun _ hk => hk) trivial (Below.refl _ _) (Nat.le_refl _) (by simp) ?_; (case hd => rfl); (case hg => rfl); (case hr => first | (go_simp; done) | (go_simp; rfl)); (case hp => exact (Reps.c4 (show Kd.M k26 _ _ _ (⟨t244, t245, t246, t247⟩ : S26) [.int .i64 t244, .int .i64 t245, .int .i64 t246, .int .i64 t247] from (k26_mkM _ _ _ (⟨t244, t245, t246, t247⟩ : S26) )) (Reps.none _ _))); intro v251 w20 ho21 hb hg_ hnew_; clear hg_ hnew_; (first | rw [← Ny250.out] at ho21 | (simp only [Int.reduceToNat] at ho21; rw [← Ny250.out] at ho21)); have n0_ := Aside0.mk (Kd.R_lower (Kd.R_newB (Kd.R_newB ho21 (g := gb243) (o := .cells #[.int .i64 a0_0, .int .i64 a0_1, .int .i64 a0_2, .int .i64 a0_3] 26 (0, 0)) (by (with_reducible repeat (first | refine bkN ?_ _ | refine bkD ?_ | refine bkA ?_ _)); exact BK243.out)) (g := gb248) (o := .cells #[.int .i64 t244, .int .i64 t245, .int .i64 t246, .int .i64 t247] 26 (0, 0)) (by (with_reducible repeat (first | refine bkN ?_ _ | refine bkD ?_ | refine bkA ?_ _)); exact BK248.out)) (pbZ (by repeat (first | (with_reducible first | exact HB.out | apply pbA | apply pbN | apply pbD | refine pbS ?_ GE243.out | refine pbS ?_ GE248.out) | exact HB.out)))); have n1_ := Aside0.mk (bkB (g := gb243) (o := .cells #[.int .i64 a0_0, .int .i64 a0_1, .int .i64 a0_2, .int .i64 a0_3] 26 (0, 0)) (by (with_reducible repeat (first | refine bkN ?_ _ | refine bkD ?_ | refine bkA ?_ _)); exact BK243.out) hb); have n2_ := Aside0.mk (bkB (g := gb248) (o := .cells #[.int .i64 t244, .int .i64 t245, .int .i64 t246, .int .i64 t247] 26 (0, 0)) (by (with_reducible repeat (first | refine bkN ?_ _ | refine bkD ?_ | refine bkA ?_ _)); exact BK248.out) hb); have n3_ := Aside0.mk (pbP (by repeat (first | (with_reducible first | exact HB.out | apply pbA | apply pbN | apply pbD | refine pbS ?_ GE243.out | refine pbS ?_ GE248.out) | exact HB.out)) hb); clear BK243; clear BK248; clear HB; have HO252 := n0_; have BK243 := n1_; have BK248 := n2_; have HB := n3_; clear n0_ n1_ n2_ n3_; clear hb ho21))
   go_ret
   exact ⟨_, by first | rfl | (simp [errW_none, errW_some] <;> rfl) | (simp [*, errW_none, errW_some] <;> rfl), by (with_reducible repeat (first | apply Kd.R_alloc | apply Kd.R_drewN | apply Kd.R_drew)); exact Kd.R_mono HO252.out (fun _ hk => trivial), by repeat (first | (with_reducible first | exact HB.out | apply pbA | apply pbN | apply pbD | refine pbS ?_ GE243.out | refine pbS ?_ GE248.out) | exact HB.out)⟩

/-! ### tableauref08_Check: function 30 -/
def tableauref08_Check.l0 : Nat → List (S26) → Int → Option (Bool)
 | 0, _, _ => none
 | k + 1, x0, x3 => if x3 < (x0.length : Int) then (if 0 ≤ x3 then ((tableauref07_Check.f ((rd_T26 x0 x3).f0) ((rd_T26 x0 x3).f1) ((rd_T26 x0 x3).f2) ((rd_T26 x0 x3).f3)).bind fun t256 => (if t256 = true then (tableauref08_Check.l0 k x0 (wrap64 (x3 + 1))) else (some false))) else (none)) else ((tableauref08_make1.f x0 ([] : List (S26)) 0).bind fun t257 => ((tableauref08_Same.f k x0 t257).bind fun t260 => (some t260)))
def tableauref08_Check.f (k : Nat) (l0 : List (S26)) : Option (Bool) := tableauref08_Check.l0 k l0 0
theorem tableauref08_Check.mono_l : ∀ k, (∀ y0 y1, LeO (tableauref08_Check.l0 k y0 y1) (tableauref08_Check.l0 (k + 1) y0 y1))
 | 0 => fun _ _ r h => by simp [tableauref08_Check.l0] at h
 | k + 1 => by
  have ih0 := tableauref08_Check.mono_l k
  · intro y0 y1
    unfold tableauref08_Check.l0
    repeat' first
    | (with_reducible exact ih0 _ _)
    | (with_reducible exact tableauref08_Same.mono _ _ _)
    | (with_reducible exact LeO.refl _)
    | (with_reducible exact LeO.none _)
    | (with_reducible refine LeO.ite ?_ ?_)
    | (with_reducible refine LeO.bind ?_ (fun _ => ?_))
    | exact ih0 _ _
    | exact tableauref08_Same.mono _ _ _
    | exact LeO.none _
    | refine LeO.ite ?_ ?_
    | refine LeO.bind ?_ (fun _ => ?_)
theorem tableauref08_Check.mono : ∀ a0 k, LeO (tableauref08_Check.f k a0) (tableauref08_Check.f (k + 1) a0) := by
 intro a0 k
 have ih0 := tableauref08_Check.mono_l k
 unfold tableauref08_Check.f
 repeat' first
  | (with_reducible exact ih0 _ _)
  | (with_reducible exact tableauref08_Same.mono _ _ _)
  | (with_reducible exact LeO.refl _)
  | (with_reducible exact LeO.none _)
  | (with_reducible refine LeO.ite ?_ ?_)
  | (with_reducible refine LeO.bind ?_ (fun _ => ?_))
  | exact ih0 _ _
  | exact tableauref08_Same.mono _ _ _
  | exact LeO.none _
  | refine LeO.ite ?_ ?_
  | refine LeO.bind ?_ (fun _ => ?_)
set_option maxHeartbeats 8000000 in
set_option maxRecDepth 100000 in
theorem tableauref08_Check.calls (k : Nat) (A0 : Option Addr) (c0 : Nat) (l0 : List (S26)) (r : Bool) (w : World) (hr0 : Kd.C k26 w A0 l0.length l0) (hc0 : l0.length ≤ c0) (h : tableauref08_Check.f k l0 = some r) :
 Calls Try.prog 30 #[.slice A0 l0.length c0] w fun e w' => e = .returned (.bool r) ∧ Below w.heap.size w w' := by
 have hu26 := Try.underlying26
 have HR0 := Aside0.mk hr0
 have HC0 := Aside0.mk hc0
 clear hr0 hc0
 have HB := Aside0.mk (Below.refl w.heap.size w)
 have H : (tableauref08_Check.l0 k l0 0) = some r := h
 clear h
 have H' := Aside0.mk H
 clear H
 go_enter Try.func30, Try.ntmps30
 go_wp2
 go_loopg [3] k (fun kq v3 w' => ∃ (x3_1 : Int), v3 = .int .i64 x3_1 ∧ Aside0 (tableauref08_Check.l0 kq l0 x3_1 = some r) ∧ Aside0 (kq ≤ k) ∧ Aside0 (Below w.heap.size w w'))
 case atStart => exact ⟨(0), (by first | rfl | (simp; done) | (simp [*]; done)), H', ⟨Nat.le_refl _⟩, ⟨by repeat (first | (with_reducible first | exact HB.out | apply pbA | apply pbN | apply pbD) | exact HB.out)⟩⟩
 case round =>
  clear H'
  obtain ⟨x3_1, rfl, HA, HK1, HB⟩ := hrel
  cases gk with
  | zero => exact absurd HA.out (by simp [tableauref08_Check.l0])
  | succ k1 =>
   have H := HA.out
   clear HA
   simp only [tableauref08_Check.l0] at H
   by_cases c2 : x3_1 < (l0.length : Int)
   · rw [if_pos c2] at H
     have c2b0 : decide (x3_1 < (l0.length : Int)) = true := decide_eq_true c2
     clear c2
     by_cases c3 : 0 ≤ x3_1
     · rw [if_pos c3] at H
       have c3b0 : decide (0 ≤ x3_1) = true := decide_eq_true c3
       clear c3
       replace H := Option.bind_eq_some_iff.mp H
       obtain ⟨t256, A40, H⟩ := H
       replace H : (if t256 = true then (tableauref08_Check.l0 k1 l0 (wrap64 (x3_1 + 1))) else (some false)) = some r := H
       have A4 := Aside0.mk A40
       clear A40
       by_cases c5 : t256 = true
       · subst c5
         have H1 : (tableauref08_Check.l0 k1 l0 (wrap64 (x3_1 + 1))) = some r := by rw [if_pos rfl] at H; exact H
         clear H
         have H := H1
         clear H1
         have H' := Aside0.mk H
         clear H
         have p255 : 0 ≤ (x3_1 : Int) := of_decide_eq_true (by first | (with_reducible assumption) | assumption)
         have q255 : x3_1 < (l0.length : Int) := of_decide_eq_true (by first | (with_reducible assumption) | assumption)
         obtain ⟨ad255, e255, hx255_0, hx255_1, hx255_2, hx255_3⟩ := at_T26 HR0.out x3_1 p255 q255
         cases e255
         replace hx255_0 := (HB.out.cell (World.block_lt_of_cell? w _ hx255_0)).trans hx255_0
         replace hx255_1 := (HB.out.cell (World.block_lt_of_cell? w _ hx255_1)).trans hx255_1
         replace hx255_2 := (HB.out.cell (World.block_lt_of_cell? w _ hx255_2)).trans hx255_2
         replace hx255_3 := (HB.out.cell (World.block_lt_of_cell? w _ hx255_3)).trans hx255_3
         replace p255 := eq_true p255
         replace q255 := eq_true q255
         go_wp2_with (first | ((with_reducible refine gate_callee (f := 56) rfl ?_); refine goesL_ (some 14) rfl rfl Try.func56 (by kernel_rfl) rfl #[.agg #[.int .i64 ((rd_T26 l0 x3_1).f0), .int .i64 ((rd_T26 l0 x3_1).f1), .int .i64 ((rd_T26 l0 x3_1).f2), .int .i64 ((rd_T26 l0 x3_1).f3)]] rfl (by (try simp only [List.map_toArray, List.map_cons, List.map_nil]); first | done | rfl | (simp only [List.length_drop, List.length_take]; rfl)) ?_; (with_reducible refine (tableauref07_Check.calls ((rd_T26 l0 x3_1).f0) ((rd_T26 l0 x3_1).f1) ((rd_T26 l0 x3_1).f2) ((rd_T26 l0 x3_1).f3) true _ A4.out).mono ?_); rintro e w6 ⟨rfl, hb⟩; refine ⟨_, rfl, ?_⟩; have n0_ := Aside0.mk (pbP (by repeat (first | (with_reducible first | exact HB.out | apply pbA | apply pbN | apply pbD) | exact HB.out)) hb); clear HB; have HB := n0_; clear n0_; (try clear hb); (try clear hb2); (try clear hk); (try clear hi)))
         go_roundg k1
         case measure => have := HK1.out; omega
         case rel => exact ⟨(wrap64 (x3_1 + 1)), (by first | rfl | (simp; done) | (simp [*]; done)), H', ⟨by have := HK1.out; omega⟩, ⟨by repeat (first | (with_reducible first | exact HB.out | apply pbA | apply pbN | apply pbD) | exact HB.out)⟩⟩
       · replace c5 := Bool.eq_false_iff.mpr c5
         subst c5
         have H1 : (some false) = some r := by rw [if_neg (show ¬ (false = true) by decide)] at H; exact H
         clear H
         have H := H1
         clear H1
         obtain rfl := Option.some.inj H
         have p255 : 0 ≤ (x3_1 : Int) := of_decide_eq_true (by first | (with_reducible assumption) | assumption)
         have q255 : x3_1 < (l0.length : Int) := of_decide_eq_true (by first | (with_reducible assumption) | assumption)
         obtain ⟨ad255, e255, hx255_0, hx255_1, hx255_2, hx255_3⟩ := at_T26 HR0.out x3_1 p255 q255
         cases e255
         replace hx255_0 := (HB.out.cell (World.block_lt_of_cell? w _ hx255_0)).trans hx255_0
         replace hx255_1 := (HB.out.cell (World.block_lt_of_cell? w _ hx255_1)).trans hx255_1
         replace hx255_2 := (HB.out.cell (World.block_lt_of_cell? w _ hx255_2)).trans hx255_2
         replace hx255_3 := (HB.out.cell (World.block_lt_of_cell? w _ hx255_3)).trans hx255_3
         replace p255 := eq_true p255
         replace q255 := eq_true q255
         go_wp2_with (first | ((with_reducible refine gate_callee (f := 56) rfl ?_); refine goesL_ (some 14) rfl rfl Try.func56 (by kernel_rfl) rfl #[.agg #[.int .i64 ((rd_T26 l0 x3_1).f0), .int .i64 ((rd_T26 l0 x3_1).f1), .int .i64 ((rd_T26 l0 x3_1).f2), .int .i64 ((rd_T26 l0 x3_1).f3)]] rfl (by (try simp only [List.map_toArray, List.map_cons, List.map_nil]); first | done | rfl | (simp only [List.length_drop, List.length_take]; rfl)) ?_; (with_reducible refine (tableauref07_Check.calls ((rd_T26 l0 x3_1).f0) ((rd_T26 l0 x3_1).f1) ((rd_T26 l0 x3_1).f2) ((rd_T26 l0 x3_1).f3) false _ A4.out).mono ?_); rintro e w7 ⟨rfl, hb⟩; refine ⟨_, rfl, ?_⟩; have n0_ := Aside0.mk (pbP (by repeat (first | (with_reducible first | exact HB.out | apply pbA | apply pbN | apply pbD) | exact HB.out)) hb); clear HB; have HB := n0_; clear n0_; (try clear hb); (try clear hb2); (try clear hk); (try clear hi)))
         go_ret
         exact ⟨by first | rfl | (simp [errW_none, errW_some] <;> rfl) | (simp [*, errW_none, errW_some] <;> rfl), by repeat (first | (with_reducible first | exact HB.out | apply pbA | apply pbN | apply pbD) | exact HB.out)⟩
     · rw [if_neg c3] at H
       exact absurd H (by simp)
   · rw [if_neg c2] at H
     have c2b0 : decide (x3_1 < (l0.length : Int)) = false := decide_eq_false c2
     clear c2
     replace H := Option.bind_eq_some_iff.mp H
     obtain ⟨t257, A80, H⟩ := H
     replace H : ((tableauref08_Same.f k1 l0 t257).bind fun t260 => (some t260)) = some r := H
     have A8 := Aside0.mk A80
     clear A80
     replace H := Option.bind_eq_some_iff.mp H
     obtain ⟨t260, A90, H⟩ := H
     replace H : (some t260) = some r := H
     have A9 := Aside0.mk A90
     clear A90
     obtain rfl := Option.some.inj H
     go_wp2_with (first | ((with_reducible refine gate_callee (f := 58) rfl ?_); refine goesL_ (some 18) rfl rfl Try.func58 (by kernel_rfl) rfl #[.slice A0 l0.length c0, .slice none 0 0, .int .i64 0] rfl (by (try simp only [List.map_toArray, List.map_cons, List.map_nil]); first | done | rfl | (simp only [List.length_drop, List.length_take]; rfl)) ?_; (refine (tableauref08_make1.calls _ _ l0 _ _ ([] : List (S26)) 0 t257 _ ?side1 ?side2 ?side3 ?side4 A8.out).mono ?_); (case side1 => repeat (first | exact (Kd.C_below HR0.out HB.out) | (with_reducible refine Kd.C_alloc ?_ _) | (with_reducible refine Kd.C_drewN ?_ _) | (with_reducible refine Kd.C_drew ?_))); (case side2 => exact HC0.out); (case side3 => exact Kd.C_nil _ _); (case side4 => exact Nat.le_refl _); rintro e w10 ⟨v258, rfl, ho0, hb⟩; refine ⟨_, rfl, ?_⟩; have n0_ := Aside0.mk (Kd.R_lower ho0 (pbZ (by repeat (first | (with_reducible first | exact HB.out | apply pbA | apply pbN | apply pbD) | exact HB.out)))); have n1_ := Aside0.mk (pbP (by repeat (first | (with_reducible first | exact HB.out | apply pbA | apply pbN | apply pbD) | exact HB.out)) hb); clear HB; have HO259 := n0_; have HB := n1_; clear n0_ n1_; (try clear hb); (try clear hb2); (try clear hk); (try clear hi); (try clear ho0); obtain ⟨Ao11, co11, eo11⟩ := Kd.R_slice HO259.out; subst eo11) | ((with_reducible refine gate_callee (f := 57) rfl ?_); refine goesL_ (some 19) rfl rfl Try.func57 (by kernel_rfl) rfl #[.slice A0 l0.length c0, .slice Ao11 t257.length co11] rfl (by (try simp only [List.map_toArray, List.map_cons, List.map_nil]); first | done | rfl | (simp only [List.length_drop, List.length_take]; rfl)) ?_; (with_reducible refine (tableauref08_Same.calls k1 _ _ l0 _ _ t257 t260 _ ?side1 ?side2 ?side3 ?side4 A9.out).mono ?_); (case side1 => repeat (first | exact (Kd.C_below HR0.out HB.out) | (with_reducible refine Kd.C_alloc ?_ _) | (with_reducible refine Kd.C_drewN ?_ _) | (with_reducible refine Kd.C_drew ?_))); (case side2 => exact HC0.out); (case side3 => repeat (first | exact (Kd.R_reads' HO259.out).2.2 | (with_reducible refine Kd.C_alloc ?_ _) | (with_reducible refine Kd.C_drewN ?_ _) | (with_reducible refine Kd.C_drew ?_))); (case side4 => exact (Kd.R_reads' HO259.out).2.1); rintro e w' ⟨rfl, ⟨nd, rfl⟩⟩; refine ⟨_, rfl, ?_⟩))
     go_ret
     exact ⟨by first | rfl | (simp [errW_none, errW_some] <;> rfl) | (simp [*, errW_none, errW_some] <;> rfl), by repeat (first | (with_reducible first | exact HB.out | apply pbA | apply pbN | apply pbD) | exact HB.out)⟩

/-! ### tableauref08_Make: function 33 -/
def tableauref08_Make.f (k : Nat) (l0 : List (S26)) (l1 : List (S26)) (a2 : Int) : Option ((List (S26))) := (tableauref08_Check.f k l0).bind fun t261 => (if t261 = true then ((tableauref08_Check.f k l1).bind fun t262 => (if t262 = true then ((tableauref08_make1.f l0 l1 a2).bind fun t263 => (some t263)) else (some ([] : List (S26))))) else (some ([] : List (S26))))
theorem tableauref08_Make.mono : ∀ a0 a1 a2 k, LeO (tableauref08_Make.f k a0 a1 a2) (tableauref08_Make.f (k + 1) a0 a1 a2) := by
 intro a0 a1 a2 k
 unfold tableauref08_Make.f
 repeat' first
  | (with_reducible exact tableauref08_Check.mono _ _)
  | (with_reducible exact LeO.refl _)
  | (with_reducible exact LeO.none _)
  | (with_reducible refine LeO.ite ?_ ?_)
  | (with_reducible refine LeO.bind ?_ (fun _ => ?_))
  | exact tableauref08_Check.mono _ _
  | exact LeO.none _
  | refine LeO.ite ?_ ?_
  | refine LeO.bind ?_ (fun _ => ?_)
set_option maxHeartbeats 8000000 in
set_option maxRecDepth 100000 in
theorem tableauref08_Make.calls (k : Nat) (A0 : Option Addr) (c0 : Nat) (l0 : List (S26)) (A1 : Option Addr) (c1 : Nat) (l1 : List (S26)) (a2 : Int) (r : List (S26)) (w : World) (hr0 : Kd.C k26 w A0 l0.length l0) (hc0 : l0.length ≤ c0) (hr1 : Kd.C k26 w A1 l1.length l1) (hc1 : l1.length ≤ c1) (h : tableauref08_Make.f k l0 l1 a2 = some r) :
 Calls Try.prog 33 #[.slice A0 l0.length c0, .slice A1 l1.length c1, .int .i64 a2] w fun e w' => ∃ v0_ : Value, e = .returned (v0_) ∧ Kd.R k26 26 w' w.heap.size (fun _ => True) v0_ r ∧ Below w.heap.size w w' := by
 have HR0 := Aside0.mk hr0
 have HC0 := Aside0.mk hc0
 clear hr0 hc0
 have HR1 := Aside0.mk hr1
 have HC1 := Aside0.mk hc1
 clear hr1 hc1
 have HB := Aside0.mk (Below.refl w.heap.size w)
 have H : ((tableauref08_Check.f k l0).bind fun t261 => (if t261 = true then ((tableauref08_Check.f k l1).bind fun t262 => (if t262 = true then ((tableauref08_make1.f l0 l1 a2).bind fun t263 => (some t263)) else (some ([] : List (S26))))) else (some ([] : List (S26))))) = some r := h
 clear h
 replace H := Option.bind_eq_some_iff.mp H
 obtain ⟨t261, A40, H⟩ := H
 replace H : (if t261 = true then ((tableauref08_Check.f k l1).bind fun t262 => (if t262 = true then ((tableauref08_make1.f l0 l1 a2).bind fun t263 => (some t263)) else (some ([] : List (S26))))) else (some ([] : List (S26)))) = some r := H
 have A4 := Aside0.mk A40
 clear A40
 by_cases c5 : t261 = true
 · subst c5
   have H1 : ((tableauref08_Check.f k l1).bind fun t262 => (if t262 = true then ((tableauref08_make1.f l0 l1 a2).bind fun t263 => (some t263)) else (some ([] : List (S26))))) = some r := by rw [if_pos rfl] at H; exact H
   clear H
   have H := H1
   clear H1
   replace H := Option.bind_eq_some_iff.mp H
   obtain ⟨t262, A60, H⟩ := H
   replace H : (if t262 = true then ((tableauref08_make1.f l0 l1 a2).bind fun t263 => (some t263)) else (some ([] : List (S26)))) = some r := H
   have A6 := Aside0.mk A60
   clear A60
   by_cases c7 : t262 = true
   · subst c7
     have H1 : ((tableauref08_make1.f l0 l1 a2).bind fun t263 => (some t263)) = some r := by rw [if_pos rfl] at H; exact H
     clear H
     have H := H1
     clear H1
     replace H := Option.bind_eq_some_iff.mp H
     obtain ⟨t263, A80, H⟩ := H
     replace H : (some t263) = some r := H
     have A8 := Aside0.mk A80
     clear A80
     obtain rfl := Option.some.inj H
     go_enter Try.func33, Try.ntmps33
     go_wp2_with (first | ((with_reducible refine gate_callee (f := 30) rfl ?_); refine goesL_ (some 8) rfl rfl Try.func30 (by kernel_rfl) rfl #[.slice A0 l0.length c0] rfl (by (try simp only [List.map_toArray, List.map_cons, List.map_nil]); first | done | rfl | (simp only [List.length_drop, List.length_take]; rfl)) ?_; (with_reducible refine (tableauref08_Check.calls k _ _ l0 true _ ?side1 ?side2 A4.out).mono ?_); (case side1 => repeat (first | exact HR0.out | (with_reducible refine Kd.C_alloc ?_ _) | (with_reducible refine Kd.C_drewN ?_ _) | (with_reducible refine Kd.C_drew ?_))); (case side2 => exact HC0.out); rintro e w9 ⟨rfl, hb⟩; refine ⟨_, rfl, ?_⟩; have n0_ := Aside0.mk (pbP (by repeat (first | (with_reducible first | exact HB.out | apply pbA | apply pbN | apply pbD) | exact HB.out)) hb); clear HB; have HB := n0_; clear n0_; (try clear hb); (try clear hb2); (try clear hk); (try clear hi)) | (go_at_call 30; (with_reducible refine (tableauref08_Check.calls k _ _ l1 true _ ?side1 ?side2 A6.out).mono ?_); (case side1 => repeat (first | exact (Kd.C_below HR1.out HB.out) | (with_reducible refine Kd.C_alloc ?_ _) | (with_reducible refine Kd.C_drewN ?_ _) | (with_reducible refine Kd.C_drew ?_))); (case side2 => exact HC1.out); rintro e w10 ⟨rfl, hb⟩; have n0_ := Aside0.mk (pbP (by repeat (first | (with_reducible first | exact HB.out | apply pbA | apply pbN | apply pbD) | exact HB.out)) hb); clear HB; have HB := n0_; clear n0_; (try clear hb); (try clear hb2); (try clear hk); (try clear hi)) | ((with_reducible refine gate_callee (f := 58) rfl ?_); refine goesL_ (some 18) rfl rfl Try.func58 (by kernel_rfl) rfl #[.slice A0 l0.length c0, .slice A1 l1.length c1, .int .i64 a2] rfl (by (try simp only [List.map_toArray, List.map_cons, List.map_nil]); first | done | rfl | (simp only [List.length_drop, List.length_take]; rfl)) ?_; (with_reducible refine (tableauref08_make1.calls _ _ l0 _ _ l1 a2 t263 _ ?side1 ?side2 ?side3 ?side4 A8.out).mono ?_); (case side1 => repeat (first | exact (Kd.C_below HR0.out HB.out) | (with_reducible refine Kd.C_alloc ?_ _) | (with_reducible refine Kd.C_drewN ?_ _) | (with_reducible refine Kd.C_drew ?_))); (case side2 => exact HC0.out); (case side3 => repeat (first | exact (Kd.C_below HR1.out HB.out) | (with_reducible refine Kd.C_alloc ?_ _) | (with_reducible refine Kd.C_drewN ?_ _) | (with_reducible refine Kd.C_drew ?_))); (case side4 => exact HC1.out); rintro e w11 ⟨v264, rfl, ho0, hb⟩; refine ⟨_, rfl, ?_⟩; have n0_ := Aside0.mk (Kd.R_lower ho0 (pbZ (by repeat (first | (with_reducible first | exact HB.out | apply pbA | apply pbN | apply pbD) | exact HB.out)))); have n1_ := Aside0.mk (pbP (by repeat (first | (with_reducible first | exact HB.out | apply pbA | apply pbN | apply pbD) | exact HB.out)) hb); clear HB; have HO265 := n0_; have HB := n1_; clear n0_ n1_; (try clear hb); (try clear hb2); (try clear hk); (try clear hi); (try clear ho0)))
     go_ret
     exact ⟨_, by first | rfl | (simp [errW_none, errW_some] <;> rfl) | (simp [*, errW_none, errW_some] <;> rfl), by (with_reducible repeat (first | apply Kd.R_alloc | apply Kd.R_drewN | apply Kd.R_drew)); exact HO265.out, by repeat (first | (with_reducible first | exact HB.out | apply pbA | apply pbN | apply pbD) | exact HB.out)⟩
   · replace c7 := Bool.eq_false_iff.mpr c7
     subst c7
     have H1 : (some ([] : List (S26))) = some r := by rw [if_neg (show ¬ (false = true) by decide)] at H; exact H
     clear H
     have H := H1
     clear H1
     obtain rfl := Option.some.inj H
     go_enter Try.func33, Try.ntmps33
     go_wp2_with (first | ((with_reducible refine gate_callee (f := 30) rfl ?_); refine goesL_ (some 8) rfl rfl Try.func30 (by kernel_rfl) rfl #[.slice A0 l0.length c0] rfl (by (try simp only [List.map_toArray, List.map_cons, List.map_nil]); first | done | rfl | (simp only [List.length_drop, List.length_take]; rfl)) ?_; (with_reducible refine (tableauref08_Check.calls k _ _ l0 true _ ?side1 ?side2 A4.out).mono ?_); (case side1 => repeat (first | exact HR0.out | (with_reducible refine Kd.C_alloc ?_ _) | (with_reducible refine Kd.C_drewN ?_ _) | (with_reducible refine Kd.C_drew ?_))); (case side2 => exact HC0.out); rintro e w12 ⟨rfl, hb⟩; refine ⟨_, rfl, ?_⟩; have n0_ := Aside0.mk (pbP (by repeat (first | (with_reducible first | exact HB.out | apply pbA | apply pbN | apply pbD) | exact HB.out)) hb); clear HB; have HB := n0_; clear n0_; (try clear hb); (try clear hb2); (try clear hk); (try clear hi)) | (go_at_call 30; (with_reducible refine (tableauref08_Check.calls k _ _ l1 false _ ?side1 ?side2 A6.out).mono ?_); (case side1 => repeat (first | exact (Kd.C_below HR1.out HB.out) | (with_reducible refine Kd.C_alloc ?_ _) | (with_reducible refine Kd.C_drewN ?_ _) | (with_reducible refine Kd.C_drew ?_))); (case side2 => exact HC1.out); rintro e w13 ⟨rfl, hb⟩; have n0_ := Aside0.mk (pbP (by repeat (first | (with_reducible first | exact HB.out | apply pbA | apply pbN | apply pbD) | exact HB.out)) hb); clear HB; have HB := n0_; clear n0_; (try clear hb); (try clear hb2); (try clear hk); (try clear hi)))
     go_ret
     exact ⟨_, by first | rfl | (simp [errW_none, errW_some] <;> rfl) | (simp [*, errW_none, errW_some] <;> rfl), by first | exact Kd.R_nil _ _ _ _ _ | exact Kd.N_nil _ _ _ _ _ | exact Kd.V_nil _ _ _ _ _ | exact Kd.Q_nil _ _ _ _ _ | exact Kd.S_nil _ _ _ _ _, by repeat (first | (with_reducible first | exact HB.out | apply pbA | apply pbN | apply pbD) | exact HB.out)⟩
 · replace c5 := Bool.eq_false_iff.mpr c5
   subst c5
   have H1 : (some ([] : List (S26))) = some r := by rw [if_neg (show ¬ (false = true) by decide)] at H; exact H
   clear H
   have H := H1
   clear H1
   obtain rfl := Option.some.inj H
   go_enter Try.func33, Try.ntmps33
   go_wp2_with (first | ((with_reducible refine gate_callee (f := 30) rfl ?_); refine goesL_ (some 8) rfl rfl Try.func30 (by kernel_rfl) rfl #[.slice A0 l0.length c0] rfl (by (try simp only [List.map_toArray, List.map_cons, List.map_nil]); first | done | rfl | (simp only [List.length_drop, List.length_take]; rfl)) ?_; (with_reducible refine (tableauref08_Check.calls k _ _ l0 false _ ?side1 ?side2 A4.out).mono ?_); (case side1 => repeat (first | exact HR0.out | (with_reducible refine Kd.C_alloc ?_ _) | (with_reducible refine Kd.C_drewN ?_ _) | (with_reducible refine Kd.C_drew ?_))); (case side2 => exact HC0.out); rintro e w14 ⟨rfl, hb⟩; refine ⟨_, rfl, ?_⟩; have n0_ := Aside0.mk (pbP (by repeat (first | (with_reducible first | exact HB.out | apply pbA | apply pbN | apply pbD) | exact HB.out)) hb); clear HB; have HB := n0_; clear n0_; (try clear hb); (try clear hb2); (try clear hk); (try clear hi)))
   go_ret
   exact ⟨_, by first | rfl | (simp [errW_none, errW_some] <;> rfl) | (simp [*, errW_none, errW_some] <;> rfl), by first | exact Kd.R_nil _ _ _ _ _ | exact Kd.N_nil _ _ _ _ _ | exact Kd.V_nil _ _ _ _ _ | exact Kd.Q_nil _ _ _ _ _ | exact Kd.S_nil _ _ _ _ _, by repeat (first | (with_reducible first | exact HB.out | apply pbA | apply pbN | apply pbD) | exact HB.out)⟩

/-! ### tableauref08_Cover: function 37 -/
def tableauref08_Cover.l0 : Nat → List (S26) → Int → Int → Int → Int → Int → Option (Int × Int × Int × Int)
 | 0, _, _, _, _, _, _ => none
 | k + 1, x0, x4, x268000, x268001, x268002, x268003 => if x4 < (x0.length : Int) then ((tableauref08_Check.f k x0).bind fun t268 => (if t268 = true then (if 0 ≤ x4 then ((tableauref07_Cover.f x268000 x268001 x268002 x268003 ((rd_T26 x0 x4).f0) ((rd_T26 x0 x4).f1) ((rd_T26 x0 x4).f2) ((rd_T26 x0 x4).f3)).bind fun bt270 => (tableauref08_Cover.l0 k x0 (wrap64 (x4 + 1)) bt270.1 bt270.2.1 bt270.2.2.1 bt270.2.2.2)) else (none)) else (some (x268000, x268001, x268002, x268003)))) else (some (x268000, x268001, x268002, x268003))
def tableauref08_Cover.f (k : Nat) (l0 : List (S26)) : Option (Int × Int × Int × Int) := tableauref08_Cover.l0 k l0 0 0 0 0 0
theorem tableauref08_Cover.mono_l : ∀ k, (∀ y0 y1 y2 y3 y4 y5, LeO (tableauref08_Cover.l0 k y0 y1 y2 y3 y4 y5) (tableauref08_Cover.l0 (k + 1) y0 y1 y2 y3 y4 y5))
 | 0 => fun _ _ _ _ _ _ r h => by simp [tableauref08_Cover.l0] at h
 | k + 1 => by
  have ih0 := tableauref08_Cover.mono_l k
  · intro y0 y1 y2 y3 y4 y5
    unfold tableauref08_Cover.l0
    repeat' first
    | (with_reducible exact ih0 _ _ _ _ _ _)
    | (with_reducible exact tableauref08_Check.mono _ _)
    | (with_reducible exact LeO.refl _)
    | (with_reducible exact LeO.none _)
    | (with_reducible refine LeO.ite ?_ ?_)
    | (with_reducible refine LeO.bind ?_ (fun _ => ?_))
    | exact ih0 _ _ _ _ _ _
    | exact tableauref08_Check.mono _ _
    | exact LeO.none _
    | refine LeO.ite ?_ ?_
    | refine LeO.bind ?_ (fun _ => ?_)
theorem tableauref08_Cover.mono : ∀ a0 k, LeO (tableauref08_Cover.f k a0) (tableauref08_Cover.f (k + 1) a0) := by
 intro a0 k
 have ih0 := tableauref08_Cover.mono_l k
 unfold tableauref08_Cover.f
 repeat' first
  | (with_reducible exact ih0 _ _ _ _ _ _)
  | (with_reducible exact tableauref08_Check.mono _ _)
  | (with_reducible exact LeO.refl _)
  | (with_reducible exact LeO.none _)
  | (with_reducible refine LeO.ite ?_ ?_)
  | (with_reducible refine LeO.bind ?_ (fun _ => ?_))
  | exact ih0 _ _ _ _ _ _
  | exact tableauref08_Check.mono _ _
  | exact LeO.none _
  | refine LeO.ite ?_ ?_
  | refine LeO.bind ?_ (fun _ => ?_)
set_option maxHeartbeats 8000000 in
set_option maxRecDepth 100000 in
theorem tableauref08_Cover.calls (k : Nat) (A0 : Option Addr) (c0 : Nat) (l0 : List (S26)) (r1 : Int) (r2 : Int) (r3 : Int) (r4 : Int) (w : World) (hr0 : Kd.C k26 w A0 l0.length l0) (hc0 : l0.length ≤ c0) (h : tableauref08_Cover.f k l0 = some (r1, r2, r3, r4)) :
 Calls Try.prog 37 #[.slice A0 l0.length c0] w fun e w' => e = .returned (.agg #[.int .i64 r1, .int .i64 r2, .int .i64 r3, .int .i64 r4]) ∧ Below w.heap.size w w' := by
 have hu26 := Try.underlying26
 have HR0 := Aside0.mk hr0
 have HC0 := Aside0.mk hc0
 clear hr0 hc0
 have HB := Aside0.mk (Below.refl w.heap.size w)
 have H : (tableauref08_Cover.l0 k l0 0 0 0 0 0) = some (r1, r2, r3, r4) := h
 clear h
 have H' := Aside0.mk H
 clear H
 go_enter Try.func37, Try.ntmps37
 go_wp2_with (first | ((with_reducible refine gate_dst (N := 2) rfl ?_); refine box_event ?hg (N := 2) ?hd (cs := #[.int .i64 0, .int .i64 0, .int .i64 0, .int .i64 0]) (t := 26) ?hr ?_; (case hd => rfl); (case hg => rfl); (case hr => first | (go_simp; done) | (go_simp; rfl)); intro gb266 hg w2 hbox hb; have n0_ := Aside0.mk (pbP (by repeat (first | (with_reducible first | exact HB.out | apply pbA | apply pbN | apply pbD) | exact HB.out)) hb); have n1_ := Aside0.mk (hbox); have n2_ := Aside0.mk ((by rw [hg]; exact (pbZ (by repeat (first | (with_reducible first | exact HB.out | apply pbA | apply pbN | apply pbD) | exact HB.out))) : w.heap.size ≤ gb266)); have n3_ := Aside0.mk ((by rw [hg]; exact (pbZ (by repeat (first | (with_reducible first | exact HB.out | apply pbA | apply pbN | apply pbD) | exact HB.out))) : w.heap.size ≤ gb266)); clear HB; have HB := n0_; have BK266 := n1_; have GW266 := n2_; have GE266 := n3_; clear n0_ n1_ n2_ n3_; clear hb hbox hg) | ((with_reducible refine gate_dst (N := 3) rfl ?_); refine box_event ?hg (N := 3) ?hd (cs := #[.int .i64 0, .int .i64 0, .int .i64 0, .int .i64 0]) (t := 26) ?hr ?_; (case hd => rfl); (case hg => rfl); (case hr => first | (go_simp; done) | (go_simp; rfl)); intro gb267 hg w3 hbox hb; have n0_ := Aside0.mk (bkB (g := gb266) (o := .cells #[.int .i64 0, .int .i64 0, .int .i64 0, .int .i64 0] 26 (0, 0)) (by (with_reducible repeat (first | refine bkN ?_ _ | refine bkD ?_ | refine bkA ?_ _)); exact BK266.out) hb); have n1_ := Aside0.mk (pbP (by repeat (first | (with_reducible first | exact HB.out | apply pbA | apply pbN | apply pbD | refine pbS ?_ GE266.out) | exact HB.out)) hb); have n2_ := Aside0.mk (hbox); have n3_ := Aside0.mk ((by rw [hg]; exact (pbZ (by repeat (first | (with_reducible first | exact HB.out | apply pbA | apply pbN | apply pbD | refine pbS ?_ GE266.out) | exact HB.out))) : w.heap.size ≤ gb267)); have n4_ := Aside0.mk ((by rw [hg]; exact (pbZ (by repeat (first | (with_reducible first | exact HB.out | apply pbA | apply pbN | apply pbD | refine pbS ?_ GE266.out) | exact HB.out))) : w.heap.size ≤ gb267)); have n5_ := Aside0.mk ((by rw [hg]; exact Nat.ne_of_lt (blk_lt (g := gb266) (o := .cells #[.int .i64 0, .int .i64 0, .int .i64 0, .int .i64 0] 26 (0, 0)) (by (with_reducible repeat (first | refine bkN ?_ _ | refine bkD ?_ | refine bkA ?_ _)); exact BK266.out)) : gb266 ≠ gb267)); have n6_ := Aside0.mk ((by rw [hg]; exact Nat.ne_of_gt (blk_lt (g := gb266) (o := .cells #[.int .i64 0, .int .i64 0, .int .i64 0, .int .i64 0] 26 (0, 0)) (by (with_reducible repeat (first | refine bkN ?_ _ | refine bkD ?_ | refine bkA ?_ _)); exact BK266.out)) : gb267 ≠ gb266)); clear BK266; clear HB; have BK266 := n0_; have HB := n1_; have BK267 := n2_; have GW267 := n3_; have GE267 := n4_; have NB266_267 := n5_; have NB267_266 := n6_; clear n0_ n1_ n2_ n3_ n4_ n5_ n6_; clear hb hbox hg; have hnb4 := NB267_266.out; have hnc4 := NB266_267.out; have hcz5_0 : w3.cell? ⟨gb267, 0, none⟩ = some (.int .i64 0) := (bkC BK267.out 0).trans rfl; have hcz5_1 : w3.cell? ⟨gb267, 1, none⟩ = some (.int .i64 0) := (bkC BK267.out 1).trans rfl; have hcz5_2 : w3.cell? ⟨gb267, 2, none⟩ = some (.int .i64 0) := (bkC BK267.out 2).trans rfl; have hcz5_3 : w3.cell? ⟨gb267, 3, none⟩ = some (.int .i64 0) := (bkC BK267.out 3).trans rfl; have hfz5_0 := bkF BK267.out 0; have hfz5_1 := bkF BK267.out 1; have hfz5_2 := bkF BK267.out 2; have hfz5_3 := bkF BK267.out 3))
 go_loopg [4] k (fun kq v4 w' => ∃ (x4_1 : Int) (x268000_1 : Int) (x268001_1 : Int) (x268002_1 : Int) (x268003_1 : Int), v4 = .int .i64 x4_1 ∧ Aside0 (tableauref08_Cover.l0 kq l0 x4_1 x268000_1 x268001_1 x268002_1 x268003_1 = some (r1, r2, r3, r4)) ∧ Aside0 (kq ≤ k) ∧ Aside0 (w'.heap[gb266]? = some (.cells #[.int .i64 0, .int .i64 0, .int .i64 0, .int .i64 0] 26 (0, 0))) ∧ Aside0 (w'.heap[gb267]? = some (.cells #[.int .i64 x268000_1, .int .i64 x268001_1, .int .i64 x268002_1, .int .i64 x268003_1] 26 (0, 0))) ∧ Aside0 (Below w.heap.size w w'))
 case atStart => exact ⟨(0), (0), (0), (0), (0), (by first | rfl | (simp; done) | (simp [*]; done)), H', ⟨Nat.le_refl _⟩, ⟨by (with_reducible repeat (first | refine bkN ?_ _ | refine bkD ?_ | refine bkA ?_ _)); refine blk_far ?_ NB266_267.out _; (with_reducible repeat (first | refine bkN ?_ _ | refine bkD ?_ | refine bkA ?_ _)); refine blk_far ?_ NB266_267.out _; (with_reducible repeat (first | refine bkN ?_ _ | refine bkD ?_ | refine bkA ?_ _)); refine blk_far ?_ NB266_267.out _; (with_reducible repeat (first | refine bkN ?_ _ | refine bkD ?_ | refine bkA ?_ _)); refine blk_far ?_ NB266_267.out _; (with_reducible repeat (first | refine bkN ?_ _ | refine bkD ?_ | refine bkA ?_ _)); exact BK266.out⟩, ⟨by (with_reducible repeat (first | refine bkN ?_ _ | refine bkD ?_ | refine bkA ?_ _)); refine blk_put (cs := #[.int .i64 0, .int .i64 0, .int .i64 0, .int .i64 0]) ?_ 3 _ rfl; (with_reducible repeat (first | refine bkN ?_ _ | refine bkD ?_ | refine bkA ?_ _)); refine blk_put (cs := #[.int .i64 0, .int .i64 0, .int .i64 0, .int .i64 0]) ?_ 2 _ rfl; (with_reducible repeat (first | refine bkN ?_ _ | refine bkD ?_ | refine bkA ?_ _)); refine blk_put (cs := #[.int .i64 0, .int .i64 0, .int .i64 0, .int .i64 0]) ?_ 1 _ rfl; (with_reducible repeat (first | refine bkN ?_ _ | refine bkD ?_ | refine bkA ?_ _)); refine blk_put (cs := #[.int .i64 0, .int .i64 0, .int .i64 0, .int .i64 0]) ?_ 0 _ rfl; (with_reducible repeat (first | refine bkN ?_ _ | refine bkD ?_ | refine bkA ?_ _)); exact BK267.out⟩, ⟨by repeat (first | (with_reducible first | exact HB.out | apply pbA | apply pbN | apply pbD | refine pbS ?_ GE266.out | refine pbS ?_ GE267.out) | exact HB.out)⟩⟩
 case round =>
  clear H'
  try clear p2
  try clear c3
  try clear c4
  try clear hcz5_0
  try clear hcz5_1
  try clear hcz5_2
  try clear hcz5_3
  try clear hfz5_0
  try clear hfz5_1
  try clear hfz5_2
  try clear hfz5_3
  obtain ⟨x4_1, x268000_1, x268001_1, x268002_1, x268003_1, rfl, HA, HK1, BK266, BK267, HB⟩ := hrel
  cases gk with
  | zero => exact absurd HA.out (by simp [tableauref08_Cover.l0])
  | succ k1 =>
   have H := HA.out
   clear HA
   simp only [tableauref08_Cover.l0] at H
   by_cases c6 : x4_1 < (l0.length : Int)
   · rw [if_pos c6] at H
     have c6b0 : decide (x4_1 < (l0.length : Int)) = true := decide_eq_true c6
     clear c6
     replace H := Option.bind_eq_some_iff.mp H
     obtain ⟨t268, A70, H⟩ := H
     replace H : (if t268 = true then (if 0 ≤ x4_1 then ((tableauref07_Cover.f x268000_1 x268001_1 x268002_1 x268003_1 ((rd_T26 l0 x4_1).f0) ((rd_T26 l0 x4_1).f1) ((rd_T26 l0 x4_1).f2) ((rd_T26 l0 x4_1).f3)).bind fun bt270 => (tableauref08_Cover.l0 k1 l0 (wrap64 (x4_1 + 1)) bt270.1 bt270.2.1 bt270.2.2.1 bt270.2.2.2)) else (none)) else (some (x268000_1, x268001_1, x268002_1, x268003_1))) = some (r1, r2, r3, r4) := H
     have A7 := Aside0.mk A70
     clear A70
     by_cases c8 : t268 = true
     · subst c8
       have H1 : (if 0 ≤ x4_1 then ((tableauref07_Cover.f x268000_1 x268001_1 x268002_1 x268003_1 ((rd_T26 l0 x4_1).f0) ((rd_T26 l0 x4_1).f1) ((rd_T26 l0 x4_1).f2) ((rd_T26 l0 x4_1).f3)).bind fun bt270 => (tableauref08_Cover.l0 k1 l0 (wrap64 (x4_1 + 1)) bt270.1 bt270.2.1 bt270.2.2.1 bt270.2.2.2)) else (none)) = some (r1, r2, r3, r4) := by rw [if_pos rfl] at H; exact H
       clear H
       have H := H1
       clear H1
       by_cases c9 : 0 ≤ x4_1
       · rw [if_pos c9] at H
         have c9b0 : decide (0 ≤ x4_1) = true := decide_eq_true c9
         clear c9
         replace H := Option.bind_eq_some_iff.mp H
         obtain ⟨⟨t270, t271, t272, t273⟩, A100, H⟩ := H
         replace H : (tableauref08_Cover.l0 k1 l0 (wrap64 (x4_1 + 1)) t270 t271 t272 t273) = some (r1, r2, r3, r4) := H
         have A10 := Aside0.mk A100
         clear A100
         have H' := Aside0.mk H
         clear H
         try go_wp2_with (first | (go_at_call 30; (with_reducible refine (tableauref08_Check.calls k1 _ _ l0 true _ ?side1 ?side2 A7.out).mono ?_); (case side1 => repeat (first | exact (Kd.C_below HR0.out HB.out) | (with_reducible refine Kd.C_alloc ?_ _) | (with_reducible refine Kd.C_drewN ?_ _) | (with_reducible refine Kd.C_drew ?_))); (case side2 => exact HC0.out); rintro e w11 ⟨rfl, hb⟩; have n0_ := Aside0.mk (bkB (g := gb266) (o := .cells #[.int .i64 0, .int .i64 0, .int .i64 0, .int .i64 0] 26 (0, 0)) (by (with_reducible repeat (first | refine bkN ?_ _ | refine bkD ?_ | refine bkA ?_ _)); exact BK266.out) hb); have n1_ := Aside0.mk (bkB (g := gb267) (o := .cells #[.int .i64 x268000_1, .int .i64 x268001_1, .int .i64 x268002_1, .int .i64 x268003_1] 26 (0, 0)) (by (with_reducible repeat (first | refine bkN ?_ _ | refine bkD ?_ | refine bkA ?_ _)); exact BK267.out) hb); have n2_ := Aside0.mk (pbP (by repeat (first | (with_reducible first | exact HB.out | apply pbA | apply pbN | apply pbD | refine pbS ?_ GE266.out | refine pbS ?_ GE267.out) | exact HB.out)) hb); clear BK266; clear BK267; clear HB; have BK266 := n0_; have BK267 := n1_; have HB := n2_; clear n0_ n1_ n2_; (try clear hb); (try clear hb2); (try clear hk); (try clear hi)))
         have n0_ := Aside0.mk (bkD BK266.out)
         have n1_ := Aside0.mk (bkD BK267.out)
         have n2_ := Aside0.mk (pbD HB.out)
         clear BK266
         clear BK267
         clear HB
         have BK266 := n0_
         have BK267 := n1_
         have HB := n2_
         clear n0_ n1_ n2_
         have p269 : 0 ≤ (x4_1 : Int) := of_decide_eq_true (by first | (with_reducible assumption) | assumption)
         have q269 : x4_1 < (l0.length : Int) := of_decide_eq_true (by first | (with_reducible assumption) | assumption)
         obtain ⟨ad269, e269, hx269_0, hx269_1, hx269_2, hx269_3⟩ := at_T26 HR0.out x4_1 p269 q269
         have hw269_3 := hx269_3
         have hw269_2 := hx269_2
         have hw269_1 := hx269_1
         have hw269_0 := hx269_0
         cases e269
         replace hx269_0 := (HB.out.cell (World.block_lt_of_cell? w _ hx269_0)).trans hx269_0
         replace hx269_1 := (HB.out.cell (World.block_lt_of_cell? w _ hx269_1)).trans hx269_1
         replace hx269_2 := (HB.out.cell (World.block_lt_of_cell? w _ hx269_2)).trans hx269_2
         replace hx269_3 := (HB.out.cell (World.block_lt_of_cell? w _ hx269_3)).trans hx269_3
         replace p269 := eq_true p269
         replace q269 := eq_true q269
         refine start_ (n := 7) (S := fun w' => w'.cell? ⟨gb267, 0, none⟩ = some (.int .i64 x268000_1) ∧ w'.cell? ⟨gb267, 1, none⟩ = some (.int .i64 x268001_1) ∧ w'.cell? ⟨gb267, 2, none⟩ = some (.int .i64 x268002_1) ∧ w'.cell? ⟨gb267, 3, none⟩ = some (.int .i64 x268003_1) ∧ w'.cell? (ad269.add ((x4_1).toNat * 4)) = some (.int .i64 ((rd_T26 l0 x4_1).f0)) ∧ w'.cell? ⟨(ad269.add ((x4_1).toNat * 4)).block, (ad269.add ((x4_1).toNat * 4)).off + 1, none⟩ = some (.int .i64 ((rd_T26 l0 x4_1).f1)) ∧ w'.cell? ⟨(ad269.add ((x4_1).toNat * 4)).block, (ad269.add ((x4_1).toNat * 4)).off + 2, none⟩ = some (.int .i64 ((rd_T26 l0 x4_1).f2)) ∧ w'.cell? ⟨(ad269.add ((x4_1).toNat * 4)).block, (ad269.add ((x4_1).toNat * 4)).off + 3, none⟩ = some (.int .i64 ((rd_T26 l0 x4_1).f3))) (ds := [6]) #[false, false, false, false, false, false, false] (by kernel_rfl) rfl rfl ⟨(bkC BK267.out 0).trans rfl, (bkC BK267.out 1).trans rfl, (bkC BK267.out 2).trans rfl, (bkC BK267.out 3).trans rfl, ((HB.out.cell (World.block_lt_of_cell? w _ hw269_0)).trans hw269_0), ((HB.out.cell (World.block_lt_of_cell? w _ hw269_1)).trans hw269_1), ((HB.out.cell (World.block_lt_of_cell? w _ hw269_2)).trans hw269_2), ((HB.out.cell (World.block_lt_of_cell? w _ hw269_3)).trans hw269_3)⟩ (fun hHeld => ?_)
         generalize w11.drew = w12 at BK266 BK267 HB hx269_0 hx269_1 hx269_2 hx269_3 hHeld ⊢
         refine pure_ (i := 1) (N := some 17) (v := ?_) (a' := ?_) #[false, true, false, false, false, false, false] rfl rfl (by kernel_rfl) (fun _ _ _ h => h) (Or.inl ⟨by rfl, ?_⟩) ?_ ?_
         rotate_left
         · intro w'
           go_simp
           with_reducible rfl
         rotate_left
         · simp only [Act.put, List.setIfInBounds_toArray, List.set_cons_zero, List.set_cons_succ, i64_w, i32_w]
           rfl
         refine pure_ (i := 2) (N := some 18) (v := ?_) (a' := ?_) #[false, true, true, false, false, false, false] rfl rfl (by kernel_rfl) (fun _ _ _ h => h) (Or.inl ⟨by rfl, ?_⟩) ?_ ?_
         rotate_left
         · intro w'
           go_simp
           with_reducible rfl
         rotate_left
         · simp only [Act.put, List.setIfInBounds_toArray, List.set_cons_zero, List.set_cons_succ, i64_w, i32_w]
           rfl
         refine pure_ (i := 3) (N := some 19) (v := ?_) (a' := ?_) #[false, true, true, true, false, false, false] rfl rfl (by kernel_rfl) (fun _ _ _ h => h) (Or.inl ⟨by rfl, ?_⟩) ?_ ?_
         rotate_left
         · intro w'
           go_simp
           with_reducible rfl
         rotate_left
         · simp only [Act.put, List.setIfInBounds_toArray, List.set_cons_zero, List.set_cons_succ, i64_w, i32_w]
           rfl
         refine take_ (i := 0) (N := some 16) (v := ?_) (a' := ?_) #[true, true, true, true, false, false, false] rfl rfl (by kernel_rfl) (fun _ _ _ h => h) (Or.inl ⟨by rfl, ?_⟩) hHeld ?_ ?_
         rotate_left
         · rintro w' ⟨s0, s1, s2, s3, s4, s5, s6, s7⟩
           go_simp
           with_reducible rfl
         rotate_left
         · simp only [Act.put, List.setIfInBounds_toArray, List.set_cons_zero, List.set_cons_succ, i64_w, i32_w]
           rfl
         refine take_ (i := 4) (N := some 20) (v := ?_) (a' := ?_) #[true, true, true, true, true, false, false] rfl rfl (by kernel_rfl) (fun _ _ _ h => h) (Or.inl ⟨by rfl, ?_⟩) hHeld ?_ ?_
         rotate_left
         · rintro w' ⟨s0, s1, s2, s3, s4, s5, s6, s7⟩
           go_simp
           with_reducible rfl
         rotate_left
         · simp only [Act.put, List.setIfInBounds_toArray, List.set_cons_zero, List.set_cons_succ, i64_w, i32_w]
           rfl
         refine one_ (i := 5) (N := some 21) #[true, true, true, true, true, true, false] rfl rfl (by kernel_rfl) (by decide) (fun K hK => ?_)
         refine goes_ Try.func68 (by kernel_rfl) rfl #[.agg #[.int .i64 x268000_1, .int .i64 x268001_1, .int .i64 x268002_1, .int .i64 x268003_1], .agg #[.int .i64 ((rd_T26 l0 x4_1).f0), .int .i64 ((rd_T26 l0 x4_1).f1), .int .i64 ((rd_T26 l0 x4_1).f2), .int .i64 ((rd_T26 l0 x4_1).f3)]] (by rfl) rfl rfl (by (try simp only [List.map_toArray, List.map_cons, List.map_nil]); first | done | rfl | (simp only [List.length_drop, List.length_take]; rfl)) ?_
         with_reducible refine (tableauref07_Cover.calls x268000_1 x268001_1 x268002_1 x268003_1 ((rd_T26 l0 x4_1).f0) ((rd_T26 l0 x4_1).f1) ((rd_T26 l0 x4_1).f2) ((rd_T26 l0 x4_1).f3) t270 t271 t272 t273 _ A10.out).mono ?_
         rintro e w13 ⟨rfl, hb⟩
         refine ⟨_, rfl, ?_⟩
         have n0_ := Aside0.mk (bkB (g := gb266) (o := .cells #[.int .i64 0, .int .i64 0, .int .i64 0, .int .i64 0] 26 (0, 0)) (by (with_reducible repeat (first | refine bkN ?_ _ | refine bkD ?_ | refine bkA ?_ _)); exact BK266.out) hb)
         have n1_ := Aside0.mk (bkB (g := gb267) (o := .cells #[.int .i64 x268000_1, .int .i64 x268001_1, .int .i64 x268002_1, .int .i64 x268003_1] 26 (0, 0)) (by (with_reducible repeat (first | refine bkN ?_ _ | refine bkD ?_ | refine bkA ?_ _)); exact BK267.out) hb)
         have n2_ := Aside0.mk (pbP (by repeat (first | (with_reducible first | exact HB.out | apply pbA | apply pbN | apply pbD | refine pbS ?_ GE266.out | refine pbS ?_ GE267.out) | exact HB.out)) hb)
         clear BK266
         clear BK267
         clear HB
         have BK266 := n0_
         have BK267 := n1_
         have HB := n2_
         clear n0_ n1_ n2_
         (try clear hb)
         (try clear hb2)
         (try clear hk)
         (try clear hi)
         refine hK.out _ _ ⟨(bkC BK267.out 0).trans rfl, (bkC BK267.out 1).trans rfl, (bkC BK267.out 2).trans rfl, (bkC BK267.out 3).trans rfl, ((HB.out.cell (World.block_lt_of_cell? w _ hw269_0)).trans hw269_0), ((HB.out.cell (World.block_lt_of_cell? w _ hw269_1)).trans hw269_1), ((HB.out.cell (World.block_lt_of_cell? w _ hw269_2)).trans hw269_2), ((HB.out.cell (World.block_lt_of_cell? w _ hw269_3)).trans hw269_3)⟩ (fun hHeld => ?_)
         clear hK K
         refine norm_ (a' := ?_) ?_ ?_
         rotate_left
         · show Act.put _ (some 21) _ = _
           simp only [Act.put, List.setIfInBounds_toArray, List.set_cons_zero, List.set_cons_succ, i64_w, i32_w]
           rfl
         refine last_ (i := 6) (N := none) #[true, true, true, true, true, true, true] rfl rfl (by kernel_rfl) (by decide) (fun K hK => ?_)
         have hs14 : w13.cell? ⟨gb267, 0, none⟩ = some (.int .i64 x268000_1) := (bkC BK267.out 0).trans rfl
         have hfs14 := bkF BK267.out 0
         have hns14_0 := NB266_267.out
         have hms14_0 := NB267_266.out
         have hs15 : w13.cell? ⟨gb267, 1, none⟩ = some (.int .i64 x268001_1) := (bkC BK267.out 1).trans rfl
         have hfs15 := bkF BK267.out 1
         have hns15_0 := NB266_267.out
         have hms15_0 := NB267_266.out
         have hs16 : w13.cell? ⟨gb267, 2, none⟩ = some (.int .i64 x268002_1) := (bkC BK267.out 2).trans rfl
         have hfs16 := bkF BK267.out 2
         have hns16_0 := NB266_267.out
         have hms16_0 := NB267_266.out
         have hs17 : w13.cell? ⟨gb267, 3, none⟩ = some (.int .i64 x268003_1) := (bkC BK267.out 3).trans rfl
         have hfs17 := bkF BK267.out 3
         have hns17_0 := NB266_267.out
         have hms17_0 := NB267_266.out
         refine skip_ (w1 := ?_) (by rfl) rfl ?_ ?_
         rotate_left
         · go_simp
           rfl
         refine hK.out _ _ ?_
         clear hK K
         refine done_ (by kernel_rfl) ?_
         try go_wp2
         go_roundg k1
         case measure => have := HK1.out; omega
         case rel => exact ⟨(wrap64 (x4_1 + 1)), (t270), (t271), (t272), (t273), (by first | rfl | (simp; done) | (simp [*]; done)), H', ⟨by have := HK1.out; omega⟩, ⟨by (with_reducible repeat (first | refine bkN ?_ _ | refine bkD ?_ | refine bkA ?_ _)); refine blk_far ?_ NB266_267.out _; (with_reducible repeat (first | refine bkN ?_ _ | refine bkD ?_ | refine bkA ?_ _)); refine blk_far ?_ NB266_267.out _; (with_reducible repeat (first | refine bkN ?_ _ | refine bkD ?_ | refine bkA ?_ _)); refine blk_far ?_ NB266_267.out _; (with_reducible repeat (first | refine bkN ?_ _ | refine bkD ?_ | refine bkA ?_ _)); refine blk_far ?_ NB266_267.out _; (with_reducible repeat (first | refine bkN ?_ _ | refine bkD ?_ | refine bkA ?_ _)); exact BK266.out⟩, ⟨by (with_reducible repeat (first | refine bkN ?_ _ | refine bkD ?_ | refine bkA ?_ _)); refine blk_put (cs := #[.int .i64 t270, .int .i64 t271, .int .i64 t272, .int .i64 x268003_1]) ?_ 3 _ rfl; (with_reducible repeat (first | refine bkN ?_ _ | refine bkD ?_ | refine bkA ?_ _)); refine blk_put (cs := #[.int .i64 t270, .int .i64 t271, .int .i64 x268002_1, .int .i64 x268003_1]) ?_ 2 _ rfl; (with_reducible repeat (first | refine bkN ?_ _ | refine bkD ?_ | refine bkA ?_ _)); refine blk_put (cs := #[.int .i64 t270, .int .i64 x268001_1, .int .i64 x268002_1, .int .i64 x268003_1]) ?_ 1 _ rfl; (with_reducible repeat (first | refine bkN ?_ _ | refine bkD ?_ | refine bkA ?_ _)); refine blk_put (cs := #[.int .i64 x268000_1, .int .i64 x268001_1, .int .i64 x268002_1, .int .i64 x268003_1]) ?_ 0 _ rfl; (with_reducible repeat (first | refine bkN ?_ _ | refine bkD ?_ | refine bkA ?_ _)); exact BK267.out⟩, ⟨by repeat (first | (with_reducible first | exact HB.out | apply pbA | apply pbN | apply pbD | refine pbS ?_ GE266.out | refine pbS ?_ GE267.out) | exact HB.out)⟩⟩
       · rw [if_neg c9] at H
         exact absurd H (by simp)
     · replace c8 := Bool.eq_false_iff.mpr c8
       subst c8
       have H1 : (some (x268000_1, x268001_1, x268002_1, x268003_1)) = some (r1, r2, r3, r4) := by rw [if_neg (show ¬ (false = true) by decide)] at H; exact H
       clear H
       have H := H1
       clear H1
       simp only [Option.some.injEq, Prod.mk.injEq] at H
       obtain ⟨rfl, rfl, rfl, rfl⟩ := H
       go_wp2_with (first | (go_at_call 30; (with_reducible refine (tableauref08_Check.calls k1 _ _ l0 false _ ?side1 ?side2 A7.out).mono ?_); (case side1 => repeat (first | exact (Kd.C_below HR0.out HB.out) | (with_reducible refine Kd.C_alloc ?_ _) | (with_reducible refine Kd.C_drewN ?_ _) | (with_reducible refine Kd.C_drew ?_))); (case side2 => exact HC0.out); rintro e w18 ⟨rfl, hb⟩; have n0_ := Aside0.mk (bkB (g := gb266) (o := .cells #[.int .i64 0, .int .i64 0, .int .i64 0, .int .i64 0] 26 (0, 0)) (by (with_reducible repeat (first | refine bkN ?_ _ | refine bkD ?_ | refine bkA ?_ _)); exact BK266.out) hb); have n1_ := Aside0.mk (bkB (g := gb267) (o := .cells #[.int .i64 x268000_1, .int .i64 x268001_1, .int .i64 x268002_1, .int .i64 x268003_1] 26 (0, 0)) (by (with_reducible repeat (first | refine bkN ?_ _ | refine bkD ?_ | refine bkA ?_ _)); exact BK267.out) hb); have n2_ := Aside0.mk (pbP (by repeat (first | (with_reducible first | exact HB.out | apply pbA | apply pbN | apply pbD | refine pbS ?_ GE266.out | refine pbS ?_ GE267.out) | exact HB.out)) hb); clear BK266; clear BK267; clear HB; have BK266 := n0_; have BK267 := n1_; have HB := n2_; clear n0_ n1_ n2_; (try clear hb); (try clear hb2); (try clear hk); (try clear hi); have hnb19 := NB267_266.out; have hnc19 := NB266_267.out; have hcz20_0 : w18.cell? ⟨gb267, 0, none⟩ = some (.int .i64 x268000_1) := (bkC BK267.out 0).trans rfl; have hcz20_1 : w18.cell? ⟨gb267, 1, none⟩ = some (.int .i64 x268001_1) := (bkC BK267.out 1).trans rfl; have hcz20_2 : w18.cell? ⟨gb267, 2, none⟩ = some (.int .i64 x268002_1) := (bkC BK267.out 2).trans rfl; have hcz20_3 : w18.cell? ⟨gb267, 3, none⟩ = some (.int .i64 x268003_1) := (bkC BK267.out 3).trans rfl; have hfz20_0 := bkF BK267.out 0; have hfz20_1 := bkF BK267.out 1; have hfz20_2 := bkF BK267.out 2; have hfz20_3 := bkF BK267.out 3; have hcz21_0 : w18.cell? ⟨gb266, 0, none⟩ = some (.int .i64 0) := (bkC BK266.out 0).trans rfl; have hcz21_1 : w18.cell? ⟨gb266, 1, none⟩ = some (.int .i64 0) := (bkC BK266.out 1).trans rfl; have hcz21_2 : w18.cell? ⟨gb266, 2, none⟩ = some (.int .i64 0) := (bkC BK266.out 2).trans rfl; have hcz21_3 : w18.cell? ⟨gb266, 3, none⟩ = some (.int .i64 0) := (bkC BK266.out 3).trans rfl; have hfz21_0 := bkF BK266.out 0; have hfz21_1 := bkF BK266.out 1; have hfz21_2 := bkF BK266.out 2; have hfz21_3 := bkF BK266.out 3))
       refine bodyPost_ret (results_cell_row rfl _ _ gb266 26 #[.int .i64 x268000_1, .int .i64 x268001_1, .int .i64 x268002_1, .int .i64 x268003_1] (0, 0) _ rfl (by (with_reducible repeat (first | refine bkN ?_ _ | refine bkD ?_ | refine bkA ?_ _)); refine blk_put (cs := #[.int .i64 x268000_1, .int .i64 x268001_1, .int .i64 x268002_1, .int .i64 0]) ?_ 3 _ rfl; (with_reducible repeat (first | refine bkN ?_ _ | refine bkD ?_ | refine bkA ?_ _)); refine blk_put (cs := #[.int .i64 x268000_1, .int .i64 x268001_1, .int .i64 0, .int .i64 0]) ?_ 2 _ rfl; (with_reducible repeat (first | refine bkN ?_ _ | refine bkD ?_ | refine bkA ?_ _)); refine blk_put (cs := #[.int .i64 x268000_1, .int .i64 0, .int .i64 0, .int .i64 0]) ?_ 1 _ rfl; (with_reducible repeat (first | refine bkN ?_ _ | refine bkD ?_ | refine bkA ?_ _)); refine blk_put (cs := #[.int .i64 0, .int .i64 0, .int .i64 0, .int .i64 0]) ?_ 0 _ rfl; (with_reducible repeat (first | refine bkN ?_ _ | refine bkD ?_ | refine bkA ?_ _)); exact BK266.out) Try.underlying26 rfl (by kernel_rfl)) rfl ?_
       exact ⟨by first | rfl | (simp [errW_none, errW_some] <;> rfl) | (simp [*, errW_none, errW_some] <;> rfl), by repeat (first | (with_reducible first | exact HB.out | apply pbA | apply pbN | apply pbD | refine pbS ?_ GE266.out | refine pbS ?_ GE267.out) | exact HB.out)⟩
   · rw [if_neg c6] at H
     have c6b0 : decide (x4_1 < (l0.length : Int)) = false := decide_eq_false c6
     clear c6
     simp only [Option.some.injEq, Prod.mk.injEq] at H
     obtain ⟨rfl, rfl, rfl, rfl⟩ := H
     have hnb22 := NB267_266.out
     have hnc22 := NB266_267.out
     have hcz23_0 : wr.cell? ⟨gb267, 0, none⟩ = some (.int .i64 x268000_1) := (bkC BK267.out 0).trans rfl
     have hcz23_1 : wr.cell? ⟨gb267, 1, none⟩ = some (.int .i64 x268001_1) := (bkC BK267.out 1).trans rfl
     have hcz23_2 : wr.cell? ⟨gb267, 2, none⟩ = some (.int .i64 x268002_1) := (bkC BK267.out 2).trans rfl
     have hcz23_3 : wr.cell? ⟨gb267, 3, none⟩ = some (.int .i64 x268003_1) := (bkC BK267.out 3).trans rfl
     have hfz23_0 := bkF BK267.out 0
     have hfz23_1 := bkF BK267.out 1
     have hfz23_2 := bkF BK267.out 2
     have hfz23_3 := bkF BK267.out 3
     have hcz24_0 : wr.cell? ⟨gb266, 0, none⟩ = some (.int .i64 0) := (bkC BK266.out 0).trans rfl
     have hcz24_1 : wr.cell? ⟨gb266, 1, none⟩ = some (.int .i64 0) := (bkC BK266.out 1).trans rfl
     have hcz24_2 : wr.cell? ⟨gb266, 2, none⟩ = some (.int .i64 0) := (bkC BK266.out 2).trans rfl
     have hcz24_3 : wr.cell? ⟨gb266, 3, none⟩ = some (.int .i64 0) := (bkC BK266.out 3).trans rfl
     have hfz24_0 := bkF BK266.out 0
     have hfz24_1 := bkF BK266.out 1
     have hfz24_2 := bkF BK266.out 2
     have hfz24_3 := bkF BK266.out 3
     go_wp2
     refine bodyPost_ret (results_cell_row rfl _ _ gb266 26 #[.int .i64 x268000_1, .int .i64 x268001_1, .int .i64 x268002_1, .int .i64 x268003_1] (0, 0) _ rfl (by (with_reducible repeat (first | refine bkN ?_ _ | refine bkD ?_ | refine bkA ?_ _)); refine blk_put (cs := #[.int .i64 x268000_1, .int .i64 x268001_1, .int .i64 x268002_1, .int .i64 0]) ?_ 3 _ rfl; (with_reducible repeat (first | refine bkN ?_ _ | refine bkD ?_ | refine bkA ?_ _)); refine blk_put (cs := #[.int .i64 x268000_1, .int .i64 x268001_1, .int .i64 0, .int .i64 0]) ?_ 2 _ rfl; (with_reducible repeat (first | refine bkN ?_ _ | refine bkD ?_ | refine bkA ?_ _)); refine blk_put (cs := #[.int .i64 x268000_1, .int .i64 0, .int .i64 0, .int .i64 0]) ?_ 1 _ rfl; (with_reducible repeat (first | refine bkN ?_ _ | refine bkD ?_ | refine bkA ?_ _)); refine blk_put (cs := #[.int .i64 0, .int .i64 0, .int .i64 0, .int .i64 0]) ?_ 0 _ rfl; (with_reducible repeat (first | refine bkN ?_ _ | refine bkD ?_ | refine bkA ?_ _)); exact BK266.out) Try.underlying26 rfl (by kernel_rfl)) rfl ?_
     exact ⟨by first | rfl | (simp [errW_none, errW_some] <;> rfl) | (simp [*, errW_none, errW_some] <;> rfl), by repeat (first | (with_reducible first | exact HB.out | apply pbA | apply pbN | apply pbD | refine pbS ?_ GE266.out | refine pbS ?_ GE267.out) | exact HB.out)⟩

/-! ### tableauref09_put: function 55 -/
def tableauref09_put.f (k : Nat) (l0 : List (S26)) (a1_0 : Int) (a1_1 : Int) (a1_2 : Int) (a1_3 : Int) : Option ((List (S26))) := (tableauref08_Of.f a1_0 a1_1 a1_2 a1_3).bind fun t275 => ((tableauref08_Make.f k l0 t275 0).bind fun t278 => (if (t278.length : Int) > 40 then ((tableauref08_Cover.f k t278).bind fun bt281 => (some (([(⟨bt281.1, bt281.2.1, bt281.2.2.1, bt281.2.2.2⟩ : S26)] : List (S26))))) else (some t278)))
theorem tableauref09_put.mono : ∀ a0 a1 a2 a3 a4 k, LeO (tableauref09_put.f k a0 a1 a2 a3 a4) (tableauref09_put.f (k + 1) a0 a1 a2 a3 a4) := by
 intro a0 a1 a2 a3 a4 k
 unfold tableauref09_put.f
 repeat' first
  | (with_reducible exact tableauref08_Cover.mono _ _)
  | (with_reducible exact tableauref08_Make.mono _ _ _ _)
  | (with_reducible exact LeO.refl _)
  | (with_reducible exact LeO.none _)
  | (with_reducible refine LeO.ite ?_ ?_)
  | (with_reducible refine LeO.bind ?_ (fun _ => ?_))
  | exact tableauref08_Cover.mono _ _
  | exact tableauref08_Make.mono _ _ _ _
  | exact LeO.none _
  | refine LeO.ite ?_ ?_
  | refine LeO.bind ?_ (fun _ => ?_)
set_option maxHeartbeats 8000000 in
set_option maxRecDepth 100000 in
theorem tableauref09_put.calls (k : Nat) (A0 : Option Addr) (c0 : Nat) (l0 : List (S26)) (a1_0 : Int) (a1_1 : Int) (a1_2 : Int) (a1_3 : Int) (r : List (S26)) (w : World) (hr0 : Kd.C k26 w A0 l0.length l0) (hc0 : l0.length ≤ c0) (h : tableauref09_put.f k l0 a1_0 a1_1 a1_2 a1_3 = some r) :
 Calls Try.prog 55 #[.slice A0 l0.length c0, .agg #[.int .i64 a1_0, .int .i64 a1_1, .int .i64 a1_2, .int .i64 a1_3]] w fun e w' => ∃ v0_ : Value, e = .returned (v0_) ∧ Kd.R k26 26 w' w.heap.size (fun _ => True) v0_ r ∧ Below w.heap.size w w' := by
 have hu26 := Try.underlying26
 have HR0 := Aside0.mk hr0
 have HC0 := Aside0.mk hc0
 clear hr0 hc0
 have HB := Aside0.mk (Below.refl w.heap.size w)
 have H : ((tableauref08_Of.f a1_0 a1_1 a1_2 a1_3).bind fun t275 => ((tableauref08_Make.f k l0 t275 0).bind fun t278 => (if (t278.length : Int) > 40 then ((tableauref08_Cover.f k t278).bind fun bt281 => (some (([(⟨bt281.1, bt281.2.1, bt281.2.2.1, bt281.2.2.2⟩ : S26)] : List (S26))))) else (some t278)))) = some r := h
 clear h
 replace H := Option.bind_eq_some_iff.mp H
 obtain ⟨t275, A30, H⟩ := H
 replace H : ((tableauref08_Make.f k l0 t275 0).bind fun t278 => (if (t278.length : Int) > 40 then ((tableauref08_Cover.f k t278).bind fun bt281 => (some (([(⟨bt281.1, bt281.2.1, bt281.2.2.1, bt281.2.2.2⟩ : S26)] : List (S26))))) else (some t278))) = some r := H
 have A3 := Aside0.mk A30
 clear A30
 replace H := Option.bind_eq_some_iff.mp H
 obtain ⟨t278, A40, H⟩ := H
 replace H : (if (t278.length : Int) > 40 then ((tableauref08_Cover.f k t278).bind fun bt281 => (some (([(⟨bt281.1, bt281.2.1, bt281.2.2.1, bt281.2.2.2⟩ : S26)] : List (S26))))) else (some t278)) = some r := H
 have A4 := Aside0.mk A40
 clear A40
 by_cases c5 : (t278.length : Int) > 40
 · rw [if_pos c5] at H
   have c5b0 : decide (40 < (t278.length : Int)) = true := decide_eq_true c5
   have c5b1 : decide (40 < t278.length) = true := decide_eq_true (by omega)
   clear c5
   replace H := Option.bind_eq_some_iff.mp H
   obtain ⟨⟨t281, t282, t283, t284⟩, A60, H⟩ := H
   replace H : (some (([(⟨t281, t282, t283, t284⟩ : S26)] : List (S26)))) = some r := H
   have A6 := Aside0.mk A60
   clear A60
   obtain ⟨y285, hy285⟩ : ∃ y_ : List (S26), y_ = (([(⟨t281, t282, t283, t284⟩ : S26)] : List (S26))) := ⟨_, rfl⟩
   replace H : (some y285) = some r := by first | (rw [hy285]; with_reducible exact H) | (have H2_ := (Option.bind_some _ _).symm.trans H; rw [hy285]; with_reducible exact H2_) | (have H2_ := (Option.bind_some _ _).symm.trans H; with_reducible exact H2_) | with_reducible exact H | (rw [hy285]; exact H) | exact H
   have Ny285 := Aside0.mk hy285
   clear hy285
   obtain rfl := Option.some.inj H
   go_enter Try.func55, Try.ntmps55
   go_wp2_with (first | ((with_reducible refine gate_dst (N := 3) rfl ?_); refine box_event ?hg (N := 3) ?hd (cs := #[.int .i64 a1_0, .int .i64 a1_1, .int .i64 a1_2, .int .i64 a1_3]) (t := 26) ?hr ?_; (case hd => rfl); (case hg => rfl); (case hr => first | (go_simp; done) | (go_simp; rfl)); intro gb274 hg w7 hbox hb; have n0_ := Aside0.mk (pbP (by repeat (first | (with_reducible first | exact HB.out | apply pbA | apply pbN | apply pbD) | exact HB.out)) hb); have n1_ := Aside0.mk (hbox); have n2_ := Aside0.mk ((by rw [hg]; exact (pbZ (by repeat (first | (with_reducible first | exact HB.out | apply pbA | apply pbN | apply pbD) | exact HB.out))) : w.heap.size ≤ gb274)); have n3_ := Aside0.mk ((by rw [hg]; exact (pbZ (by repeat (first | (with_reducible first | exact HB.out | apply pbA | apply pbN | apply pbD) | exact HB.out))) : w.heap.size ≤ gb274)); clear HB; have HB := n0_; have BK274 := n1_; have GW274 := n2_; have GE274 := n3_; clear n0_ n1_ n2_ n3_; clear hb hbox hg; have hcz8_0 : w7.cell? ⟨gb274, 0, none⟩ = some (.int .i64 a1_0) := (bkC BK274.out 0).trans rfl; have hcz8_1 : w7.cell? ⟨gb274, 1, none⟩ = some (.int .i64 a1_1) := (bkC BK274.out 1).trans rfl; have hcz8_2 : w7.cell? ⟨gb274, 2, none⟩ = some (.int .i64 a1_2) := (bkC BK274.out 2).trans rfl; have hcz8_3 : w7.cell? ⟨gb274, 3, none⟩ = some (.int .i64 a1_3) := (bkC BK274.out 3).trans rfl; have hfz8_0 := bkF BK274.out 0; have hfz8_1 := bkF BK274.out 1; have hfz8_2 := bkF BK274.out 2; have hfz8_3 := bkF BK274.out 3) | ((with_reducible refine gate_callee (f := 32) rfl ?_); refine goesL_ (some 8) rfl rfl Try.func32 (by kernel_rfl) rfl #[.agg #[.int .i64 a1_0, .int .i64 a1_1, .int .i64 a1_2, .int .i64 a1_3]] rfl (by (try simp only [List.map_toArray, List.map_cons, List.map_nil]); first | done | rfl | (simp only [List.length_drop, List.length_take]; rfl)) ?_; (with_reducible refine (tableauref08_Of.calls a1_0 a1_1 a1_2 a1_3 t275 _ A3.out).mono ?_); rintro e w9 ⟨v276, rfl, ho0, hb⟩; refine ⟨_, rfl, ?_⟩; have n0_ := Aside0.mk (Kd.R_lower (Kd.R_newB ho0 (g := gb274) (o := .cells #[.int .i64 a1_0, .int .i64 a1_1, .int .i64 a1_2, .int .i64 a1_3] 26 (0, 0)) (by (with_reducible repeat (first | refine bkN ?_ _ | refine bkD ?_ | refine bkA ?_ _)); exact BK274.out)) (pbZ (by repeat (first | (with_reducible first | exact HB.out | apply pbA | apply pbN | apply pbD | refine pbS ?_ GE274.out) | exact HB.out)))); have n1_ := Aside0.mk (bkB (g := gb274) (o := .cells #[.int .i64 a1_0, .int .i64 a1_1, .int .i64 a1_2, .int .i64 a1_3] 26 (0, 0)) (by (with_reducible repeat (first | refine bkN ?_ _ | refine bkD ?_ | refine bkA ?_ _)); exact BK274.out) hb); have n2_ := Aside0.mk (pbP (by repeat (first | (with_reducible first | exact HB.out | apply pbA | apply pbN | apply pbD | refine pbS ?_ GE274.out) | exact HB.out)) hb); clear BK274; clear HB; have HO277 := n0_; have BK274 := n1_; have HB := n2_; clear n0_ n1_ n2_; (try clear hb); (try clear hb2); (try clear hk); (try clear hi); (try clear ho0); obtain ⟨Ao10, co10, eo10⟩ := Kd.R_slice HO277.out; subst eo10) | ((with_reducible refine gate_callee (f := 33) rfl ?_); refine goesL_ (some 9) rfl rfl Try.func33 (by kernel_rfl) rfl #[.slice A0 l0.length c0, .slice Ao10 t275.length co10, .int .i64 0] rfl (by (try simp only [List.map_toArray, List.map_cons, List.map_nil]); first | done | rfl | (simp only [List.length_drop, List.length_take]; rfl)) ?_; (with_reducible refine (tableauref08_Make.calls k _ _ l0 _ _ t275 0 t278 _ ?side1 ?side2 ?side3 ?side4 A4.out).mono ?_); (case side1 => repeat (first | exact (Kd.C_below HR0.out HB.out) | (with_reducible refine Kd.C_alloc ?_ _) | (with_reducible refine Kd.C_drewN ?_ _) | (with_reducible refine Kd.C_drew ?_))); (case side2 => exact HC0.out); (case side3 => repeat (first | exact (Kd.R_reads' HO277.out).2.2 | (with_reducible refine Kd.C_alloc ?_ _) | (with_reducible refine Kd.C_drewN ?_ _) | (with_reducible refine Kd.C_drew ?_))); (case side4 => exact (Kd.R_reads' HO277.out).2.1); rintro e w11 ⟨v279, rfl, ho0, hb⟩; refine ⟨_, rfl, ?_⟩; have n0_ := Aside0.mk (Kd.R_elder' (by (with_reducible repeat (first | apply Kd.R_alloc | apply Kd.R_drewN | apply Kd.R_drew)); exact HO277.out) (Kd.R_base ho0) hb); have n1_ := Aside0.mk (Kd.R_lower (Kd.R_newB (Kd.R_new' ho0 (Kd.R_lt (by (with_reducible repeat (first | apply Kd.R_alloc | apply Kd.R_drewN | apply Kd.R_drew)); exact HO277.out))) (g := gb274) (o := .cells #[.int .i64 a1_0, .int .i64 a1_1, .int .i64 a1_2, .int .i64 a1_3] 26 (0, 0)) (by (with_reducible repeat (first | refine bkN ?_ _ | refine bkD ?_ | refine bkA ?_ _)); exact BK274.out)) (pbZ (by repeat (first | (with_reducible first | exact HB.out | apply pbA | apply pbN | apply pbD | refine pbS ?_ GE274.out) | exact HB.out)))); have n2_ := Aside0.mk (bkB (g := gb274) (o := .cells #[.int .i64 a1_0, .int .i64 a1_1, .int .i64 a1_2, .int .i64 a1_3] 26 (0, 0)) (by (with_reducible repeat (first | refine bkN ?_ _ | refine bkD ?_ | refine bkA ?_ _)); exact BK274.out) hb); have n3_ := Aside0.mk (pbP (by repeat (first | (with_reducible first | exact HB.out | apply pbA | apply pbN | apply pbD | refine pbS ?_ GE274.out) | exact HB.out)) hb); clear HO277; clear BK274; clear HB; have HO277 := n0_; have HO280 := n1_; have BK274 := n2_; have HB := n3_; clear n0_ n1_ n2_ n3_; (try clear hb); (try clear hb2); (try clear hk); (try clear hi); (try clear ho0); obtain ⟨Ao12, co12, eo12⟩ := Kd.R_slice HO280.out; subst eo12) | ((with_reducible refine gate_callee (f := 37) rfl ?_); refine goesL_ (some 14) rfl rfl Try.func37 (by kernel_rfl) rfl #[.slice Ao12 t278.length co12] rfl (by (try simp only [List.map_toArray, List.map_cons, List.map_nil]); first | done | rfl | (simp only [List.length_drop, List.length_take]; rfl)) ?_; (with_reducible refine (tableauref08_Cover.calls k _ _ t278 t281 t282 t283 t284 _ ?side1 ?side2 A6.out).mono ?_); (case side1 => repeat (first | exact (Kd.R_reads' HO280.out).2.2 | (with_reducible refine Kd.C_alloc ?_ _) | (with_reducible refine Kd.C_drewN ?_ _) | (with_reducible refine Kd.C_drew ?_))); (case side2 => exact (Kd.R_reads' HO280.out).2.1); rintro e w13 ⟨rfl, hb⟩; refine ⟨_, rfl, ?_⟩; have n0_ := Aside0.mk (Kd.R_below (by (with_reducible repeat (first | apply Kd.R_alloc | apply Kd.R_drewN | apply Kd.R_drew)); exact HO277.out) hb); have n1_ := Aside0.mk (Kd.R_below (by (with_reducible repeat (first | apply Kd.R_alloc | apply Kd.R_drewN | apply Kd.R_drew)); exact HO280.out) hb); have n2_ := Aside0.mk (bkB (g := gb274) (o := .cells #[.int .i64 a1_0, .int .i64 a1_1, .int .i64 a1_2, .int .i64 a1_3] 26 (0, 0)) (by (with_reducible repeat (first | refine bkN ?_ _ | refine bkD ?_ | refine bkA ?_ _)); exact BK274.out) hb); have n3_ := Aside0.mk (pbP (by repeat (first | (with_reducible first | exact HB.out | apply pbA | apply pbN | apply pbD | refine pbS ?_ GE274.out) | exact HB.out)) hb); clear HO277; clear HO280; clear BK274; clear HB; have HO277 := n0_; have HO280 := n1_; have BK274 := n2_; have HB := n3_; clear n0_ n1_ n2_ n3_; (try clear hb); (try clear hb2); (try clear hk); (try clear hi)) | ((with_reducible refine gate_dst (N := 15) rfl ?_); refine Kd.R_lit k26 _ 26 ?hg (N := 15) ?hd (xs := ([(⟨t281, t282, t283, t284⟩ : S26)] : List (S26))) (inner := [.int .i64 t281, .int .i64 t282, .int .i64 t283, .int .i64 t284]) (ok := fun _ => True) (okp := fun _ => True) ?hr ?hp (fun _ hk => hk) trivial (Below.refl _ _) (Nat.le_refl _) (by simp) ?_; (case hd => rfl); (case hg => rfl); (case hr => first | (go_simp; done) | (go_simp; rfl)); (case hp => exact (Reps.c4 (show Kd.M k26 _ _ _ (⟨t281, t282, t283, t284⟩ : S26) [.int .i64 t281, .int .i64 t282, .int .i64 t283, .int .i64 t284] from (k26_mkM _ _ _ (⟨t281, t282, t283, t284⟩ : S26) )) (Reps.none _ _))); intro v286 w14 ho15 hb hg_ hnew_; clear hg_ hnew_; (first | rw [← Ny285.out] at ho15 | (simp only [Int.reduceToNat] at ho15; rw [← Ny285.out] at ho15)); have n0_ := Aside0.mk (Kd.R_elder' (by (with_reducible repeat (first | apply Kd.R_alloc | apply Kd.R_drewN | apply Kd.R_drew)); exact HO277.out) (Kd.R_base ho15) hb); have n1_ := Aside0.mk (Kd.R_elder' (by (with_reducible repeat (first | apply Kd.R_alloc | apply Kd.R_drewN | apply Kd.R_drew)); exact HO280.out) (Kd.R_base ho15) hb); have n2_ := Aside0.mk (Kd.R_lower (Kd.R_newB (Kd.R_new' (Kd.R_new' ho15 (Kd.R_lt (by (with_reducible repeat (first | apply Kd.R_alloc | apply Kd.R_drewN | apply Kd.R_drew)); exact HO277.out))) (Kd.R_lt (by (with_reducible repeat (first | apply Kd.R_alloc | apply Kd.R_drewN | apply Kd.R_drew)); exact HO280.out))) (g := gb274) (o := .cells #[.int .i64 a1_0, .int .i64 a1_1, .int .i64 a1_2, .int .i64 a1_3] 26 (0, 0)) (by (with_reducible repeat (first | refine bkN ?_ _ | refine bkD ?_ | refine bkA ?_ _)); exact BK274.out)) (pbZ (by repeat (first | (with_reducible first | exact HB.out | apply pbA | apply pbN | apply pbD | refine pbS ?_ GE274.out) | exact HB.out)))); have n3_ := Aside0.mk (bkB (g := gb274) (o := .cells #[.int .i64 a1_0, .int .i64 a1_1, .int .i64 a1_2, .int .i64 a1_3] 26 (0, 0)) (by (with_reducible repeat (first | refine bkN ?_ _ | refine bkD ?_ | refine bkA ?_ _)); exact BK274.out) hb); have n4_ := Aside0.mk (pbP (by repeat (first | (with_reducible first | exact HB.out | apply pbA | apply pbN | apply pbD | refine pbS ?_ GE274.out) | exact HB.out)) hb); clear HO277; clear HO280; clear BK274; clear HB; have HO277 := n0_; have HO280 := n1_; have HO287 := n2_; have BK274 := n3_; have HB := n4_; clear n0_ n1_ n2_ n3_ n4_; clear hb ho15))
   go_ret
   exact ⟨_, by first | rfl | (simp [errW_none, errW_some] <;> rfl) | (simp [*, errW_none, errW_some] <;> rfl), by (with_reducible repeat (first | apply Kd.R_alloc | apply Kd.R_drewN | apply Kd.R_drew)); exact Kd.R_mono HO287.out (fun _ hk => trivial), by repeat (first | (with_reducible first | exact HB.out | apply pbA | apply pbN | apply pbD | refine pbS ?_ GE274.out) | exact HB.out)⟩
 · rw [if_neg c5] at H
   have c5b0 : decide (40 < (t278.length : Int)) = false := decide_eq_false c5
   have c5b1 : decide (40 < t278.length) = false := decide_eq_false (by omega)
   clear c5
   obtain rfl := Option.some.inj H
   go_enter Try.func55, Try.ntmps55
   go_wp2_with (first | ((with_reducible refine gate_dst (N := 3) rfl ?_); refine box_event ?hg (N := 3) ?hd (cs := #[.int .i64 a1_0, .int .i64 a1_1, .int .i64 a1_2, .int .i64 a1_3]) (t := 26) ?hr ?_; (case hd => rfl); (case hg => rfl); (case hr => first | (go_simp; done) | (go_simp; rfl)); intro gb274 hg w16 hbox hb; have n0_ := Aside0.mk (pbP (by repeat (first | (with_reducible first | exact HB.out | apply pbA | apply pbN | apply pbD) | exact HB.out)) hb); have n1_ := Aside0.mk (hbox); have n2_ := Aside0.mk ((by rw [hg]; exact (pbZ (by repeat (first | (with_reducible first | exact HB.out | apply pbA | apply pbN | apply pbD) | exact HB.out))) : w.heap.size ≤ gb274)); have n3_ := Aside0.mk ((by rw [hg]; exact (pbZ (by repeat (first | (with_reducible first | exact HB.out | apply pbA | apply pbN | apply pbD) | exact HB.out))) : w.heap.size ≤ gb274)); clear HB; have HB := n0_; have BK274 := n1_; have GW274 := n2_; have GE274 := n3_; clear n0_ n1_ n2_ n3_; clear hb hbox hg; have hcz17_0 : w16.cell? ⟨gb274, 0, none⟩ = some (.int .i64 a1_0) := (bkC BK274.out 0).trans rfl; have hcz17_1 : w16.cell? ⟨gb274, 1, none⟩ = some (.int .i64 a1_1) := (bkC BK274.out 1).trans rfl; have hcz17_2 : w16.cell? ⟨gb274, 2, none⟩ = some (.int .i64 a1_2) := (bkC BK274.out 2).trans rfl; have hcz17_3 : w16.cell? ⟨gb274, 3, none⟩ = some (.int .i64 a1_3) := (bkC BK274.out 3).trans rfl; have hfz17_0 := bkF BK274.out 0; have hfz17_1 := bkF BK274.out 1; have hfz17_2 := bkF BK274.out 2; have hfz17_3 := bkF BK274.out 3) | ((with_reducible refine gate_callee (f := 32) rfl ?_); refine goesL_ (some 8) rfl rfl Try.func32 (by kernel_rfl) rfl #[.agg #[.int .i64 a1_0, .int .i64 a1_1, .int .i64 a1_2, .int .i64 a1_3]] rfl (by (try simp only [List.map_toArray, List.map_cons, List.map_nil]); first | done | rfl | (simp only [List.length_drop, List.length_take]; rfl)) ?_; (with_reducible refine (tableauref08_Of.calls a1_0 a1_1 a1_2 a1_3 t275 _ A3.out).mono ?_); rintro e w18 ⟨v276, rfl, ho0, hb⟩; refine ⟨_, rfl, ?_⟩; have n0_ := Aside0.mk (Kd.R_lower (Kd.R_newB ho0 (g := gb274) (o := .cells #[.int .i64 a1_0, .int .i64 a1_1, .int .i64 a1_2, .int .i64 a1_3] 26 (0, 0)) (by (with_reducible repeat (first | refine bkN ?_ _ | refine bkD ?_ | refine bkA ?_ _)); exact BK274.out)) (pbZ (by repeat (first | (with_reducible first | exact HB.out | apply pbA | apply pbN | apply pbD | refine pbS ?_ GE274.out) | exact HB.out)))); have n1_ := Aside0.mk (bkB (g := gb274) (o := .cells #[.int .i64 a1_0, .int .i64 a1_1, .int .i64 a1_2, .int .i64 a1_3] 26 (0, 0)) (by (with_reducible repeat (first | refine bkN ?_ _ | refine bkD ?_ | refine bkA ?_ _)); exact BK274.out) hb); have n2_ := Aside0.mk (pbP (by repeat (first | (with_reducible first | exact HB.out | apply pbA | apply pbN | apply pbD | refine pbS ?_ GE274.out) | exact HB.out)) hb); clear BK274; clear HB; have HO277 := n0_; have BK274 := n1_; have HB := n2_; clear n0_ n1_ n2_; (try clear hb); (try clear hb2); (try clear hk); (try clear hi); (try clear ho0); obtain ⟨Ao19, co19, eo19⟩ := Kd.R_slice HO277.out; subst eo19) | ((with_reducible refine gate_callee (f := 33) rfl ?_); refine goesL_ (some 9) rfl rfl Try.func33 (by kernel_rfl) rfl #[.slice A0 l0.length c0, .slice Ao19 t275.length co19, .int .i64 0] rfl (by (try simp only [List.map_toArray, List.map_cons, List.map_nil]); first | done | rfl | (simp only [List.length_drop, List.length_take]; rfl)) ?_; (with_reducible refine (tableauref08_Make.calls k _ _ l0 _ _ t275 0 t278 _ ?side1 ?side2 ?side3 ?side4 A4.out).mono ?_); (case side1 => repeat (first | exact (Kd.C_below HR0.out HB.out) | (with_reducible refine Kd.C_alloc ?_ _) | (with_reducible refine Kd.C_drewN ?_ _) | (with_reducible refine Kd.C_drew ?_))); (case side2 => exact HC0.out); (case side3 => repeat (first | exact (Kd.R_reads' HO277.out).2.2 | (with_reducible refine Kd.C_alloc ?_ _) | (with_reducible refine Kd.C_drewN ?_ _) | (with_reducible refine Kd.C_drew ?_))); (case side4 => exact (Kd.R_reads' HO277.out).2.1); rintro e w20 ⟨v279, rfl, ho0, hb⟩; refine ⟨_, rfl, ?_⟩; have n0_ := Aside0.mk (Kd.R_elder' (by (with_reducible repeat (first | apply Kd.R_alloc | apply Kd.R_drewN | apply Kd.R_drew)); exact HO277.out) (Kd.R_base ho0) hb); have n1_ := Aside0.mk (Kd.R_lower (Kd.R_newB (Kd.R_new' ho0 (Kd.R_lt (by (with_reducible repeat (first | apply Kd.R_alloc | apply Kd.R_drewN | apply Kd.R_drew)); exact HO277.out))) (g := gb274) (o := .cells #[.int .i64 a1_0, .int .i64 a1_1, .int .i64 a1_2, .int .i64 a1_3] 26 (0, 0)) (by (with_reducible repeat (first | refine bkN ?_ _ | refine bkD ?_ | refine bkA ?_ _)); exact BK274.out)) (pbZ (by repeat (first | (with_reducible first | exact HB.out | apply pbA | apply pbN | apply pbD | refine pbS ?_ GE274.out) | exact HB.out)))); have n2_ := Aside0.mk (bkB (g := gb274) (o := .cells #[.int .i64 a1_0, .int .i64 a1_1, .int .i64 a1_2, .int .i64 a1_3] 26 (0, 0)) (by (with_reducible repeat (first | refine bkN ?_ _ | refine bkD ?_ | refine bkA ?_ _)); exact BK274.out) hb); have n3_ := Aside0.mk (pbP (by repeat (first | (with_reducible first | exact HB.out | apply pbA | apply pbN | apply pbD | refine pbS ?_ GE274.out) | exact HB.out)) hb); clear HO277; clear BK274; clear HB; have HO277 := n0_; have HO280 := n1_; have BK274 := n2_; have HB := n3_; clear n0_ n1_ n2_ n3_; (try clear hb); (try clear hb2); (try clear hk); (try clear hi); (try clear ho0); obtain ⟨Ao21, co21, eo21⟩ := Kd.R_slice HO280.out; subst eo21))
   go_ret
   exact ⟨_, by first | rfl | (simp [errW_none, errW_some] <;> rfl) | (simp [*, errW_none, errW_some] <;> rfl), by (with_reducible repeat (first | apply Kd.R_alloc | apply Kd.R_drewN | apply Kd.R_drew)); exact Kd.R_mono HO280.out (fun _ hk => trivial), by repeat (first | (with_reducible first | exact HB.out | apply pbA | apply pbN | apply pbD | refine pbS ?_ GE274.out) | exact HB.out)⟩

/-! ### tableauref09_Flat: function 23 -/
def tableauref09_Flat.l0 : Nat → List (S26) → List (S26) → Int → Option ((List (S26)))
 | 0, _, _, _ => none
 | k + 1, x0, x3, x4 => if x4 < (x0.length : Int) then (if 0 ≤ x4 then ((tableauref09_put.f k x3 ((rd_T26 x0 x4).f0) ((rd_T26 x0 x4).f1) ((rd_T26 x0 x4).f2) ((rd_T26 x0 x4).f3)).bind fun t289 => (tableauref09_Flat.l0 k x0 t289 (wrap64 (x4 + 1)))) else (none)) else (some x3)
def tableauref09_Flat.f (k : Nat) (l0 : List (S26)) : Option ((List (S26))) := tableauref09_Flat.l0 k l0 ([] : List (S26)) 0
theorem tableauref09_Flat.mono_l : ∀ k, (∀ y0 y1 y2, LeO (tableauref09_Flat.l0 k y0 y1 y2) (tableauref09_Flat.l0 (k + 1) y0 y1 y2))
 | 0 => fun _ _ _ r h => by simp [tableauref09_Flat.l0] at h
 | k + 1 => by
  have ih0 := tableauref09_Flat.mono_l k
  · intro y0 y1 y2
    unfold tableauref09_Flat.l0
    repeat' first
    | (with_reducible exact ih0 _ _ _)
    | (with_reducible exact tableauref09_put.mono _ _ _ _ _ _)
    | (with_reducible exact LeO.refl _)
    | (with_reducible exact LeO.none _)
    | (with_reducible refine LeO.ite ?_ ?_)
    | (with_reducible refine LeO.bind ?_ (fun _ => ?_))
    | exact ih0 _ _ _
    | exact tableauref09_put.mono _ _ _ _ _ _
    | exact LeO.none _
    | refine LeO.ite ?_ ?_
    | refine LeO.bind ?_ (fun _ => ?_)
theorem tableauref09_Flat.mono : ∀ a0 k, LeO (tableauref09_Flat.f k a0) (tableauref09_Flat.f (k + 1) a0) := by
 intro a0 k
 have ih0 := tableauref09_Flat.mono_l k
 unfold tableauref09_Flat.f
 repeat' first
  | (with_reducible exact ih0 _ _ _)
  | (with_reducible exact tableauref09_put.mono _ _ _ _ _ _)
  | (with_reducible exact LeO.refl _)
  | (with_reducible exact LeO.none _)
  | (with_reducible refine LeO.ite ?_ ?_)
  | (with_reducible refine LeO.bind ?_ (fun _ => ?_))
  | exact ih0 _ _ _
  | exact tableauref09_put.mono _ _ _ _ _ _
  | exact LeO.none _
  | refine LeO.ite ?_ ?_
  | refine LeO.bind ?_ (fun _ => ?_)
set_option maxHeartbeats 8000000 in
set_option maxRecDepth 100000 in
theorem tableauref09_Flat.calls (k : Nat) (A0 : Option Addr) (c0 : Nat) (l0 : List (S26)) (r : List (S26)) (w : World) (hr0 : Kd.C k26 w A0 l0.length l0) (hc0 : l0.length ≤ c0) (h : tableauref09_Flat.f k l0 = some r) :
 Calls Try.prog 23 #[.slice A0 l0.length c0] w fun e w' => ∃ v0_ : Value, e = .returned (v0_) ∧ Kd.R k26 26 w' w.heap.size (fun _ => True) v0_ r ∧ Below w.heap.size w w' := by
 have hu26 := Try.underlying26
 have HR0 := Aside0.mk hr0
 have HC0 := Aside0.mk hc0
 clear hr0 hc0
 have HB := Aside0.mk (Below.refl w.heap.size w)
 have H : (tableauref09_Flat.l0 k l0 ([] : List (S26)) 0) = some r := h
 clear h
 have H' := Aside0.mk H
 clear H
 go_enter Try.func23, Try.ntmps23
 go_wp2
 go_loopg [3, 4] k (fun kq v3 v4 w' => ∃ (x3_1 : List (S26)) (x4_1 : Int), v4 = .int .i64 x4_1 ∧ Aside0 (tableauref09_Flat.l0 kq l0 x3_1 x4_1 = some r) ∧ Aside0 (kq ≤ k) ∧ Aside0 (Kd.R k26 26 w' w.heap.size (fun _ => True) v3 x3_1) ∧ Aside0 (Below w.heap.size w w'))
 case atStart => exact ⟨(([] : List (S26))), (0), (by first | rfl | (simp; done) | (simp [*]; done)), H', ⟨Nat.le_refl _⟩, ⟨by first | exact Kd.R_nil _ _ _ _ _ | exact Kd.N_nil _ _ _ _ _ | exact Kd.V_nil _ _ _ _ _ | exact Kd.Q_nil _ _ _ _ _ | exact Kd.S_nil _ _ _ _ _⟩, ⟨by repeat (first | (with_reducible first | exact HB.out | apply pbA | apply pbN | apply pbD) | exact HB.out)⟩⟩
 case round =>
  clear H'
  obtain ⟨x3_1, x4_1, rfl, HA, HK1, HO_3, HB⟩ := hrel
  cases gk with
  | zero => exact absurd HA.out (by simp [tableauref09_Flat.l0])
  | succ k1 =>
   have H := HA.out
   clear HA
   simp only [tableauref09_Flat.l0] at H
   by_cases c2 : x4_1 < (l0.length : Int)
   · rw [if_pos c2] at H
     have c2b0 : decide (x4_1 < (l0.length : Int)) = true := decide_eq_true c2
     clear c2
     by_cases c3 : 0 ≤ x4_1
     · rw [if_pos c3] at H
       have c3b0 : decide (0 ≤ x4_1) = true := decide_eq_true c3
       clear c3
       replace H := Option.bind_eq_some_iff.mp H
       obtain ⟨t289, A40, H⟩ := H
       replace H : (tableauref09_Flat.l0 k1 l0 t289 (wrap64 (x4_1 + 1))) = some r := H
       have A4 := Aside0.mk A40
       clear A40
       have H' := Aside0.mk H
       clear H
       have p288 : 0 ≤ (x4_1 : Int) := of_decide_eq_true (by first | (with_reducible assumption) | assumption)
       have q288 : x4_1 < (l0.length : Int) := of_decide_eq_true (by first | (with_reducible assumption) | assumption)
       obtain ⟨ad288, e288, hx288_0, hx288_1, hx288_2, hx288_3⟩ := at_T26 HR0.out x4_1 p288 q288
       cases e288
       replace hx288_0 := (HB.out.cell (World.block_lt_of_cell? w _ hx288_0)).trans hx288_0
       replace hx288_1 := (HB.out.cell (World.block_lt_of_cell? w _ hx288_1)).trans hx288_1
       replace hx288_2 := (HB.out.cell (World.block_lt_of_cell? w _ hx288_2)).trans hx288_2
       replace hx288_3 := (HB.out.cell (World.block_lt_of_cell? w _ hx288_3)).trans hx288_3
       replace p288 := eq_true p288
       replace q288 := eq_true q288
       obtain ⟨Ao5, co5, eo5⟩ := Kd.R_slice HO_3.out
       subst eo5
       go_wp2_with (first | ((with_reducible refine gate_callee (f := 55) rfl ?_); refine goesL_ (some 16) rfl rfl Try.func55 (by kernel_rfl) rfl #[.slice Ao5 x3_1.length co5, .agg #[.int .i64 ((rd_T26 l0 x4_1).f0), .int .i64 ((rd_T26 l0 x4_1).f1), .int .i64 ((rd_T26 l0 x4_1).f2), .int .i64 ((rd_T26 l0 x4_1).f3)]] rfl (by (try simp only [List.map_toArray, List.map_cons, List.map_nil]); first | done | rfl | (simp only [List.length_drop, List.length_take]; rfl)) ?_; (with_reducible refine (tableauref09_put.calls k1 _ _ x3_1 ((rd_T26 l0 x4_1).f0) ((rd_T26 l0 x4_1).f1) ((rd_T26 l0 x4_1).f2) ((rd_T26 l0 x4_1).f3) t289 _ ?side1 ?side2 A4.out).mono ?_); (case side1 => repeat (first | exact (Kd.R_reads' HO_3.out).2.2 | (with_reducible refine Kd.C_alloc ?_ _) | (with_reducible refine Kd.C_drewN ?_ _) | (with_reducible refine Kd.C_drew ?_))); (case side2 => exact (Kd.R_reads' HO_3.out).2.1); rintro e w6 ⟨v290, rfl, ho0, hb⟩; refine ⟨_, rfl, ?_⟩; have n0_ := Aside0.mk (Kd.R_elder' (by (with_reducible repeat (first | apply Kd.R_alloc | apply Kd.R_drewN | apply Kd.R_drew)); exact HO_3.out) (Kd.R_base ho0) hb); have n1_ := Aside0.mk (Kd.R_lower (Kd.R_new' ho0 (Kd.R_lt (by (with_reducible repeat (first | apply Kd.R_alloc | apply Kd.R_drewN | apply Kd.R_drew)); exact HO_3.out))) (pbZ (by repeat (first | (with_reducible first | exact HB.out | apply pbA | apply pbN | apply pbD) | exact HB.out)))); have n2_ := Aside0.mk (pbP (by repeat (first | (with_reducible first | exact HB.out | apply pbA | apply pbN | apply pbD) | exact HB.out)) hb); clear HO_3; clear HB; have HO_3 := n0_; have HO291 := n1_; have HB := n2_; clear n0_ n1_ n2_; (try clear hb); (try clear hb2); (try clear hk); (try clear hi); (try clear ho0)))
       go_roundg k1
       case measure => have := HK1.out; omega
       case rel => exact ⟨(t289), (wrap64 (x4_1 + 1)), (by first | rfl | (simp; done) | (simp [*]; done)), H', ⟨by have := HK1.out; omega⟩, ⟨by (with_reducible repeat (first | apply Kd.R_alloc | apply Kd.R_drewN | apply Kd.R_drew)); exact Kd.R_mono HO291.out (fun _ hk => trivial)⟩, ⟨by repeat (first | (with_reducible first | exact HB.out | apply pbA | apply pbN | apply pbD) | exact HB.out)⟩⟩
     · rw [if_neg c3] at H
       exact absurd H (by simp)
   · rw [if_neg c2] at H
     have c2b0 : decide (x4_1 < (l0.length : Int)) = false := decide_eq_false c2
     clear c2
     obtain rfl := Option.some.inj H
     go_wp2
     go_ret
     exact ⟨_, by first | rfl | (simp [errW_none, errW_some] <;> rfl) | (simp [*, errW_none, errW_some] <;> rfl), by (with_reducible repeat (first | apply Kd.R_alloc | apply Kd.R_drewN | apply Kd.R_drew)); exact HO_3.out, by repeat (first | (with_reducible first | exact HB.out | apply pbA | apply pbN | apply pbD) | exact HB.out)⟩

/-! ### tableauref09_Add: function 24 -/
def tableauref09_Add.f (k : Nat) (l0 : List (S26)) (a1_0 : Int) (a1_1 : Int) (a1_2 : Int) (a1_3 : Int) : Option ((List (S26))) := (tableauref09_Flat.f k l0).bind fun t293 => ((tableauref09_put.f k t293 a1_0 a1_1 a1_2 a1_3).bind fun t296 => (some t296))
theorem tableauref09_Add.mono : ∀ a0 a1 a2 a3 a4 k, LeO (tableauref09_Add.f k a0 a1 a2 a3 a4) (tableauref09_Add.f (k + 1) a0 a1 a2 a3 a4) := by
 intro a0 a1 a2 a3 a4 k
 unfold tableauref09_Add.f
 repeat' first
  | (with_reducible exact tableauref09_Flat.mono _ _)
  | (with_reducible exact tableauref09_put.mono _ _ _ _ _ _)
  | (with_reducible exact LeO.refl _)
  | (with_reducible exact LeO.none _)
  | (with_reducible refine LeO.ite ?_ ?_)
  | (with_reducible refine LeO.bind ?_ (fun _ => ?_))
  | exact tableauref09_Flat.mono _ _
  | exact tableauref09_put.mono _ _ _ _ _ _
  | exact LeO.none _
  | refine LeO.ite ?_ ?_
  | refine LeO.bind ?_ (fun _ => ?_)
set_option maxHeartbeats 8000000 in
set_option maxRecDepth 100000 in
theorem tableauref09_Add.calls (k : Nat) (A0 : Option Addr) (c0 : Nat) (l0 : List (S26)) (a1_0 : Int) (a1_1 : Int) (a1_2 : Int) (a1_3 : Int) (r : List (S26)) (w : World) (hr0 : Kd.C k26 w A0 l0.length l0) (hc0 : l0.length ≤ c0) (h : tableauref09_Add.f k l0 a1_0 a1_1 a1_2 a1_3 = some r) :
 Calls Try.prog 24 #[.slice A0 l0.length c0, .agg #[.int .i64 a1_0, .int .i64 a1_1, .int .i64 a1_2, .int .i64 a1_3]] w fun e w' => ∃ v0_ : Value, e = .returned (v0_) ∧ Kd.R k26 26 w' w.heap.size (fun _ => True) v0_ r ∧ Below w.heap.size w w' := by
 have hu26 := Try.underlying26
 have HR0 := Aside0.mk hr0
 have HC0 := Aside0.mk hc0
 clear hr0 hc0
 have HB := Aside0.mk (Below.refl w.heap.size w)
 have H : ((tableauref09_Flat.f k l0).bind fun t293 => ((tableauref09_put.f k t293 a1_0 a1_1 a1_2 a1_3).bind fun t296 => (some t296))) = some r := h
 clear h
 replace H := Option.bind_eq_some_iff.mp H
 obtain ⟨t293, A30, H⟩ := H
 replace H : ((tableauref09_put.f k t293 a1_0 a1_1 a1_2 a1_3).bind fun t296 => (some t296)) = some r := H
 have A3 := Aside0.mk A30
 clear A30
 replace H := Option.bind_eq_some_iff.mp H
 obtain ⟨t296, A40, H⟩ := H
 replace H : (some t296) = some r := H
 have A4 := Aside0.mk A40
 clear A40
 obtain rfl := Option.some.inj H
 go_enter Try.func24, Try.ntmps24
 try go_wp2_with (first | ((with_reducible refine gate_dst (N := 3) rfl ?_); refine box_event ?hg (N := 3) ?hd (cs := #[.int .i64 a1_0, .int .i64 a1_1, .int .i64 a1_2, .int .i64 a1_3]) (t := 26) ?hr ?_; (case hd => rfl); (case hg => rfl); (case hr => first | (go_simp; done) | (go_simp; rfl)); intro gb292 hg w5 hbox hb; have n0_ := Aside0.mk (pbP (by repeat (first | (with_reducible first | exact HB.out | apply pbA | apply pbN | apply pbD) | exact HB.out)) hb); have n1_ := Aside0.mk (hbox); have n2_ := Aside0.mk ((by rw [hg]; exact (pbZ (by repeat (first | (with_reducible first | exact HB.out | apply pbA | apply pbN | apply pbD) | exact HB.out))) : w.heap.size ≤ gb292)); have n3_ := Aside0.mk ((by rw [hg]; exact (pbZ (by repeat (first | (with_reducible first | exact HB.out | apply pbA | apply pbN | apply pbD) | exact HB.out))) : w.heap.size ≤ gb292)); clear HB; have HB := n0_; have BK292 := n1_; have GW292 := n2_; have GE292 := n3_; clear n0_ n1_ n2_ n3_; clear hb hbox hg))
 have n0_ := Aside0.mk (bkD BK292.out)
 have n1_ := Aside0.mk (pbD HB.out)
 clear BK292
 clear HB
 have BK292 := n0_
 have HB := n1_
 clear n0_ n1_
 refine start_ (n := 5) (S := fun w' => w'.cell? ⟨gb292, 0, none⟩ = some (.int .i64 a1_0) ∧ w'.cell? ⟨gb292, 1, none⟩ = some (.int .i64 a1_1) ∧ w'.cell? ⟨gb292, 2, none⟩ = some (.int .i64 a1_2) ∧ w'.cell? ⟨gb292, 3, none⟩ = some (.int .i64 a1_3)) (ds := []) #[false, false, false, false, false] (by kernel_rfl) rfl rfl ⟨(bkC BK292.out 0).trans rfl, (bkC BK292.out 1).trans rfl, (bkC BK292.out 2).trans rfl, (bkC BK292.out 3).trans rfl⟩ (fun hHeld => ?_)
 generalize w5.drew = w6 at BK292 HB hHeld ⊢
 refine pure_ (i := 0) (N := some 5) (v := ?_) (a' := ?_) #[true, false, false, false, false] rfl rfl (by kernel_rfl) (fun _ _ _ h => h) (Or.inl ⟨by rfl, ?_⟩) ?_ ?_
 rotate_left
 · intro w'
   go_simp
   with_reducible rfl
 rotate_left
 · simp only [Act.put, List.setIfInBounds_toArray, List.set_cons_zero, List.set_cons_succ, i64_w, i32_w]
   rfl
 refine take_ (i := 2) (N := some 7) (v := ?_) (a' := ?_) #[true, false, true, false, false] rfl rfl (by kernel_rfl) (fun _ _ _ h => h) (Or.inl ⟨by rfl, ?_⟩) hHeld ?_ ?_
 rotate_left
 · rintro w' ⟨s0, s1, s2, s3⟩
   go_simp
   with_reducible rfl
 rotate_left
 · simp only [Act.put, List.setIfInBounds_toArray, List.set_cons_zero, List.set_cons_succ, i64_w, i32_w]
   rfl
 refine one_ (i := 1) (N := some 6) #[true, true, true, false, false] rfl rfl (by kernel_rfl) (by decide) (fun K hK => ?_)
 refine goes_ Try.func23 (by kernel_rfl) rfl #[.slice A0 l0.length c0] (by rfl) rfl rfl (by (try simp only [List.map_toArray, List.map_cons, List.map_nil]); first | done | rfl | (simp only [List.length_drop, List.length_take]; rfl)) ?_
 with_reducible refine (tableauref09_Flat.calls k _ _ l0 t293 _ ?side1 ?side2 A3.out).mono ?_
 (case side1 => repeat (first | exact (Kd.C_below HR0.out HB.out) | (with_reducible refine Kd.C_alloc ?_ _) | (with_reducible refine Kd.C_drewN ?_ _) | (with_reducible refine Kd.C_drew ?_)))
 (case side2 => exact HC0.out)
 rintro e w7 ⟨v294, rfl, ho0, hb⟩
 refine ⟨_, rfl, ?_⟩
 have n0_ := Aside0.mk (Kd.R_lower (Kd.R_newB ho0 (g := gb292) (o := .cells #[.int .i64 a1_0, .int .i64 a1_1, .int .i64 a1_2, .int .i64 a1_3] 26 (0, 0)) (by (with_reducible repeat (first | refine bkN ?_ _ | refine bkD ?_ | refine bkA ?_ _)); exact BK292.out)) (pbZ (by repeat (first | (with_reducible first | exact HB.out | apply pbA | apply pbN | apply pbD | refine pbS ?_ GE292.out) | exact HB.out))))
 have n1_ := Aside0.mk (bkB (g := gb292) (o := .cells #[.int .i64 a1_0, .int .i64 a1_1, .int .i64 a1_2, .int .i64 a1_3] 26 (0, 0)) (by (with_reducible repeat (first | refine bkN ?_ _ | refine bkD ?_ | refine bkA ?_ _)); exact BK292.out) hb)
 have n2_ := Aside0.mk (pbP (by repeat (first | (with_reducible first | exact HB.out | apply pbA | apply pbN | apply pbD | refine pbS ?_ GE292.out) | exact HB.out)) hb)
 clear BK292
 clear HB
 have HO295 := n0_
 have BK292 := n1_
 have HB := n2_
 clear n0_ n1_ n2_
 (try clear hb)
 (try clear hb2)
 (try clear hk)
 (try clear hi)
 (try clear ho0)
 obtain ⟨Ao8, co8, eo8⟩ := Kd.R_slice HO295.out
 (first | subst eo8 | (injection eo8 with f1_ f2_ f3_; have f4_ := f1_.symm; have f5_ := f3_.symm; clear f1_ f2_ f3_; subst f4_; subst f5_))
 refine hK.out _ _ ⟨(bkC BK292.out 0).trans rfl, (bkC BK292.out 1).trans rfl, (bkC BK292.out 2).trans rfl, (bkC BK292.out 3).trans rfl⟩ (fun hHeld => ?_)
 clear hK K
 refine norm_ (a' := ?_) ?_ ?_
 rotate_left
 · show Act.put _ (some 6) _ = _
   simp only [Act.put, List.setIfInBounds_toArray, List.set_cons_zero, List.set_cons_succ, i64_w, i32_w]
   rfl
 refine one_ (i := 3) (N := some 8) #[true, true, true, true, false] rfl rfl (by kernel_rfl) (by decide) (fun K hK => ?_)
 refine goes_ Try.func55 (by kernel_rfl) rfl #[.slice Ao8 t293.length co8, .agg #[.int .i64 a1_0, .int .i64 a1_1, .int .i64 a1_2, .int .i64 a1_3]] (by rfl) rfl rfl (by (try simp only [List.map_toArray, List.map_cons, List.map_nil]); first | done | rfl | (simp only [List.length_drop, List.length_take]; rfl)) ?_
 with_reducible refine (tableauref09_put.calls k _ _ t293 a1_0 a1_1 a1_2 a1_3 t296 _ ?side1 ?side2 A4.out).mono ?_
 (case side1 => repeat (first | exact (Kd.R_reads' HO295.out).2.2 | (with_reducible refine Kd.C_alloc ?_ _) | (with_reducible refine Kd.C_drewN ?_ _) | (with_reducible refine Kd.C_drew ?_)))
 (case side2 => exact (Kd.R_reads' HO295.out).2.1)
 rintro e w9 ⟨v297, rfl, ho0, hb⟩
 refine ⟨_, rfl, ?_⟩
 have n0_ := Aside0.mk (Kd.R_elder' (by (with_reducible repeat (first | apply Kd.R_alloc | apply Kd.R_drewN | apply Kd.R_drew)); exact HO295.out) (Kd.R_base ho0) hb)
 have n1_ := Aside0.mk (Kd.R_lower (Kd.R_newB (Kd.R_new' ho0 (Kd.R_lt (by (with_reducible repeat (first | apply Kd.R_alloc | apply Kd.R_drewN | apply Kd.R_drew)); exact HO295.out))) (g := gb292) (o := .cells #[.int .i64 a1_0, .int .i64 a1_1, .int .i64 a1_2, .int .i64 a1_3] 26 (0, 0)) (by (with_reducible repeat (first | refine bkN ?_ _ | refine bkD ?_ | refine bkA ?_ _)); exact BK292.out)) (pbZ (by repeat (first | (with_reducible first | exact HB.out | apply pbA | apply pbN | apply pbD | refine pbS ?_ GE292.out) | exact HB.out))))
 have n2_ := Aside0.mk (bkB (g := gb292) (o := .cells #[.int .i64 a1_0, .int .i64 a1_1, .int .i64 a1_2, .int .i64 a1_3] 26 (0, 0)) (by (with_reducible repeat (first | refine bkN ?_ _ | refine bkD ?_ | refine bkA ?_ _)); exact BK292.out) hb)
 have n3_ := Aside0.mk (pbP (by repeat (first | (with_reducible first | exact HB.out | apply pbA | apply pbN | apply pbD | refine pbS ?_ GE292.out) | exact HB.out)) hb)
 clear HO295
 clear BK292
 clear HB
 have HO295 := n0_
 have HO298 := n1_
 have BK292 := n2_
 have HB := n3_
 clear n0_ n1_ n2_ n3_
 (try clear hb)
 (try clear hb2)
 (try clear hk)
 (try clear hi)
 (try clear ho0)
 refine hK.out _ _ ⟨(bkC BK292.out 0).trans rfl, (bkC BK292.out 1).trans rfl, (bkC BK292.out 2).trans rfl, (bkC BK292.out 3).trans rfl⟩ (fun hHeld => ?_)
 clear hK K
 refine norm_ (a' := ?_) ?_ ?_
 rotate_left
 · show Act.put _ (some 8) _ = _
   simp only [Act.put, List.setIfInBounds_toArray, List.set_cons_zero, List.set_cons_succ, i64_w, i32_w]
   rfl
 refine pure_ (i := 4) (N := some 4) (v := ?_) (a' := ?_) #[true, true, true, true, true] rfl rfl (by kernel_rfl) (fun _ _ _ h => h) (Or.inl ⟨by rfl, ?_⟩) ?_ ?_
 rotate_left
 · intro w'
   go_simp
   with_reducible rfl
 rotate_left
 · simp only [Act.put, List.setIfInBounds_toArray, List.set_cons_zero, List.set_cons_succ, i64_w, i32_w]
   rfl
 refine done_ (by kernel_rfl) ?_
 try go_wp2
 go_ret
 exact ⟨_, by first | rfl | (simp [errW_none, errW_some] <;> rfl) | (simp [*, errW_none, errW_some] <;> rfl), by (with_reducible repeat (first | apply Kd.R_alloc | apply Kd.R_drewN | apply Kd.R_drew)); exact Kd.R_mono HO298.out (fun _ hk => trivial), by repeat (first | (with_reducible first | exact HB.out | apply pbA | apply pbN | apply pbD | refine pbS ?_ GE292.out) | exact HB.out)⟩

/-! ### tableauref24_spot: function 72 -/
def tableauref24_spot.j0 : Nat → Bool → Int → Int → Int → Int → Int → Int → Int → Int → Int → Int → Option (Int × Int × Int × Int)
 | 0, _, _, _, _, _, _, _, _, _, _, _ => none
 | k + 1, x15, x302000, x302001, x302002, x302003, x302004, x302005, x309000, x309001, x309002, x309003 => if x15 = true then (some (0, 0, 0, 0)) else ((tableauref07_Shift.f x309000 x309001 x309002 x309003 x302002 x302003).bind fun bt315 => ((tableauref24_rect.f x302000 x302001 x302002 x302003 x302004 x302005).bind fun bt319 => ((tableauref07_Cut.f bt315.1 bt315.2.1 bt315.2.2.1 bt315.2.2.2 bt319.1 bt319.2.1 bt319.2.2.1 bt319.2.2.2).bind fun bt323 => (some (bt323.1, bt323.2.1, bt323.2.2.1, bt323.2.2.2)))))
def tableauref24_spot.f (k : Nat) (a0_0 : Int) (a0_1 : Int) (a0_2 : Int) (a0_3 : Int) (a0_4 : Int) (a0_5 : Int) (a1_0 : Int) (a1_1 : Int) (a1_2 : Int) (a1_3 : Int) : Option (Int × Int × Int × Int) := (tableauref07_Bound.f a1_0 a1_1 a1_2 a1_3).bind fun bt304 => ((tableauref24_rect.f a0_0 a0_1 a0_2 a0_3 a0_4 a0_5).bind fun bt309 => ((tableauref07_Check.f bt309.1 bt309.2.1 bt309.2.2.1 bt309.2.2.2).bind fun t313 => (if t313 = true then ((tableauref07_Empty.f bt304.1 bt304.2.1 bt304.2.2.1 bt304.2.2.2).bind fun t314 => (tableauref24_spot.j0 k t314 a0_0 a0_1 a0_2 a0_3 a0_4 a0_5 bt304.1 bt304.2.1 bt304.2.2.1 bt304.2.2.2)) else (tableauref24_spot.j0 k true a0_0 a0_1 a0_2 a0_3 a0_4 a0_5 bt304.1 bt304.2.1 bt304.2.2.1 bt304.2.2.2))))
theorem tableauref24_spot.mono_l : ∀ k, (∀ y0 y1 y2 y3 y4 y5 y6 y7 y8 y9 y10, LeO (tableauref24_spot.j0 k y0 y1 y2 y3 y4 y5 y6 y7 y8 y9 y10) (tableauref24_spot.j0 (k + 1) y0 y1 y2 y3 y4 y5 y6 y7 y8 y9 y10))
 | 0 => fun _ _ _ _ _ _ _ _ _ _ _ r h => by simp [tableauref24_spot.j0] at h
 | k + 1 => by
  have ih0 := tableauref24_spot.mono_l k
  · intro y0 y1 y2 y3 y4 y5 y6 y7 y8 y9 y10
    unfold tableauref24_spot.j0
    repeat' first
    | (with_reducible exact ih0 _ _ _ _ _ _ _ _ _ _ _)
    | (with_reducible exact LeO.refl _)
    | (with_reducible exact LeO.none _)
    | (with_reducible refine LeO.ite ?_ ?_)
    | (with_reducible refine LeO.bind ?_ (fun _ => ?_))
    | exact ih0 _ _ _ _ _ _ _ _ _ _ _
    | exact LeO.none _
    | refine LeO.ite ?_ ?_
    | refine LeO.bind ?_ (fun _ => ?_)
theorem tableauref24_spot.mono : ∀ a0 a1 a2 a3 a4 a5 a6 a7 a8 a9 k, LeO (tableauref24_spot.f k a0 a1 a2 a3 a4 a5 a6 a7 a8 a9) (tableauref24_spot.f (k + 1) a0 a1 a2 a3 a4 a5 a6 a7 a8 a9) := by
 intro a0 a1 a2 a3 a4 a5 a6 a7 a8 a9 k
 have ih0 := tableauref24_spot.mono_l k
 unfold tableauref24_spot.f
 repeat' first
  | (with_reducible exact ih0 _ _ _ _ _ _ _ _ _ _ _)
  | (with_reducible exact LeO.refl _)
  | (with_reducible exact LeO.none _)
  | (with_reducible refine LeO.ite ?_ ?_)
  | (with_reducible refine LeO.bind ?_ (fun _ => ?_))
  | exact ih0 _ _ _ _ _ _ _ _ _ _ _
  | exact LeO.none _
  | refine LeO.ite ?_ ?_
  | refine LeO.bind ?_ (fun _ => ?_)
def tableauref24_spot.T4 : Bool × List (List Nat × List Nat) := (true, [([], []), ([], []), ([1], [1]), ([], []), ([3], [3]), ([0, 2, 4], [0, 2, 4]), ([], []), ([6, 5], [6]), ([5, 7, 7], [5, 7]), ([8, 8, 0, 1, 2, 3, 4, 5, 6, 7, 8], [8])])
def tableauref24_spot.B4 : List Nat := [0, 0, 2, 0, 8, 31, 0, 127, 255, 511]
theorem tableauref24_spot.tab4 : rtab .any (opsOf Try.f72 4) = tableauref24_spot.T4 := by kernel_rfl
theorem tableauref24_spot.bits4 : waitsOk tableauref24_spot.T4.2 tableauref24_spot.B4 = true := by kernel_rfl
set_option maxHeartbeats 8000000 in
set_option maxRecDepth 100000 in
theorem tableauref24_spot.calls (k : Nat) (a0_0 : Int) (a0_1 : Int) (a0_2 : Int) (a0_3 : Int) (a0_4 : Int) (a0_5 : Int) (a1_0 : Int) (a1_1 : Int) (a1_2 : Int) (a1_3 : Int) (r1 : Int) (r2 : Int) (r3 : Int) (r4 : Int) (w : World) (h : tableauref24_spot.f k a0_0 a0_1 a0_2 a0_3 a0_4 a0_5 a1_0 a1_1 a1_2 a1_3 = some (r1, r2, r3, r4)) :
 Calls Try.prog 72 #[.agg #[.int .i64 a0_0, .int .i64 a0_1, .int .i64 a0_2, .int .i64 a0_3, .int .i64 a0_4, .int .i64 a0_5], .agg #[.int .i64 a1_0, .int .i64 a1_1, .int .i64 a1_2, .int .i64 a1_3]] w fun e w' => e = .returned (.agg #[.int .i64 r1, .int .i64 r2, .int .i64 r3, .int .i64 r4]) ∧ Below w.heap.size w w' := by
 have hu54 := Try.underlying54
 have hu26 := Try.underlying26
 have HB := Aside0.mk (Below.refl w.heap.size w)
 have H : ((tableauref07_Bound.f a1_0 a1_1 a1_2 a1_3).bind fun bt304 => ((tableauref24_rect.f a0_0 a0_1 a0_2 a0_3 a0_4 a0_5).bind fun bt309 => ((tableauref07_Check.f bt309.1 bt309.2.1 bt309.2.2.1 bt309.2.2.2).bind fun t313 => (if t313 = true then ((tableauref07_Empty.f bt304.1 bt304.2.1 bt304.2.2.1 bt304.2.2.2).bind fun t314 => (tableauref24_spot.j0 k t314 a0_0 a0_1 a0_2 a0_3 a0_4 a0_5 bt304.1 bt304.2.1 bt304.2.2.1 bt304.2.2.2)) else (tableauref24_spot.j0 k true a0_0 a0_1 a0_2 a0_3 a0_4 a0_5 bt304.1 bt304.2.1 bt304.2.2.1 bt304.2.2.2))))) = some (r1, r2, r3, r4) := h
 clear h
 replace H := Option.bind_eq_some_iff.mp H
 obtain ⟨⟨t304, t305, t306, t307⟩, A30, H⟩ := H
 replace H : ((tableauref24_rect.f a0_0 a0_1 a0_2 a0_3 a0_4 a0_5).bind fun bt309 => ((tableauref07_Check.f bt309.1 bt309.2.1 bt309.2.2.1 bt309.2.2.2).bind fun t313 => (if t313 = true then ((tableauref07_Empty.f t304 t305 t306 t307).bind fun t314 => (tableauref24_spot.j0 k t314 a0_0 a0_1 a0_2 a0_3 a0_4 a0_5 t304 t305 t306 t307)) else (tableauref24_spot.j0 k true a0_0 a0_1 a0_2 a0_3 a0_4 a0_5 t304 t305 t306 t307)))) = some (r1, r2, r3, r4) := H
 have A3 := Aside0.mk A30
 clear A30
 have HC4 := Aside0.mk H
 clear H
 go_enter Try.func72, Try.ntmps72
 go_upto_region 2 with (first | ((with_reducible refine gate_dst (N := 2) rfl ?_); refine box_event ?hg (N := 2) ?hd (cs := #[.int .i64 a0_0, .int .i64 a0_1, .int .i64 a0_2, .int .i64 a0_3, .int .i64 a0_4, .int .i64 a0_5]) (t := 54) ?hr ?_; (case hd => rfl); (case hg => rfl); (case hr => first | (go_simp; done) | (go_simp; rfl)); intro gb301 hg w5 hbox hb; have n0_ := Aside0.mk (pbP (by repeat (first | (with_reducible first | exact HB.out | apply pbA | apply pbN | apply pbD) | exact HB.out)) hb); have n1_ := Aside0.mk (hbox); have n2_ := Aside0.mk ((by rw [hg]; exact (pbZ (by repeat (first | (with_reducible first | exact HB.out | apply pbA | apply pbN | apply pbD) | exact HB.out))) : w.heap.size ≤ gb301)); have n3_ := Aside0.mk ((by rw [hg]; exact (pbZ (by repeat (first | (with_reducible first | exact HB.out | apply pbA | apply pbN | apply pbD) | exact HB.out))) : w.heap.size ≤ gb301)); clear HB; have HB := n0_; have BK301 := n1_; have GW301 := n2_; have GE301 := n3_; clear n0_ n1_ n2_ n3_; clear hb hbox hg) | ((with_reducible refine gate_dst (N := 3) rfl ?_); refine box_event ?hg (N := 3) ?hd (cs := #[.int .i64 a1_0, .int .i64 a1_1, .int .i64 a1_2, .int .i64 a1_3]) (t := 26) ?hr ?_; (case hd => rfl); (case hg => rfl); (case hr => first | (go_simp; done) | (go_simp; rfl)); intro gb302 hg w6 hbox hb; have n0_ := Aside0.mk (bkB (g := gb301) (o := .cells #[.int .i64 a0_0, .int .i64 a0_1, .int .i64 a0_2, .int .i64 a0_3, .int .i64 a0_4, .int .i64 a0_5] 54 (0, 0)) (by (with_reducible repeat (first | refine bkN ?_ _ | refine bkD ?_ | refine bkA ?_ _)); exact BK301.out) hb); have n1_ := Aside0.mk (pbP (by repeat (first | (with_reducible first | exact HB.out | apply pbA | apply pbN | apply pbD | refine pbS ?_ GE301.out) | exact HB.out)) hb); have n2_ := Aside0.mk (hbox); have n3_ := Aside0.mk ((by rw [hg]; exact (pbZ (by repeat (first | (with_reducible first | exact HB.out | apply pbA | apply pbN | apply pbD | refine pbS ?_ GE301.out) | exact HB.out))) : w.heap.size ≤ gb302)); have n4_ := Aside0.mk ((by rw [hg]; exact (pbZ (by repeat (first | (with_reducible first | exact HB.out | apply pbA | apply pbN | apply pbD | refine pbS ?_ GE301.out) | exact HB.out))) : w.heap.size ≤ gb302)); have n5_ := Aside0.mk ((by rw [hg]; exact Nat.ne_of_lt (blk_lt (g := gb301) (o := .cells #[.int .i64 a0_0, .int .i64 a0_1, .int .i64 a0_2, .int .i64 a0_3, .int .i64 a0_4, .int .i64 a0_5] 54 (0, 0)) (by (with_reducible repeat (first | refine bkN ?_ _ | refine bkD ?_ | refine bkA ?_ _)); exact BK301.out)) : gb301 ≠ gb302)); have n6_ := Aside0.mk ((by rw [hg]; exact Nat.ne_of_gt (blk_lt (g := gb301) (o := .cells #[.int .i64 a0_0, .int .i64 a0_1, .int .i64 a0_2, .int .i64 a0_3, .int .i64 a0_4, .int .i64 a0_5] 54 (0, 0)) (by (with_reducible repeat (first | refine bkN ?_ _ | refine bkD ?_ | refine bkA ?_ _)); exact BK301.out)) : gb302 ≠ gb301)); clear BK301; clear HB; have BK301 := n0_; have HB := n1_; have BK302 := n2_; have GW302 := n3_; have GE302 := n4_; have NB301_302 := n5_; have NB302_301 := n6_; clear n0_ n1_ n2_ n3_ n4_ n5_ n6_; clear hb hbox hg) | ((with_reducible refine gate_dst (N := 4) rfl ?_); refine box_event ?hg (N := 4) ?hd (cs := #[.int .i64 0, .int .i64 0, .int .i64 0, .int .i64 0]) (t := 26) ?hr ?_; (case hd => rfl); (case hg => rfl); (case hr => first | (go_simp; done) | (go_simp; rfl)); intro gb303 hg w7 hbox hb; have n0_ := Aside0.mk (bkB (g := gb301) (o := .cells #[.int .i64 a0_0, .int .i64 a0_1, .int .i64 a0_2, .int .i64 a0_3, .int .i64 a0_4, .int .i64 a0_5] 54 (0, 0)) (by (with_reducible repeat (first | refine bkN ?_ _ | refine bkD ?_ | refine bkA ?_ _)); exact BK301.out) hb); have n1_ := Aside0.mk (bkB (g := gb302) (o := .cells #[.int .i64 a1_0, .int .i64 a1_1, .int .i64 a1_2, .int .i64 a1_3] 26 (0, 0)) (by (with_reducible repeat (first | refine bkN ?_ _ | refine bkD ?_ | refine bkA ?_ _)); exact BK302.out) hb); have n2_ := Aside0.mk (pbP (by repeat (first | (with_reducible first | exact HB.out | apply pbA | apply pbN | apply pbD | refine pbS ?_ GE301.out | refine pbS ?_ GE302.out) | exact HB.out)) hb); have n3_ := Aside0.mk (hbox); have n4_ := Aside0.mk ((by rw [hg]; exact (pbZ (by repeat (first | (with_reducible first | exact HB.out | apply pbA | apply pbN | apply pbD | refine pbS ?_ GE301.out | refine pbS ?_ GE302.out) | exact HB.out))) : w.heap.size ≤ gb303)); have n5_ := Aside0.mk ((by rw [hg]; exact (pbZ (by repeat (first | (with_reducible first | exact HB.out | apply pbA | apply pbN | apply pbD | refine pbS ?_ GE301.out | refine pbS ?_ GE302.out) | exact HB.out))) : w.heap.size ≤ gb303)); have n6_ := Aside0.mk ((by rw [hg]; exact Nat.ne_of_lt (blk_lt (g := gb301) (o := .cells #[.int .i64 a0_0, .int .i64 a0_1, .int .i64 a0_2, .int .i64 a0_3, .int .i64 a0_4, .int .i64 a0_5] 54 (0, 0)) (by (with_reducible repeat (first | refine bkN ?_ _ | refine bkD ?_ | refine bkA ?_ _)); exact BK301.out)) : gb301 ≠ gb303)); have n7_ := Aside0.mk ((by rw [hg]; exact Nat.ne_of_gt (blk_lt (g := gb301) (o := .cells #[.int .i64 a0_0, .int .i64 a0_1, .int .i64 a0_2, .int .i64 a0_3, .int .i64 a0_4, .int .i64 a0_5] 54 (0, 0)) (by (with_reducible repeat (first | refine bkN ?_ _ | refine bkD ?_ | refine bkA ?_ _)); exact BK301.out)) : gb303 ≠ gb301)); have n8_ := Aside0.mk ((by rw [hg]; exact Nat.ne_of_lt (blk_lt (g := gb302) (o := .cells #[.int .i64 a1_0, .int .i64 a1_1, .int .i64 a1_2, .int .i64 a1_3] 26 (0, 0)) (by (with_reducible repeat (first | refine bkN ?_ _ | refine bkD ?_ | refine bkA ?_ _)); exact BK302.out)) : gb302 ≠ gb303)); have n9_ := Aside0.mk ((by rw [hg]; exact Nat.ne_of_gt (blk_lt (g := gb302) (o := .cells #[.int .i64 a1_0, .int .i64 a1_1, .int .i64 a1_2, .int .i64 a1_3] 26 (0, 0)) (by (with_reducible repeat (first | refine bkN ?_ _ | refine bkD ?_ | refine bkA ?_ _)); exact BK302.out)) : gb303 ≠ gb302)); clear BK301; clear BK302; clear HB; have BK301 := n0_; have BK302 := n1_; have HB := n2_; have BK303 := n3_; have GW303 := n4_; have GE303 := n5_; have NB301_303 := n6_; have NB303_301 := n7_; have NB302_303 := n8_; have NB303_302 := n9_; clear n0_ n1_ n2_ n3_ n4_ n5_ n6_ n7_ n8_ n9_; clear hb hbox hg; have hnb8 := NB302_301.out; have hnc8 := NB301_302.out; have hnb9 := NB302_303.out; have hnc9 := NB303_302.out; have hcz10_0 : w7.cell? ⟨gb302, 0, none⟩ = some (.int .i64 a1_0) := (bkC BK302.out 0).trans rfl; have hcz10_1 : w7.cell? ⟨gb302, 1, none⟩ = some (.int .i64 a1_1) := (bkC BK302.out 1).trans rfl; have hcz10_2 : w7.cell? ⟨gb302, 2, none⟩ = some (.int .i64 a1_2) := (bkC BK302.out 2).trans rfl; have hcz10_3 : w7.cell? ⟨gb302, 3, none⟩ = some (.int .i64 a1_3) := (bkC BK302.out 3).trans rfl; have hfz10_0 := bkF BK302.out 0; have hfz10_1 := bkF BK302.out 1; have hfz10_2 := bkF BK302.out 2; have hfz10_3 := bkF BK302.out 3) | ((with_reducible refine gate_callee (f := 61) rfl ?_); refine goesL_ (some 7) rfl rfl Try.func61 (by kernel_rfl) rfl #[.agg #[.int .i64 a1_0, .int .i64 a1_1, .int .i64 a1_2, .int .i64 a1_3]] rfl (by (try simp only [List.map_toArray, List.map_cons, List.map_nil]); first | done | rfl | (simp only [List.length_drop, List.length_take]; rfl)) ?_; (with_reducible refine (tableauref07_Bound.calls a1_0 a1_1 a1_2 a1_3 t304 t305 t306 t307 _ A3.out).mono ?_); rintro e w11 ⟨rfl, hb⟩; refine ⟨_, rfl, ?_⟩; have n0_ := Aside0.mk (bkB (g := gb301) (o := .cells #[.int .i64 a0_0, .int .i64 a0_1, .int .i64 a0_2, .int .i64 a0_3, .int .i64 a0_4, .int .i64 a0_5] 54 (0, 0)) (by (with_reducible repeat (first | refine bkN ?_ _ | refine bkD ?_ | refine bkA ?_ _)); exact BK301.out) hb); have n1_ := Aside0.mk (bkB (g := gb302) (o := .cells #[.int .i64 a1_0, .int .i64 a1_1, .int .i64 a1_2, .int .i64 a1_3] 26 (0, 0)) (by (with_reducible repeat (first | refine bkN ?_ _ | refine bkD ?_ | refine bkA ?_ _)); exact BK302.out) hb); have n2_ := Aside0.mk (bkB (g := gb303) (o := .cells #[.int .i64 0, .int .i64 0, .int .i64 0, .int .i64 0] 26 (0, 0)) (by (with_reducible repeat (first | refine bkN ?_ _ | refine bkD ?_ | refine bkA ?_ _)); exact BK303.out) hb); have n3_ := Aside0.mk (pbP (by repeat (first | (with_reducible first | exact HB.out | apply pbA | apply pbN | apply pbD | refine pbS ?_ GE301.out | refine pbS ?_ GE302.out | refine pbS ?_ GE303.out) | exact HB.out)) hb); clear BK301; clear BK302; clear BK303; clear HB; have BK301 := n0_; have BK302 := n1_; have BK303 := n2_; have HB := n3_; clear n0_ n1_ n2_ n3_; (try clear hb); (try clear hb2); (try clear hk); (try clear hi)) | ((with_reducible refine gate_dst (N := 5) rfl ?_); refine box_event ?hg (N := 5) ?hd (cs := #[.int .i64 0, .int .i64 0, .int .i64 0, .int .i64 0]) (t := 26) ?hr ?_; (case hd => rfl); (case hg => rfl); (case hr => first | (go_simp; done) | (go_simp; rfl)); intro gb308 hg w12 hbox hb; have n0_ := Aside0.mk (bkB (g := gb301) (o := .cells #[.int .i64 a0_0, .int .i64 a0_1, .int .i64 a0_2, .int .i64 a0_3, .int .i64 a0_4, .int .i64 a0_5] 54 (0, 0)) (by (with_reducible repeat (first | refine bkN ?_ _ | refine bkD ?_ | refine bkA ?_ _)); exact BK301.out) hb); have n1_ := Aside0.mk (bkB (g := gb302) (o := .cells #[.int .i64 a1_0, .int .i64 a1_1, .int .i64 a1_2, .int .i64 a1_3] 26 (0, 0)) (by (with_reducible repeat (first | refine bkN ?_ _ | refine bkD ?_ | refine bkA ?_ _)); exact BK302.out) hb); have n2_ := Aside0.mk (bkB (g := gb303) (o := .cells #[.int .i64 0, .int .i64 0, .int .i64 0, .int .i64 0] 26 (0, 0)) (by (with_reducible repeat (first | refine bkN ?_ _ | refine bkD ?_ | refine bkA ?_ _)); exact BK303.out) hb); have n3_ := Aside0.mk (pbP (by repeat (first | (with_reducible first | exact HB.out | apply pbA | apply pbN | apply pbD | refine pbS ?_ GE301.out | refine pbS ?_ GE302.out | refine pbS ?_ GE303.out) | exact HB.out)) hb); have n4_ := Aside0.mk (hbox); have n5_ := Aside0.mk ((by rw [hg]; exact (pbZ (by repeat (first | (with_reducible first | exact HB.out | apply pbA | apply pbN | apply pbD | refine pbS ?_ GE301.out | refine pbS ?_ GE302.out | refine pbS ?_ GE303.out) | exact HB.out))) : w.heap.size ≤ gb308)); have n6_ := Aside0.mk ((by rw [hg]; exact (pbZ (by repeat (first | (with_reducible first | exact HB.out | apply pbA | apply pbN | apply pbD | refine pbS ?_ GE301.out | refine pbS ?_ GE302.out | refine pbS ?_ GE303.out) | exact HB.out))) : w.heap.size ≤ gb308)); have n7_ := Aside0.mk ((by rw [hg]; exact Nat.ne_of_lt (blk_lt (g := gb301) (o := .cells #[.int .i64 a0_0, .int .i64 a0_1, .int .i64 a0_2, .int .i64 a0_3, .int .i64 a0_4, .int .i64 a0_5] 54 (0, 0)) (by (with_reducible repeat (first | refine bkN ?_ _ | refine bkD ?_ | refine bkA ?_ _)); exact BK301.out)) : gb301 ≠ gb308)); have n8_ := Aside0.mk ((by rw [hg]; exact Nat.ne_of_gt (blk_lt (g := gb301) (o := .cells #[.int .i64 a0_0, .int .i64 a0_1, .int .i64 a0_2, .int .i64 a0_3, .int .i64 a0_4, .int .i64 a0_5] 54 (0, 0)) (by (with_reducible repeat (first | refine bkN ?_ _ | refine bkD ?_ | refine bkA ?_ _)); exact BK301.out)) : gb308 ≠ gb301)); have n9_ := Aside0.mk ((by rw [hg]; exact Nat.ne_of_lt (blk_lt (g := gb302) (o := .cells #[.int .i64 a1_0, .int .i64 a1_1, .int .i64 a1_2, .int .i64 a1_3] 26 (0, 0)) (by (with_reducible repeat (first | refine bkN ?_ _ | refine bkD ?_ | refine bkA ?_ _)); exact BK302.out)) : gb302 ≠ gb308)); have n10_ := Aside0.mk ((by rw [hg]; exact Nat.ne_of_gt (blk_lt (g := gb302) (o := .cells #[.int .i64 a1_0, .int .i64 a1_1, .int .i64 a1_2, .int .i64 a1_3] 26 (0, 0)) (by (with_reducible repeat (first | refine bkN ?_ _ | refine bkD ?_ | refine bkA ?_ _)); exact BK302.out)) : gb308 ≠ gb302)); have n11_ := Aside0.mk ((by rw [hg]; exact Nat.ne_of_lt (blk_lt (g := gb303) (o := .cells #[.int .i64 0, .int .i64 0, .int .i64 0, .int .i64 0] 26 (0, 0)) (by (with_reducible repeat (first | refine bkN ?_ _ | refine bkD ?_ | refine bkA ?_ _)); exact BK303.out)) : gb303 ≠ gb308)); have n12_ := Aside0.mk ((by rw [hg]; exact Nat.ne_of_gt (blk_lt (g := gb303) (o := .cells #[.int .i64 0, .int .i64 0, .int .i64 0, .int .i64 0] 26 (0, 0)) (by (with_reducible repeat (first | refine bkN ?_ _ | refine bkD ?_ | refine bkA ?_ _)); exact BK303.out)) : gb308 ≠ gb303)); clear BK301; clear BK302; clear BK303; clear HB; have BK301 := n0_; have BK302 := n1_; have BK303 := n2_; have HB := n3_; have BK308 := n4_; have GW308 := n5_; have GE308 := n6_; have NB301_308 := n7_; have NB308_301 := n8_; have NB302_308 := n9_; have NB308_302 := n10_; have NB303_308 := n11_; have NB308_303 := n12_; clear n0_ n1_ n2_ n3_ n4_ n5_ n6_ n7_ n8_ n9_ n10_ n11_ n12_; clear hb hbox hg; have hnb13 := NB308_301.out; have hnc13 := NB301_308.out; have hnb14 := NB308_302.out; have hnc14 := NB302_308.out; have hnb15 := NB308_303.out; have hnc15 := NB303_308.out; have hcz16_0 : w12.cell? ⟨gb308, 0, none⟩ = some (.int .i64 0) := (bkC BK308.out 0).trans rfl; have hcz16_1 : w12.cell? ⟨gb308, 1, none⟩ = some (.int .i64 0) := (bkC BK308.out 1).trans rfl; have hcz16_2 : w12.cell? ⟨gb308, 2, none⟩ = some (.int .i64 0) := (bkC BK308.out 2).trans rfl; have hcz16_3 : w12.cell? ⟨gb308, 3, none⟩ = some (.int .i64 0) := (bkC BK308.out 3).trans rfl; have hfz16_0 := bkF BK308.out 0; have hfz16_1 := bkF BK308.out 1; have hfz16_2 := bkF BK308.out 2; have hfz16_3 := bkF BK308.out 3))
 (try simp only [Act.put, List.setIfInBounds_toArray, List.set_cons_zero, List.set_cons_succ])
 go_cut [15] (fun v15 wc => ∃ (kq : Nat) (x15_3 : Bool), v15 = .bool x15_3 ∧ Aside0 (tableauref24_spot.j0 kq x15_3 a0_0 a0_1 a0_2 a0_3 a0_4 a0_5 t304 t305 t306 t307 = some (r1, r2, r3, r4)) ∧ Aside0 (kq ≤ k) ∧ Aside0 (wc.heap[gb301]? = some (.cells #[.int .i64 a0_0, .int .i64 a0_1, .int .i64 a0_2, .int .i64 a0_3, .int .i64 a0_4, .int .i64 a0_5] 54 (0, 0))) ∧ Aside0 (wc.heap[gb302]? = some (.cells #[.int .i64 a1_0, .int .i64 a1_1, .int .i64 a1_2, .int .i64 a1_3] 26 (0, 0))) ∧ Aside0 (wc.heap[gb303]? = some (.cells #[.int .i64 0, .int .i64 0, .int .i64 0, .int .i64 0] 26 (0, 0))) ∧ Aside0 (wc.heap[gb308]? = some (.cells #[.int .i64 t304, .int .i64 t305, .int .i64 t306, .int .i64 t307] 26 (0, 0))) ∧ Aside0 (Below w.heap.size w wc))
 case first =>
  have H := HC4.out
  clear HC4
  replace H := Option.bind_eq_some_iff.mp H
  obtain ⟨⟨t309, t310, t311, t312⟩, A170, H⟩ := H
  replace H : ((tableauref07_Check.f t309 t310 t311 t312).bind fun t313 => (if t313 = true then ((tableauref07_Empty.f t304 t305 t306 t307).bind fun t314 => (tableauref24_spot.j0 k t314 a0_0 a0_1 a0_2 a0_3 a0_4 a0_5 t304 t305 t306 t307)) else (tableauref24_spot.j0 k true a0_0 a0_1 a0_2 a0_3 a0_4 a0_5 t304 t305 t306 t307))) = some (r1, r2, r3, r4) := H
  have A17 := Aside0.mk A170
  clear A170
  replace H := Option.bind_eq_some_iff.mp H
  obtain ⟨t313, A180, H⟩ := H
  replace H : (if t313 = true then ((tableauref07_Empty.f t304 t305 t306 t307).bind fun t314 => (tableauref24_spot.j0 k t314 a0_0 a0_1 a0_2 a0_3 a0_4 a0_5 t304 t305 t306 t307)) else (tableauref24_spot.j0 k true a0_0 a0_1 a0_2 a0_3 a0_4 a0_5 t304 t305 t306 t307)) = some (r1, r2, r3, r4) := H
  have A18 := Aside0.mk A180
  clear A180
  by_cases c19 : t313 = true
  · subst c19
    have H1 : ((tableauref07_Empty.f t304 t305 t306 t307).bind fun t314 => (tableauref24_spot.j0 k t314 a0_0 a0_1 a0_2 a0_3 a0_4 a0_5 t304 t305 t306 t307)) = some (r1, r2, r3, r4) := by rw [if_pos rfl] at H; exact H
    clear H
    have H := H1
    clear H1
    replace H := Option.bind_eq_some_iff.mp H
    obtain ⟨t314, A200, H⟩ := H
    replace H : (tableauref24_spot.j0 k t314 a0_0 a0_1 a0_2 a0_3 a0_4 a0_5 t304 t305 t306 t307) = some (r1, r2, r3, r4) := H
    have A20 := Aside0.mk A200
    clear A200
    have H' := Aside0.mk H
    clear H
    have hnb21 := NB301_302.out
    have hnc21 := NB302_301.out
    have hnb22 := NB301_303.out
    have hnc22 := NB303_301.out
    have hnb23 := NB301_308.out
    have hnc23 := NB308_301.out
    have hcz24_0 : w12.cell? ⟨gb301, 0, none⟩ = some (.int .i64 a0_0) := (bkC BK301.out 0).trans rfl
    have hcz24_1 : w12.cell? ⟨gb301, 1, none⟩ = some (.int .i64 a0_1) := (bkC BK301.out 1).trans rfl
    have hcz24_2 : w12.cell? ⟨gb301, 2, none⟩ = some (.int .i64 a0_2) := (bkC BK301.out 2).trans rfl
    have hcz24_3 : w12.cell? ⟨gb301, 3, none⟩ = some (.int .i64 a0_3) := (bkC BK301.out 3).trans rfl
    have hcz24_4 : w12.cell? ⟨gb301, 4, none⟩ = some (.int .i64 a0_4) := (bkC BK301.out 4).trans rfl
    have hcz24_5 : w12.cell? ⟨gb301, 5, none⟩ = some (.int .i64 a0_5) := (bkC BK301.out 5).trans rfl
    have hfz24_0 := bkF BK301.out 0
    have hfz24_1 := bkF BK301.out 1
    have hfz24_2 := bkF BK301.out 2
    have hfz24_3 := bkF BK301.out 3
    have hfz24_4 := bkF BK301.out 4
    have hfz24_5 := bkF BK301.out 5
    go_wp2_with (first | ((with_reducible refine gate_callee (f := 73) rfl ?_); refine goesL_ (some 9) rfl rfl Try.func73 (by kernel_rfl) rfl #[.agg #[.int .i64 a0_0, .int .i64 a0_1, .int .i64 a0_2, .int .i64 a0_3, .int .i64 a0_4, .int .i64 a0_5]] rfl (by (try simp only [List.map_toArray, List.map_cons, List.map_nil]); first | done | rfl | (simp only [List.length_drop, List.length_take]; rfl)) ?_; (with_reducible refine (tableauref24_rect.calls a0_0 a0_1 a0_2 a0_3 a0_4 a0_5 t309 t310 t311 t312 _ A17.out).mono ?_); rintro e w25 ⟨rfl, hb⟩; refine ⟨_, rfl, ?_⟩; have n0_ := Aside0.mk (bkB (g := gb301) (o := .cells #[.int .i64 a0_0, .int .i64 a0_1, .int .i64 a0_2, .int .i64 a0_3, .int .i64 a0_4, .int .i64 a0_5] 54 (0, 0)) (by (with_reducible repeat (first | refine bkN ?_ _ | refine bkD ?_ | refine bkA ?_ _)); refine blk_far ?_ NB301_308.out _; (with_reducible repeat (first | refine bkN ?_ _ | refine bkD ?_ | refine bkA ?_ _)); refine blk_far ?_ NB301_308.out _; (with_reducible repeat (first | refine bkN ?_ _ | refine bkD ?_ | refine bkA ?_ _)); refine blk_far ?_ NB301_308.out _; (with_reducible repeat (first | refine bkN ?_ _ | refine bkD ?_ | refine bkA ?_ _)); refine blk_far ?_ NB301_308.out _; (with_reducible repeat (first | refine bkN ?_ _ | refine bkD ?_ | refine bkA ?_ _)); exact BK301.out) hb); have n1_ := Aside0.mk (bkB (g := gb302) (o := .cells #[.int .i64 a1_0, .int .i64 a1_1, .int .i64 a1_2, .int .i64 a1_3] 26 (0, 0)) (by (with_reducible repeat (first | refine bkN ?_ _ | refine bkD ?_ | refine bkA ?_ _)); refine blk_far ?_ NB302_308.out _; (with_reducible repeat (first | refine bkN ?_ _ | refine bkD ?_ | refine bkA ?_ _)); refine blk_far ?_ NB302_308.out _; (with_reducible repeat (first | refine bkN ?_ _ | refine bkD ?_ | refine bkA ?_ _)); refine blk_far ?_ NB302_308.out _; (with_reducible repeat (first | refine bkN ?_ _ | refine bkD ?_ | refine bkA ?_ _)); refine blk_far ?_ NB302_308.out _; (with_reducible repeat (first | refine bkN ?_ _ | refine bkD ?_ | refine bkA ?_ _)); exact BK302.out) hb); have n2_ := Aside0.mk (bkB (g := gb303) (o := .cells #[.int .i64 0, .int .i64 0, .int .i64 0, .int .i64 0] 26 (0, 0)) (by (with_reducible repeat (first | refine bkN ?_ _ | refine bkD ?_ | refine bkA ?_ _)); refine blk_far ?_ NB303_308.out _; (with_reducible repeat (first | refine bkN ?_ _ | refine bkD ?_ | refine bkA ?_ _)); refine blk_far ?_ NB303_308.out _; (with_reducible repeat (first | refine bkN ?_ _ | refine bkD ?_ | refine bkA ?_ _)); refine blk_far ?_ NB303_308.out _; (with_reducible repeat (first | refine bkN ?_ _ | refine bkD ?_ | refine bkA ?_ _)); refine blk_far ?_ NB303_308.out _; (with_reducible repeat (first | refine bkN ?_ _ | refine bkD ?_ | refine bkA ?_ _)); exact BK303.out) hb); have n3_ := Aside0.mk (bkB (g := gb308) (o := .cells #[.int .i64 t304, .int .i64 t305, .int .i64 t306, .int .i64 t307] 26 (0, 0)) (by (with_reducible repeat (first | refine bkN ?_ _ | refine bkD ?_ | refine bkA ?_ _)); refine blk_put (cs := #[.int .i64 t304, .int .i64 t305, .int .i64 t306, .int .i64 0]) ?_ 3 _ rfl; (with_reducible repeat (first | refine bkN ?_ _ | refine bkD ?_ | refine bkA ?_ _)); refine blk_put (cs := #[.int .i64 t304, .int .i64 t305, .int .i64 0, .int .i64 0]) ?_ 2 _ rfl; (with_reducible repeat (first | refine bkN ?_ _ | refine bkD ?_ | refine bkA ?_ _)); refine blk_put (cs := #[.int .i64 t304, .int .i64 0, .int .i64 0, .int .i64 0]) ?_ 1 _ rfl; (with_reducible repeat (first | refine bkN ?_ _ | refine bkD ?_ | refine bkA ?_ _)); refine blk_put (cs := #[.int .i64 0, .int .i64 0, .int .i64 0, .int .i64 0]) ?_ 0 _ rfl; (with_reducible repeat (first | refine bkN ?_ _ | refine bkD ?_ | refine bkA ?_ _)); exact BK308.out) hb); have n4_ := Aside0.mk (pbP (by repeat (first | (with_reducible first | exact HB.out | apply pbA | apply pbN | apply pbD | refine pbS ?_ GE301.out | refine pbS ?_ GE302.out | refine pbS ?_ GE303.out | refine pbS ?_ GE308.out) | exact HB.out)) hb); clear BK301; clear BK302; clear BK303; clear BK308; clear HB; have BK301 := n0_; have BK302 := n1_; have BK303 := n2_; have BK308 := n3_; have HB := n4_; clear n0_ n1_ n2_ n3_ n4_; (try clear hb); (try clear hb2); (try clear hk); (try clear hi)) | ((with_reducible refine gate_callee (f := 56) rfl ?_); refine goesL_ (some 10) rfl rfl Try.func56 (by kernel_rfl) rfl #[.agg #[.int .i64 t309, .int .i64 t310, .int .i64 t311, .int .i64 t312]] rfl (by (try simp only [List.map_toArray, List.map_cons, List.map_nil]); first | done | rfl | (simp only [List.length_drop, List.length_take]; rfl)) ?_; (with_reducible refine (tableauref07_Check.calls t309 t310 t311 t312 true _ A18.out).mono ?_); rintro e w26 ⟨rfl, hb⟩; refine ⟨_, rfl, ?_⟩; have n0_ := Aside0.mk (bkB (g := gb301) (o := .cells #[.int .i64 a0_0, .int .i64 a0_1, .int .i64 a0_2, .int .i64 a0_3, .int .i64 a0_4, .int .i64 a0_5] 54 (0, 0)) (by (with_reducible repeat (first | refine bkN ?_ _ | refine bkD ?_ | refine bkA ?_ _)); exact BK301.out) hb); have n1_ := Aside0.mk (bkB (g := gb302) (o := .cells #[.int .i64 a1_0, .int .i64 a1_1, .int .i64 a1_2, .int .i64 a1_3] 26 (0, 0)) (by (with_reducible repeat (first | refine bkN ?_ _ | refine bkD ?_ | refine bkA ?_ _)); exact BK302.out) hb); have n2_ := Aside0.mk (bkB (g := gb303) (o := .cells #[.int .i64 0, .int .i64 0, .int .i64 0, .int .i64 0] 26 (0, 0)) (by (with_reducible repeat (first | refine bkN ?_ _ | refine bkD ?_ | refine bkA ?_ _)); exact BK303.out) hb); have n3_ := Aside0.mk (bkB (g := gb308) (o := .cells #[.int .i64 t304, .int .i64 t305, .int .i64 t306, .int .i64 t307] 26 (0, 0)) (by (with_reducible repeat (first | refine bkN ?_ _ | refine bkD ?_ | refine bkA ?_ _)); exact BK308.out) hb); have n4_ := Aside0.mk (pbP (by repeat (first | (with_reducible first | exact HB.out | apply pbA | apply pbN | apply pbD | refine pbS ?_ GE301.out | refine pbS ?_ GE302.out | refine pbS ?_ GE303.out | refine pbS ?_ GE308.out) | exact HB.out)) hb); clear BK301; clear BK302; clear BK303; clear BK308; clear HB; have BK301 := n0_; have BK302 := n1_; have BK303 := n2_; have BK308 := n3_; have HB := n4_; clear n0_ n1_ n2_ n3_ n4_; (try clear hb); (try clear hb2); (try clear hk); (try clear hi); have hnb27 := NB308_302.out; have hnc27 := NB302_308.out; have hnb28 := NB308_303.out; have hnc28 := NB303_308.out; have hcz29_0 : w26.cell? ⟨gb308, 0, none⟩ = some (.int .i64 t304) := (bkC BK308.out 0).trans rfl; have hcz29_1 : w26.cell? ⟨gb308, 1, none⟩ = some (.int .i64 t305) := (bkC BK308.out 1).trans rfl; have hcz29_2 : w26.cell? ⟨gb308, 2, none⟩ = some (.int .i64 t306) := (bkC BK308.out 2).trans rfl; have hcz29_3 : w26.cell? ⟨gb308, 3, none⟩ = some (.int .i64 t307) := (bkC BK308.out 3).trans rfl; have hfz29_0 := bkF BK308.out 0; have hfz29_1 := bkF BK308.out 1; have hfz29_2 := bkF BK308.out 2; have hfz29_3 := bkF BK308.out 3) | (go_at_call 62; (with_reducible refine (tableauref07_Empty.calls t304 t305 t306 t307 t314 _ A20.out).mono ?_); rintro e w30 ⟨rfl, hb⟩; have n0_ := Aside0.mk (bkB (g := gb301) (o := .cells #[.int .i64 a0_0, .int .i64 a0_1, .int .i64 a0_2, .int .i64 a0_3, .int .i64 a0_4, .int .i64 a0_5] 54 (0, 0)) (by (with_reducible repeat (first | refine bkN ?_ _ | refine bkD ?_ | refine bkA ?_ _)); exact BK301.out) hb); have n1_ := Aside0.mk (bkB (g := gb302) (o := .cells #[.int .i64 a1_0, .int .i64 a1_1, .int .i64 a1_2, .int .i64 a1_3] 26 (0, 0)) (by (with_reducible repeat (first | refine bkN ?_ _ | refine bkD ?_ | refine bkA ?_ _)); exact BK302.out) hb); have n2_ := Aside0.mk (bkB (g := gb303) (o := .cells #[.int .i64 0, .int .i64 0, .int .i64 0, .int .i64 0] 26 (0, 0)) (by (with_reducible repeat (first | refine bkN ?_ _ | refine bkD ?_ | refine bkA ?_ _)); exact BK303.out) hb); have n3_ := Aside0.mk (bkB (g := gb308) (o := .cells #[.int .i64 t304, .int .i64 t305, .int .i64 t306, .int .i64 t307] 26 (0, 0)) (by (with_reducible repeat (first | refine bkN ?_ _ | refine bkD ?_ | refine bkA ?_ _)); exact BK308.out) hb); have n4_ := Aside0.mk (pbP (by repeat (first | (with_reducible first | exact HB.out | apply pbA | apply pbN | apply pbD | refine pbS ?_ GE301.out | refine pbS ?_ GE302.out | refine pbS ?_ GE303.out | refine pbS ?_ GE308.out) | exact HB.out)) hb); clear BK301; clear BK302; clear BK303; clear BK308; clear HB; have BK301 := n0_; have BK302 := n1_; have BK303 := n2_; have BK308 := n3_; have HB := n4_; clear n0_ n1_ n2_ n3_ n4_; (try clear hb); (try clear hb2); (try clear hk); (try clear hi)))
    go_meet
    case rel => exact ⟨_, (t314), (by first | rfl | (simp; done) | (simp [*]; done)), H', ⟨by first | omega | exact Nat.le_refl _⟩, ⟨by (with_reducible repeat (first | refine bkN ?_ _ | refine bkD ?_ | refine bkA ?_ _)); exact BK301.out⟩, ⟨by (with_reducible repeat (first | refine bkN ?_ _ | refine bkD ?_ | refine bkA ?_ _)); exact BK302.out⟩, ⟨by (with_reducible repeat (first | refine bkN ?_ _ | refine bkD ?_ | refine bkA ?_ _)); exact BK303.out⟩, ⟨by (with_reducible repeat (first | refine bkN ?_ _ | refine bkD ?_ | refine bkA ?_ _)); exact BK308.out⟩, ⟨by repeat (first | (with_reducible first | exact HB.out | apply pbA | apply pbN | apply pbD | refine pbS ?_ GE301.out | refine pbS ?_ GE302.out | refine pbS ?_ GE303.out | refine pbS ?_ GE308.out) | exact HB.out)⟩⟩
  · replace c19 := Bool.eq_false_iff.mpr c19
    subst c19
    have H1 : (tableauref24_spot.j0 k true a0_0 a0_1 a0_2 a0_3 a0_4 a0_5 t304 t305 t306 t307) = some (r1, r2, r3, r4) := by rw [if_neg (show ¬ (false = true) by decide)] at H; exact H
    clear H
    have H := H1
    clear H1
    have H' := Aside0.mk H
    clear H
    have hnb31 := NB301_302.out
    have hnc31 := NB302_301.out
    have hnb32 := NB301_303.out
    have hnc32 := NB303_301.out
    have hnb33 := NB301_308.out
    have hnc33 := NB308_301.out
    have hcz34_0 : w12.cell? ⟨gb301, 0, none⟩ = some (.int .i64 a0_0) := (bkC BK301.out 0).trans rfl
    have hcz34_1 : w12.cell? ⟨gb301, 1, none⟩ = some (.int .i64 a0_1) := (bkC BK301.out 1).trans rfl
    have hcz34_2 : w12.cell? ⟨gb301, 2, none⟩ = some (.int .i64 a0_2) := (bkC BK301.out 2).trans rfl
    have hcz34_3 : w12.cell? ⟨gb301, 3, none⟩ = some (.int .i64 a0_3) := (bkC BK301.out 3).trans rfl
    have hcz34_4 : w12.cell? ⟨gb301, 4, none⟩ = some (.int .i64 a0_4) := (bkC BK301.out 4).trans rfl
    have hcz34_5 : w12.cell? ⟨gb301, 5, none⟩ = some (.int .i64 a0_5) := (bkC BK301.out 5).trans rfl
    have hfz34_0 := bkF BK301.out 0
    have hfz34_1 := bkF BK301.out 1
    have hfz34_2 := bkF BK301.out 2
    have hfz34_3 := bkF BK301.out 3
    have hfz34_4 := bkF BK301.out 4
    have hfz34_5 := bkF BK301.out 5
    go_wp2_with (first | ((with_reducible refine gate_callee (f := 73) rfl ?_); refine goesL_ (some 9) rfl rfl Try.func73 (by kernel_rfl) rfl #[.agg #[.int .i64 a0_0, .int .i64 a0_1, .int .i64 a0_2, .int .i64 a0_3, .int .i64 a0_4, .int .i64 a0_5]] rfl (by (try simp only [List.map_toArray, List.map_cons, List.map_nil]); first | done | rfl | (simp only [List.length_drop, List.length_take]; rfl)) ?_; (with_reducible refine (tableauref24_rect.calls a0_0 a0_1 a0_2 a0_3 a0_4 a0_5 t309 t310 t311 t312 _ A17.out).mono ?_); rintro e w35 ⟨rfl, hb⟩; refine ⟨_, rfl, ?_⟩; have n0_ := Aside0.mk (bkB (g := gb301) (o := .cells #[.int .i64 a0_0, .int .i64 a0_1, .int .i64 a0_2, .int .i64 a0_3, .int .i64 a0_4, .int .i64 a0_5] 54 (0, 0)) (by (with_reducible repeat (first | refine bkN ?_ _ | refine bkD ?_ | refine bkA ?_ _)); refine blk_far ?_ NB301_308.out _; (with_reducible repeat (first | refine bkN ?_ _ | refine bkD ?_ | refine bkA ?_ _)); refine blk_far ?_ NB301_308.out _; (with_reducible repeat (first | refine bkN ?_ _ | refine bkD ?_ | refine bkA ?_ _)); refine blk_far ?_ NB301_308.out _; (with_reducible repeat (first | refine bkN ?_ _ | refine bkD ?_ | refine bkA ?_ _)); refine blk_far ?_ NB301_308.out _; (with_reducible repeat (first | refine bkN ?_ _ | refine bkD ?_ | refine bkA ?_ _)); exact BK301.out) hb); have n1_ := Aside0.mk (bkB (g := gb302) (o := .cells #[.int .i64 a1_0, .int .i64 a1_1, .int .i64 a1_2, .int .i64 a1_3] 26 (0, 0)) (by (with_reducible repeat (first | refine bkN ?_ _ | refine bkD ?_ | refine bkA ?_ _)); refine blk_far ?_ NB302_308.out _; (with_reducible repeat (first | refine bkN ?_ _ | refine bkD ?_ | refine bkA ?_ _)); refine blk_far ?_ NB302_308.out _; (with_reducible repeat (first | refine bkN ?_ _ | refine bkD ?_ | refine bkA ?_ _)); refine blk_far ?_ NB302_308.out _; (with_reducible repeat (first | refine bkN ?_ _ | refine bkD ?_ | refine bkA ?_ _)); refine blk_far ?_ NB302_308.out _; (with_reducible repeat (first | refine bkN ?_ _ | refine bkD ?_ | refine bkA ?_ _)); exact BK302.out) hb); have n2_ := Aside0.mk (bkB (g := gb303) (o := .cells #[.int .i64 0, .int .i64 0, .int .i64 0, .int .i64 0] 26 (0, 0)) (by (with_reducible repeat (first | refine bkN ?_ _ | refine bkD ?_ | refine bkA ?_ _)); refine blk_far ?_ NB303_308.out _; (with_reducible repeat (first | refine bkN ?_ _ | refine bkD ?_ | refine bkA ?_ _)); refine blk_far ?_ NB303_308.out _; (with_reducible repeat (first | refine bkN ?_ _ | refine bkD ?_ | refine bkA ?_ _)); refine blk_far ?_ NB303_308.out _; (with_reducible repeat (first | refine bkN ?_ _ | refine bkD ?_ | refine bkA ?_ _)); refine blk_far ?_ NB303_308.out _; (with_reducible repeat (first | refine bkN ?_ _ | refine bkD ?_ | refine bkA ?_ _)); exact BK303.out) hb); have n3_ := Aside0.mk (bkB (g := gb308) (o := .cells #[.int .i64 t304, .int .i64 t305, .int .i64 t306, .int .i64 t307] 26 (0, 0)) (by (with_reducible repeat (first | refine bkN ?_ _ | refine bkD ?_ | refine bkA ?_ _)); refine blk_put (cs := #[.int .i64 t304, .int .i64 t305, .int .i64 t306, .int .i64 0]) ?_ 3 _ rfl; (with_reducible repeat (first | refine bkN ?_ _ | refine bkD ?_ | refine bkA ?_ _)); refine blk_put (cs := #[.int .i64 t304, .int .i64 t305, .int .i64 0, .int .i64 0]) ?_ 2 _ rfl; (with_reducible repeat (first | refine bkN ?_ _ | refine bkD ?_ | refine bkA ?_ _)); refine blk_put (cs := #[.int .i64 t304, .int .i64 0, .int .i64 0, .int .i64 0]) ?_ 1 _ rfl; (with_reducible repeat (first | refine bkN ?_ _ | refine bkD ?_ | refine bkA ?_ _)); refine blk_put (cs := #[.int .i64 0, .int .i64 0, .int .i64 0, .int .i64 0]) ?_ 0 _ rfl; (with_reducible repeat (first | refine bkN ?_ _ | refine bkD ?_ | refine bkA ?_ _)); exact BK308.out) hb); have n4_ := Aside0.mk (pbP (by repeat (first | (with_reducible first | exact HB.out | apply pbA | apply pbN | apply pbD | refine pbS ?_ GE301.out | refine pbS ?_ GE302.out | refine pbS ?_ GE303.out | refine pbS ?_ GE308.out) | exact HB.out)) hb); clear BK301; clear BK302; clear BK303; clear BK308; clear HB; have BK301 := n0_; have BK302 := n1_; have BK303 := n2_; have BK308 := n3_; have HB := n4_; clear n0_ n1_ n2_ n3_ n4_; (try clear hb); (try clear hb2); (try clear hk); (try clear hi)) | ((with_reducible refine gate_callee (f := 56) rfl ?_); refine goesL_ (some 10) rfl rfl Try.func56 (by kernel_rfl) rfl #[.agg #[.int .i64 t309, .int .i64 t310, .int .i64 t311, .int .i64 t312]] rfl (by (try simp only [List.map_toArray, List.map_cons, List.map_nil]); first | done | rfl | (simp only [List.length_drop, List.length_take]; rfl)) ?_; (with_reducible refine (tableauref07_Check.calls t309 t310 t311 t312 false _ A18.out).mono ?_); rintro e w36 ⟨rfl, hb⟩; refine ⟨_, rfl, ?_⟩; have n0_ := Aside0.mk (bkB (g := gb301) (o := .cells #[.int .i64 a0_0, .int .i64 a0_1, .int .i64 a0_2, .int .i64 a0_3, .int .i64 a0_4, .int .i64 a0_5] 54 (0, 0)) (by (with_reducible repeat (first | refine bkN ?_ _ | refine bkD ?_ | refine bkA ?_ _)); exact BK301.out) hb); have n1_ := Aside0.mk (bkB (g := gb302) (o := .cells #[.int .i64 a1_0, .int .i64 a1_1, .int .i64 a1_2, .int .i64 a1_3] 26 (0, 0)) (by (with_reducible repeat (first | refine bkN ?_ _ | refine bkD ?_ | refine bkA ?_ _)); exact BK302.out) hb); have n2_ := Aside0.mk (bkB (g := gb303) (o := .cells #[.int .i64 0, .int .i64 0, .int .i64 0, .int .i64 0] 26 (0, 0)) (by (with_reducible repeat (first | refine bkN ?_ _ | refine bkD ?_ | refine bkA ?_ _)); exact BK303.out) hb); have n3_ := Aside0.mk (bkB (g := gb308) (o := .cells #[.int .i64 t304, .int .i64 t305, .int .i64 t306, .int .i64 t307] 26 (0, 0)) (by (with_reducible repeat (first | refine bkN ?_ _ | refine bkD ?_ | refine bkA ?_ _)); exact BK308.out) hb); have n4_ := Aside0.mk (pbP (by repeat (first | (with_reducible first | exact HB.out | apply pbA | apply pbN | apply pbD | refine pbS ?_ GE301.out | refine pbS ?_ GE302.out | refine pbS ?_ GE303.out | refine pbS ?_ GE308.out) | exact HB.out)) hb); clear BK301; clear BK302; clear BK303; clear BK308; clear HB; have BK301 := n0_; have BK302 := n1_; have BK303 := n2_; have BK308 := n3_; have HB := n4_; clear n0_ n1_ n2_ n3_ n4_; (try clear hb); (try clear hb2); (try clear hk); (try clear hi)))
    go_meet
    case rel => exact ⟨_, (true), (by first | rfl | (simp; done) | (simp [*]; done)), H', ⟨by first | omega | exact Nat.le_refl _⟩, ⟨by (with_reducible repeat (first | refine bkN ?_ _ | refine bkD ?_ | refine bkA ?_ _)); exact BK301.out⟩, ⟨by (with_reducible repeat (first | refine bkN ?_ _ | refine bkD ?_ | refine bkA ?_ _)); exact BK302.out⟩, ⟨by (with_reducible repeat (first | refine bkN ?_ _ | refine bkD ?_ | refine bkA ?_ _)); exact BK303.out⟩, ⟨by (with_reducible repeat (first | refine bkN ?_ _ | refine bkD ?_ | refine bkA ?_ _)); exact BK308.out⟩, ⟨by repeat (first | (with_reducible first | exact HB.out | apply pbA | apply pbN | apply pbD | refine pbS ?_ GE301.out | refine pbS ?_ GE302.out | refine pbS ?_ GE303.out | refine pbS ?_ GE308.out) | exact HB.out)⟩⟩
 case rest =>
  clear HC4
  try clear c1
  try clear c2
  try clear p2
  try clear c3
  try clear c5
  try clear c6
  try clear c7
  try clear c8
  try clear c9
  try clear c13
  try clear c14
  try clear c15
  try clear c19
  try clear c21
  try clear c22
  try clear c23
  try clear c27
  try clear c28
  try clear c31
  try clear c32
  try clear c33
  try clear hcz10_0
  try clear hcz10_1
  try clear hcz10_2
  try clear hcz10_3
  try clear hcz16_0
  try clear hcz16_1
  try clear hcz16_2
  try clear hcz16_3
  try clear hcz24_0
  try clear hcz24_1
  try clear hcz24_2
  try clear hcz24_3
  try clear hcz24_4
  try clear hcz24_5
  try clear hcz29_0
  try clear hcz29_1
  try clear hcz29_2
  try clear hcz29_3
  try clear hcz34_0
  try clear hcz34_1
  try clear hcz34_2
  try clear hcz34_3
  try clear hcz34_4
  try clear hcz34_5
  try clear hfz10_0
  try clear hfz10_1
  try clear hfz10_2
  try clear hfz10_3
  try clear hfz16_0
  try clear hfz16_1
  try clear hfz16_2
  try clear hfz16_3
  try clear hfz24_0
  try clear hfz24_1
  try clear hfz24_2
  try clear hfz24_3
  try clear hfz24_4
  try clear hfz24_5
  try clear hfz29_0
  try clear hfz29_1
  try clear hfz29_2
  try clear hfz29_3
  try clear hfz34_0
  try clear hfz34_1
  try clear hfz34_2
  try clear hfz34_3
  try clear hfz34_4
  try clear hfz34_5
  obtain ⟨kq, x15_3, rfl, HA, HJ3, BK301, BK302, BK303, BK308, HB⟩ := hcut
  cases kq with
  | zero => exact absurd HA.out (by simp [tableauref24_spot.j0])
  | succ kj3 =>
   have H := HA.out
   clear HA
   simp only [tableauref24_spot.j0] at H
   by_cases c37 : x15_3 = true
   · subst c37
     have H1 : (some (0, 0, 0, 0)) = some (r1, r2, r3, r4) := by rw [if_pos rfl] at H; exact H
     clear H
     have H := H1
     clear H1
     simp only [Option.some.injEq, Prod.mk.injEq] at H
     obtain ⟨rfl, rfl, rfl, rfl⟩ := H
     have hnb38 := NB303_301.out
     have hnc38 := NB301_303.out
     have hnb39 := NB303_302.out
     have hnc39 := NB302_303.out
     have hnb40 := NB303_308.out
     have hnc40 := NB308_303.out
     have hcz41_0 : wc.cell? ⟨gb303, 0, none⟩ = some (.int .i64 0) := (bkC BK303.out 0).trans rfl
     have hcz41_1 : wc.cell? ⟨gb303, 1, none⟩ = some (.int .i64 0) := (bkC BK303.out 1).trans rfl
     have hcz41_2 : wc.cell? ⟨gb303, 2, none⟩ = some (.int .i64 0) := (bkC BK303.out 2).trans rfl
     have hcz41_3 : wc.cell? ⟨gb303, 3, none⟩ = some (.int .i64 0) := (bkC BK303.out 3).trans rfl
     have hfz41_0 := bkF BK303.out 0
     have hfz41_1 := bkF BK303.out 1
     have hfz41_2 := bkF BK303.out 2
     have hfz41_3 := bkF BK303.out 3
     go_wp2
     refine bodyPost_ret (results_cell_row rfl _ _ gb303 26 #[.int .i64 0, .int .i64 0, .int .i64 0, .int .i64 0] (0, 0) _ rfl (by (with_reducible repeat (first | refine bkN ?_ _ | refine bkD ?_ | refine bkA ?_ _)); refine blk_put (cs := #[.int .i64 0, .int .i64 0, .int .i64 0, .int .i64 0]) ?_ 3 _ rfl; (with_reducible repeat (first | refine bkN ?_ _ | refine bkD ?_ | refine bkA ?_ _)); refine blk_put (cs := #[.int .i64 0, .int .i64 0, .int .i64 0, .int .i64 0]) ?_ 2 _ rfl; (with_reducible repeat (first | refine bkN ?_ _ | refine bkD ?_ | refine bkA ?_ _)); refine blk_put (cs := #[.int .i64 0, .int .i64 0, .int .i64 0, .int .i64 0]) ?_ 1 _ rfl; (with_reducible repeat (first | refine bkN ?_ _ | refine bkD ?_ | refine bkA ?_ _)); refine blk_put (cs := #[.int .i64 0, .int .i64 0, .int .i64 0, .int .i64 0]) ?_ 0 _ rfl; (with_reducible repeat (first | refine bkN ?_ _ | refine bkD ?_ | refine bkA ?_ _)); exact BK303.out) Try.underlying26 rfl (by kernel_rfl)) rfl ?_
     exact ⟨by first | rfl | (simp [errW_none, errW_some] <;> rfl) | (simp [*, errW_none, errW_some] <;> rfl), by repeat (first | (with_reducible first | exact HB.out | apply pbA | apply pbN | apply pbD | refine pbS ?_ GE301.out | refine pbS ?_ GE302.out | refine pbS ?_ GE303.out | refine pbS ?_ GE308.out) | exact HB.out)⟩
   · replace c37 := Bool.eq_false_iff.mpr c37
     subst c37
     have H1 : ((tableauref07_Shift.f t304 t305 t306 t307 a0_2 a0_3).bind fun bt315 => ((tableauref24_rect.f a0_0 a0_1 a0_2 a0_3 a0_4 a0_5).bind fun bt319 => ((tableauref07_Cut.f bt315.1 bt315.2.1 bt315.2.2.1 bt315.2.2.2 bt319.1 bt319.2.1 bt319.2.2.1 bt319.2.2.2).bind fun bt323 => (some (bt323.1, bt323.2.1, bt323.2.2.1, bt323.2.2.2))))) = some (r1, r2, r3, r4) := by rw [if_neg (show ¬ (false = true) by decide)] at H; exact H
     clear H
     have H := H1
     clear H1
     replace H := Option.bind_eq_some_iff.mp H
     obtain ⟨⟨t315, t316, t317, t318⟩, A420, H⟩ := H
     replace H : ((tableauref24_rect.f a0_0 a0_1 a0_2 a0_3 a0_4 a0_5).bind fun bt319 => ((tableauref07_Cut.f t315 t316 t317 t318 bt319.1 bt319.2.1 bt319.2.2.1 bt319.2.2.2).bind fun bt323 => (some (bt323.1, bt323.2.1, bt323.2.2.1, bt323.2.2.2)))) = some (r1, r2, r3, r4) := H
     have A42 := Aside0.mk A420
     clear A420
     replace H := Option.bind_eq_some_iff.mp H
     obtain ⟨⟨t319, t320, t321, t322⟩, A430, H⟩ := H
     replace H : ((tableauref07_Cut.f t315 t316 t317 t318 t319 t320 t321 t322).bind fun bt323 => (some (bt323.1, bt323.2.1, bt323.2.2.1, bt323.2.2.2))) = some (r1, r2, r3, r4) := H
     have A43 := Aside0.mk A430
     clear A430
     replace H := Option.bind_eq_some_iff.mp H
     obtain ⟨⟨t323, t324, t325, t326⟩, A440, H⟩ := H
     replace H : (some (t323, t324, t325, t326)) = some (r1, r2, r3, r4) := H
     have A44 := Aside0.mk A440
     clear A440
     simp only [Option.some.injEq, Prod.mk.injEq] at H
     obtain ⟨rfl, rfl, rfl, rfl⟩ := H
     try go_wp2
     have n0_ := Aside0.mk (bkD BK301.out)
     have n1_ := Aside0.mk (bkD BK302.out)
     have n2_ := Aside0.mk (bkD BK303.out)
     have n3_ := Aside0.mk (bkD BK308.out)
     have n4_ := Aside0.mk (pbD HB.out)
     clear BK301
     clear BK302
     clear BK303
     clear BK308
     clear HB
     have BK301 := n0_
     have BK302 := n1_
     have BK303 := n2_
     have BK308 := n3_
     have HB := n4_
     clear n0_ n1_ n2_ n3_ n4_
     refine start_ (n := 10) (S := fun w' => w'.cell? ⟨gb308, 0, none⟩ = some (.int .i64 t304) ∧ w'.cell? ⟨gb308, 1, none⟩ = some (.int .i64 t305) ∧ w'.cell? ⟨gb308, 2, none⟩ = some (.int .i64 t306) ∧ w'.cell? ⟨gb308, 3, none⟩ = some (.int .i64 t307) ∧ w'.cell? ⟨gb301, 0, none⟩ = some (.int .i64 a0_0) ∧ w'.cell? ⟨gb301, 1, none⟩ = some (.int .i64 a0_1) ∧ w'.cell? ⟨gb301, 2, none⟩ = some (.int .i64 a0_2) ∧ w'.cell? ⟨gb301, 3, none⟩ = some (.int .i64 a0_3) ∧ w'.cell? ⟨gb301, 4, none⟩ = some (.int .i64 a0_4) ∧ w'.cell? ⟨gb301, 5, none⟩ = some (.int .i64 a0_5)) (ds := []) #[false, false, false, false, false, false, false, false, false, false] (by kernel_rfl) rfl rfl ⟨(bkC BK308.out 0).trans rfl, (bkC BK308.out 1).trans rfl, (bkC BK308.out 2).trans rfl, (bkC BK308.out 3).trans rfl, (bkC BK301.out 0).trans rfl, (bkC BK301.out 1).trans rfl, (bkC BK301.out 2).trans rfl, (bkC BK301.out 3).trans rfl, (bkC BK301.out 4).trans rfl, (bkC BK301.out 5).trans rfl⟩ (fun hHeld => ?_); refine with_tabW tableauref24_spot.tab4 tableauref24_spot.bits4 (fun HT_ HW_ => ?_)
     generalize wc.drew = w45 at BK301 BK302 BK303 BK308 HB hHeld ⊢
     refine pure_ (i := 1) (N := some 18) (v := ?_) (a' := ?_) #[false, true, false, false, false, false, false, false, false, false] rfl rfl (any_of HT_.out (by kernel_rfl)) (fun _ _ _ h => h) (Or.inl ⟨by rfl, ?_⟩) ?_ ?_
     rotate_left
     · intro w'
       go_simp
       with_reducible rfl
     rotate_left
     · simp only [Act.put, List.setIfInBounds_toArray, List.set_cons_zero, List.set_cons_succ, i64_w, i32_w]
       rfl
     refine pure_ (i := 3) (N := some 20) (v := ?_) (a' := ?_) #[false, true, false, true, false, false, false, false, false, false] rfl rfl (any_of HT_.out (by kernel_rfl)) (fun _ _ _ h => h) (Or.inl ⟨by rfl, ?_⟩) ?_ ?_
     rotate_left
     · intro w'
       go_simp
       with_reducible rfl
     rotate_left
     · simp only [Act.put, List.setIfInBounds_toArray, List.set_cons_zero, List.set_cons_succ, i64_w, i32_w]
       rfl
     refine take_ (i := 0) (N := some 17) (v := ?_) (a' := ?_) #[true, true, false, true, false, false, false, false, false, false] rfl rfl (take_ofW HT_.out HW_.out (by kernel_rfl)) (fun _ _ _ h => h) (Or.inl ⟨by rfl, ?_⟩) hHeld ?_ ?_
     rotate_left
     · rintro w' ⟨s0, s1, s2, s3, s4, s5, s6, s7, s8, s9⟩
       go_simp
       with_reducible rfl
     rotate_left
     · simp only [Act.put, List.setIfInBounds_toArray, List.set_cons_zero, List.set_cons_succ, i64_w, i32_w]
       rfl
     refine take_ (i := 2) (N := some 19) (v := ?_) (a' := ?_) #[true, true, true, true, false, false, false, false, false, false] rfl rfl (take_ofW HT_.out HW_.out (by kernel_rfl)) (fun _ _ _ h => h) (Or.inl ⟨by rfl, ?_⟩) hHeld ?_ ?_
     rotate_left
     · rintro w' ⟨s0, s1, s2, s3, s4, s5, s6, s7, s8, s9⟩
       go_simp
       with_reducible rfl
     rotate_left
     · simp only [Act.put, List.setIfInBounds_toArray, List.set_cons_zero, List.set_cons_succ, i64_w, i32_w]
       rfl
     refine take_ (i := 4) (N := some 21) (v := ?_) (a' := ?_) #[true, true, true, true, true, false, false, false, false, false] rfl rfl (take_ofW HT_.out HW_.out (by kernel_rfl)) (fun _ _ _ h => h) (Or.inl ⟨by rfl, ?_⟩) hHeld ?_ ?_
     rotate_left
     · rintro w' ⟨s0, s1, s2, s3, s4, s5, s6, s7, s8, s9⟩
       go_simp
       with_reducible rfl
     rotate_left
     · simp only [Act.put, List.setIfInBounds_toArray, List.set_cons_zero, List.set_cons_succ, i64_w, i32_w]
       rfl
     refine take_ (i := 6) (N := some 23) (v := ?_) (a' := ?_) #[true, true, true, true, true, false, true, false, false, false] rfl rfl (take_ofW HT_.out HW_.out (by kernel_rfl)) (fun _ _ _ h => h) (Or.inl ⟨by rfl, ?_⟩) hHeld ?_ ?_
     rotate_left
     · rintro w' ⟨s0, s1, s2, s3, s4, s5, s6, s7, s8, s9⟩
       go_simp
       with_reducible rfl
     rotate_left
     · simp only [Act.put, List.setIfInBounds_toArray, List.set_cons_zero, List.set_cons_succ, i64_w, i32_w]
       rfl
     refine one_ (i := 5) (N := some 22) #[true, true, true, true, true, true, true, false, false, false] rfl rfl (one_of HT_.out (by kernel_rfl)) (by decide) (fun K hK => ?_)
     refine goes_ Try.func66 (by kernel_rfl) rfl #[.agg #[.int .i64 t304, .int .i64 t305, .int .i64 t306, .int .i64 t307], .int .i64 a0_2, .int .i64 a0_3] (by rfl) rfl rfl (by (try simp only [List.map_toArray, List.map_cons, List.map_nil]); first | done | rfl | (simp only [List.length_drop, List.length_take]; rfl)) ?_
     with_reducible refine (tableauref07_Shift.calls t304 t305 t306 t307 a0_2 a0_3 t315 t316 t317 t318 _ A42.out).mono ?_
     rintro e w46 ⟨rfl, hb⟩
     refine ⟨_, rfl, ?_⟩
     have n0_ := Aside0.mk (bkB (g := gb301) (o := .cells #[.int .i64 a0_0, .int .i64 a0_1, .int .i64 a0_2, .int .i64 a0_3, .int .i64 a0_4, .int .i64 a0_5] 54 (0, 0)) (by (with_reducible repeat (first | refine bkN ?_ _ | refine bkD ?_ | refine bkA ?_ _)); exact BK301.out) hb)
     have n1_ := Aside0.mk (bkB (g := gb302) (o := .cells #[.int .i64 a1_0, .int .i64 a1_1, .int .i64 a1_2, .int .i64 a1_3] 26 (0, 0)) (by (with_reducible repeat (first | refine bkN ?_ _ | refine bkD ?_ | refine bkA ?_ _)); exact BK302.out) hb)
     have n2_ := Aside0.mk (bkB (g := gb303) (o := .cells #[.int .i64 0, .int .i64 0, .int .i64 0, .int .i64 0] 26 (0, 0)) (by (with_reducible repeat (first | refine bkN ?_ _ | refine bkD ?_ | refine bkA ?_ _)); exact BK303.out) hb)
     have n3_ := Aside0.mk (bkB (g := gb308) (o := .cells #[.int .i64 t304, .int .i64 t305, .int .i64 t306, .int .i64 t307] 26 (0, 0)) (by (with_reducible repeat (first | refine bkN ?_ _ | refine bkD ?_ | refine bkA ?_ _)); exact BK308.out) hb)
     have n4_ := Aside0.mk (pbP (by repeat (first | (with_reducible first | exact HB.out | apply pbA | apply pbN | apply pbD | refine pbS ?_ GE301.out | refine pbS ?_ GE302.out | refine pbS ?_ GE303.out | refine pbS ?_ GE308.out) | exact HB.out)) hb)
     clear BK301
     clear BK302
     clear BK303
     clear BK308
     clear HB
     have BK301 := n0_
     have BK302 := n1_
     have BK303 := n2_
     have BK308 := n3_
     have HB := n4_
     clear n0_ n1_ n2_ n3_ n4_
     (try clear hb)
     (try clear hb2)
     (try clear hk)
     (try clear hi)
     refine hK.out _ _ ⟨(bkC BK308.out 0).trans rfl, (bkC BK308.out 1).trans rfl, (bkC BK308.out 2).trans rfl, (bkC BK308.out 3).trans rfl, (bkC BK301.out 0).trans rfl, (bkC BK301.out 1).trans rfl, (bkC BK301.out 2).trans rfl, (bkC BK301.out 3).trans rfl, (bkC BK301.out 4).trans rfl, (bkC BK301.out 5).trans rfl⟩ (fun hHeld => ?_)
     clear hK K
     refine norm_ (a' := ?_) ?_ ?_
     rotate_left
     · show Act.put _ (some 22) _ = _
       simp only [Act.put, List.setIfInBounds_toArray, List.set_cons_zero, List.set_cons_succ, i64_w, i32_w]
       rfl
     refine one_ (i := 7) (N := some 24) #[true, true, true, true, true, true, true, true, false, false] rfl rfl (one_of HT_.out (by kernel_rfl)) (by decide) (fun K hK => ?_)
     refine goes_ Try.func73 (by kernel_rfl) rfl #[.agg #[.int .i64 a0_0, .int .i64 a0_1, .int .i64 a0_2, .int .i64 a0_3, .int .i64 a0_4, .int .i64 a0_5]] (by rfl) rfl rfl (by (try simp only [List.map_toArray, List.map_cons, List.map_nil]); first | done | rfl | (simp only [List.length_drop, List.length_take]; rfl)) ?_
     with_reducible refine (tableauref24_rect.calls a0_0 a0_1 a0_2 a0_3 a0_4 a0_5 t319 t320 t321 t322 _ A43.out).mono ?_
     rintro e w47 ⟨rfl, hb⟩
     refine ⟨_, rfl, ?_⟩
     have n0_ := Aside0.mk (bkB (g := gb301) (o := .cells #[.int .i64 a0_0, .int .i64 a0_1, .int .i64 a0_2, .int .i64 a0_3, .int .i64 a0_4, .int .i64 a0_5] 54 (0, 0)) (by (with_reducible repeat (first | refine bkN ?_ _ | refine bkD ?_ | refine bkA ?_ _)); exact BK301.out) hb)
     have n1_ := Aside0.mk (bkB (g := gb302) (o := .cells #[.int .i64 a1_0, .int .i64 a1_1, .int .i64 a1_2, .int .i64 a1_3] 26 (0, 0)) (by (with_reducible repeat (first | refine bkN ?_ _ | refine bkD ?_ | refine bkA ?_ _)); exact BK302.out) hb)
     have n2_ := Aside0.mk (bkB (g := gb303) (o := .cells #[.int .i64 0, .int .i64 0, .int .i64 0, .int .i64 0] 26 (0, 0)) (by (with_reducible repeat (first | refine bkN ?_ _ | refine bkD ?_ | refine bkA ?_ _)); exact BK303.out) hb)
     have n3_ := Aside0.mk (bkB (g := gb308) (o := .cells #[.int .i64 t304, .int .i64 t305, .int .i64 t306, .int .i64 t307] 26 (0, 0)) (by (with_reducible repeat (first | refine bkN ?_ _ | refine bkD ?_ | refine bkA ?_ _)); exact BK308.out) hb)
     have n4_ := Aside0.mk (pbP (by repeat (first | (with_reducible first | exact HB.out | apply pbA | apply pbN | apply pbD | refine pbS ?_ GE301.out | refine pbS ?_ GE302.out | refine pbS ?_ GE303.out | refine pbS ?_ GE308.out) | exact HB.out)) hb)
     clear BK301
     clear BK302
     clear BK303
     clear BK308
     clear HB
     have BK301 := n0_
     have BK302 := n1_
     have BK303 := n2_
     have BK308 := n3_
     have HB := n4_
     clear n0_ n1_ n2_ n3_ n4_
     (try clear hb)
     (try clear hb2)
     (try clear hk)
     (try clear hi)
     refine hK.out _ _ ⟨(bkC BK308.out 0).trans rfl, (bkC BK308.out 1).trans rfl, (bkC BK308.out 2).trans rfl, (bkC BK308.out 3).trans rfl, (bkC BK301.out 0).trans rfl, (bkC BK301.out 1).trans rfl, (bkC BK301.out 2).trans rfl, (bkC BK301.out 3).trans rfl, (bkC BK301.out 4).trans rfl, (bkC BK301.out 5).trans rfl⟩ (fun hHeld => ?_)
     clear hK K
     refine norm_ (a' := ?_) ?_ ?_
     rotate_left
     · show Act.put _ (some 24) _ = _
       simp only [Act.put, List.setIfInBounds_toArray, List.set_cons_zero, List.set_cons_succ, i64_w, i32_w]
       rfl
     refine one_ (i := 8) (N := some 25) #[true, true, true, true, true, true, true, true, true, false] rfl rfl (one_of HT_.out (by kernel_rfl)) (by decide) (fun K hK => ?_)
     refine goes_ Try.func91 (by kernel_rfl) rfl #[.agg #[.int .i64 t315, .int .i64 t316, .int .i64 t317, .int .i64 t318], .agg #[.int .i64 t319, .int .i64 t320, .int .i64 t321, .int .i64 t322]] (by rfl) rfl rfl (by (try simp only [List.map_toArray, List.map_cons, List.map_nil]); first | done | rfl | (simp only [List.length_drop, List.length_take]; rfl)) ?_
     with_reducible refine (tableauref07_Cut.calls t315 t316 t317 t318 t319 t320 t321 t322 t323 t324 t325 t326 _ A44.out).mono ?_
     rintro e w48 ⟨rfl, hb⟩
     refine ⟨_, rfl, ?_⟩
     have n0_ := Aside0.mk (bkB (g := gb301) (o := .cells #[.int .i64 a0_0, .int .i64 a0_1, .int .i64 a0_2, .int .i64 a0_3, .int .i64 a0_4, .int .i64 a0_5] 54 (0, 0)) (by (with_reducible repeat (first | refine bkN ?_ _ | refine bkD ?_ | refine bkA ?_ _)); exact BK301.out) hb)
     have n1_ := Aside0.mk (bkB (g := gb302) (o := .cells #[.int .i64 a1_0, .int .i64 a1_1, .int .i64 a1_2, .int .i64 a1_3] 26 (0, 0)) (by (with_reducible repeat (first | refine bkN ?_ _ | refine bkD ?_ | refine bkA ?_ _)); exact BK302.out) hb)
     have n2_ := Aside0.mk (bkB (g := gb303) (o := .cells #[.int .i64 0, .int .i64 0, .int .i64 0, .int .i64 0] 26 (0, 0)) (by (with_reducible repeat (first | refine bkN ?_ _ | refine bkD ?_ | refine bkA ?_ _)); exact BK303.out) hb)
     have n3_ := Aside0.mk (bkB (g := gb308) (o := .cells #[.int .i64 t304, .int .i64 t305, .int .i64 t306, .int .i64 t307] 26 (0, 0)) (by (with_reducible repeat (first | refine bkN ?_ _ | refine bkD ?_ | refine bkA ?_ _)); exact BK308.out) hb)
     have n4_ := Aside0.mk (pbP (by repeat (first | (with_reducible first | exact HB.out | apply pbA | apply pbN | apply pbD | refine pbS ?_ GE301.out | refine pbS ?_ GE302.out | refine pbS ?_ GE303.out | refine pbS ?_ GE308.out) | exact HB.out)) hb)
     clear BK301
     clear BK302
     clear BK303
     clear BK308
     clear HB
     have BK301 := n0_
     have BK302 := n1_
     have BK303 := n2_
     have BK308 := n3_
     have HB := n4_
     clear n0_ n1_ n2_ n3_ n4_
     (try clear hb)
     (try clear hb2)
     (try clear hk)
     (try clear hi)
     refine hK.out _ _ ⟨(bkC BK308.out 0).trans rfl, (bkC BK308.out 1).trans rfl, (bkC BK308.out 2).trans rfl, (bkC BK308.out 3).trans rfl, (bkC BK301.out 0).trans rfl, (bkC BK301.out 1).trans rfl, (bkC BK301.out 2).trans rfl, (bkC BK301.out 3).trans rfl, (bkC BK301.out 4).trans rfl, (bkC BK301.out 5).trans rfl⟩ (fun hHeld => ?_)
     clear hK K
     refine norm_ (a' := ?_) ?_ ?_
     rotate_left
     · show Act.put _ (some 25) _ = _
       simp only [Act.put, List.setIfInBounds_toArray, List.set_cons_zero, List.set_cons_succ, i64_w, i32_w]
       rfl
     refine one_ (i := 9) (N := none) #[true, true, true, true, true, true, true, true, true, true] rfl rfl (one_of HT_.out (by kernel_rfl)) (by decide) (fun K hK => ?_)
     have hs49 : w48.cell? ⟨gb303, 0, none⟩ = some (.int .i64 0) := (bkC BK303.out 0).trans rfl
     have hfs49 := bkF BK303.out 0
     have hns49_0 := NB301_303.out
     have hns49_1 := NB302_303.out
     have hns49_3 := NB308_303.out
     have hms49_0 := NB303_301.out
     have hms49_1 := NB303_302.out
     have hms49_3 := NB303_308.out
     have hs50 : w48.cell? ⟨gb303, 1, none⟩ = some (.int .i64 0) := (bkC BK303.out 1).trans rfl
     have hfs50 := bkF BK303.out 1
     have hns50_0 := NB301_303.out
     have hns50_1 := NB302_303.out
     have hns50_3 := NB308_303.out
     have hms50_0 := NB303_301.out
     have hms50_1 := NB303_302.out
     have hms50_3 := NB303_308.out
     have hs51 : w48.cell? ⟨gb303, 2, none⟩ = some (.int .i64 0) := (bkC BK303.out 2).trans rfl
     have hfs51 := bkF BK303.out 2
     have hns51_0 := NB301_303.out
     have hns51_1 := NB302_303.out
     have hns51_3 := NB308_303.out
     have hms51_0 := NB303_301.out
     have hms51_1 := NB303_302.out
     have hms51_3 := NB303_308.out
     have hs52 : w48.cell? ⟨gb303, 3, none⟩ = some (.int .i64 0) := (bkC BK303.out 3).trans rfl
     have hfs52 := bkF BK303.out 3
     have hns52_0 := NB301_303.out
     have hns52_1 := NB302_303.out
     have hns52_3 := NB308_303.out
     have hms52_0 := NB303_301.out
     have hms52_1 := NB303_302.out
     have hms52_3 := NB303_308.out
     refine skip_ (w1 := ?_) (by rfl) rfl ?_ ?_
     rotate_left
     · go_simp
       rfl
     refine hK.out _ _ ⟨((cell_far (p := ⟨gb303, _, none⟩) NB308_303.out _).trans (((cell_far (p := ⟨gb303, _, none⟩) NB308_303.out _).trans (((cell_far (p := ⟨gb303, _, none⟩) NB308_303.out _).trans (((cell_far (p := ⟨gb303, _, none⟩) NB308_303.out _).trans (hHeld.1)))))))), ((cell_far (p := ⟨gb303, _, none⟩) NB308_303.out _).trans (((cell_far (p := ⟨gb303, _, none⟩) NB308_303.out _).trans (((cell_far (p := ⟨gb303, _, none⟩) NB308_303.out _).trans (((cell_far (p := ⟨gb303, _, none⟩) NB308_303.out _).trans (hHeld.2.1)))))))), ((cell_far (p := ⟨gb303, _, none⟩) NB308_303.out _).trans (((cell_far (p := ⟨gb303, _, none⟩) NB308_303.out _).trans (((cell_far (p := ⟨gb303, _, none⟩) NB308_303.out _).trans (((cell_far (p := ⟨gb303, _, none⟩) NB308_303.out _).trans (hHeld.2.2.1)))))))), ((cell_far (p := ⟨gb303, _, none⟩) NB308_303.out _).trans (((cell_far (p := ⟨gb303, _, none⟩) NB308_303.out _).trans (((cell_far (p := ⟨gb303, _, none⟩) NB308_303.out _).trans (((cell_far (p := ⟨gb303, _, none⟩) NB308_303.out _).trans (hHeld.2.2.2.1)))))))), ((cell_far (p := ⟨gb303, _, none⟩) NB301_303.out _).trans (((cell_far (p := ⟨gb303, _, none⟩) NB301_303.out _).trans (((cell_far (p := ⟨gb303, _, none⟩) NB301_303.out _).trans (((cell_far (p := ⟨gb303, _, none⟩) NB301_303.out _).trans (hHeld.2.2.2.2.1)))))))), ((cell_far (p := ⟨gb303, _, none⟩) NB301_303.out _).trans (((cell_far (p := ⟨gb303, _, none⟩) NB301_303.out _).trans (((cell_far (p := ⟨gb303, _, none⟩) NB301_303.out _).trans (((cell_far (p := ⟨gb303, _, none⟩) NB301_303.out _).trans (hHeld.2.2.2.2.2.1)))))))), ((cell_far (p := ⟨gb303, _, none⟩) NB301_303.out _).trans (((cell_far (p := ⟨gb303, _, none⟩) NB301_303.out _).trans (((cell_far (p := ⟨gb303, _, none⟩) NB301_303.out _).trans (((cell_far (p := ⟨gb303, _, none⟩) NB301_303.out _).trans (hHeld.2.2.2.2.2.2.1)))))))), ((cell_far (p := ⟨gb303, _, none⟩) NB301_303.out _).trans (((cell_far (p := ⟨gb303, _, none⟩) NB301_303.out _).trans (((cell_far (p := ⟨gb303, _, none⟩) NB301_303.out _).trans (((cell_far (p := ⟨gb303, _, none⟩) NB301_303.out _).trans (hHeld.2.2.2.2.2.2.2.1)))))))), ((cell_far (p := ⟨gb303, _, none⟩) NB301_303.out _).trans (((cell_far (p := ⟨gb303, _, none⟩) NB301_303.out _).trans (((cell_far (p := ⟨gb303, _, none⟩) NB301_303.out _).trans (((cell_far (p := ⟨gb303, _, none⟩) NB301_303.out _).trans (hHeld.2.2.2.2.2.2.2.2.1)))))))), ((cell_far (p := ⟨gb303, _, none⟩) NB301_303.out _).trans (((cell_far (p := ⟨gb303, _, none⟩) NB301_303.out _).trans (((cell_far (p := ⟨gb303, _, none⟩) NB301_303.out _).trans (((cell_far (p := ⟨gb303, _, none⟩) NB301_303.out _).trans (hHeld.2.2.2.2.2.2.2.2.2))))))))⟩ (fun hHeld => ?_)
     clear hK K
     refine done_ (done_of HT_.out (by kernel_rfl)) ?_
     try go_wp2
     refine bodyPost_ret (results_cell_row rfl _ _ gb303 26 #[.int .i64 t323, .int .i64 t324, .int .i64 t325, .int .i64 t326] (0, 0) _ rfl (by (with_reducible repeat (first | refine bkN ?_ _ | refine bkD ?_ | refine bkA ?_ _)); refine blk_put (cs := #[.int .i64 t323, .int .i64 t324, .int .i64 t325, .int .i64 0]) ?_ 3 _ rfl; (with_reducible repeat (first | refine bkN ?_ _ | refine bkD ?_ | refine bkA ?_ _)); refine blk_put (cs := #[.int .i64 t323, .int .i64 t324, .int .i64 0, .int .i64 0]) ?_ 2 _ rfl; (with_reducible repeat (first | refine bkN ?_ _ | refine bkD ?_ | refine bkA ?_ _)); refine blk_put (cs := #[.int .i64 t323, .int .i64 0, .int .i64 0, .int .i64 0]) ?_ 1 _ rfl; (with_reducible repeat (first | refine bkN ?_ _ | refine bkD ?_ | refine bkA ?_ _)); refine blk_put (cs := #[.int .i64 0, .int .i64 0, .int .i64 0, .int .i64 0]) ?_ 0 _ rfl; (with_reducible repeat (first | refine bkN ?_ _ | refine bkD ?_ | refine bkA ?_ _)); exact BK303.out) Try.underlying26 rfl (by kernel_rfl)) rfl ?_
     exact ⟨by first | rfl | (simp [errW_none, errW_some] <;> rfl) | (simp [*, errW_none, errW_some] <;> rfl), by repeat (first | (with_reducible first | exact HB.out | apply pbA | apply pbN | apply pbD | refine pbS ?_ GE301.out | refine pbS ?_ GE302.out | refine pbS ?_ GE303.out | refine pbS ?_ GE308.out) | exact HB.out)⟩


end Go.Proofs.Ytclpppejabfbbaa.PF
