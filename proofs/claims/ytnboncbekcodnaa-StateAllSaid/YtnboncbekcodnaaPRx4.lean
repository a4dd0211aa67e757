-- Printed for this claim by a program over the kit's print.
import Derived.Test.YtnboncbekcodnaaPRx0
import Derived.Test.YtnboncbekcodnaaPRx1
import Derived.Test.YtnboncbekcodnaaPRx2
namespace Go.Proofs.Ytnboncbekcodnaa.PR
open Go.RowKit Go.Proofs.YtnboncbekcodnaaW.PrintWords Go.Proofs.YtnboncbekcodnaaW.PrintLast Go.Proofs.YtnboncbekcodnaaW.PrintMore
attribute [local go_sem] max2_int min2_int max_two min_two max_three min_three max_four min_four   -- for this text's walks alone
set_option linter.unusedVariables false
set_option linter.unusedSimpArgs false

attribute [local go_sem high] eqA24 eqA47

/-! ### tableauref15_Same: function 23 -/
mutual
def tableauref15_Same.j0 : Nat → Bool → Bool → Int → List (S47) → List Int → Bool → Bool → List (S47) → Bool → List Int → List (S24) → Bool → Int → List (S47) → List Int → Bool → Bool → List (S47) → Bool → List Int → List (S24) → Option (Bool)
 | 0, _, _, _, _, _, _, _, _, _, _, _, _, _, _, _, _, _, _, _, _, _ => none
 | k + 1, x88, x214000, x214001, x214002, x214003, x214004, x214005, x214006, x214007, x214008, x214009, x215000, x215001, x215002, x215003, x215004, x215005, x215006, x215007, x215008, x215009 => if x88 = true then (some false) else (tableauref15_Same.l0 k true 0 x214000 x214001 x214002 x214003 x214004 x214005 x214006 x214007 x214008 x214009 x215000 x215001 x215002 x215003 x215004 x215005 x215006 x215007 x215008 x215009)
def tableauref15_Same.l0 : Nat → Bool → Int → Bool → Int → List (S47) → List Int → Bool → Bool → List (S47) → Bool → List Int → List (S24) → Bool → Int → List (S47) → List Int → Bool → Bool → List (S47) → Bool → List Int → List (S24) → Option (Bool)
 | 0, _, _, _, _, _, _, _, _, _, _, _, _, _, _, _, _, _, _, _, _, _, _ => none
 | k + 1, x5, x6, x214000, x214001, x214002, x214003, x214004, x214005, x214006, x214007, x214008, x214009, x215000, x215001, x215002, x215003, x215004, x215005, x215006, x215007, x215008, x215009 => if x6 < (x214002.length : Int) then (if x5 = true then (if 0 ≤ x6 then (if x6 < (x215002.length : Int) then (tableauref15_Same.l0 k (((rd_T47 x214002 x6).f0) == ((rd_T47 x215002 x6).f0) && (((rd_T47 x214002 x6).f1) == ((rd_T47 x215002 x6).f1) && (((rd_T47 x214002 x6).f2) == ((rd_T47 x215002 x6).f2) && (((rd_T47 x214002 x6).f3) == ((rd_T47 x215002 x6).f3))))) (wrap64 (x6 + 1)) x214000 x214001 x214002 x214003 x214004 x214005 x214006 x214007 x214008 x214009 x215000 x215001 x215002 x215003 x215004 x215005 x215006 x215007 x215008 x215009) else (none)) else (none)) else (tableauref15_Same.l0 k false (wrap64 (x6 + 1)) x214000 x214001 x214002 x214003 x214004 x214005 x214006 x214007 x214008 x214009 x215000 x215001 x215002 x215003 x215004 x215005 x215006 x215007 x215008 x215009)) else (tableauref15_Same.l1 k x5 0 x214000 x214001 x214002 x214003 x214004 x214005 x214006 x214007 x214008 x214009 x215000 x215001 x215002 x215003 x215004 x215005 x215006 x215007 x215008 x215009)
def tableauref15_Same.l1 : Nat → Bool → Int → Bool → Int → List (S47) → List Int → Bool → Bool → List (S47) → Bool → List Int → List (S24) → Bool → Int → List (S47) → List Int → Bool → Bool → List (S47) → Bool → List Int → List (S24) → Option (Bool)
 | 0, _, _, _, _, _, _, _, _, _, _, _, _, _, _, _, _, _, _, _, _, _, _ => none
 | k + 1, x5, x7, x214000, x214001, x214002, x214003, x214004, x214005, x214006, x214007, x214008, x214009, x215000, x215001, x215002, x215003, x215004, x215005, x215006, x215007, x215008, x215009 => if x7 < (x214003.length : Int) then (if x5 = true then (if 0 ≤ x7 then (if x7 < (x215003.length : Int) then (tableauref15_Same.l1 k ((rd x214003 x7) == (rd x215003 x7)) (wrap64 (x7 + 1)) x214000 x214001 x214002 x214003 x214004 x214005 x214006 x214007 x214008 x214009 x215000 x215001 x215002 x215003 x215004 x215005 x215006 x215007 x215008 x215009) else (none)) else (none)) else (tableauref15_Same.l1 k false (wrap64 (x7 + 1)) x214000 x214001 x214002 x214003 x214004 x214005 x214006 x214007 x214008 x214009 x215000 x215001 x215002 x215003 x215004 x215005 x215006 x215007 x215008 x215009)) else (tableauref15_Same.l2 k x5 0 x214000 x214001 x214002 x214003 x214004 x214005 x214006 x214007 x214008 x214009 x215000 x215001 x215002 x215003 x215004 x215005 x215006 x215007 x215008 x215009)
def tableauref15_Same.l2 : Nat → Bool → Int → Bool → Int → List (S47) → List Int → Bool → Bool → List (S47) → Bool → List Int → List (S24) → Bool → Int → List (S47) → List Int → Bool → Bool → List (S47) → Bool → List Int → List (S24) → Option (Bool)
 | 0, _, _, _, _, _, _, _, _, _, _, _, _, _, _, _, _, _, _, _, _, _, _ => none
 | k + 1, x5, x8, x214000, x214001, x214002, x214003, x214004, x214005, x214006, x214007, x214008, x214009, x215000, x215001, x215002, x215003, x215004, x215005, x215006, x215007, x215008, x215009 => if x8 < (x214006.length : Int) then (if x5 = true then (if 0 ≤ x8 then (if x8 < (x215006.length : Int) then (tableauref15_Same.l2 k (((rd_T47 x214006 x8).f0) == ((rd_T47 x215006 x8).f0) && (((rd_T47 x214006 x8).f1) == ((rd_T47 x215006 x8).f1) && (((rd_T47 x214006 x8).f2) == ((rd_T47 x215006 x8).f2) && (((rd_T47 x214006 x8).f3) == ((rd_T47 x215006 x8).f3))))) (wrap64 (x8 + 1)) x214000 x214001 x214002 x214003 x214004 x214005 x214006 x214007 x214008 x214009 x215000 x215001 x215002 x215003 x215004 x215005 x215006 x215007 x215008 x215009) else (none)) else (none)) else (tableauref15_Same.l2 k false (wrap64 (x8 + 1)) x214000 x214001 x214002 x214003 x214004 x214005 x214006 x214007 x214008 x214009 x215000 x215001 x215002 x215003 x215004 x215005 x215006 x215007 x215008 x215009)) else (tableauref15_Same.l3 k x5 0 x214000 x214001 x214002 x214003 x214004 x214005 x214006 x214007 x214008 x214009 x215000 x215001 x215002 x215003 x215004 x215005 x215006 x215007 x215008 x215009)
def tableauref15_Same.l3 : Nat → Bool → Int → Bool → Int → List (S47) → List Int → Bool → Bool → List (S47) → Bool → List Int → List (S24) → Bool → Int → List (S47) → List Int → Bool → Bool → List (S47) → Bool → List Int → List (S24) → Option (Bool)
 | 0, _, _, _, _, _, _, _, _, _, _, _, _, _, _, _, _, _, _, _, _, _, _ => none
 | k + 1, x5, x9, x214000, x214001, x214002, x214003, x214004, x214005, x214006, x214007, x214008, x214009, x215000, x215001, x215002, x215003, x215004, x215005, x215006, x215007, x215008, x215009 => if x9 < (x214008.length : Int) then (if x5 = true then (if 0 ≤ x9 then (if x9 < (x215008.length : Int) then (tableauref15_Same.l3 k ((rd x214008 x9) == (rd x215008 x9)) (wrap64 (x9 + 1)) x214000 x214001 x214002 x214003 x214004 x214005 x214006 x214007 x214008 x214009 x215000 x215001 x215002 x215003 x215004 x215005 x215006 x215007 x215008 x215009) else (none)) else (none)) else (tableauref15_Same.l3 k false (wrap64 (x9 + 1)) x214000 x214001 x214002 x214003 x214004 x214005 x214006 x214007 x214008 x214009 x215000 x215001 x215002 x215003 x215004 x215005 x215006 x215007 x215008 x215009)) else (tableauref15_Same.l4 k x5 0 x214000 x214001 x214002 x214003 x214004 x214005 x214006 x214007 x214008 x214009 x215000 x215001 x215002 x215003 x215004 x215005 x215006 x215007 x215008 x215009)
def tableauref15_Same.l4 : Nat → Bool → Int → Bool → Int → List (S47) → List Int → Bool → Bool → List (S47) → Bool → List Int → List (S24) → Bool → Int → List (S47) → List Int → Bool → Bool → List (S47) → Bool → List Int → List (S24) → Option (Bool)
 | 0, _, _, _, _, _, _, _, _, _, _, _, _, _, _, _, _, _, _, _, _, _, _ => none
 | k + 1, x5, x10, x214000, x214001, x214002, x214003, x214004, x214005, x214006, x214007, x214008, x214009, x215000, x215001, x215002, x215003, x215004, x215005, x215006, x215007, x215008, x215009 => if x10 < (x214009.length : Int) then (if x5 = true then (if 0 ≤ x10 then (if x10 < (x215009.length : Int) then (tableauref15_Same.l4 k (((rd_T24 x214009 x10).f0) == ((rd_T24 x215009 x10).f0) && (((rd_T24 x214009 x10).f1) == ((rd_T24 x215009 x10).f1) && (((rd_T24 x214009 x10).f2) == ((rd_T24 x215009 x10).f2)))) (wrap64 (x10 + 1)) x214000 x214001 x214002 x214003 x214004 x214005 x214006 x214007 x214008 x214009 x215000 x215001 x215002 x215003 x215004 x215005 x215006 x215007 x215008 x215009) else (none)) else (none)) else (tableauref15_Same.l4 k false (wrap64 (x10 + 1)) x214000 x214001 x214002 x214003 x214004 x214005 x214006 x214007 x214008 x214009 x215000 x215001 x215002 x215003 x215004 x215005 x215006 x215007 x215008 x215009)) else (some x5)
end
def tableauref15_Same.f (k : Nat) (a0_0 : Bool) (a0_1 : Int) (l0_2 : List (S47)) (l0_3 : List Int) (a0_4 : Bool) (a0_5 : Bool) (l0_6 : List (S47)) (a0_7 : Bool) (l0_8 : List Int) (l0_9 : List (S24)) (a1_0 : Bool) (a1_1 : Int) (l1_2 : List (S47)) (l1_3 : List Int) (a1_4 : Bool) (a1_5 : Bool) (l1_6 : List (S47)) (a1_7 : Bool) (l1_8 : List Int) (l1_9 : List (S24)) : Option (Bool) := if (a0_0 != a1_0) = true then (tableauref15_Same.j0 k true a0_0 a0_1 l0_2 l0_3 a0_4 a0_5 l0_6 a0_7 l0_8 l0_9 a1_0 a1_1 l1_2 l1_3 a1_4 a1_5 l1_6 a1_7 l1_8 l1_9) else (if a0_1 = a1_1 then (if (a0_4 != a1_4) = true then (tableauref15_Same.j0 k true a0_0 a0_1 l0_2 l0_3 a0_4 a0_5 l0_6 a0_7 l0_8 l0_9 a1_0 a1_1 l1_2 l1_3 a1_4 a1_5 l1_6 a1_7 l1_8 l1_9) else (if (a0_5 != a1_5) = true then (tableauref15_Same.j0 k true a0_0 a0_1 l0_2 l0_3 a0_4 a0_5 l0_6 a0_7 l0_8 l0_9 a1_0 a1_1 l1_2 l1_3 a1_4 a1_5 l1_6 a1_7 l1_8 l1_9) else (if (a0_7 != a1_7) = true then (tableauref15_Same.j0 k true a0_0 a0_1 l0_2 l0_3 a0_4 a0_5 l0_6 a0_7 l0_8 l0_9 a1_0 a1_1 l1_2 l1_3 a1_4 a1_5 l1_6 a1_7 l1_8 l1_9) else (if (l0_2.length : Int) = (l1_2.length : Int) then (if (l0_3.length : Int) = (l1_3.length : Int) then (if (l0_6.length : Int) = (l1_6.length : Int) then (if (l0_8.length : Int) = (l1_8.length : Int) then (tableauref15_Same.j0 k ((l0_9.length : Int) != (l1_9.length : Int)) a0_0 a0_1 l0_2 l0_3 a0_4 a0_5 l0_6 a0_7 l0_8 l0_9 a1_0 a1_1 l1_2 l1_3 a1_4 a1_5 l1_6 a1_7 l1_8 l1_9) else (tableauref15_Same.j0 k true a0_0 a0_1 l0_2 l0_3 a0_4 a0_5 l0_6 a0_7 l0_8 l0_9 a1_0 a1_1 l1_2 l1_3 a1_4 a1_5 l1_6 a1_7 l1_8 l1_9)) else (tableauref15_Same.j0 k true a0_0 a0_1 l0_2 l0_3 a0_4 a0_5 l0_6 a0_7 l0_8 l0_9 a1_0 a1_1 l1_2 l1_3 a1_4 a1_5 l1_6 a1_7 l1_8 l1_9)) else (tableauref15_Same.j0 k true a0_0 a0_1 l0_2 l0_3 a0_4 a0_5 l0_6 a0_7 l0_8 l0_9 a1_0 a1_1 l1_2 l1_3 a1_4 a1_5 l1_6 a1_7 l1_8 l1_9)) else (tableauref15_Same.j0 k true a0_0 a0_1 l0_2 l0_3 a0_4 a0_5 l0_6 a0_7 l0_8 l0_9 a1_0 a1_1 l1_2 l1_3 a1_4 a1_5 l1_6 a1_7 l1_8 l1_9))))) else (tableauref15_Same.j0 k true a0_0 a0_1 l0_2 l0_3 a0_4 a0_5 l0_6 a0_7 l0_8 l0_9 a1_0 a1_1 l1_2 l1_3 a1_4 a1_5 l1_6 a1_7 l1_8 l1_9))
theorem tableauref15_Same.mono_l : ∀ k, (∀ y0 y1 y2 y3 y4 y5 y6 y7 y8 y9 y10 y11 y12 y13 y14 y15 y16 y17 y18 y19 y20, LeO (tableauref15_Same.j0 k y0 y1 y2 y3 y4 y5 y6 y7 y8 y9 y10 y11 y12 y13 y14 y15 y16 y17 y18 y19 y20) (tableauref15_Same.j0 (k + 1) y0 y1 y2 y3 y4 y5 y6 y7 y8 y9 y10 y11 y12 y13 y14 y15 y16 y17 y18 y19 y20)) ∧ (∀ y0 y1 y2 y3 y4 y5 y6 y7 y8 y9 y10 y11 y12 y13 y14 y15 y16 y17 y18 y19 y20 y21, LeO (tableauref15_Same.l0 k y0 y1 y2 y3 y4 y5 y6 y7 y8 y9 y10 y11 y12 y13 y14 y15 y16 y17 y18 y19 y20 y21) (tableauref15_Same.l0 (k + 1) y0 y1 y2 y3 y4 y5 y6 y7 y8 y9 y10 y11 y12 y13 y14 y15 y16 y17 y18 y19 y20 y21)) ∧ (∀ y0 y1 y2 y3 y4 y5 y6 y7 y8 y9 y10 y11 y12 y13 y14 y15 y16 y17 y18 y19 y20 y21, LeO (tableauref15_Same.l1 k y0 y1 y2 y3 y4 y5 y6 y7 y8 y9 y10 y11 y12 y13 y14 y15 y16 y17 y18 y19 y20 y21) (tableauref15_Same.l1 (k + 1) y0 y1 y2 y3 y4 y5 y6 y7 y8 y9 y10 y11 y12 y13 y14 y15 y16 y17 y18 y19 y20 y21)) ∧ (∀ y0 y1 y2 y3 y4 y5 y6 y7 y8 y9 y10 y11 y12 y13 y14 y15 y16 y17 y18 y19 y20 y21, LeO (tableauref15_Same.l2 k y0 y1 y2 y3 y4 y5 y6 y7 y8 y9 y10 y11 y12 y13 y14 y15 y16 y17 y18 y19 y20 y21) (tableauref15_Same.l2 (k + 1) y0 y1 y2 y3 y4 y5 y6 y7 y8 y9 y10 y11 y12 y13 y14 y15 y16 y17 y18 y19 y20 y21)) ∧ (∀ y0 y1 y2 y3 y4 y5 y6 y7 y8 y9 y10 y11 y12 y13 y14 y15 y16 y17 y18 y19 y20 y21, LeO (tableauref15_Same.l3 k y0 y1 y2 y3 y4 y5 y6 y7 y8 y9 y10 y11 y12 y13 y14 y15 y16 y17 y18 y19 y20 y21) (tableauref15_Same.l3 (k + 1) y0 y1 y2 y3 y4 y5 y6 y7 y8 y9 y10 y11 y12 y13 y14 y15 y16 y17 y18 y19 y20 y21)) ∧ (∀ y0 y1 y2 y3 y4 y5 y6 y7 y8 y9 y10 y11 y12 y13 y14 y15 y16 y17 y18 y19 y20 y21, LeO (tableauref15_Same.l4 k y0 y1 y2 y3 y4 y5 y6 y7 y8 y9 y10 y11 y12 y13 y14 y15 y16 y17 y18 y19 y20 y21) (tableauref15_Same.l4 (k + 1) y0 y1 y2 y3 y4 y5 y6 y7 y8 y9 y10 y11 y12 y13 y14 y15 y16 y17 y18 y19 y20 y21))
 | 0 => ⟨fun _ _ _ _ _ _ _ _ _ _ _ _ _ _ _ _ _ _ _ _ _ r h => by simp [tableauref15_Same.j0] at h, fun _ _ _ _ _ _ _ _ _ _ _ _ _ _ _ _ _ _ _ _ _ _ r h => by simp [tableauref15_Same.l0] at h, fun _ _ _ _ _ _ _ _ _ _ _ _ _ _ _ _ _ _ _ _ _ _ r h => by simp [tableauref15_Same.l1] at h, fun _ _ _ _ _ _ _ _ _ _ _ _ _ _ _ _ _ _ _ _ _ _ r h => by simp [tableauref15_Same.l2] at h, fun _ _ _ _ _ _ _ _ _ _ _ _ _ _ _ _ _ _ _ _ _ _ r h => by simp [tableauref15_Same.l3] at h, fun _ _ _ _ _ _ _ _ _ _ _ _ _ _ _ _ _ _ _ _ _ _ r h => by simp [tableauref15_Same.l4] at h⟩
 | k + 1 => by
  obtain ⟨ih0, ih1, ih2, ih3, ih4, ih5⟩ := tableauref15_Same.mono_l k
  refine ⟨?_, ?_, ?_, ?_, ?_, ?_⟩
  · intro y0 y1 y2 y3 y4 y5 y6 y7 y8 y9 y10 y11 y12 y13 y14 y15 y16 y17 y18 y19 y20
    unfold tableauref15_Same.j0
    repeat' first
    | (with_reducible exact ih0 _ _ _ _ _ _ _ _ _ _ _ _ _ _ _ _ _ _ _ _ _)
    | (with_reducible exact ih1 _ _ _ _ _ _ _ _ _ _ _ _ _ _ _ _ _ _ _ _ _ _)
    | (with_reducible exact ih2 _ _ _ _ _ _ _ _ _ _ _ _ _ _ _ _ _ _ _ _ _ _)
    | (with_reducible exact ih3 _ _ _ _ _ _ _ _ _ _ _ _ _ _ _ _ _ _ _ _ _ _)
    | (with_reducible exact ih4 _ _ _ _ _ _ _ _ _ _ _ _ _ _ _ _ _ _ _ _ _ _)
    | (with_reducible exact ih5 _ _ _ _ _ _ _ _ _ _ _ _ _ _ _ _ _ _ _ _ _ _)
    | (with_reducible exact LeO.refl _)
    | (with_reducible exact LeO.none _)
    | (with_reducible refine LeO.ite ?_ ?_)
    | (with_reducible refine LeO.bind ?_ (fun _ => ?_))
    | exact ih0 _ _ _ _ _ _ _ _ _ _ _ _ _ _ _ _ _ _ _ _ _
    | exact ih1 _ _ _ _ _ _ _ _ _ _ _ _ _ _ _ _ _ _ _ _ _ _
    | exact ih2 _ _ _ _ _ _ _ _ _ _ _ _ _ _ _ _ _ _ _ _ _ _
    | exact ih3 _ _ _ _ _ _ _ _ _ _ _ _ _ _ _ _ _ _ _ _ _ _
    | exact ih4 _ _ _ _ _ _ _ _ _ _ _ _ _ _ _ _ _ _ _ _ _ _
    | exact ih5 _ _ _ _ _ _ _ _ _ _ _ _ _ _ _ _ _ _ _ _ _ _
    | exact LeO.none _
    | refine LeO.ite ?_ ?_
    | refine LeO.bind ?_ (fun _ => ?_)
  · intro y0 y1 y2 y3 y4 y5 y6 y7 y8 y9 y10 y11 y12 y13 y14 y15 y16 y17 y18 y19 y20 y21
    unfold tableauref15_Same.l0
    repeat' first
    | (with_reducible exact ih0 _ _ _ _ _ _ _ _ _ _ _ _ _ _ _ _ _ _ _ _ _)
    | (with_reducible exact ih1 _ _ _ _ _ _ _ _ _ _ _ _ _ _ _ _ _ _ _ _ _ _)
    | (with_reducible exact ih2 _ _ _ _ _ _ _ _ _ _ _ _ _ _ _ _ _ _ _ _ _ _)
    | (with_reducible exact ih3 _ _ _ _ _ _ _ _ _ _ _ _ _ _ _ _ _ _ _ _ _ _)
    | (with_reducible exact ih4 _ _ _ _ _ _ _ _ _ _ _ _ _ _ _ _ _ _ _ _ _ _)
    | (with_reducible exact ih5 _ _ _ _ _ _ _ _ _ _ _ _ _ _ _ _ _ _ _ _ _ _)
    | (with_reducible exact LeO.refl _)
    | (with_reducible exact LeO.none _)
    | (with_reducible refine LeO.ite ?_ ?_)
    | (with_reducible refine LeO.bind ?_ (fun _ => ?_))
    | exact ih0 _ _ _ _ _ _ _ _ _ _ _ _ _ _ _ _ _ _ _ _ _
    | exact ih1 _ _ _ _ _ _ _ _ _ _ _ _ _ _ _ _ _ _ _ _ _ _
    | exact ih2 _ _ _ _ _ _ _ _ _ _ _ _ _ _ _ _ _ _ _ _ _ _
    | exact ih3 _ _ _ _ _ _ _ _ _ _ _ _ _ _ _ _ _ _ _ _ _ _
    | exact ih4 _ _ _ _ _ _ _ _ _ _ _ _ _ _ _ _ _ _ _ _ _ _
    | exact ih5 _ _ _ _ _ _ _ _ _ _ _ _ _ _ _ _ _ _ _ _ _ _
    | exact LeO.none _
    | refine LeO.ite ?_ ?_
    | refine LeO.bind ?_ (fun _ => ?_)
  · intro y0 y1 y2 y3 y4 y5 y6 y7 y8 y9 y10 y11 y12 y13 y14 y15 y16 y17 y18 y19 y20 y21
    unfold tableauref15_Same.l1
    repeat' first
    | (with_reducible exact ih0 _ _ _ _ _ _ _ _ _ _ _ _ _ _ _ _ _ _ _ _ _)
    | (with_reducible exact ih1 _ _ _ _ _ _ _ _ _ _ _ _ _ _ _ _ _ _ _ _ _ _)
    | (with_reducible exact ih2 _ _ _ _ _ _ _ _ _ _ _ _ _ _ _ _ _ _ _ _ _ _)
    | (with_reducible exact ih3 _ _ _ _ _ _ _ _ _ _ _ _ _ _ _ _ _ _ _ _ _ _)
    | (with_reducible exact ih4 _ _ _ _ _ _ _ _ _ _ _ _ _ _ _ _ _ _ _ _ _ _)
    | (with_reducible exact ih5 _ _ _ _ _ _ _ _ _ _ _ _ _ _ _ _ _ _ _ _ _ _)
    | (with_reducible exact LeO.refl _)
    | (with_reducible exact LeO.none _)
    | (with_reducible refine LeO.ite ?_ ?_)
    | (with_reducible refine LeO.bind ?_ (fun _ => ?_))
    | exact ih0 _ _ _ _ _ _ _ _ _ _ _ _ _ _ _ _ _ _ _ _ _
    | exact ih1 _ _ _ _ _ _ _ _ _ _ _ _ _ _ _ _ _ _ _ _ _ _
    | exact ih2 _ _ _ _ _ _ _ _ _ _ _ _ _ _ _ _ _ _ _ _ _ _
    | exact ih3 _ _ _ _ _ _ _ _ _ _ _ _ _ _ _ _ _ _ _ _ _ _
    | exact ih4 _ _ _ _ _ _ _ _ _ _ _ _ _ _ _ _ _ _ _ _ _ _
    | exact ih5 _ _ _ _ _ _ _ _ _ _ _ _ _ _ _ _ _ _ _ _ _ _
    | exact LeO.none _
    | refine LeO.ite ?_ ?_
    | refine LeO.bind ?_ (fun _ => ?_)
  · intro y0 y1 y2 y3 y4 y5 y6 y7 y8 y9 y10 y11 y12 y13 y14 y15 y16 y17 y18 y19 y20 y21
    unfold tableauref15_Same.l2
    repeat' first
    | (with_reducible exact ih0 _ _ _ _ _ _ _ _ _ _ _ _ _ _ _ _ _ _ _ _ _)
    | (with_reducible exact ih1 _ _ _ _ _ _ _ _ _ _ _ _ _ _ _ _ _ _ _ _ _ _)
    | (with_reducible exact ih2 _ _ _ _ _ _ _ _ _ _ _ _ _ _ _ _ _ _ _ _ _ _)
    | (with_reducible exact ih3 _ _ _ _ _ _ _ _ _ _ _ _ _ _ _ _ _ _ _ _ _ _)
    | (with_reducible exact ih4 _ _ _ _ _ _ _ _ _ _ _ _ _ _ _ _ _ _ _ _ _ _)
    | (with_reducible exact ih5 _ _ _ _ _ _ _ _ _ _ _ _ _ _ _ _ _ _ _ _ _ _)
    | (with_reducible exact LeO.refl _)
    | (with_reducible exact LeO.none _)
    | (with_reducible refine LeO.ite ?_ ?_)
    | (with_reducible refine LeO.bind ?_ (fun _ => ?_))
    | exact ih0 _ _ _ _ _ _ _ _ _ _ _ _ _ _ _ _ _ _ _ _ _
    | exact ih1 _ _ _ _ _ _ _ _ _ _ _ _ _ _ _ _ _ _ _ _ _ _
    | exact ih2 _ _ _ _ _ _ _ _ _ _ _ _ _ _ _ _ _ _ _ _ _ _
    | exact ih3 _ _ _ _ _ _ _ _ _ _ _ _ _ _ _ _ _ _ _ _ _ _
    | exact ih4 _ _ _ _ _ _ _ _ _ _ _ _ _ _ _ _ _ _ _ _ _ _
    | exact ih5 _ _ _ _ _ _ _ _ _ _ _ _ _ _ _ _ _ _ _ _ _ _
    | exact LeO.none _
    | refine LeO.ite ?_ ?_
    | refine LeO.bind ?_ (fun _ => ?_)
  · intro y0 y1 y2 y3 y4 y5 y6 y7 y8 y9 y10 y11 y12 y13 y14 y15 y16 y17 y18 y19 y20 y21
    unfold tableauref15_Same.l3
    repeat' first
    | (with_reducible exact ih0 _ _ _ _ _ _ _ _ _ _ _ _ _ _ _ _ _ _ _ _ _)
    | (with_reducible exact ih1 _ _ _ _ _ _ _ _ _ _ _ _ _ _ _ _ _ _ _ _ _ _)
    | (with_reducible exact ih2 _ _ _ _ _ _ _ _ _ _ _ _ _ _ _ _ _ _ _ _ _ _)
    | (with_reducible exact ih3 _ _ _ _ _ _ _ _ _ _ _ _ _ _ _ _ _ _ _ _ _ _)
    | (with_reducible exact ih4 _ _ _ _ _ _ _ _ _ _ _ _ _ _ _ _ _ _ _ _ _ _)
    | (with_reducible exact ih5 _ _ _ _ _ _ _ _ _ _ _ _ _ _ _ _ _ _ _ _ _ _)
    | (with_reducible exact LeO.refl _)
    | (with_reducible exact LeO.none _)
    | (with_reducible refine LeO.ite ?_ ?_)
    | (with_reducible refine LeO.bind ?_ (fun _ => ?_))
    | exact ih0 _ _ _ _ _ _ _ _ _ _ _ _ _ _ _ _ _ _ _ _ _
    | exact ih1 _ _ _ _ _ _ _ _ _ _ _ _ _ _ _ _ _ _ _ _ _ _
    | exact ih2 _ _ _ _ _ _ _ _ _ _ _ _ _ _ _ _ _ _ _ _ _ _
    | exact ih3 _ _ _ _ _ _ _ _ _ _ _ _ _ _ _ _ _ _ _ _ _ _
    | exact ih4 _ _ _ _ _ _ _ _ _ _ _ _ _ _ _ _ _ _ _ _ _ _
    | exact ih5 _ _ _ _ _ _ _ _ _ _ _ _ _ _ _ _ _ _ _ _ _ _
    | exact LeO.none _
    | refine LeO.ite ?_ ?_
    | refine LeO.bind ?_ (fun _ => ?_)
  · intro y0 y1 y2 y3 y4 y5 y6 y7 y8 y9 y10 y11 y12 y13 y14 y15 y16 y17 y18 y19 y20 y21
    unfold tableauref15_Same.l4
    repeat' first
    | (with_reducible exact ih0 _ _ _ _ _ _ _ _ _ _ _ _ _ _ _ _ _ _ _ _ _)
    | (with_reducible exact ih1 _ _ _ _ _ _ _ _ _ _ _ _ _ _ _ _ _ _ _ _ _ _)
    | (with_reducible exact ih2 _ _ _ _ _ _ _ _ _ _ _ _ _ _ _ _ _ _ _ _ _ _)
    | (with_reducible exact ih3 _ _ _ _ _ _ _ _ _ _ _ _ _ _ _ _ _ _ _ _ _ _)
    | (with_reducible exact ih4 _ _ _ _ _ _ _ _ _ _ _ _ _ _ _ _ _ _ _ _ _ _)
    | (with_reducible exact ih5 _ _ _ _ _ _ _ _ _ _ _ _ _ _ _ _ _ _ _ _ _ _)
    | (with_reducible exact LeO.refl _)
    | (with_reducible exact LeO.none _)
    | (with_reducible refine LeO.ite ?_ ?_)
    | (with_reducible refine LeO.bind ?_ (fun _ => ?_))
    | exact ih0 _ _ _ _ _ _ _ _ _ _ _ _ _ _ _ _ _ _ _ _ _
    | exact ih1 _ _ _ _ _ _ _ _ _ _ _ _ _ _ _ _ _ _ _ _ _ _
    | exact ih2 _ _ _ _ _ _ _ _ _ _ _ _ _ _ _ _ _ _ _ _ _ _
    | exact ih3 _ _ _ _ _ _ _ _ _ _ _ _ _ _ _ _ _ _ _ _ _ _
    | exact ih4 _ _ _ _ _ _ _ _ _ _ _ _ _ _ _ _ _ _ _ _ _ _
    | exact ih5 _ _ _ _ _ _ _ _ _ _ _ _ _ _ _ _ _ _ _ _ _ _
    | exact LeO.none _
    | refine LeO.ite ?_ ?_
    | refine LeO.bind ?_ (fun _ => ?_)
theorem tableauref15_Same.mono : ∀ a0 a1 a2 a3 a4 a5 a6 a7 a8 a9 a10 a11 a12 a13 a14 a15 a16 a17 a18 a19 k, LeO (tableauref15_Same.f k a0 a1 a2 a3 a4 a5 a6 a7 a8 a9 a10 a11 a12 a13 a14 a15 a16 a17 a18 a19) (tableauref15_Same.f (k + 1) a0 a1 a2 a3 a4 a5 a6 a7 a8 a9 a10 a11 a12 a13 a14 a15 a16 a17 a18 a19) := by
 intro a0 a1 a2 a3 a4 a5 a6 a7 a8 a9 a10 a11 a12 a13 a14 a15 a16 a17 a18 a19 k
 obtain ⟨ih0, ih1, ih2, ih3, ih4, ih5⟩ := tableauref15_Same.mono_l k
 unfold tableauref15_Same.f
 repeat' first
  | (with_reducible exact ih0 _ _ _ _ _ _ _ _ _ _ _ _ _ _ _ _ _ _ _ _ _)
  | (with_reducible exact ih1 _ _ _ _ _ _ _ _ _ _ _ _ _ _ _ _ _ _ _ _ _ _)
  | (with_reducible exact ih2 _ _ _ _ _ _ _ _ _ _ _ _ _ _ _ _ _ _ _ _ _ _)
  | (with_reducible exact ih3 _ _ _ _ _ _ _ _ _ _ _ _ _ _ _ _ _ _ _ _ _ _)
  | (with_reducible exact ih4 _ _ _ _ _ _ _ _ _ _ _ _ _ _ _ _ _ _ _ _ _ _)
  | (with_reducible exact ih5 _ _ _ _ _ _ _ _ _ _ _ _ _ _ _ _ _ _ _ _ _ _)
  | (with_reducible exact LeO.refl _)
  | (with_reducible exact LeO.none _)
  | (with_reducible refine LeO.ite ?_ ?_)
  | (with_reducible refine LeO.bind ?_ (fun _ => ?_))
  | exact ih0 _ _ _ _ _ _ _ _ _ _ _ _ _ _ _ _ _ _ _ _ _
  | exact ih1 _ _ _ _ _ _ _ _ _ _ _ _ _ _ _ _ _ _ _ _ _ _
  | exact ih2 _ _ _ _ _ _ _ _ _ _ _ _ _ _ _ _ _ _ _ _ _ _
  | exact ih3 _ _ _ _ _ _ _ _ _ _ _ _ _ _ _ _ _ _ _ _ _ _
  | exact ih4 _ _ _ _ _ _ _ _ _ _ _ _ _ _ _ _ _ _ _ _ _ _
  | exact ih5 _ _ _ _ _ _ _ _ _ _ _ _ _ _ _ _ _ _ _ _ _ _
  | exact LeO.none _
  | refine LeO.ite ?_ ?_
  | refine LeO.bind ?_ (fun _ => ?_)
set_option maxHeartbeats 64000000 in
set_option maxRecDepth 100000 in
theorem tableauref15_Same.calls (k : Nat) (a0_0 : Bool) (a0_1 : Int) (A0_2 : Option Addr) (c0_2 : Nat) (l0_2 : List (S47)) (A0_3 : Option Addr) (c0_3 : Nat) (l0_3 : List Int) (a0_4 : Bool) (a0_5 : Bool) (A0_6 : Option Addr) (c0_6 : Nat) (l0_6 : List (S47)) (a0_7 : Bool) (A0_8 : Option Addr) (c0_8 : Nat) (l0_8 : List Int) (A0_9 : Option Addr) (c0_9 : Nat) (l0_9 : List (S24)) (a1_0 : Bool) (a1_1 : Int) (A1_2 : Option Addr) (c1_2 : Nat) (l1_2 : List (S47)) (A1_3 : Option Addr) (c1_3 : Nat) (l1_3 : List Int) (a1_4 : Bool) (a1_5 : Bool) (A1_6 : Option Addr) (c1_6 : Nat) (l1_6 : List (S47)) (a1_7 : Bool) (A1_8 : Option Addr) (c1_8 : Nat) (l1_8 : List Int) (A1_9 : Option Addr) (c1_9 : Nat) (l1_9 : List (S24)) (r : Bool) (w : World) (hr0_2 : Kd.C k47 w A0_2 l0_2.length l0_2) (hc0_2 : l0_2.length ≤ c0_2) (hr0_3 : Kd.C (Kd.int .i64) w A0_3 l0_3.length l0_3) (hc0_3 : l0_3.length ≤ c0_3) (hr0_6 : Kd.C k47 w A0_6 l0_6.length l0_6) (hc0_6 : l0_6.length ≤ c0_6) (hr0_8 : Kd.C (Kd.int .i64) w A0_8 l0_8.length l0_8) (hc0_8 : l0_8.length ≤ c0_8) (hr0_9 : Kd.C k24 w A0_9 l0_9.length l0_9) (hc0_9 : l0_9.length ≤ c0_9) (hr1_2 : Kd.C k47 w A1_2 l1_2.length l1_2) (hc1_2 : l1_2.length ≤ c1_2) (hr1_3 : Kd.C (Kd.int .i64) w A1_3 l1_3.length l1_3) (hc1_3 : l1_3.length ≤ c1_3) (hr1_6 : Kd.C k47 w A1_6 l1_6.length l1_6) (hc1_6 : l1_6.length ≤ c1_6) (hr1_8 : Kd.C (Kd.int .i64) w A1_8 l1_8.length l1_8) (hc1_8 : l1_8.length ≤ c1_8) (hr1_9 : Kd.C k24 w A1_9 l1_9.length l1_9) (hc1_9 : l1_9.length ≤ c1_9) (h : tableauref15_Same.f k a0_0 a0_1 l0_2 l0_3 a0_4 a0_5 l0_6 a0_7 l0_8 l0_9 a1_0 a1_1 l1_2 l1_3 a1_4 a1_5 l1_6 a1_7 l1_8 l1_9 = some r) :
 Calls Try.prog 23 #[.agg #[.bool a0_0, .int .i64 a0_1, .slice A0_2 l0_2.length c0_2, .slice A0_3 l0_3.length c0_3, .bool a0_4, .bool a0_5, .slice A0_6 l0_6.length c0_6, .bool a0_7, .slice A0_8 l0_8.length c0_8, .slice A0_9 l0_9.length c0_9], .agg #[.bool a1_0, .int .i64 a1_1, .slice A1_2 l1_2.length c1_2, .slice A1_3 l1_3.length c1_3, .bool a1_4, .bool a1_5, .slice A1_6 l1_6.length c1_6, .bool a1_7, .slice A1_8 l1_8.length c1_8, .slice A1_9 l1_9.length c1_9]] w fun e w' => e = .returned (.bool r) ∧ Below w.heap.size w w' := by
 have hu33 := Try.underlying33
 have hu47 := Try.underlying47
 have hu24 := Try.underlying24
 have HR0_2 := Aside0.mk hr0_2
 have HC0_2 := Aside0.mk hc0_2
 clear hr0_2 hc0_2
 have HR0_3 := Aside0.mk hr0_3
 have HC0_3 := Aside0.mk hc0_3
 clear hr0_3 hc0_3
 have HR0_6 := Aside0.mk hr0_6
 have HC0_6 := Aside0.mk hc0_6
 clear hr0_6 hc0_6
 have HR0_8 := Aside0.mk hr0_8
 have HC0_8 := Aside0.mk hc0_8
 clear hr0_8 hc0_8
 have HR0_9 := Aside0.mk hr0_9
 have HC0_9 := Aside0.mk hc0_9
 clear hr0_9 hc0_9
 have HR1_2 := Aside0.mk hr1_2
 have HC1_2 := Aside0.mk hc1_2
 clear hr1_2 hc1_2
 have HR1_3 := Aside0.mk hr1_3
 have HC1_3 := Aside0.mk hc1_3
 clear hr1_3 hc1_3
 have HR1_6 := Aside0.mk hr1_6
 have HC1_6 := Aside0.mk hc1_6
 clear hr1_6 hc1_6
 have HR1_8 := Aside0.mk hr1_8
 have HC1_8 := Aside0.mk hc1_8
 clear hr1_8 hc1_8
 have HR1_9 := Aside0.mk hr1_9
 have HC1_9 := Aside0.mk hc1_9
 clear hr1_9 hc1_9
 have HB := Aside0.mk (Below.refl w.heap.size w)
 have H : (if (a0_0 != a1_0) = true then (tableauref15_Same.j0 k true a0_0 a0_1 l0_2 l0_3 a0_4 a0_5 l0_6 a0_7 l0_8 l0_9 a1_0 a1_1 l1_2 l1_3 a1_4 a1_5 l1_6 a1_7 l1_8 l1_9) else (if a0_1 = a1_1 then (if (a0_4 != a1_4) = true then (tableauref15_Same.j0 k true a0_0 a0_1 l0_2 l0_3 a0_4 a0_5 l0_6 a0_7 l0_8 l0_9 a1_0 a1_1 l1_2 l1_3 a1_4 a1_5 l1_6 a1_7 l1_8 l1_9) else (if (a0_5 != a1_5) = true then (tableauref15_Same.j0 k true a0_0 a0_1 l0_2 l0_3 a0_4 a0_5 l0_6 a0_7 l0_8 l0_9 a1_0 a1_1 l1_2 l1_3 a1_4 a1_5 l1_6 a1_7 l1_8 l1_9) else (if (a0_7 != a1_7) = true then (tableauref15_Same.j0 k true a0_0 a0_1 l0_2 l0_3 a0_4 a0_5 l0_6 a0_7 l0_8 l0_9 a1_0 a1_1 l1_2 l1_3 a1_4 a1_5 l1_6 a1_7 l1_8 l1_9) else (if (l0_2.length : Int) = (l1_2.length : Int) then (if (l0_3.length : Int) = (l1_3.length : Int) then (if (l0_6.length : Int) = (l1_6.length : Int) then (if (l0_8.length : Int) = (l1_8.length : Int) then (tableauref15_Same.j0 k ((l0_9.length : Int) != (l1_9.length : Int)) a0_0 a0_1 l0_2 l0_3 a0_4 a0_5 l0_6 a0_7 l0_8 l0_9 a1_0 a1_1 l1_2 l1_3 a1_4 a1_5 l1_6 a1_7 l1_8 l1_9) else (tableauref15_Same.j0 k true a0_0 a0_1 l0_2 l0_3 a0_4 a0_5 l0_6 a0_7 l0_8 l0_9 a1_0 a1_1 l1_2 l1_3 a1_4 a1_5 l1_6 a1_7 l1_8 l1_9)) else (tableauref15_Same.j0 k true a0_0 a0_1 l0_2 l0_3 a0_4 a0_5 l0_6 a0_7 l0_8 l0_9 a1_0 a1_1 l1_2 l1_3 a1_4 a1_5 l1_6 a1_7 l1_8 l1_9)) else (tableauref15_Same.j0 k true a0_0 a0_1 l0_2 l0_3 a0_4 a0_5 l0_6 a0_7 l0_8 l0_9 a1_0 a1_1 l1_2 l1_3 a1_4 a1_5 l1_6 a1_7 l1_8 l1_9)) else (tableauref15_Same.j0 k true a0_0 a0_1 l0_2 l0_3 a0_4 a0_5 l0_6 a0_7 l0_8 l0_9 a1_0 a1_1 l1_2 l1_3 a1_4 a1_5 l1_6 a1_7 l1_8 l1_9))))) else (tableauref15_Same.j0 k true a0_0 a0_1 l0_2 l0_3 a0_4 a0_5 l0_6 a0_7 l0_8 l0_9 a1_0 a1_1 l1_2 l1_3 a1_4 a1_5 l1_6 a1_7 l1_8 l1_9))) = some r := h
 clear h
 have HC3 := Aside0.mk H
 clear H
 go_enter Try.func23, Try.ntmps23
 go_upto_region 1 with (first | ((with_reducible refine gate_dst (N := 2) rfl ?_); (try (refine gate_guard (by rfl) ?_; dsimp only)); refine box_event ?hg (N := 2) ?hd (cs := #[.bool a0_0, .int .i64 a0_1, .slice A0_2 l0_2.length c0_2, .slice A0_3 l0_3.length c0_3, .bool a0_4, .bool a0_5, .slice A0_6 l0_6.length c0_6, .bool a0_7, .slice A0_8 l0_8.length c0_8, .slice A0_9 l0_9.length c0_9]) (t := 33) ?hr ?_; (case hd => rfl); (case hg => rfl); (case hr => first | (go_simp; done) | (go_simp; rfl)); intro gb213 hg w4 hbox hb; have n0_ := Aside0.mk (below_step (by repeat (first | (with_reducible first | exact HB.out | apply below_alloc | apply pw_below_drewN | apply below_drew1) | exact HB.out)) hb); have n1_ := Aside0.mk (hbox); have n2_ := Aside0.mk ((by rw [hg]; exact (below_size (by repeat (first | (with_reducible first | exact HB.out | apply below_alloc | apply pw_below_drewN | apply below_drew1) | exact HB.out))) : w.heap.size ≤ gb213)); have n3_ := Aside0.mk ((by rw [hg]; exact (below_size (by repeat (first | (with_reducible first | exact HB.out | apply below_alloc | apply pw_below_drewN | apply below_drew1) | exact HB.out))) : w.heap.size ≤ gb213)); clear HB; have HB := n0_; have BK213 := n1_; have GW213 := n2_; have GE213 := n3_; clear n0_ n1_ n2_ n3_; clear hb hbox hg) | ((with_reducible refine gate_dst (N := 3) rfl ?_); (try (refine gate_guard (by rfl) ?_; dsimp only)); refine box_event ?hg (N := 3) ?hd (cs := #[.bool a1_0, .int .i64 a1_1, .slice A1_2 l1_2.length c1_2, .slice A1_3 l1_3.length c1_3, .bool a1_4, .bool a1_5, .slice A1_6 l1_6.length c1_6, .bool a1_7, .slice A1_8 l1_8.length c1_8, .slice A1_9 l1_9.length c1_9]) (t := 33) ?hr ?_; (case hd => rfl); (case hg => rfl); (case hr => first | (go_simp; done) | (go_simp; rfl)); intro gb214 hg w5 hbox hb; have n0_ := Aside0.mk (blk_below (g := gb213) (o := .cells #[.bool a0_0, .int .i64 a0_1, .slice A0_2 l0_2.length c0_2, .slice A0_3 l0_3.length c0_3, .bool a0_4, .bool a0_5, .slice A0_6 l0_6.length c0_6, .bool a0_7, .slice A0_8 l0_8.length c0_8, .slice A0_9 l0_9.length c0_9] 33 (0, 0)) (by (with_reducible repeat (first | refine blk_drewN ?_ _ | refine blk_drew ?_ | refine blk_alloc ?_ _)); exact BK213.out) hb); have n1_ := Aside0.mk (below_step (by repeat (first | (with_reducible first | exact HB.out | apply below_alloc | apply pw_below_drewN | apply below_drew1 | refine below_set ?_ GE213.out) | exact HB.out)) hb); have n2_ := Aside0.mk (hbox); have n3_ := Aside0.mk ((by rw [hg]; exact (below_size (by repeat (first | (with_reducible first | exact HB.out | apply below_alloc | apply pw_below_drewN | apply below_drew1 | refine below_set ?_ GE213.out) | exact HB.out))) : w.heap.size ≤ gb214)); have n4_ := Aside0.mk ((by rw [hg]; exact (below_size (by repeat (first | (with_reducible first | exact HB.out | apply below_alloc | apply pw_below_drewN | apply below_drew1 | refine below_set ?_ GE213.out) | exact HB.out))) : w.heap.size ≤ gb214)); have n5_ := Aside0.mk ((by rw [hg]; exact Nat.ne_of_lt (blk_lt (g := gb213) (o := .cells #[.bool a0_0, .int .i64 a0_1, .slice A0_2 l0_2.length c0_2, .slice A0_3 l0_3.length c0_3, .bool a0_4, .bool a0_5, .slice A0_6 l0_6.length c0_6, .bool a0_7, .slice A0_8 l0_8.length c0_8, .slice A0_9 l0_9.length c0_9] 33 (0, 0)) (by (with_reducible repeat (first | refine blk_drewN ?_ _ | refine blk_drew ?_ | refine blk_alloc ?_ _)); exact BK213.out)) : gb213 ≠ gb214)); have n6_ := Aside0.mk ((by rw [hg]; exact Nat.ne_of_gt (blk_lt (g := gb213) (o := .cells #[.bool a0_0, .int .i64 a0_1, .slice A0_2 l0_2.length c0_2, .slice A0_3 l0_3.length c0_3, .bool a0_4, .bool a0_5, .slice A0_6 l0_6.length c0_6, .bool a0_7, .slice A0_8 l0_8.length c0_8, .slice A0_9 l0_9.length c0_9] 33 (0, 0)) (by (with_reducible repeat (first | refine blk_drewN ?_ _ | refine blk_drew ?_ | refine blk_alloc ?_ _)); exact BK213.out)) : gb214 ≠ gb213)); clear BK213; clear HB; have BK213 := n0_; have HB := n1_; have BK214 := n2_; have GW214 := n3_; have GE214 := n4_; have NB213_214 := n5_; have NB214_213 := n6_; clear n0_ n1_ n2_ n3_ n4_ n5_ n6_; clear hb hbox hg))
 repeat (go_quiet (first | ((with_reducible refine gate_dst (N := 2) rfl ?_); (try (refine gate_guard (by rfl) ?_; dsimp only)); refine box_event ?hg (N := 2) ?hd (cs := #[.bool a0_0, .int .i64 a0_1, .slice A0_2 l0_2.length c0_2, .slice A0_3 l0_3.length c0_3, .bool a0_4, .bool a0_5, .slice A0_6 l0_6.length c0_6, .bool a0_7, .slice A0_8 l0_8.length c0_8, .slice A0_9 l0_9.length c0_9]) (t := 33) ?hr ?_; (case hd => rfl); (case hg => rfl); (case hr => first | (go_simp; done) | (go_simp; rfl)); intro gb213 hg w4 hbox hb; have n0_ := Aside0.mk (below_step (by repeat (first | (with_reducible first | exact HB.out | apply below_alloc | apply pw_below_drewN | apply below_drew1) | exact HB.out)) hb); have n1_ := Aside0.mk (hbox); have n2_ := Aside0.mk ((by rw [hg]; exact (below_size (by repeat (first | (with_reducible first | exact HB.out | apply below_alloc | apply pw_below_drewN | apply below_drew1) | exact HB.out))) : w.heap.size ≤ gb213)); have n3_ := Aside0.mk ((by rw [hg]; exact (below_size (by repeat (first | (with_reducible first | exact HB.out | apply below_alloc | apply pw_below_drewN | apply below_drew1) | exact HB.out))) : w.heap.size ≤ gb213)); clear HB; have HB := n0_; have BK213 := n1_; have GW213 := n2_; have GE213 := n3_; clear n0_ n1_ n2_ n3_; clear hb hbox hg) | ((with_reducible refine gate_dst (N := 3) rfl ?_); (try (refine gate_guard (by rfl) ?_; dsimp only)); refine box_event ?hg (N := 3) ?hd (cs := #[.bool a1_0, .int .i64 a1_1, .slice A1_2 l1_2.length c1_2, .slice A1_3 l1_3.length c1_3, .bool a1_4, .bool a1_5, .slice A1_6 l1_6.length c1_6, .bool a1_7, .slice A1_8 l1_8.length c1_8, .slice A1_9 l1_9.length c1_9]) (t := 33) ?hr ?_; (case hd => rfl); (case hg => rfl); (case hr => first | (go_simp; done) | (go_simp; rfl)); intro gb214 hg w5 hbox hb; have n0_ := Aside0.mk (blk_below (g := gb213) (o := .cells #[.bool a0_0, .int .i64 a0_1, .slice A0_2 l0_2.length c0_2, .slice A0_3 l0_3.length c0_3, .bool a0_4, .bool a0_5, .slice A0_6 l0_6.length c0_6, .bool a0_7, .slice A0_8 l0_8.length c0_8, .slice A0_9 l0_9.length c0_9] 33 (0, 0)) (by (with_reducible repeat (first | refine blk_drewN ?_ _ | refine blk_drew ?_ | refine blk_alloc ?_ _)); exact BK213.out) hb); have n1_ := Aside0.mk (below_step (by repeat (first | (with_reducible first | exact HB.out | apply below_alloc | apply pw_below_drewN | apply below_drew1 | refine below_set ?_ GE213.out) | exact HB.out)) hb); have n2_ := Aside0.mk (hbox); have n3_ := Aside0.mk ((by rw [hg]; exact (below_size (by repeat (first | (with_reducible first | exact HB.out | apply below_alloc | apply pw_below_drewN | apply below_drew1 | refine below_set ?_ GE213.out) | exact HB.out))) : w.heap.size ≤ gb214)); have n4_ := Aside0.mk ((by rw [hg]; exact (below_size (by repeat (first | (with_reducible first | exact HB.out | apply below_alloc | apply pw_below_drewN | apply below_drew1 | refine below_set ?_ GE213.out) | exact HB.out))) : w.heap.size ≤ gb214)); have n5_ := Aside0.mk ((by rw [hg]; exact Nat.ne_of_lt (blk_lt (g := gb213) (o := .cells #[.bool a0_0, .int .i64 a0_1, .slice A0_2 l0_2.length c0_2, .slice A0_3 l0_3.length c0_3, .bool a0_4, .bool a0_5, .slice A0_6 l0_6.length c0_6, .bool a0_7, .slice A0_8 l0_8.length c0_8, .slice A0_9 l0_9.length c0_9] 33 (0, 0)) (by (with_reducible repeat (first | refine blk_drewN ?_ _ | refine blk_drew ?_ | refine blk_alloc ?_ _)); exact BK213.out)) : gb213 ≠ gb214)); have n6_ := Aside0.mk ((by rw [hg]; exact Nat.ne_of_gt (blk_lt (g := gb213) (o := .cells #[.bool a0_0, .int .i64 a0_1, .slice A0_2 l0_2.length c0_2, .slice A0_3 l0_3.length c0_3, .bool a0_4, .bool a0_5, .slice A0_6 l0_6.length c0_6, .bool a0_7, .slice A0_8 l0_8.length c0_8, .slice A0_9 l0_9.length c0_9] 33 (0, 0)) (by (with_reducible repeat (first | refine blk_drewN ?_ _ | refine blk_drew ?_ | refine blk_alloc ?_ _)); exact BK213.out)) : gb214 ≠ gb213)); clear BK213; clear HB; have BK213 := n0_; have HB := n1_; have BK214 := n2_; have GW214 := n3_; have GE214 := n4_; have NB213_214 := n5_; have NB214_213 := n6_; clear n0_ n1_ n2_ n3_ n4_ n5_ n6_; clear hb hbox hg)); go_upto_region 1 with (first | ((with_reducible refine gate_dst (N := 2) rfl ?_); (try (refine gate_guard (by rfl) ?_; dsimp only)); refine box_event ?hg (N := 2) ?hd (cs := #[.bool a0_0, .int .i64 a0_1, .slice A0_2 l0_2.length c0_2, .slice A0_3 l0_3.length c0_3, .bool a0_4, .bool a0_5, .slice A0_6 l0_6.length c0_6, .bool a0_7, .slice A0_8 l0_8.length c0_8, .slice A0_9 l0_9.length c0_9]) (t := 33) ?hr ?_; (case hd => rfl); (case hg => rfl); (case hr => first | (go_simp; done) | (go_simp; rfl)); intro gb213 hg w4 hbox hb; have n0_ := Aside0.mk (below_step (by repeat (first | (with_reducible first | exact HB.out | apply below_alloc | apply pw_below_drewN | apply below_drew1) | exact HB.out)) hb); have n1_ := Aside0.mk (hbox); have n2_ := Aside0.mk ((by rw [hg]; exact (below_size (by repeat (first | (with_reducible first | exact HB.out | apply below_alloc | apply pw_below_drewN | apply below_drew1) | exact HB.out))) : w.heap.size ≤ gb213)); have n3_ := Aside0.mk ((by rw [hg]; exact (below_size (by repeat (first | (with_reducible first | exact HB.out | apply below_alloc | apply pw_below_drewN | apply below_drew1) | exact HB.out))) : w.heap.size ≤ gb213)); clear HB; have HB := n0_; have BK213 := n1_; have GW213 := n2_; have GE213 := n3_; clear n0_ n1_ n2_ n3_; clear hb hbox hg) | ((with_reducible refine gate_dst (N := 3) rfl ?_); (try (refine gate_guard (by rfl) ?_; dsimp only)); refine box_event ?hg (N := 3) ?hd (cs := #[.bool a1_0, .int .i64 a1_1, .slice A1_2 l1_2.length c1_2, .slice A1_3 l1_3.length c1_3, .bool a1_4, .bool a1_5, .slice A1_6 l1_6.length c1_6, .bool a1_7, .slice A1_8 l1_8.length c1_8, .slice A1_9 l1_9.length c1_9]) (t := 33) ?hr ?_; (case hd => rfl); (case hg => rfl); (case hr => first | (go_simp; done) | (go_simp; rfl)); intro gb214 hg w5 hbox hb; have n0_ := Aside0.mk (blk_below (g := gb213) (o := .cells #[.bool a0_0, .int .i64 a0_1, .slice A0_2 l0_2.length c0_2, .slice A0_3 l0_3.length c0_3, .bool a0_4, .bool a0_5, .slice A0_6 l0_6.length c0_6, .bool a0_7, .slice A0_8 l0_8.length c0_8, .slice A0_9 l0_9.length c0_9] 33 (0, 0)) (by (with_reducible repeat (first | refine blk_drewN ?_ _ | refine blk_drew ?_ | refine blk_alloc ?_ _)); exact BK213.out) hb); have n1_ := Aside0.mk (below_step (by repeat (first | (with_reducible first | exact HB.out | apply below_alloc | apply pw_below_drewN | apply below_drew1 | refine below_set ?_ GE213.out) | exact HB.out)) hb); have n2_ := Aside0.mk (hbox); have n3_ := Aside0.mk ((by rw [hg]; exact (below_size (by repeat (first | (with_reducible first | exact HB.out | apply below_alloc | apply pw_below_drewN | apply below_drew1 | refine below_set ?_ GE213.out) | exact HB.out))) : w.heap.size ≤ gb214)); have n4_ := Aside0.mk ((by rw [hg]; exact (below_size (by repeat (first | (with_reducible first | exact HB.out | apply below_alloc | apply pw_below_drewN | apply below_drew1 | refine below_set ?_ GE213.out) | exact HB.out))) : w.heap.size ≤ gb214)); have n5_ := Aside0.mk ((by rw [hg]; exact Nat.ne_of_lt (blk_lt (g := gb213) (o := .cells #[.bool a0_0, .int .i64 a0_1, .slice A0_2 l0_2.length c0_2, .slice A0_3 l0_3.length c0_3, .bool a0_4, .bool a0_5, .slice A0_6 l0_6.length c0_6, .bool a0_7, .slice A0_8 l0_8.length c0_8, .slice A0_9 l0_9.length c0_9] 33 (0, 0)) (by (with_reducible repeat (first | refine blk_drewN ?_ _ | refine blk_drew ?_ | refine blk_alloc ?_ _)); exact BK213.out)) : gb213 ≠ gb214)); have n6_ := Aside0.mk ((by rw [hg]; exact Nat.ne_of_gt (blk_lt (g := gb213) (o := .cells #[.bool a0_0, .int .i64 a0_1, .slice A0_2 l0_2.length c0_2, .slice A0_3 l0_3.length c0_3, .bool a0_4, .bool a0_5, .slice A0_6 l0_6.length c0_6, .bool a0_7, .slice A0_8 l0_8.length c0_8, .slice A0_9 l0_9.length c0_9] 33 (0, 0)) (by (with_reducible repeat (first | refine blk_drewN ?_ _ | refine blk_drew ?_ | refine blk_alloc ?_ _)); exact BK213.out)) : gb214 ≠ gb213)); clear BK213; clear HB; have BK213 := n0_; have HB := n1_; have BK214 := n2_; have GW214 := n3_; have GE214 := n4_; have NB213_214 := n5_; have NB214_213 := n6_; clear n0_ n1_ n2_ n3_ n4_ n5_ n6_; clear hb hbox hg)))
 (try simp only [Act.put, List.setIfInBounds_toArray, List.set_cons_zero, List.set_cons_succ])
 go_cut [88] (fun v88 wc => ∃ (kq : Nat) (x88_2 : Bool), v88 = .bool x88_2 ∧ Aside0 (tableauref15_Same.j0 kq x88_2 a0_0 a0_1 l0_2 l0_3 a0_4 a0_5 l0_6 a0_7 l0_8 l0_9 a1_0 a1_1 l1_2 l1_3 a1_4 a1_5 l1_6 a1_7 l1_8 l1_9 = some r) ∧ Aside0 (kq ≤ k) ∧ Aside0 (wc.heap[gb213]? = some (.cells #[.bool a0_0, .int .i64 a0_1, (.slice A0_2 l0_2.length c0_2), (.slice A0_3 l0_3.length c0_3), .bool a0_4, .bool a0_5, (.slice A0_6 l0_6.length c0_6), .bool a0_7, (.slice A0_8 l0_8.length c0_8), (.slice A0_9 l0_9.length c0_9)] 33 (0, 0))) ∧ Aside0 (wc.heap[gb214]? = some (.cells #[.bool a1_0, .int .i64 a1_1, (.slice A1_2 l1_2.length c1_2), (.slice A1_3 l1_3.length c1_3), .bool a1_4, .bool a1_5, (.slice A1_6 l1_6.length c1_6), .bool a1_7, (.slice A1_8 l1_8.length c1_8), (.slice A1_9 l1_9.length c1_9)] 33 (0, 0))) ∧ Aside0 (Below w.heap.size w wc))
 case first =>
  have H := HC3.out
  clear HC3
  by_cases c6 : (a0_0 != a1_0) = true
  · rw [if_pos c6] at H
    have c6b0 : (a0_0 != a1_0) = true := c6
    (try (have c6b1 : decide (a0_0 = a1_0) = false := by simpa using c6))
    (try (have c6b2 : (a0_0 == a1_0) = false := by simpa using c6))
    (try (have c6b3 : ¬ (a0_0 = a1_0) := by simpa using c6))
    clear c6
    (first | rw [c6b0] | (simp only [i64_w, i32_w]; rw [c6b0]) | skip)
    have H' := Aside0.mk H
    clear H
    have hnb7 := NB213_214.out
    have hnc7 := NB214_213.out
    have hcz8_0 : w5.cell? ⟨gb213, 0, none⟩ = some (.bool a0_0) := (blk_cell BK213.out 0).trans rfl
    have hcz8_1 : w5.cell? ⟨gb213, 1, none⟩ = some (.int .i64 a0_1) := (blk_cell BK213.out 1).trans rfl
    have hcz8_2 : w5.cell? ⟨gb213, 2, none⟩ = some (.slice A0_2 l0_2.length c0_2) := (blk_cell BK213.out 2).trans rfl
    have hcz8_3 : w5.cell? ⟨gb213, 3, none⟩ = some (.slice A0_3 l0_3.length c0_3) := (blk_cell BK213.out 3).trans rfl
    have hcz8_4 : w5.cell? ⟨gb213, 4, none⟩ = some (.bool a0_4) := (blk_cell BK213.out 4).trans rfl
    have hcz8_5 : w5.cell? ⟨gb213, 5, none⟩ = some (.bool a0_5) := (blk_cell BK213.out 5).trans rfl
    have hcz8_6 : w5.cell? ⟨gb213, 6, none⟩ = some (.slice A0_6 l0_6.length c0_6) := (blk_cell BK213.out 6).trans rfl
    have hcz8_7 : w5.cell? ⟨gb213, 7, none⟩ = some (.bool a0_7) := (blk_cell BK213.out 7).trans rfl
    have hcz8_8 : w5.cell? ⟨gb213, 8, none⟩ = some (.slice A0_8 l0_8.length c0_8) := (blk_cell BK213.out 8).trans rfl
    have hcz8_9 : w5.cell? ⟨gb213, 9, none⟩ = some (.slice A0_9 l0_9.length c0_9) := (blk_cell BK213.out 9).trans rfl
    have hfz8_0 := blk_frozen BK213.out 0
    have hfz8_1 := blk_frozen BK213.out 1
    have hfz8_2 := blk_frozen BK213.out 2
    have hfz8_3 := blk_frozen BK213.out 3
    have hfz8_4 := blk_frozen BK213.out 4
    have hfz8_5 := blk_frozen BK213.out 5
    have hfz8_6 := blk_frozen BK213.out 6
    have hfz8_7 := blk_frozen BK213.out 7
    have hfz8_8 := blk_frozen BK213.out 8
    have hfz8_9 := blk_frozen BK213.out 9
    have hcz9_0 : w5.cell? ⟨gb214, 0, none⟩ = some (.bool a1_0) := (blk_cell BK214.out 0).trans rfl
    have hcz9_1 : w5.cell? ⟨gb214, 1, none⟩ = some (.int .i64 a1_1) := (blk_cell BK214.out 1).trans rfl
    have hcz9_2 : w5.cell? ⟨gb214, 2, none⟩ = some (.slice A1_2 l1_2.length c1_2) := (blk_cell BK214.out 2).trans rfl
    have hcz9_3 : w5.cell? ⟨gb214, 3, none⟩ = some (.slice A1_3 l1_3.length c1_3) := (blk_cell BK214.out 3).trans rfl
    have hcz9_4 : w5.cell? ⟨gb214, 4, none⟩ = some (.bool a1_4) := (blk_cell BK214.out 4).trans rfl
    have hcz9_5 : w5.cell? ⟨gb214, 5, none⟩ = some (.bool a1_5) := (blk_cell BK214.out 5).trans rfl
    have hcz9_6 : w5.cell? ⟨gb214, 6, none⟩ = some (.slice A1_6 l1_6.length c1_6) := (blk_cell BK214.out 6).trans rfl
    have hcz9_7 : w5.cell? ⟨gb214, 7, none⟩ = some (.bool a1_7) := (blk_cell BK214.out 7).trans rfl
    have hcz9_8 : w5.cell? ⟨gb214, 8, none⟩ = some (.slice A1_8 l1_8.length c1_8) := (blk_cell BK214.out 8).trans rfl
    have hcz9_9 : w5.cell? ⟨gb214, 9, none⟩ = some (.slice A1_9 l1_9.length c1_9) := (blk_cell BK214.out 9).trans rfl
    have hfz9_0 := blk_frozen BK214.out 0
    have hfz9_1 := blk_frozen BK214.out 1
    have hfz9_2 := blk_frozen BK214.out 2
    have hfz9_3 := blk_frozen BK214.out 3
    have hfz9_4 := blk_frozen BK214.out 4
    have hfz9_5 := blk_frozen BK214.out 5
    have hfz9_6 := blk_frozen BK214.out 6
    have hfz9_7 := blk_frozen BK214.out 7
    have hfz9_8 := blk_frozen BK214.out 8
    have hfz9_9 := blk_frozen BK214.out 9
    go_wp2
    repeat (go_quiet (fail); try go_wp2)
    go_meet
    case rel => exact ⟨_, (true), (by first | rfl | (simp; done) | (simp [*]; done)), H', ⟨by first | omega | exact Nat.le_refl _⟩, ⟨by (with_reducible repeat (first | refine blk_drewN ?_ _ | refine blk_drew ?_ | refine blk_alloc ?_ _)); exact BK213.out⟩, ⟨by (with_reducible repeat (first | refine blk_drewN ?_ _ | refine blk_drew ?_ | refine blk_alloc ?_ _)); exact BK214.out⟩, ⟨by repeat (first | (with_reducible first | exact HB.out | apply below_alloc | apply pw_below_drewN | apply below_drew1 | refine below_set ?_ GE213.out | refine below_set ?_ GE214.out) | exact HB.out)⟩⟩
  · rw [if_neg c6] at H
    have c6b0 : (a0_0 != a1_0) = false := by simpa using c6
    (try (have c6b1 : decide (a0_0 = a1_0) = true := by simpa using c6))
    (try (have c6b2 : (a0_0 == a1_0) = true := by simpa using c6))
    clear c6
    (first | rw [c6b0] | (simp only [i64_w, i32_w]; rw [c6b0]) | skip)
    by_cases c10 : a0_1 = a1_1
    · rw [if_pos c10] at H
      have c10b0 : (a0_1 == a1_1) = true := beq_iff_eq.mpr c10
      have c10b1 : (a0_1 != a1_1) = false := bne_eq_false_iff_eq.mpr c10
      clear c10
      by_cases c11 : (a0_4 != a1_4) = true
      · rw [if_pos c11] at H
        have c11b0 : (a0_4 != a1_4) = true := c11
        (try (have c11b1 : decide (a0_4 = a1_4) = false := by simpa using c11))
        (try (have c11b2 : (a0_4 == a1_4) = false := by simpa using c11))
        (try (have c11b3 : ¬ (a0_4 = a1_4) := by simpa using c11))
        clear c11
        have H' := Aside0.mk H
        clear H
        have hnb12 := NB213_214.out
        have hnc12 := NB214_213.out
        have hcz13_0 : w5.cell? ⟨gb213, 0, none⟩ = some (.bool a0_0) := (blk_cell BK213.out 0).trans rfl
        have hcz13_1 : w5.cell? ⟨gb213, 1, none⟩ = some (.int .i64 a0_1) := (blk_cell BK213.out 1).trans rfl
        have hcz13_2 : w5.cell? ⟨gb213, 2, none⟩ = some (.slice A0_2 l0_2.length c0_2) := (blk_cell BK213.out 2).trans rfl
        have hcz13_3 : w5.cell? ⟨gb213, 3, none⟩ = some (.slice A0_3 l0_3.length c0_3) := (blk_cell BK213.out 3).trans rfl
        have hcz13_4 : w5.cell? ⟨gb213, 4, none⟩ = some (.bool a0_4) := (blk_cell BK213.out 4).trans rfl
        have hcz13_5 : w5.cell? ⟨gb213, 5, none⟩ = some (.bool a0_5) := (blk_cell BK213.out 5).trans rfl
        have hcz13_6 : w5.cell? ⟨gb213, 6, none⟩ = some (.slice A0_6 l0_6.length c0_6) := (blk_cell BK213.out 6).trans rfl
        have hcz13_7 : w5.cell? ⟨gb213, 7, none⟩ = some (.bool a0_7) := (blk_cell BK213.out 7).trans rfl
        have hcz13_8 : w5.cell? ⟨gb213, 8, none⟩ = some (.slice A0_8 l0_8.length c0_8) := (blk_cell BK213.out 8).trans rfl
        have hcz13_9 : w5.cell? ⟨gb213, 9, none⟩ = some (.slice A0_9 l0_9.length c0_9) := (blk_cell BK213.out 9).trans rfl
        have hfz13_0 := blk_frozen BK213.out 0
        have hfz13_1 := blk_frozen BK213.out 1
        have hfz13_2 := blk_frozen BK213.out 2
        have hfz13_3 := blk_frozen BK213.out 3
        have hfz13_4 := blk_frozen BK213.out 4
        have hfz13_5 := blk_frozen BK213.out 5
        have hfz13_6 := blk_frozen BK213.out 6
        have hfz13_7 := blk_frozen BK213.out 7
        have hfz13_8 := blk_frozen BK213.out 8
        have hfz13_9 := blk_frozen BK213.out 9
        have hcz14_0 : w5.cell? ⟨gb214, 0, none⟩ = some (.bool a1_0) := (blk_cell BK214.out 0).trans rfl
        have hcz14_1 : w5.cell? ⟨gb214, 1, none⟩ = some (.int .i64 a1_1) := (blk_cell BK214.out 1).trans rfl
        have hcz14_2 : w5.cell? ⟨gb214, 2, none⟩ = some (.slice A1_2 l1_2.length c1_2) := (blk_cell BK214.out 2).trans rfl
        have hcz14_3 : w5.cell? ⟨gb214, 3, none⟩ = some (.slice A1_3 l1_3.length c1_3) := (blk_cell BK214.out 3).trans rfl
        have hcz14_4 : w5.cell? ⟨gb214, 4, none⟩ = some (.bool a1_4) := (blk_cell BK214.out 4).trans rfl
        have hcz14_5 : w5.cell? ⟨gb214, 5, none⟩ = some (.bool a1_5) := (blk_cell BK214.out 5).trans rfl
        have hcz14_6 : w5.cell? ⟨gb214, 6, none⟩ = some (.slice A1_6 l1_6.length c1_6) := (blk_cell BK214.out 6).trans rfl
        have hcz14_7 : w5.cell? ⟨gb214, 7, none⟩ = some (.bool a1_7) := (blk_cell BK214.out 7).trans rfl
        have hcz14_8 : w5.cell? ⟨gb214, 8, none⟩ = some (.slice A1_8 l1_8.length c1_8) := (blk_cell BK214.out 8).trans rfl
        have hcz14_9 : w5.cell? ⟨gb214, 9, none⟩ = some (.slice A1_9 l1_9.length c1_9) := (blk_cell BK214.out 9).trans rfl
        have hfz14_0 := blk_frozen BK214.out 0
        have hfz14_1 := blk_frozen BK214.out 1
        have hfz14_2 := blk_frozen BK214.out 2
        have hfz14_3 := blk_frozen BK214.out 3
        have hfz14_4 := blk_frozen BK214.out 4
        have hfz14_5 := blk_frozen BK214.out 5
        have hfz14_6 := blk_frozen BK214.out 6
        have hfz14_7 := blk_frozen BK214.out 7
        have hfz14_8 := blk_frozen BK214.out 8
        have hfz14_9 := blk_frozen BK214.out 9
        go_wp2
        repeat (go_quiet (fail); try go_wp2)
        go_meet
        case rel => exact ⟨_, (true), (by first | rfl | (simp; done) | (simp [*]; done)), H', ⟨by first | omega | exact Nat.le_refl _⟩, ⟨by (with_reducible repeat (first | refine blk_drewN ?_ _ | refine blk_drew ?_ | refine blk_alloc ?_ _)); exact BK213.out⟩, ⟨by (with_reducible repeat (first | refine blk_drewN ?_ _ | refine blk_drew ?_ | refine blk_alloc ?_ _)); exact BK214.out⟩, ⟨by repeat (first | (with_reducible first | exact HB.out | apply below_alloc | apply pw_below_drewN | apply below_drew1 | refine below_set ?_ GE213.out | refine below_set ?_ GE214.out) | exact HB.out)⟩⟩
      · rw [if_neg c11] at H
        have c11b0 : (a0_4 != a1_4) = false := by simpa using c11
        (try (have c11b1 : decide (a0_4 = a1_4) = true := by simpa using c11))
        (try (have c11b2 : (a0_4 == a1_4) = true := by simpa using c11))
        clear c11
        by_cases c15 : (a0_5 != a1_5) = true
        · rw [if_pos c15] at H
          have c15b0 : (a0_5 != a1_5) = true := c15
          (try (have c15b1 : decide (a0_5 = a1_5) = false := by simpa using c15))
          (try (have c15b2 : (a0_5 == a1_5) = false := by simpa using c15))
          (try (have c15b3 : ¬ (a0_5 = a1_5) := by simpa using c15))
          clear c15
          have H' := Aside0.mk H
          clear H
          have hnb16 := NB213_214.out
          have hnc16 := NB214_213.out
          have hcz17_0 : w5.cell? ⟨gb213, 0, none⟩ = some (.bool a0_0) := (blk_cell BK213.out 0).trans rfl
          have hcz17_1 : w5.cell? ⟨gb213, 1, none⟩ = some (.int .i64 a0_1) := (blk_cell BK213.out 1).trans rfl
          have hcz17_2 : w5.cell? ⟨gb213, 2, none⟩ = some (.slice A0_2 l0_2.length c0_2) := (blk_cell BK213.out 2).trans rfl
          have hcz17_3 : w5.cell? ⟨gb213, 3, none⟩ = some (.slice A0_3 l0_3.length c0_3) := (blk_cell BK213.out 3).trans rfl
          have hcz17_4 : w5.cell? ⟨gb213, 4, none⟩ = some (.bool a0_4) := (blk_cell BK213.out 4).trans rfl
          have hcz17_5 : w5.cell? ⟨gb213, 5, none⟩ = some (.bool a0_5) := (blk_cell BK213.out 5).trans rfl
          have hcz17_6 : w5.cell? ⟨gb213, 6, none⟩ = some (.slice A0_6 l0_6.length c0_6) := (blk_cell BK213.out 6).trans rfl
          have hcz17_7 : w5.cell? ⟨gb213, 7, none⟩ = some (.bool a0_7) := (blk_cell BK213.out 7).trans rfl
          have hcz17_8 : w5.cell? ⟨gb213, 8, none⟩ = some (.slice A0_8 l0_8.length c0_8) := (blk_cell BK213.out 8).trans rfl
          have hcz17_9 : w5.cell? ⟨gb213, 9, none⟩ = some (.slice A0_9 l0_9.length c0_9) := (blk_cell BK213.out 9).trans rfl
          have hfz17_0 := blk_frozen BK213.out 0
          have hfz17_1 := blk_frozen BK213.out 1
          have hfz17_2 := blk_frozen BK213.out 2
          have hfz17_3 := blk_frozen BK213.out 3
          have hfz17_4 := blk_frozen BK213.out 4
          have hfz17_5 := blk_frozen BK213.out 5
          have hfz17_6 := blk_frozen BK213.out 6
          have hfz17_7 := blk_frozen BK213.out 7
          have hfz17_8 := blk_frozen BK213.out 8
          have hfz17_9 := blk_frozen BK213.out 9
          have hcz18_0 : w5.cell? ⟨gb214, 0, none⟩ = some (.bool a1_0) := (blk_cell BK214.out 0).trans rfl
          have hcz18_1 : w5.cell? ⟨gb214, 1, none⟩ = some (.int .i64 a1_1) := (blk_cell BK214.out 1).trans rfl
          have hcz18_2 : w5.cell? ⟨gb214, 2, none⟩ = some (.slice A1_2 l1_2.length c1_2) := (blk_cell BK214.out 2).trans rfl
          have hcz18_3 : w5.cell? ⟨gb214, 3, none⟩ = some (.slice A1_3 l1_3.length c1_3) := (blk_cell BK214.out 3).trans rfl
          have hcz18_4 : w5.cell? ⟨gb214, 4, none⟩ = some (.bool a1_4) := (blk_cell BK214.out 4).trans rfl
          have hcz18_5 : w5.cell? ⟨gb214, 5, none⟩ = some (.bool a1_5) := (blk_cell BK214.out 5).trans rfl
          have hcz18_6 : w5.cell? ⟨gb214, 6, none⟩ = some (.slice A1_6 l1_6.length c1_6) := (blk_cell BK214.out 6).trans rfl
          have hcz18_7 : w5.cell? ⟨gb214, 7, none⟩ = some (.bool a1_7) := (blk_cell BK214.out 7).trans rfl
          have hcz18_8 : w5.cell? ⟨gb214, 8, none⟩ = some (.slice A1_8 l1_8.length c1_8) := (blk_cell BK214.out 8).trans rfl
          have hcz18_9 : w5.cell? ⟨gb214, 9, none⟩ = some (.slice A1_9 l1_9.length c1_9) := (blk_cell BK214.out 9).trans rfl
          have hfz18_0 := blk_frozen BK214.out 0
          have hfz18_1 := blk_frozen BK214.out 1
          have hfz18_2 := blk_frozen BK214.out 2
          have hfz18_3 := blk_frozen BK214.out 3
          have hfz18_4 := blk_frozen BK214.out 4
          have hfz18_5 := blk_frozen BK214.out 5
          have hfz18_6 := blk_frozen BK214.out 6
          have hfz18_7 := blk_frozen BK214.out 7
          have hfz18_8 := blk_frozen BK214.out 8
          have hfz18_9 := blk_frozen BK214.out 9
          go_wp2
          repeat (go_quiet (fail); try go_wp2)
          go_meet
          case rel => exact ⟨_, (true), (by first | rfl | (simp; done) | (simp [*]; done)), H', ⟨by first | omega | exact Nat.le_refl _⟩, ⟨by (with_reducible repeat (first | refine blk_drewN ?_ _ | refine blk_drew ?_ | refine blk_alloc ?_ _)); exact BK213.out⟩, ⟨by (with_reducible repeat (first | refine blk_drewN ?_ _ | refine blk_drew ?_ | refine blk_alloc ?_ _)); exact BK214.out⟩, ⟨by repeat (first | (with_reducible first | exact HB.out | apply below_alloc | apply pw_below_drewN | apply below_drew1 | refine below_set ?_ GE213.out | refine below_set ?_ GE214.out) | exact HB.out)⟩⟩
        · rw [if_neg c15] at H
          have c15b0 : (a0_5 != a1_5) = false := by simpa using c15
          (try (have c15b1 : decide (a0_5 = a1_5) = true := by simpa using c15))
          (try (have c15b2 : (a0_5 == a1_5) = true := by simpa using c15))
          clear c15
          by_cases c19 : (a0_7 != a1_7) = true
          · rw [if_pos c19] at H
            have c19b0 : (a0_7 != a1_7) = true := c19
            (try (have c19b1 : decide (a0_7 = a1_7) = false := by simpa using c19))
            (try (have c19b2 : (a0_7 == a1_7) = false := by simpa using c19))
            (try (have c19b3 : ¬ (a0_7 = a1_7) := by simpa using c19))
            clear c19
            have H' := Aside0.mk H
            clear H
            have hnb20 := NB213_214.out
            have hnc20 := NB214_213.out
            have hcz21_0 : w5.cell? ⟨gb213, 0, none⟩ = some (.bool a0_0) := (blk_cell BK213.out 0).trans rfl
            have hcz21_1 : w5.cell? ⟨gb213, 1, none⟩ = some (.int .i64 a0_1) := (blk_cell BK213.out 1).trans rfl
            have hcz21_2 : w5.cell? ⟨gb213, 2, none⟩ = some (.slice A0_2 l0_2.length c0_2) := (blk_cell BK213.out 2).trans rfl
            have hcz21_3 : w5.cell? ⟨gb213, 3, none⟩ = some (.slice A0_3 l0_3.length c0_3) := (blk_cell BK213.out 3).trans rfl
            have hcz21_4 : w5.cell? ⟨gb213, 4, none⟩ = some (.bool a0_4) := (blk_cell BK213.out 4).trans rfl
            have hcz21_5 : w5.cell? ⟨gb213, 5, none⟩ = some (.bool a0_5) := (blk_cell BK213.out 5).trans rfl
            have hcz21_6 : w5.cell? ⟨gb213, 6, none⟩ = some (.slice A0_6 l0_6.length c0_6) := (blk_cell BK213.out 6).trans rfl
            have hcz21_7 : w5.cell? ⟨gb213, 7, none⟩ = some (.bool a0_7) := (blk_cell BK213.out 7).trans rfl
            have hcz21_8 : w5.cell? ⟨gb213, 8, none⟩ = some (.slice A0_8 l0_8.length c0_8) := (blk_cell BK213.out 8).trans rfl
            have hcz21_9 : w5.cell? ⟨gb213, 9, none⟩ = some (.slice A0_9 l0_9.length c0_9) := (blk_cell BK213.out 9).trans rfl
            have hfz21_0 := blk_frozen BK213.out 0
            have hfz21_1 := blk_frozen BK213.out 1
            have hfz21_2 := blk_frozen BK213.out 2
            have hfz21_3 := blk_frozen BK213.out 3
            have hfz21_4 := blk_frozen BK213.out 4
            have hfz21_5 := blk_frozen BK213.out 5
            have hfz21_6 := blk_frozen BK213.out 6
            have hfz21_7 := blk_frozen BK213.out 7
            have hfz21_8 := blk_frozen BK213.out 8
            have hfz21_9 := blk_frozen BK213.out 9
            have hcz22_0 : w5.cell? ⟨gb214, 0, none⟩ = some (.bool a1_0) := (blk_cell BK214.out 0).trans rfl
            have hcz22_1 : w5.cell? ⟨gb214, 1, none⟩ = some (.int .i64 a1_1) := (blk_cell BK214.out 1).trans rfl
            have hcz22_2 : w5.cell? ⟨gb214, 2, none⟩ = some (.slice A1_2 l1_2.length c1_2) := (blk_cell BK214.out 2).trans rfl
            have hcz22_3 : w5.cell? ⟨gb214, 3, none⟩ = some (.slice A1_3 l1_3.length c1_3) := (blk_cell BK214.out 3).trans rfl
            have hcz22_4 : w5.cell? ⟨gb214, 4, none⟩ = some (.bool a1_4) := (blk_cell BK214.out 4).trans rfl
            have hcz22_5 : w5.cell? ⟨gb214, 5, none⟩ = some (.bool a1_5) := (blk_cell BK214.out 5).trans rfl
            have hcz22_6 : w5.cell? ⟨gb214, 6, none⟩ = some (.slice A1_6 l1_6.length c1_6) := (blk_cell BK214.out 6).trans rfl
            have hcz22_7 : w5.cell? ⟨gb214, 7, none⟩ = some (.bool a1_7) := (blk_cell BK214.out 7).trans rfl
            have hcz22_8 : w5.cell? ⟨gb214, 8, none⟩ = some (.slice A1_8 l1_8.length c1_8) := (blk_cell BK214.out 8).trans rfl
            have hcz22_9 : w5.cell? ⟨gb214, 9, none⟩ = some (.slice A1_9 l1_9.length c1_9) := (blk_cell BK214.out 9).trans rfl
            have hfz22_0 := blk_frozen BK214.out 0
            have hfz22_1 := blk_frozen BK214.out 1
            have hfz22_2 := blk_frozen BK214.out 2
            have hfz22_3 := blk_frozen BK214.out 3
            have hfz22_4 := blk_frozen BK214.out 4
            have hfz22_5 := blk_frozen BK214.out 5
            have hfz22_6 := blk_frozen BK214.out 6
            have hfz22_7 := blk_frozen BK214.out 7
            have hfz22_8 := blk_frozen BK214.out 8
            have hfz22_9 := blk_frozen BK214.out 9
            go_wp2
            repeat (go_quiet (fail); try go_wp2)
            go_meet
            case rel => exact ⟨_, (true), (by first | rfl | (simp; done) | (simp [*]; done)), H', ⟨by first | omega | exact Nat.le_refl _⟩, ⟨by (with_reducible repeat (first | refine blk_drewN ?_ _ | refine blk_drew ?_ | refine blk_alloc ?_ _)); exact BK213.out⟩, ⟨by (with_reducible repeat (first | refine blk_drewN ?_ _ | refine blk_drew ?_ | refine blk_alloc ?_ _)); exact BK214.out⟩, ⟨by repeat (first | (with_reducible first | exact HB.out | apply below_alloc | apply pw_below_drewN | apply below_drew1 | refine below_set ?_ GE213.out | refine below_set ?_ GE214.out) | exact HB.out)⟩⟩
          · rw [if_neg c19] at H
            have c19b0 : (a0_7 != a1_7) = false := by simpa using c19
            (try (have c19b1 : decide (a0_7 = a1_7) = true := by simpa using c19))
            (try (have c19b2 : (a0_7 == a1_7) = true := by simpa using c19))
            clear c19
            by_cases c23 : (l0_2.length : Int) = (l1_2.length : Int)
            · rw [if_pos c23] at H
              have c23b0 : ((l0_2.length : Int) == (l1_2.length : Int)) = true := beq_iff_eq.mpr c23
              have c23b1 : ((l0_2.length : Int) != (l1_2.length : Int)) = false := bne_eq_false_iff_eq.mpr c23
              have c23b2 : (l0_2.length == l1_2.length) = true := by first | simpa using c23 | (simp at c23 ⊢; omega)
              clear c23
              by_cases c24 : (l0_3.length : Int) = (l1_3.length : Int)
              · rw [if_pos c24] at H
                have c24b0 : ((l0_3.length : Int) == (l1_3.length : Int)) = true := beq_iff_eq.mpr c24
                have c24b1 : ((l0_3.length : Int) != (l1_3.length : Int)) = false := bne_eq_false_iff_eq.mpr c24
                have c24b2 : (l0_3.length == l1_3.length) = true := by first | simpa using c24 | (simp at c24 ⊢; omega)
                clear c24
                by_cases c25 : (l0_6.length : Int) = (l1_6.length : Int)
                · rw [if_pos c25] at H
                  have c25b0 : ((l0_6.length : Int) == (l1_6.length : Int)) = true := beq_iff_eq.mpr c25
                  have c25b1 : ((l0_6.length : Int) != (l1_6.length : Int)) = false := bne_eq_false_iff_eq.mpr c25
                  have c25b2 : (l0_6.length == l1_6.length) = true := by first | simpa using c25 | (simp at c25 ⊢; omega)
                  clear c25
                  by_cases c26 : (l0_8.length : Int) = (l1_8.length : Int)
                  · rw [if_pos c26] at H
                    have c26b0 : ((l0_8.length : Int) == (l1_8.length : Int)) = true := beq_iff_eq.mpr c26
                    have c26b1 : ((l0_8.length : Int) != (l1_8.length : Int)) = false := bne_eq_false_iff_eq.mpr c26
                    have c26b2 : (l0_8.length == l1_8.length) = true := by first | simpa using c26 | (simp at c26 ⊢; omega)
                    clear c26
                    have H' := Aside0.mk H
                    clear H
                    have hnb27 := NB213_214.out
                    have hnc27 := NB214_213.out
                    have hcz28_0 : w5.cell? ⟨gb213, 0, none⟩ = some (.bool a0_0) := (blk_cell BK213.out 0).trans rfl
                    have hcz28_1 : w5.cell? ⟨gb213, 1, none⟩ = some (.int .i64 a0_1) := (blk_cell BK213.out 1).trans rfl
                    have hcz28_2 : w5.cell? ⟨gb213, 2, none⟩ = some (.slice A0_2 l0_2.length c0_2) := (blk_cell BK213.out 2).trans rfl
                    have hcz28_3 : w5.cell? ⟨gb213, 3, none⟩ = some (.slice A0_3 l0_3.length c0_3) := (blk_cell BK213.out 3).trans rfl
                    have hcz28_4 : w5.cell? ⟨gb213, 4, none⟩ = some (.bool a0_4) := (blk_cell BK213.out 4).trans rfl
                    have hcz28_5 : w5.cell? ⟨gb213, 5, none⟩ = some (.bool a0_5) := (blk_cell BK213.out 5).trans rfl
                    have hcz28_6 : w5.cell? ⟨gb213, 6, none⟩ = some (.slice A0_6 l0_6.length c0_6) := (blk_cell BK213.out 6).trans rfl
                    have hcz28_7 : w5.cell? ⟨gb213, 7, none⟩ = some (.bool a0_7) := (blk_cell BK213.out 7).trans rfl
                    have hcz28_8 : w5.cell? ⟨gb213, 8, none⟩ = some (.slice A0_8 l0_8.length c0_8) := (blk_cell BK213.out 8).trans rfl
                    have hcz28_9 : w5.cell? ⟨gb213, 9, none⟩ = some (.slice A0_9 l0_9.length c0_9) := (blk_cell BK213.out 9).trans rfl
                    have hfz28_0 := blk_frozen BK213.out 0
                    have hfz28_1 := blk_frozen BK213.out 1
                    have hfz28_2 := blk_frozen BK213.out 2
                    have hfz28_3 := blk_frozen BK213.out 3
                    have hfz28_4 := blk_frozen BK213.out 4
                    have hfz28_5 := blk_frozen BK213.out 5
                    have hfz28_6 := blk_frozen BK213.out 6
                    have hfz28_7 := blk_frozen BK213.out 7
                    have hfz28_8 := blk_frozen BK213.out 8
                    have hfz28_9 := blk_frozen BK213.out 9
                    have hcz29_0 : w5.cell? ⟨gb214, 0, none⟩ = some (.bool a1_0) := (blk_cell BK214.out 0).trans rfl
                    have hcz29_1 : w5.cell? ⟨gb214, 1, none⟩ = some (.int .i64 a1_1) := (blk_cell BK214.out 1).trans rfl
                    have hcz29_2 : w5.cell? ⟨gb214, 2, none⟩ = some (.slice A1_2 l1_2.length c1_2) := (blk_cell BK214.out 2).trans rfl
                    have hcz29_3 : w5.cell? ⟨gb214, 3, none⟩ = some (.slice A1_3 l1_3.length c1_3) := (blk_cell BK214.out 3).trans rfl
                    have hcz29_4 : w5.cell? ⟨gb214, 4, none⟩ = some (.bool a1_4) := (blk_cell BK214.out 4).trans rfl
                    have hcz29_5 : w5.cell? ⟨gb214, 5, none⟩ = some (.bool a1_5) := (blk_cell BK214.out 5).trans rfl
                    have hcz29_6 : w5.cell? ⟨gb214, 6, none⟩ = some (.slice A1_6 l1_6.length c1_6) := (blk_cell BK214.out 6).trans rfl
                    have hcz29_7 : w5.cell? ⟨gb214, 7, none⟩ = some (.bool a1_7) := (blk_cell BK214.out 7).trans rfl
                    have hcz29_8 : w5.cell? ⟨gb214, 8, none⟩ = some (.slice A1_8 l1_8.length c1_8) := (blk_cell BK214.out 8).trans rfl
                    have hcz29_9 : w5.cell? ⟨gb214, 9, none⟩ = some (.slice A1_9 l1_9.length c1_9) := (blk_cell BK214.out 9).trans rfl
                    have hfz29_0 := blk_frozen BK214.out 0
                    have hfz29_1 := blk_frozen BK214.out 1
                    have hfz29_2 := blk_frozen BK214.out 2
                    have hfz29_3 := blk_frozen BK214.out 3
                    have hfz29_4 := blk_frozen BK214.out 4
                    have hfz29_5 := blk_frozen BK214.out 5
                    have hfz29_6 := blk_frozen BK214.out 6
                    have hfz29_7 := blk_frozen BK214.out 7
                    have hfz29_8 := blk_frozen BK214.out 8
                    have hfz29_9 := blk_frozen BK214.out 9
                    go_wp2
                    repeat (go_quiet (fail); try go_wp2)
                    go_meet
                    case rel => exact ⟨_, (((l0_9.length : Int) != (l1_9.length : Int))), (by first | rfl | (simp; done) | (simp [*]; done)), H', ⟨by first | omega | exact Nat.le_refl _⟩, ⟨by (with_reducible repeat (first | refine blk_drewN ?_ _ | refine blk_drew ?_ | refine blk_alloc ?_ _)); exact BK213.out⟩, ⟨by (with_reducible repeat (first | refine blk_drewN ?_ _ | refine blk_drew ?_ | refine blk_alloc ?_ _)); exact BK214.out⟩, ⟨by repeat (first | (with_reducible first | exact HB.out | apply below_alloc | apply pw_below_drewN | apply below_drew1 | refine below_set ?_ GE213.out | refine below_set ?_ GE214.out) | exact HB.out)⟩⟩
                  · rw [if_neg c26] at H
                    have c26b0 : ((l0_8.length : Int) == (l1_8.length : Int)) = false := beq_eq_false_iff_ne.mpr c26
                    have c26b1 : ((l0_8.length : Int) != (l1_8.length : Int)) = true := bne_iff_ne.mpr c26
                    have c26b2 : (l0_8.length == l1_8.length) = false := by first | simpa using c26 | (simp at c26 ⊢; omega)
                    have H' := Aside0.mk H
                    clear H
                    have hnb30 := NB213_214.out
                    have hnc30 := NB214_213.out
                    have hcz31_0 : w5.cell? ⟨gb213, 0, none⟩ = some (.bool a0_0) := (blk_cell BK213.out 0).trans rfl
                    have hcz31_1 : w5.cell? ⟨gb213, 1, none⟩ = some (.int .i64 a0_1) := (blk_cell BK213.out 1).trans rfl
                    have hcz31_2 : w5.cell? ⟨gb213, 2, none⟩ = some (.slice A0_2 l0_2.length c0_2) := (blk_cell BK213.out 2).trans rfl
                    have hcz31_3 : w5.cell? ⟨gb213, 3, none⟩ = some (.slice A0_3 l0_3.length c0_3) := (blk_cell BK213.out 3).trans rfl
                    have hcz31_4 : w5.cell? ⟨gb213, 4, none⟩ = some (.bool a0_4) := (blk_cell BK213.out 4).trans rfl
                    have hcz31_5 : w5.cell? ⟨gb213, 5, none⟩ = some (.bool a0_5) := (blk_cell BK213.out 5).trans rfl
                    have hcz31_6 : w5.cell? ⟨gb213, 6, none⟩ = some (.slice A0_6 l0_6.length c0_6) := (blk_cell BK213.out 6).trans rfl
                    have hcz31_7 : w5.cell? ⟨gb213, 7, none⟩ = some (.bool a0_7) := (blk_cell BK213.out 7).trans rfl
                    have hcz31_8 : w5.cell? ⟨gb213, 8, none⟩ = some (.slice A0_8 l0_8.length c0_8) := (blk_cell BK213.out 8).trans rfl
                    have hcz31_9 : w5.cell? ⟨gb213, 9, none⟩ = some (.slice A0_9 l0_9.length c0_9) := (blk_cell BK213.out 9).trans rfl
                    have hfz31_0 := blk_frozen BK213.out 0
                    have hfz31_1 := blk_frozen BK213.out 1
                    have hfz31_2 := blk_frozen BK213.out 2
                    have hfz31_3 := blk_frozen BK213.out 3
                    have hfz31_4 := blk_frozen BK213.out 4
                    have hfz31_5 := blk_frozen BK213.out 5
                    have hfz31_6 := blk_frozen BK213.out 6
                    have hfz31_7 := blk_frozen BK213.out 7
                    have hfz31_8 := blk_frozen BK213.out 8
                    have hfz31_9 := blk_frozen BK213.out 9
                    have hcz32_0 : w5.cell? ⟨gb214, 0, none⟩ = some (.bool a1_0) := (blk_cell BK214.out 0).trans rfl
                    have hcz32_1 : w5.cell? ⟨gb214, 1, none⟩ = some (.int .i64 a1_1) := (blk_cell BK214.out 1).trans rfl
                    have hcz32_2 : w5.cell? ⟨gb214, 2, none⟩ = some (.slice A1_2 l1_2.length c1_2) := (blk_cell BK214.out 2).trans rfl
                    have hcz32_3 : w5.cell? ⟨gb214, 3, none⟩ = some (.slice A1_3 l1_3.length c1_3) := (blk_cell BK214.out 3).trans rfl
                    have hcz32_4 : w5.cell? ⟨gb214, 4, none⟩ = some (.bool a1_4) := (blk_cell BK214.out 4).trans rfl
                    have hcz32_5 : w5.cell? ⟨gb214, 5, none⟩ = some (.bool a1_5) := (blk_cell BK214.out 5).trans rfl
                    have hcz32_6 : w5.cell? ⟨gb214, 6, none⟩ = some (.slice A1_6 l1_6.length c1_6) := (blk_cell BK214.out 6).trans rfl
                    have hcz32_7 : w5.cell? ⟨gb214, 7, none⟩ = some (.bool a1_7) := (blk_cell BK214.out 7).trans rfl
                    have hcz32_8 : w5.cell? ⟨gb214, 8, none⟩ = some (.slice A1_8 l1_8.length c1_8) := (blk_cell BK214.out 8).trans rfl
                    have hcz32_9 : w5.cell? ⟨gb214, 9, none⟩ = some (.slice A1_9 l1_9.length c1_9) := (blk_cell BK214.out 9).trans rfl
                    have hfz32_0 := blk_frozen BK214.out 0
                    have hfz32_1 := blk_frozen BK214.out 1
                    have hfz32_2 := blk_frozen BK214.out 2
                    have hfz32_3 := blk_frozen BK214.out 3
                    have hfz32_4 := blk_frozen BK214.out 4
                    have hfz32_5 := blk_frozen BK214.out 5
                    have hfz32_6 := blk_frozen BK214.out 6
                    have hfz32_7 := blk_frozen BK214.out 7
                    have hfz32_8 := blk_frozen BK214.out 8
                    have hfz32_9 := blk_frozen BK214.out 9
                    go_wp2
                    repeat (go_quiet (fail); try go_wp2)
                    go_meet
                    case rel => exact ⟨_, (true), (by first | rfl | (simp; done) | (simp [*]; done)), H', ⟨by first | omega | exact Nat.le_refl _⟩, ⟨by (with_reducible repeat (first | refine blk_drewN ?_ _ | refine blk_drew ?_ | refine blk_alloc ?_ _)); exact BK213.out⟩, ⟨by (with_reducible repeat (first | refine blk_drewN ?_ _ | refine blk_drew ?_ | refine blk_alloc ?_ _)); exact BK214.out⟩, ⟨by repeat (first | (with_reducible first | exact HB.out | apply below_alloc | apply pw_below_drewN | apply below_drew1 | refine below_set ?_ GE213.out | refine below_set ?_ GE214.out) | exact HB.out)⟩⟩
                · rw [if_neg c25] at H
                  have c25b0 : ((l0_6.length : Int) == (l1_6.length : Int)) = false := beq_eq_false_iff_ne.mpr c25
                  have c25b1 : ((l0_6.length : Int) != (l1_6.length : Int)) = true := bne_iff_ne.mpr c25
                  have c25b2 : (l0_6.length == l1_6.length) = false := by first | simpa using c25 | (simp at c25 ⊢; omega)
                  have H' := Aside0.mk H
                  clear H
                  have hnb33 := NB213_214.out
                  have hnc33 := NB214_213.out
                  have hcz34_0 : w5.cell? ⟨gb213, 0, none⟩ = some (.bool a0_0) := (blk_cell BK213.out 0).trans rfl
                  have hcz34_1 : w5.cell? ⟨gb213, 1, none⟩ = some (.int .i64 a0_1) := (blk_cell BK213.out 1).trans rfl
                  have hcz34_2 : w5.cell? ⟨gb213, 2, none⟩ = some (.slice A0_2 l0_2.length c0_2) := (blk_cell BK213.out 2).trans rfl
                  have hcz34_3 : w5.cell? ⟨gb213, 3, none⟩ = some (.slice A0_3 l0_3.length c0_3) := (blk_cell BK213.out 3).trans rfl
                  have hcz34_4 : w5.cell? ⟨gb213, 4, none⟩ = some (.bool a0_4) := (blk_cell BK213.out 4).trans rfl
                  have hcz34_5 : w5.cell? ⟨gb213, 5, none⟩ = some (.bool a0_5) := (blk_cell BK213.out 5).trans rfl
                  have hcz34_6 : w5.cell? ⟨gb213, 6, none⟩ = some (.slice A0_6 l0_6.length c0_6) := (blk_cell BK213.out 6).trans rfl
                  have hcz34_7 : w5.cell? ⟨gb213, 7, none⟩ = some (.bool a0_7) := (blk_cell BK213.out 7).trans rfl
                  have hcz34_8 : w5.cell? ⟨gb213, 8, none⟩ = some (.slice A0_8 l0_8.length c0_8) := (blk_cell BK213.out 8).trans rfl
                  have hcz34_9 : w5.cell? ⟨gb213, 9, none⟩ = some (.slice A0_9 l0_9.length c0_9) := (blk_cell BK213.out 9).trans rfl
                  have hfz34_0 := blk_frozen BK213.out 0
                  have hfz34_1 := blk_frozen BK213.out 1
                  have hfz34_2 := blk_frozen BK213.out 2
                  have hfz34_3 := blk_frozen BK213.out 3
                  have hfz34_4 := blk_frozen BK213.out 4
                  have hfz34_5 := blk_frozen BK213.out 5
                  have hfz34_6 := blk_frozen BK213.out 6
                  have hfz34_7 := blk_frozen BK213.out 7
                  have hfz34_8 := blk_frozen BK213.out 8
                  have hfz34_9 := blk_frozen BK213.out 9
                  have hcz35_0 : w5.cell? ⟨gb214, 0, none⟩ = some (.bool a1_0) := (blk_cell BK214.out 0).trans rfl
                  have hcz35_1 : w5.cell? ⟨gb214, 1, none⟩ = some (.int .i64 a1_1) := (blk_cell BK214.out 1).trans rfl
                  have hcz35_2 : w5.cell? ⟨gb214, 2, none⟩ = some (.slice A1_2 l1_2.length c1_2) := (blk_cell BK214.out 2).trans rfl
                  have hcz35_3 : w5.cell? ⟨gb214, 3, none⟩ = some (.slice A1_3 l1_3.length c1_3) := (blk_cell BK214.out 3).trans rfl
                  have hcz35_4 : w5.cell? ⟨gb214, 4, none⟩ = some (.bool a1_4) := (blk_cell BK214.out 4).trans rfl
                  have hcz35_5 : w5.cell? ⟨gb214, 5, none⟩ = some (.bool a1_5) := (blk_cell BK214.out 5).trans rfl
                  have hcz35_6 : w5.cell? ⟨gb214, 6, none⟩ = some (.slice A1_6 l1_6.length c1_6) := (blk_cell BK214.out 6).trans rfl
                  have hcz35_7 : w5.cell? ⟨gb214, 7, none⟩ = some (.bool a1_7) := (blk_cell BK214.out 7).trans rfl
                  have hcz35_8 : w5.cell? ⟨gb214, 8, none⟩ = some (.slice A1_8 l1_8.length c1_8) := (blk_cell BK214.out 8).trans rfl
                  have hcz35_9 : w5.cell? ⟨gb214, 9, none⟩ = some (.slice A1_9 l1_9.length c1_9) := (blk_cell BK214.out 9).trans rfl
                  have hfz35_0 := blk_frozen BK214.out 0
                  have hfz35_1 := blk_frozen BK214.out 1
                  have hfz35_2 := blk_frozen BK214.out 2
                  have hfz35_3 := blk_frozen BK214.out 3
                  have hfz35_4 := blk_frozen BK214.out 4
                  have hfz35_5 := blk_frozen BK214.out 5
                  have hfz35_6 := blk_frozen BK214.out 6
                  have hfz35_7 := blk_frozen BK214.out 7
                  have hfz35_8 := blk_frozen BK214.out 8
                  have hfz35_9 := blk_frozen BK214.out 9
                  go_wp2
                  repeat (go_quiet (fail); try go_wp2)
                  go_meet
                  case rel => exact ⟨_, (true), (by first | rfl | (simp; done) | (simp [*]; done)), H', ⟨by first | omega | exact Nat.le_refl _⟩, ⟨by (with_reducible repeat (first | refine blk_drewN ?_ _ | refine blk_drew ?_ | refine blk_alloc ?_ _)); exact BK213.out⟩, ⟨by (with_reducible repeat (first | refine blk_drewN ?_ _ | refine blk_drew ?_ | refine blk_alloc ?_ _)); exact BK214.out⟩, ⟨by repeat (first | (with_reducible first | exact HB.out | apply below_alloc | apply pw_below_drewN | apply below_drew1 | refine below_set ?_ GE213.out | refine below_set ?_ GE214.out) | exact HB.out)⟩⟩
              · rw [if_neg c24] at H
                have c24b0 : ((l0_3.length : Int) == (l1_3.length : Int)) = false := beq_eq_false_iff_ne.mpr c24
                have c24b1 : ((l0_3.length : Int) != (l1_3.length : Int)) = true := bne_iff_ne.mpr c24
                have c24b2 : (l0_3.length == l1_3.length) = false := by first | simpa using c24 | (simp at c24 ⊢; omega)
                have H' := Aside0.mk H
                clear H
                have hnb36 := NB213_214.out
                have hnc36 := NB214_213.out
                have hcz37_0 : w5.cell? ⟨gb213, 0, none⟩ = some (.bool a0_0) := (blk_cell BK213.out 0).trans rfl
                have hcz37_1 : w5.cell? ⟨gb213, 1, none⟩ = some (.int .i64 a0_1) := (blk_cell BK213.out 1).trans rfl
                have hcz37_2 : w5.cell? ⟨gb213, 2, none⟩ = some (.slice A0_2 l0_2.length c0_2) := (blk_cell BK213.out 2).trans rfl
                have hcz37_3 : w5.cell? ⟨gb213, 3, none⟩ = some (.slice A0_3 l0_3.length c0_3) := (blk_cell BK213.out 3).trans rfl
                have hcz37_4 : w5.cell? ⟨gb213, 4, none⟩ = some (.bool a0_4) := (blk_cell BK213.out 4).trans rfl
                have hcz37_5 : w5.cell? ⟨gb213, 5, none⟩ = some (.bool a0_5) := (blk_cell BK213.out 5).trans rfl
                have hcz37_6 : w5.cell? ⟨gb213, 6, none⟩ = some (.slice A0_6 l0_6.length c0_6) := (blk_cell BK213.out 6).trans rfl
                have hcz37_7 : w5.cell? ⟨gb213, 7, none⟩ = some (.bool a0_7) := (blk_cell BK213.out 7).trans rfl
                have hcz37_8 : w5.cell? ⟨gb213, 8, none⟩ = some (.slice A0_8 l0_8.length c0_8) := (blk_cell BK213.out 8).trans rfl
                have hcz37_9 : w5.cell? ⟨gb213, 9, none⟩ = some (.slice A0_9 l0_9.length c0_9) := (blk_cell BK213.out 9).trans rfl
                have hfz37_0 := blk_frozen BK213.out 0
                have hfz37_1 := blk_frozen BK213.out 1
                have hfz37_2 := blk_frozen BK213.out 2
                have hfz37_3 := blk_frozen BK213.out 3
                have hfz37_4 := blk_frozen BK213.out 4
                have hfz37_5 := blk_frozen BK213.out 5
                have hfz37_6 := blk_frozen BK213.out 6
                have hfz37_7 := blk_frozen BK213.out 7
                have hfz37_8 := blk_frozen BK213.out 8
                have hfz37_9 := blk_frozen BK213.out 9
                have hcz38_0 : w5.cell? ⟨gb214, 0, none⟩ = some (.bool a1_0) := (blk_cell BK214.out 0).trans rfl
                have hcz38_1 : w5.cell? ⟨gb214, 1, none⟩ = some (.int .i64 a1_1) := (blk_cell BK214.out 1).trans rfl
                have hcz38_2 : w5.cell? ⟨gb214, 2, none⟩ = some (.slice A1_2 l1_2.length c1_2) := (blk_cell BK214.out 2).trans rfl
                have hcz38_3 : w5.cell? ⟨gb214, 3, none⟩ = some (.slice A1_3 l1_3.length c1_3) := (blk_cell BK214.out 3).trans rfl
                have hcz38_4 : w5.cell? ⟨gb214, 4, none⟩ = some (.bool a1_4) := (blk_cell BK214.out 4).trans rfl
                have hcz38_5 : w5.cell? ⟨gb214, 5, none⟩ = some (.bool a1_5) := (blk_cell BK214.out 5).trans rfl
                have hcz38_6 : w5.cell? ⟨gb214, 6, none⟩ = some (.slice A1_6 l1_6.length c1_6) := (blk_cell BK214.out 6).trans rfl
                have hcz38_7 : w5.cell? ⟨gb214, 7, none⟩ = some (.bool a1_7) := (blk_cell BK214.out 7).trans rfl
                have hcz38_8 : w5.cell? ⟨gb214, 8, none⟩ = some (.slice A1_8 l1_8.length c1_8) := (blk_cell BK214.out 8).trans rfl
                have hcz38_9 : w5.cell? ⟨gb214, 9, none⟩ = some (.slice A1_9 l1_9.length c1_9) := (blk_cell BK214.out 9).trans rfl
                have hfz38_0 := blk_frozen BK214.out 0
                have hfz38_1 := blk_frozen BK214.out 1
                have hfz38_2 := blk_frozen BK214.out 2
                have hfz38_3 := blk_frozen BK214.out 3
                have hfz38_4 := blk_frozen BK214.out 4
                have hfz38_5 := blk_frozen BK214.out 5
                have hfz38_6 := blk_frozen BK214.out 6
                have hfz38_7 := blk_frozen BK214.out 7
                have hfz38_8 := blk_frozen BK214.out 8
                have hfz38_9 := blk_frozen BK214.out 9
                go_wp2
                repeat (go_quiet (fail); try go_wp2)
                go_meet
                case rel => exact ⟨_, (true), (by first | rfl | (simp; done) | (simp [*]; done)), H', ⟨by first | omega | exact Nat.le_refl _⟩, ⟨by (with_reducible repeat (first | refine blk_drewN ?_ _ | refine blk_drew ?_ | refine blk_alloc ?_ _)); exact BK213.out⟩, ⟨by (with_reducible repeat (first | refine blk_drewN ?_ _ | refine blk_drew ?_ | refine blk_alloc ?_ _)); exact BK214.out⟩, ⟨by repeat (first | (with_reducible first | exact HB.out | apply below_alloc | apply pw_below_drewN | apply below_drew1 | refine below_set ?_ GE213.out | refine below_set ?_ GE214.out) | exact HB.out)⟩⟩
            · rw [if_neg c23] at H
              have c23b0 : ((l0_2.length : Int) == (l1_2.length : Int)) = false := beq_eq_false_iff_ne.mpr c23
              have c23b1 : ((l0_2.length : Int) != (l1_2.length : Int)) = true := bne_iff_ne.mpr c23
              have c23b2 : (l0_2.length == l1_2.length) = false := by first | simpa using c23 | (simp at c23 ⊢; omega)
              have H' := Aside0.mk H
              clear H
              have hnb39 := NB213_214.out
              have hnc39 := NB214_213.out
              have hcz40_0 : w5.cell? ⟨gb213, 0, none⟩ = some (.bool a0_0) := (blk_cell BK213.out 0).trans rfl
              have hcz40_1 : w5.cell? ⟨gb213, 1, none⟩ = some (.int .i64 a0_1) := (blk_cell BK213.out 1).trans rfl
              have hcz40_2 : w5.cell? ⟨gb213, 2, none⟩ = some (.slice A0_2 l0_2.length c0_2) := (blk_cell BK213.out 2).trans rfl
              have hcz40_3 : w5.cell? ⟨gb213, 3, none⟩ = some (.slice A0_3 l0_3.length c0_3) := (blk_cell BK213.out 3).trans rfl
              have hcz40_4 : w5.cell? ⟨gb213, 4, none⟩ = some (.bool a0_4) := (blk_cell BK213.out 4).trans rfl
              have hcz40_5 : w5.cell? ⟨gb213, 5, none⟩ = some (.bool a0_5) := (blk_cell BK213.out 5).trans rfl
              have hcz40_6 : w5.cell? ⟨gb213, 6, none⟩ = some (.slice A0_6 l0_6.length c0_6) := (blk_cell BK213.out 6).trans rfl
              have hcz40_7 : w5.cell? ⟨gb213, 7, none⟩ = some (.bool a0_7) := (blk_cell BK213.out 7).trans rfl
              have hcz40_8 : w5.cell? ⟨gb213, 8, none⟩ = some (.slice A0_8 l0_8.length c0_8) := (blk_cell BK213.out 8).trans rfl
              have hcz40_9 : w5.cell? ⟨gb213, 9, none⟩ = some (.slice A0_9 l0_9.length c0_9) := (blk_cell BK213.out 9).trans rfl
              have hfz40_0 := blk_frozen BK213.out 0
              have hfz40_1 := blk_frozen BK213.out 1
              have hfz40_2 := blk_frozen BK213.out 2
              have hfz40_3 := blk_frozen BK213.out 3
              have hfz40_4 := blk_frozen BK213.out 4
              have hfz40_5 := blk_frozen BK213.out 5
              have hfz40_6 := blk_frozen BK213.out 6
              have hfz40_7 := blk_frozen BK213.out 7
              have hfz40_8 := blk_frozen BK213.out 8
              have hfz40_9 := blk_frozen BK213.out 9
              have hcz41_0 : w5.cell? ⟨gb214, 0, none⟩ = some (.bool a1_0) := (blk_cell BK214.out 0).trans rfl
              have hcz41_1 : w5.cell? ⟨gb214, 1, none⟩ = some (.int .i64 a1_1) := (blk_cell BK214.out 1).trans rfl
              have hcz41_2 : w5.cell? ⟨gb214, 2, none⟩ = some (.slice A1_2 l1_2.length c1_2) := (blk_cell BK214.out 2).trans rfl
              have hcz41_3 : w5.cell? ⟨gb214, 3, none⟩ = some (.slice A1_3 l1_3.length c1_3) := (blk_cell BK214.out 3).trans rfl
              have hcz41_4 : w5.cell? ⟨gb214, 4, none⟩ = some (.bool a1_4) := (blk_cell BK214.out 4).trans rfl
              have hcz41_5 : w5.cell? ⟨gb214, 5, none⟩ = some (.bool a1_5) := (blk_cell BK214.out 5).trans rfl
              have hcz41_6 : w5.cell? ⟨gb214, 6, none⟩ = some (.slice A1_6 l1_6.length c1_6) := (blk_cell BK214.out 6).trans rfl
              have hcz41_7 : w5.cell? ⟨gb214, 7, none⟩ = some (.bool a1_7) := (blk_cell BK214.out 7).trans rfl
              have hcz41_8 : w5.cell? ⟨gb214, 8, none⟩ = some (.slice A1_8 l1_8.length c1_8) := (blk_cell BK214.out 8).trans rfl
              have hcz41_9 : w5.cell? ⟨gb214, 9, none⟩ = some (.slice A1_9 l1_9.length c1_9) := (blk_cell BK214.out 9).trans rfl
              have hfz41_0 := blk_frozen BK214.out 0
              have hfz41_1 := blk_frozen BK214.out 1
              have hfz41_2 := blk_frozen BK214.out 2
              have hfz41_3 := blk_frozen BK214.out 3
              have hfz41_4 := blk_frozen BK214.out 4
              have hfz41_5 := blk_frozen BK214.out 5
              have hfz41_6 := blk_frozen BK214.out 6
              have hfz41_7 := blk_frozen BK214.out 7
              have hfz41_8 := blk_frozen BK214.out 8
              have hfz41_9 := blk_frozen BK214.out 9
              go_wp2
              repeat (go_quiet (fail); try go_wp2)
              go_meet
              case rel => exact ⟨_, (true), (by first | rfl | (simp; done) | (simp [*]; done)), H', ⟨by first | omega | exact Nat.le_refl _⟩, ⟨by (with_reducible repeat (first | refine blk_drewN ?_ _ | refine blk_drew ?_ | refine blk_alloc ?_ _)); exact BK213.out⟩, ⟨by (with_reducible repeat (first | refine blk_drewN ?_ _ | refine blk_drew ?_ | refine blk_alloc ?_ _)); exact BK214.out⟩, ⟨by repeat (first | (with_reducible first | exact HB.out | apply below_alloc | apply pw_below_drewN | apply below_drew1 | refine below_set ?_ GE213.out | refine below_set ?_ GE214.out) | exact HB.out)⟩⟩
    · rw [if_neg c10] at H
      have c10b0 : (a0_1 == a1_1) = false := beq_eq_false_iff_ne.mpr c10
      have c10b1 : (a0_1 != a1_1) = true := bne_iff_ne.mpr c10
      have H' := Aside0.mk H
      clear H
      have hnb42 := NB213_214.out
      have hnc42 := NB214_213.out
      have hcz43_0 : w5.cell? ⟨gb213, 0, none⟩ = some (.bool a0_0) := (blk_cell BK213.out 0).trans rfl
      have hcz43_1 : w5.cell? ⟨gb213, 1, none⟩ = some (.int .i64 a0_1) := (blk_cell BK213.out 1).trans rfl
      have hcz43_2 : w5.cell? ⟨gb213, 2, none⟩ = some (.slice A0_2 l0_2.length c0_2) := (blk_cell BK213.out 2).trans rfl
      have hcz43_3 : w5.cell? ⟨gb213, 3, none⟩ = some (.slice A0_3 l0_3.length c0_3) := (blk_cell BK213.out 3).trans rfl
      have hcz43_4 : w5.cell? ⟨gb213, 4, none⟩ = some (.bool a0_4) := (blk_cell BK213.out 4).trans rfl
      have hcz43_5 : w5.cell? ⟨gb213, 5, none⟩ = some (.bool a0_5) := (blk_cell BK213.out 5).trans rfl
      have hcz43_6 : w5.cell? ⟨gb213, 6, none⟩ = some (.slice A0_6 l0_6.length c0_6) := (blk_cell BK213.out 6).trans rfl
      have hcz43_7 : w5.cell? ⟨gb213, 7, none⟩ = some (.bool a0_7) := (blk_cell BK213.out 7).trans rfl
      have hcz43_8 : w5.cell? ⟨gb213, 8, none⟩ = some (.slice A0_8 l0_8.length c0_8) := (blk_cell BK213.out 8).trans rfl
      have hcz43_9 : w5.cell? ⟨gb213, 9, none⟩ = some (.slice A0_9 l0_9.length c0_9) := (blk_cell BK213.out 9).trans rfl
      have hfz43_0 := blk_frozen BK213.out 0
      have hfz43_1 := blk_frozen BK213.out 1
      have hfz43_2 := blk_frozen BK213.out 2
      have hfz43_3 := blk_frozen BK213.out 3
      have hfz43_4 := blk_frozen BK213.out 4
      have hfz43_5 := blk_frozen BK213.out 5
      have hfz43_6 := blk_frozen BK213.out 6
      have hfz43_7 := blk_frozen BK213.out 7
      have hfz43_8 := blk_frozen BK213.out 8
      have hfz43_9 := blk_frozen BK213.out 9
      have hcz44_0 : w5.cell? ⟨gb214, 0, none⟩ = some (.bool a1_0) := (blk_cell BK214.out 0).trans rfl
      have hcz44_1 : w5.cell? ⟨gb214, 1, none⟩ = some (.int .i64 a1_1) := (blk_cell BK214.out 1).trans rfl
      have hcz44_2 : w5.cell? ⟨gb214, 2, none⟩ = some (.slice A1_2 l1_2.length c1_2) := (blk_cell BK214.out 2).trans rfl
      have hcz44_3 : w5.cell? ⟨gb214, 3, none⟩ = some (.slice A1_3 l1_3.length c1_3) := (blk_cell BK214.out 3).trans rfl
      have hcz44_4 : w5.cell? ⟨gb214, 4, none⟩ = some (.bool a1_4) := (blk_cell BK214.out 4).trans rfl
      have hcz44_5 : w5.cell? ⟨gb214, 5, none⟩ = some (.bool a1_5) := (blk_cell BK214.out 5).trans rfl
      have hcz44_6 : w5.cell? ⟨gb214, 6, none⟩ = some (.slice A1_6 l1_6.length c1_6) := (blk_cell BK214.out 6).trans rfl
      have hcz44_7 : w5.cell? ⟨gb214, 7, none⟩ = some (.bool a1_7) := (blk_cell BK214.out 7).trans rfl
      have hcz44_8 : w5.cell? ⟨gb214, 8, none⟩ = some (.slice A1_8 l1_8.length c1_8) := (blk_cell BK214.out 8).trans rfl
      have hcz44_9 : w5.cell? ⟨gb214, 9, none⟩ = some (.slice A1_9 l1_9.length c1_9) := (blk_cell BK214.out 9).trans rfl
      have hfz44_0 := blk_frozen BK214.out 0
      have hfz44_1 := blk_frozen BK214.out 1
      have hfz44_2 := blk_frozen BK214.out 2
      have hfz44_3 := blk_frozen BK214.out 3
      have hfz44_4 := blk_frozen BK214.out 4
      have hfz44_5 := blk_frozen BK214.out 5
      have hfz44_6 := blk_frozen BK214.out 6
      have hfz44_7 := blk_frozen BK214.out 7
      have hfz44_8 := blk_frozen BK214.out 8
      have hfz44_9 := blk_frozen BK214.out 9
      go_wp2
      repeat (go_quiet (fail); try go_wp2)
      go_meet
      case rel => exact ⟨_, (true), (by first | rfl | (simp; done) | (simp [*]; done)), H', ⟨by first | omega | exact Nat.le_refl _⟩, ⟨by (with_reducible repeat (first | refine blk_drewN ?_ _ | refine blk_drew ?_ | refine blk_alloc ?_ _)); exact BK213.out⟩, ⟨by (with_reducible repeat (first | refine blk_drewN ?_ _ | refine blk_drew ?_ | refine blk_alloc ?_ _)); exact BK214.out⟩, ⟨by repeat (first | (with_reducible first | exact HB.out | apply below_alloc | apply pw_below_drewN | apply below_drew1 | refine below_set ?_ GE213.out | refine below_set ?_ GE214.out) | exact HB.out)⟩⟩
 case rest =>
  clear HC3
  try clear c1
  try clear c2
  try clear p2
  try clear c3
  try clear c4
  try clear c6
  try clear c6b0
  try clear c6b1
  try clear c6b2
  try clear c7
  try clear c10
  try clear c10b0
  try clear c10b1
  try clear c11
  try clear c11b0
  try clear c11b1
  try clear c11b2
  try clear c12
  try clear c15
  try clear c15b0
  try clear c15b1
  try clear c15b2
  try clear c16
  try clear c19
  try clear c19b0
  try clear c19b1
  try clear c19b2
  try clear c20
  try clear c23
  try clear c23b0
  try clear c23b1
  try clear c23b2
  try clear c24
  try clear c24b0
  try clear c24b1
  try clear c24b2
  try clear c25
  try clear c25b0
  try clear c25b1
  try clear c25b2
  try clear c26
  try clear c26b0
  try clear c26b1
  try clear c26b2
  try clear c27
  try clear c30
  try clear c33
  try clear c36
  try clear c39
  try clear c42
  try clear hcz13_0
  try clear hcz13_1
  try clear hcz13_2
  try clear hcz13_3
  try clear hcz13_4
  try clear hcz13_5
  try clear hcz13_6
  try clear hcz13_7
  try clear hcz13_8
  try clear hcz13_9
  try clear hcz14_0
  try clear hcz14_1
  try clear hcz14_2
  try clear hcz14_3
  try clear hcz14_4
  try clear hcz14_5
  try clear hcz14_6
  try clear hcz14_7
  try clear hcz14_8
  try clear hcz14_9
  try clear hcz17_0
  try clear hcz17_1
  try clear hcz17_2
  try clear hcz17_3
  try clear hcz17_4
  try clear hcz17_5
  try clear hcz17_6
  try clear hcz17_7
  try clear hcz17_8
  try clear hcz17_9
  try clear hcz18_0
  try clear hcz18_1
  try clear hcz18_2
  try clear hcz18_3
  try clear hcz18_4
  try clear hcz18_5
  try clear hcz18_6
  try clear hcz18_7
  try clear hcz18_8
  try clear hcz18_9
  try clear hcz21_0
  try clear hcz21_1
  try clear hcz21_2
  try clear hcz21_3
  try clear hcz21_4
  try clear hcz21_5
  try clear hcz21_6
  try clear hcz21_7
  try clear hcz21_8
  try clear hcz21_9
  try clear hcz22_0
  try clear hcz22_1
  try clear hcz22_2
  try clear hcz22_3
  try clear hcz22_4
  try clear hcz22_5
  try clear hcz22_6
  try clear hcz22_7
  try clear hcz22_8
  try clear hcz22_9
  try clear hcz28_0
  try clear hcz28_1
  try clear hcz28_2
  try clear hcz28_3
  try clear hcz28_4
  try clear hcz28_5
  try clear hcz28_6
  try clear hcz28_7
  try clear hcz28_8
  try clear hcz28_9
  try clear hcz29_0
  try clear hcz29_1
  try clear hcz29_2
  try clear hcz29_3
  try clear hcz29_4
  try clear hcz29_5
  try clear hcz29_6
  try clear hcz29_7
  try clear hcz29_8
  try clear hcz29_9
  try clear hcz31_0
  try clear hcz31_1
  try clear hcz31_2
  try clear hcz31_3
  try clear hcz31_4
  try clear hcz31_5
  try clear hcz31_6
  try clear hcz31_7
  try clear hcz31_8
  try clear hcz31_9
  try clear hcz32_0
  try clear hcz32_1
  try clear hcz32_2
  try clear hcz32_3
  try clear hcz32_4
  try clear hcz32_5
  try clear hcz32_6
  try clear hcz32_7
  try clear hcz32_8
  try clear hcz32_9
  try clear hcz34_0
  try clear hcz34_1
  try clear hcz34_2
  try clear hcz34_3
  try clear hcz34_4
  try clear hcz34_5
  try clear hcz34_6
  try clear hcz34_7
  try clear hcz34_8
  try clear hcz34_9
  try clear hcz35_0
  try clear hcz35_1
  try clear hcz35_2
  try clear hcz35_3
  try clear hcz35_4
  try clear hcz35_5
  try clear hcz35_6
  try clear hcz35_7
  try clear hcz35_8
  try clear hcz35_9
  try clear hcz37_0
  try clear hcz37_1
  try clear hcz37_2
  try clear hcz37_3
  try clear hcz37_4
  try clear hcz37_5
  try clear hcz37_6
  try clear hcz37_7
  try clear hcz37_8
  try clear hcz37_9
  try clear hcz38_0
  try clear hcz38_1
  try clear hcz38_2
  try clear hcz38_3
  try clear hcz38_4
  try clear hcz38_5
  try clear hcz38_6
  try clear hcz38_7
  try clear hcz38_8
  try clear hcz38_9
  try clear hcz40_0
  try clear hcz40_1
  try clear hcz40_2
  try clear hcz40_3
  try clear hcz40_4
  try clear hcz40_5
  try clear hcz40_6
  try clear hcz40_7
  try clear hcz40_8
  try clear hcz40_9
  try clear hcz41_0
  try clear hcz41_1
  try clear hcz41_2
  try clear hcz41_3
  try clear hcz41_4
  try clear hcz41_5
  try clear hcz41_6
  try clear hcz41_7
  try clear hcz41_8
  try clear hcz41_9
  try clear hcz43_0
  try clear hcz43_1
  try clear hcz43_2
  try clear hcz43_3
  try clear hcz43_4
  try clear hcz43_5
  try clear hcz43_6
  try clear hcz43_7
  try clear hcz43_8
  try clear hcz43_9
  try clear hcz44_0
  try clear hcz44_1
  try clear hcz44_2
  try clear hcz44_3
  try clear hcz44_4
  try clear hcz44_5
  try clear hcz44_6
  try clear hcz44_7
  try clear hcz44_8
  try clear hcz44_9
  try clear hcz8_0
  try clear hcz8_1
  try clear hcz8_2
  try clear hcz8_3
  try clear hcz8_4
  try clear hcz8_5
  try clear hcz8_6
  try clear hcz8_7
  try clear hcz8_8
  try clear hcz8_9
  try clear hcz9_0
  try clear hcz9_1
  try clear hcz9_2
  try clear hcz9_3
  try clear hcz9_4
  try clear hcz9_5
  try clear hcz9_6
  try clear hcz9_7
  try clear hcz9_8
  try clear hcz9_9
  try clear hfz13_0
  try clear hfz13_1
  try clear hfz13_2
  try clear hfz13_3
  try clear hfz13_4
  try clear hfz13_5
  try clear hfz13_6
  try clear hfz13_7
  try clear hfz13_8
  try clear hfz13_9
  try clear hfz14_0
  try clear hfz14_1
  try clear hfz14_2
  try clear hfz14_3
  try clear hfz14_4
  try clear hfz14_5
  try clear hfz14_6
  try clear hfz14_7
  try clear hfz14_8
  try clear hfz14_9
  try clear hfz17_0
  try clear hfz17_1
  try clear hfz17_2
  try clear hfz17_3
  try clear hfz17_4
  try clear hfz17_5
  try clear hfz17_6
  try clear hfz17_7
  try clear hfz17_8
  try clear hfz17_9
  try clear hfz18_0
  try clear hfz18_1
  try clear hfz18_2
  try clear hfz18_3
  try clear hfz18_4
  try clear hfz18_5
  try clear hfz18_6
  try clear hfz18_7
  try clear hfz18_8
  try clear hfz18_9
  try clear hfz21_0
  try clear hfz21_1
  try clear hfz21_2
  try clear hfz21_3
  try clear hfz21_4
  try clear hfz21_5
  try clear hfz21_6
  try clear hfz21_7
  try clear hfz21_8
  try clear hfz21_9
  try clear hfz22_0
  try clear hfz22_1
  try clear hfz22_2
  try clear hfz22_3
  try clear hfz22_4
  try clear hfz22_5
  try clear hfz22_6
  try clear hfz22_7
  try clear hfz22_8
  try clear hfz22_9
  try clear hfz28_0
  try clear hfz28_1
  try clear hfz28_2
  try clear hfz28_3
  try clear hfz28_4
  try clear hfz28_5
  try clear hfz28_6
  try clear hfz28_7
  try clear hfz28_8
  try clear hfz28_9
  try clear hfz29_0
  try clear hfz29_1
  try clear hfz29_2
  try clear hfz29_3
  try clear hfz29_4
  try clear hfz29_5
  try clear hfz29_6
  try clear hfz29_7
  try clear hfz29_8
  try clear hfz29_9
  try clear hfz31_0
  try clear hfz31_1
  try clear hfz31_2
  try clear hfz31_3
  try clear hfz31_4
  try clear hfz31_5
  try clear hfz31_6
  try clear hfz31_7
  try clear hfz31_8
  try clear hfz31_9
  try clear hfz32_0
  try clear hfz32_1
  try clear hfz32_2
  try clear hfz32_3
  try clear hfz32_4
  try clear hfz32_5
  try clear hfz32_6
  try clear hfz32_7
  try clear hfz32_8
  try clear hfz32_9
  try clear hfz34_0
  try clear hfz34_1
  try clear hfz34_2
  try clear hfz34_3
  try clear hfz34_4
  try clear hfz34_5
  try clear hfz34_6
  try clear hfz34_7
  try clear hfz34_8
  try clear hfz34_9
  try clear hfz35_0
  try clear hfz35_1
  try clear hfz35_2
  try clear hfz35_3
  try clear hfz35_4
  try clear hfz35_5
  try clear hfz35_6
  try clear hfz35_7
  try clear hfz35_8
  try clear hfz35_9
  try clear hfz37_0
  try clear hfz37_1
  try clear hfz37_2
  try clear hfz37_3
  try clear hfz37_4
  try clear hfz37_5
  try clear hfz37_6
  try clear hfz37_7
  try clear hfz37_8
  try clear hfz37_9
  try clear hfz38_0
  try clear hfz38_1
  try clear hfz38_2
  try clear hfz38_3
  try clear hfz38_4
  try clear hfz38_5
  try clear hfz38_6
  try clear hfz38_7
  try clear hfz38_8
  try clear hfz38_9
  try clear hfz40_0
  try clear hfz40_1
  try clear hfz40_2
  try clear hfz40_3
  try clear hfz40_4
  try clear hfz40_5
  try clear hfz40_6
  try clear hfz40_7
  try clear hfz40_8
  try clear hfz40_9
  try clear hfz41_0
  try clear hfz41_1
  try clear hfz41_2
  try clear hfz41_3
  try clear hfz41_4
  try clear hfz41_5
  try clear hfz41_6
  try clear hfz41_7
  try clear hfz41_8
  try clear hfz41_9
  try clear hfz43_0
  try clear hfz43_1
  try clear hfz43_2
  try clear hfz43_3
  try clear hfz43_4
  try clear hfz43_5
  try clear hfz43_6
  try clear hfz43_7
  try clear hfz43_8
  try clear hfz43_9
  try clear hfz44_0
  try clear hfz44_1
  try clear hfz44_2
  try clear hfz44_3
  try clear hfz44_4
  try clear hfz44_5
  try clear hfz44_6
  try clear hfz44_7
  try clear hfz44_8
  try clear hfz44_9
  try clear hfz8_0
  try clear hfz8_1
  try clear hfz8_2
  try clear hfz8_3
  try clear hfz8_4
  try clear hfz8_5
  try clear hfz8_6
  try clear hfz8_7
  try clear hfz8_8
  try clear hfz8_9
  try clear hfz9_0
  try clear hfz9_1
  try clear hfz9_2
  try clear hfz9_3
  try clear hfz9_4
  try clear hfz9_5
  try clear hfz9_6
  try clear hfz9_7
  try clear hfz9_8
  try clear hfz9_9
  obtain ⟨kq, x88_2, rfl, HA, HJ2, BK213, BK214, HB⟩ := hcut
  cases kq with
  | zero => exact absurd HA.out (by simp [tableauref15_Same.j0])
  | succ kj2 =>
   have H := HA.out
   clear HA
   simp only [tableauref15_Same.j0] at H
   by_cases c45 : x88_2 = true
   · subst c45
     have H1 : (some false) = some r := by rw [if_pos rfl] at H; exact H
     clear H
     have H := H1
     clear H1
     obtain rfl := Option.some.inj H
     go_wp2
     repeat (go_quiet (fail); try go_wp2)
     go_ret
     exact ⟨by first | rfl | (simp [errW_none, errW_some] <;> rfl) | (simp [*, errW_none, errW_some] <;> rfl), by repeat (first | (with_reducible first | exact HB.out | apply below_alloc | apply pw_below_drewN | apply below_drew1 | refine below_set ?_ GE213.out | refine below_set ?_ GE214.out) | exact HB.out)⟩
   · replace c45 := Bool.eq_false_iff.mpr c45
     subst c45
     have H1 : (tableauref15_Same.l0 kj2 true 0 a0_0 a0_1 l0_2 l0_3 a0_4 a0_5 l0_6 a0_7 l0_8 l0_9 a1_0 a1_1 l1_2 l1_3 a1_4 a1_5 l1_6 a1_7 l1_8 l1_9) = some r := by rw [if_neg (show ¬ (false = true) by decide)] at H; exact H
     clear H
     have H := H1
     clear H1
     have H' := Aside0.mk H
     clear H
     go_wp2
     repeat (go_quiet (fail); try go_wp2)
     go_loopg [5, 6] kj2 (fun kq v5 v6 w' => ∃ (x5_2 : Bool) (x6_2 : Int), v5 = .bool x5_2 ∧ v6 = .int .i64 x6_2 ∧ Aside0 (tableauref15_Same.l0 kq x5_2 x6_2 a0_0 a0_1 l0_2 l0_3 a0_4 a0_5 l0_6 a0_7 l0_8 l0_9 a1_0 a1_1 l1_2 l1_3 a1_4 a1_5 l1_6 a1_7 l1_8 l1_9 = some r) ∧ Aside0 (kq ≤ kj2) ∧ Aside0 (w'.heap[gb213]? = some (.cells #[.bool a0_0, .int .i64 a0_1, (.slice A0_2 l0_2.length c0_2), (.slice A0_3 l0_3.length c0_3), .bool a0_4, .bool a0_5, (.slice A0_6 l0_6.length c0_6), .bool a0_7, (.slice A0_8 l0_8.length c0_8), (.slice A0_9 l0_9.length c0_9)] 33 (0, 0))) ∧ Aside0 (w'.heap[gb214]? = some (.cells #[.bool a1_0, .int .i64 a1_1, (.slice A1_2 l1_2.length c1_2), (.slice A1_3 l1_3.length c1_3), .bool a1_4, .bool a1_5, (.slice A1_6 l1_6.length c1_6), .bool a1_7, (.slice A1_8 l1_8.length c1_8), (.slice A1_9 l1_9.length c1_9)] 33 (0, 0))) ∧ Aside0 (Below w.heap.size w w'))
     case atStart => exact ⟨(true), (0), (by first | rfl | (simp; done) | (simp [*]; done)), (by first | rfl | (simp; done) | (simp [*]; done)), H', ⟨Nat.le_refl _⟩, ⟨by (with_reducible repeat (first | refine blk_drewN ?_ _ | refine blk_drew ?_ | refine blk_alloc ?_ _)); exact BK213.out⟩, ⟨by (with_reducible repeat (first | refine blk_drewN ?_ _ | refine blk_drew ?_ | refine blk_alloc ?_ _)); exact BK214.out⟩, ⟨by repeat (first | (with_reducible first | exact HB.out | apply below_alloc | apply pw_below_drewN | apply below_drew1 | refine below_set ?_ GE213.out | refine below_set ?_ GE214.out) | exact HB.out)⟩⟩
     case round =>
      clear H'
      try clear c1
      try clear c2
      try clear p2
      try clear c3
      try clear c4
      try clear c6
      try clear c6b0
      try clear c6b1
      try clear c6b2
      try clear c7
      try clear c10
      try clear c10b0
      try clear c10b1
      try clear c11
      try clear c11b0
      try clear c11b1
      try clear c11b2
      try clear c12
      try clear c15
      try clear c15b0
      try clear c15b1
      try clear c15b2
      try clear c16
      try clear c19
      try clear c19b0
      try clear c19b1
      try clear c19b2
      try clear c20
      try clear c23
      try clear c23b0
      try clear c23b1
      try clear c23b2
      try clear c24
      try clear c24b0
      try clear c24b1
      try clear c24b2
      try clear c25
      try clear c25b0
      try clear c25b1
      try clear c25b2
      try clear c26
      try clear c26b0
      try clear c26b1
      try clear c26b2
      try clear c27
      try clear c30
      try clear c33
      try clear c36
      try clear c39
      try clear c42
      try clear c45
      try clear hcz13_0
      try clear hcz13_1
      try clear hcz13_2
      try clear hcz13_3
      try clear hcz13_4
      try clear hcz13_5
      try clear hcz13_6
      try clear hcz13_7
      try clear hcz13_8
      try clear hcz13_9
      try clear hcz14_0
      try clear hcz14_1
      try clear hcz14_2
      try clear hcz14_3
      try clear hcz14_4
      try clear hcz14_5
      try clear hcz14_6
      try clear hcz14_7
      try clear hcz14_8
      try clear hcz14_9
      try clear hcz17_0
      try clear hcz17_1
      try clear hcz17_2
      try clear hcz17_3
      try clear hcz17_4
      try clear hcz17_5
      try clear hcz17_6
      try clear hcz17_7
      try clear hcz17_8
      try clear hcz17_9
      try clear hcz18_0
      try clear hcz18_1
      try clear hcz18_2
      try clear hcz18_3
      try clear hcz18_4
      try clear hcz18_5
      try clear hcz18_6
      try clear hcz18_7
      try clear hcz18_8
      try clear hcz18_9
      try clear hcz21_0
      try clear hcz21_1
      try clear hcz21_2
      try clear hcz21_3
      try clear hcz21_4
      try clear hcz21_5
      try clear hcz21_6
      try clear hcz21_7
      try clear hcz21_8
      try clear hcz21_9
      try clear hcz22_0
      try clear hcz22_1
      try clear hcz22_2
      try clear hcz22_3
      try clear hcz22_4
      try clear hcz22_5
      try clear hcz22_6
      try clear hcz22_7
      try clear hcz22_8
      try clear hcz22_9
      try clear hcz28_0
      try clear hcz28_1
      try clear hcz28_2
      try clear hcz28_3
      try clear hcz28_4
      try clear hcz28_5
      try clear hcz28_6
      try clear hcz28_7
      try clear hcz28_8
      try clear hcz28_9
      try clear hcz29_0
      try clear hcz29_1
      try clear hcz29_2
      try clear hcz29_3
      try clear hcz29_4
      try clear hcz29_5
      try clear hcz29_6
      try clear hcz29_7
      try clear hcz29_8
      try clear hcz29_9
      try clear hcz31_0
      try clear hcz31_1
      try clear hcz31_2
      try clear hcz31_3
      try clear hcz31_4
      try clear hcz31_5
      try clear hcz31_6
      try clear hcz31_7
      try clear hcz31_8
      try clear hcz31_9
      try clear hcz32_0
      try clear hcz32_1
      try clear hcz32_2
      try clear hcz32_3
      try clear hcz32_4
      try clear hcz32_5
      try clear hcz32_6
      try clear hcz32_7
      try clear hcz32_8
      try clear hcz32_9
      try clear hcz34_0
      try clear hcz34_1
      try clear hcz34_2
      try clear hcz34_3
      try clear hcz34_4
      try clear hcz34_5
      try clear hcz34_6
      try clear hcz34_7
      try clear hcz34_8
      try clear hcz34_9
      try clear hcz35_0
      try clear hcz35_1
      try clear hcz35_2
      try clear hcz35_3
      try clear hcz35_4
      try clear hcz35_5
      try clear hcz35_6
      try clear hcz35_7
      try clear hcz35_8
      try clear hcz35_9
      try clear hcz37_0
      try clear hcz37_1
      try clear hcz37_2
      try clear hcz37_3
      try clear hcz37_4
      try clear hcz37_5
      try clear hcz37_6
      try clear hcz37_7
      try clear hcz37_8
      try clear hcz37_9
      try clear hcz38_0
      try clear hcz38_1
      try clear hcz38_2
      try clear hcz38_3
      try clear hcz38_4
      try clear hcz38_5
      try clear hcz38_6
      try clear hcz38_7
      try clear hcz38_8
      try clear hcz38_9
      try clear hcz40_0
      try clear hcz40_1
      try clear hcz40_2
      try clear hcz40_3
      try clear hcz40_4
      try clear hcz40_5
      try clear hcz40_6
      try clear hcz40_7
      try clear hcz40_8
      try clear hcz40_9
      try clear hcz41_0
      try clear hcz41_1
      try clear hcz41_2
      try clear hcz41_3
      try clear hcz41_4
      try clear hcz41_5
      try clear hcz41_6
      try clear hcz41_7
      try clear hcz41_8
      try clear hcz41_9
      try clear hcz43_0
      try clear hcz43_1
      try clear hcz43_2
      try clear hcz43_3
      try clear hcz43_4
      try clear hcz43_5
      try clear hcz43_6
      try clear hcz43_7
      try clear hcz43_8
      try clear hcz43_9
      try clear hcz44_0
      try clear hcz44_1
      try clear hcz44_2
      try clear hcz44_3
      try clear hcz44_4
      try clear hcz44_5
      try clear hcz44_6
      try clear hcz44_7
      try clear hcz44_8
      try clear hcz44_9
      try clear hcz8_0
      try clear hcz8_1
      try clear hcz8_2
      try clear hcz8_3
      try clear hcz8_4
      try clear hcz8_5
      try clear hcz8_6
      try clear hcz8_7
      try clear hcz8_8
      try clear hcz8_9
      try clear hcz9_0
      try clear hcz9_1
      try clear hcz9_2
      try clear hcz9_3
      try clear hcz9_4
      try clear hcz9_5
      try clear hcz9_6
      try clear hcz9_7
      try clear hcz9_8
      try clear hcz9_9
      try clear hfz13_0
      try clear hfz13_1
      try clear hfz13_2
      try clear hfz13_3
      try clear hfz13_4
      try clear hfz13_5
      try clear hfz13_6
      try clear hfz13_7
      try clear hfz13_8
      try clear hfz13_9
      try clear hfz14_0
      try clear hfz14_1
      try clear hfz14_2
      try clear hfz14_3
      try clear hfz14_4
      try clear hfz14_5
      try clear hfz14_6
      try clear hfz14_7
      try clear hfz14_8
      try clear hfz14_9
      try clear hfz17_0
      try clear hfz17_1
      try clear hfz17_2
      try clear hfz17_3
      try clear hfz17_4
      try clear hfz17_5
      try clear hfz17_6
      try clear hfz17_7
      try clear hfz17_8
      try clear hfz17_9
      try clear hfz18_0
      try clear hfz18_1
      try clear hfz18_2
      try clear hfz18_3
      try clear hfz18_4
      try clear hfz18_5
      try clear hfz18_6
      try clear hfz18_7
      try clear hfz18_8
      try clear hfz18_9
      try clear hfz21_0
      try clear hfz21_1
      try clear hfz21_2
      try clear hfz21_3
      try clear hfz21_4
      try clear hfz21_5
      try clear hfz21_6
      try clear hfz21_7
      try clear hfz21_8
      try clear hfz21_9
      try clear hfz22_0
      try clear hfz22_1
      try clear hfz22_2
      try clear hfz22_3
      try clear hfz22_4
      try clear hfz22_5
      try clear hfz22_6
      try clear hfz22_7
      try clear hfz22_8
      try clear hfz22_9
      try clear hfz28_0
      try clear hfz28_1
      try clear hfz28_2
      try clear hfz28_3
      try clear hfz28_4
      try clear hfz28_5
      try clear hfz28_6
      try clear hfz28_7
      try clear hfz28_8
      try clear hfz28_9
      try clear hfz29_0
      try clear hfz29_1
      try clear hfz29_2
      try clear hfz29_3
      try clear hfz29_4
      try clear hfz29_5
      try clear hfz29_6
      try clear hfz29_7
      try clear hfz29_8
      try clear hfz29_9
      try clear hfz31_0
      try clear hfz31_1
      try clear hfz31_2
      try clear hfz31_3
      try clear hfz31_4
      try clear hfz31_5
      try clear hfz31_6
      try clear hfz31_7
      try clear hfz31_8
      try clear hfz31_9
      try clear hfz32_0
      try clear hfz32_1
      try clear hfz32_2
      try clear hfz32_3
      try clear hfz32_4
      try clear hfz32_5
      try clear hfz32_6
      try clear hfz32_7
      try clear hfz32_8
      try clear hfz32_9
      try clear hfz34_0
      try clear hfz34_1
      try clear hfz34_2
      try clear hfz34_3
      try clear hfz34_4
      try clear hfz34_5
      try clear hfz34_6
      try clear hfz34_7
      try clear hfz34_8
      try clear hfz34_9
      try clear hfz35_0
      try clear hfz35_1
      try clear hfz35_2
      try clear hfz35_3
      try clear hfz35_4
      try clear hfz35_5
      try clear hfz35_6
      try clear hfz35_7
      try clear hfz35_8
      try clear hfz35_9
      try clear hfz37_0
      try clear hfz37_1
      try clear hfz37_2
      try clear hfz37_3
      try clear hfz37_4
      try clear hfz37_5
      try clear hfz37_6
      try clear hfz37_7
      try clear hfz37_8
      try clear hfz37_9
      try clear hfz38_0
      try clear hfz38_1
      try clear hfz38_2
      try clear hfz38_3
      try clear hfz38_4
      try clear hfz38_5
      try clear hfz38_6
      try clear hfz38_7
      try clear hfz38_8
      try clear hfz38_9
      try clear hfz40_0
      try clear hfz40_1
      try clear hfz40_2
      try clear hfz40_3
      try clear hfz40_4
      try clear hfz40_5
      try clear hfz40_6
      try clear hfz40_7
      try clear hfz40_8
      try clear hfz40_9
      try clear hfz41_0
      try clear hfz41_1
      try clear hfz41_2
      try clear hfz41_3
      try clear hfz41_4
      try clear hfz41_5
      try clear hfz41_6
      try clear hfz41_7
      try clear hfz41_8
      try clear hfz41_9
      try clear hfz43_0
      try clear hfz43_1
      try clear hfz43_2
      try clear hfz43_3
      try clear hfz43_4
      try clear hfz43_5
      try clear hfz43_6
      try clear hfz43_7
      try clear hfz43_8
      try clear hfz43_9
      try clear hfz44_0
      try clear hfz44_1
      try clear hfz44_2
      try clear hfz44_3
      try clear hfz44_4
      try clear hfz44_5
      try clear hfz44_6
      try clear hfz44_7
      try clear hfz44_8
      try clear hfz44_9
      try clear hfz8_0
      try clear hfz8_1
      try clear hfz8_2
      try clear hfz8_3
      try clear hfz8_4
      try clear hfz8_5
      try clear hfz8_6
      try clear hfz8_7
      try clear hfz8_8
      try clear hfz8_9
      try clear hfz9_0
      try clear hfz9_1
      try clear hfz9_2
      try clear hfz9_3
      try clear hfz9_4
      try clear hfz9_5
      try clear hfz9_6
      try clear hfz9_7
      try clear hfz9_8
      try clear hfz9_9
      try clear p2
      obtain ⟨x5_2, x6_2, rfl, rfl, HA, HK2, BK213, BK214, HB⟩ := hrel
      cases gk with
      | zero => exact absurd HA.out (by simp [tableauref15_Same.l0])
      | succ k2 =>
       have H := HA.out
       clear HA
       simp only [tableauref15_Same.l0] at H
       by_cases c46 : x6_2 < (l0_2.length : Int)
       · rw [if_pos c46] at H
         have c46b0 : decide (x6_2 < (l0_2.length : Int)) = true := decide_eq_true c46
         clear c46
         by_cases c47 : x5_2 = true
         · subst c47
           have H1 : (if 0 ≤ x6_2 then (if x6_2 < (l1_2.length : Int) then (tableauref15_Same.l0 k2 (((rd_T47 l0_2 x6_2).f0) == ((rd_T47 l1_2 x6_2).f0) && (((rd_T47 l0_2 x6_2).f1) == ((rd_T47 l1_2 x6_2).f1) && (((rd_T47 l0_2 x6_2).f2) == ((rd_T47 l1_2 x6_2).f2) && (((rd_T47 l0_2 x6_2).f3) == ((rd_T47 l1_2 x6_2).f3))))) (wrap64 (x6_2 + 1)) a0_0 a0_1 l0_2 l0_3 a0_4 a0_5 l0_6 a0_7 l0_8 l0_9 a1_0 a1_1 l1_2 l1_3 a1_4 a1_5 l1_6 a1_7 l1_8 l1_9) else (none)) else (none)) = some r := by rw [if_pos rfl] at H; exact H
           clear H
           have H := H1
           clear H1
           by_cases c48 : 0 ≤ x6_2
           · rw [if_pos c48] at H
             have c48b0 : decide (0 ≤ x6_2) = true := decide_eq_true c48
             clear c48
             by_cases c49 : x6_2 < (l1_2.length : Int)
             · rw [if_pos c49] at H
               have c49b0 : decide (x6_2 < (l1_2.length : Int)) = true := decide_eq_true c49
               clear c49
               have H' := Aside0.mk H
               clear H
               have hnb50 := NB213_214.out
               have hnc50 := NB214_213.out
               have hcz51_0 : wr.cell? ⟨gb213, 0, none⟩ = some (.bool a0_0) := (blk_cell BK213.out 0).trans rfl
               have hcz51_1 : wr.cell? ⟨gb213, 1, none⟩ = some (.int .i64 a0_1) := (blk_cell BK213.out 1).trans rfl
               have hcz51_2 : wr.cell? ⟨gb213, 2, none⟩ = some (.slice A0_2 l0_2.length c0_2) := (blk_cell BK213.out 2).trans rfl
               have hcz51_3 : wr.cell? ⟨gb213, 3, none⟩ = some (.slice A0_3 l0_3.length c0_3) := (blk_cell BK213.out 3).trans rfl
               have hcz51_4 : wr.cell? ⟨gb213, 4, none⟩ = some (.bool a0_4) := (blk_cell BK213.out 4).trans rfl
               have hcz51_5 : wr.cell? ⟨gb213, 5, none⟩ = some (.bool a0_5) := (blk_cell BK213.out 5).trans rfl
               have hcz51_6 : wr.cell? ⟨gb213, 6, none⟩ = some (.slice A0_6 l0_6.length c0_6) := (blk_cell BK213.out 6).trans rfl
               have hcz51_7 : wr.cell? ⟨gb213, 7, none⟩ = some (.bool a0_7) := (blk_cell BK213.out 7).trans rfl
               have hcz51_8 : wr.cell? ⟨gb213, 8, none⟩ = some (.slice A0_8 l0_8.length c0_8) := (blk_cell BK213.out 8).trans rfl
               have hcz51_9 : wr.cell? ⟨gb213, 9, none⟩ = some (.slice A0_9 l0_9.length c0_9) := (blk_cell BK213.out 9).trans rfl
               have hfz51_0 := blk_frozen BK213.out 0
               have hfz51_1 := blk_frozen BK213.out 1
               have hfz51_2 := blk_frozen BK213.out 2
               have hfz51_3 := blk_frozen BK213.out 3
               have hfz51_4 := blk_frozen BK213.out 4
               have hfz51_5 := blk_frozen BK213.out 5
               have hfz51_6 := blk_frozen BK213.out 6
               have hfz51_7 := blk_frozen BK213.out 7
               have hfz51_8 := blk_frozen BK213.out 8
               have hfz51_9 := blk_frozen BK213.out 9
               have p215 : 0 ≤ (x6_2 : Int) := of_decide_eq_true (by first | (with_reducible assumption) | assumption)
               have q215 : x6_2 < (l0_2.length : Int) := of_decide_eq_true (by first | (with_reducible assumption) | assumption)
               obtain ⟨ad215, e215, hx215_0, hx215_1, hx215_2, hx215_3⟩ := at_T47 HR0_2.out x6_2 p215 q215
               cases e215
               replace hx215_0 := (HB.out.cell (World.block_lt_of_cell? w _ hx215_0)).trans hx215_0
               replace hx215_1 := (HB.out.cell (World.block_lt_of_cell? w _ hx215_1)).trans hx215_1
               replace hx215_2 := (HB.out.cell (World.block_lt_of_cell? w _ hx215_2)).trans hx215_2
               replace hx215_3 := (HB.out.cell (World.block_lt_of_cell? w _ hx215_3)).trans hx215_3
               replace p215 := eq_true p215
               replace q215 := eq_true q215
               have hcz52_0 : wr.cell? ⟨gb214, 0, none⟩ = some (.bool a1_0) := (blk_cell BK214.out 0).trans rfl
               have hcz52_1 : wr.cell? ⟨gb214, 1, none⟩ = some (.int .i64 a1_1) := (blk_cell BK214.out 1).trans rfl
               have hcz52_2 : wr.cell? ⟨gb214, 2, none⟩ = some (.slice A1_2 l1_2.length c1_2) := (blk_cell BK214.out 2).trans rfl
               have hcz52_3 : wr.cell? ⟨gb214, 3, none⟩ = some (.slice A1_3 l1_3.length c1_3) := (blk_cell BK214.out 3).trans rfl
               have hcz52_4 : wr.cell? ⟨gb214, 4, none⟩ = some (.bool a1_4) := (blk_cell BK214.out 4).trans rfl
               have hcz52_5 : wr.cell? ⟨gb214, 5, none⟩ = some (.bool a1_5) := (blk_cell BK214.out 5).trans rfl
               have hcz52_6 : wr.cell? ⟨gb214, 6, none⟩ = some (.slice A1_6 l1_6.length c1_6) := (blk_cell BK214.out 6).trans rfl
               have hcz52_7 : wr.cell? ⟨gb214, 7, none⟩ = some (.bool a1_7) := (blk_cell BK214.out 7).trans rfl
               have hcz52_8 : wr.cell? ⟨gb214, 8, none⟩ = some (.slice A1_8 l1_8.length c1_8) := (blk_cell BK214.out 8).trans rfl
               have hcz52_9 : wr.cell? ⟨gb214, 9, none⟩ = some (.slice A1_9 l1_9.length c1_9) := (blk_cell BK214.out 9).trans rfl
               have hfz52_0 := blk_frozen BK214.out 0
               have hfz52_1 := blk_frozen BK214.out 1
               have hfz52_2 := blk_frozen BK214.out 2
               have hfz52_3 := blk_frozen BK214.out 3
               have hfz52_4 := blk_frozen BK214.out 4
               have hfz52_5 := blk_frozen BK214.out 5
               have hfz52_6 := blk_frozen BK214.out 6
               have hfz52_7 := blk_frozen BK214.out 7
               have hfz52_8 := blk_frozen BK214.out 8
               have hfz52_9 := blk_frozen BK214.out 9
               have p216 : 0 ≤ (x6_2 : Int) := of_decide_eq_true (by first | (with_reducible assumption) | assumption)
               have q216 : x6_2 < (l1_2.length : Int) := of_decide_eq_true (by first | (with_reducible assumption) | assumption)
               obtain ⟨ad216, e216, hx216_0, hx216_1, hx216_2, hx216_3⟩ := at_T47 HR1_2.out x6_2 p216 q216
               cases e216
               replace hx216_0 := (HB.out.cell (World.block_lt_of_cell? w _ hx216_0)).trans hx216_0
               replace hx216_1 := (HB.out.cell (World.block_lt_of_cell? w _ hx216_1)).trans hx216_1
               replace hx216_2 := (HB.out.cell (World.block_lt_of_cell? w _ hx216_2)).trans hx216_2
               replace hx216_3 := (HB.out.cell (World.block_lt_of_cell? w _ hx216_3)).trans hx216_3
               replace p216 := eq_true p216
               replace q216 := eq_true q216
               go_wp2
               repeat (go_quiet (fail); try go_wp2)
               go_roundg k2
               case measure => have := HJ2.out; have := HK2.out; omega
               case rel => exact ⟨((((rd_T47 l0_2 x6_2).f0) == ((rd_T47 l1_2 x6_2).f0) && (((rd_T47 l0_2 x6_2).f1) == ((rd_T47 l1_2 x6_2).f1) && (((rd_T47 l0_2 x6_2).f2) == ((rd_T47 l1_2 x6_2).f2) && (((rd_T47 l0_2 x6_2).f3) == ((rd_T47 l1_2 x6_2).f3)))))), (wrap64 (x6_2 + 1)), (by first | rfl | (simp; done) | (simp [*]; done)), (by first | rfl | (simp; done) | (simp [*]; done)), H', ⟨by have := HJ2.out; have := HK2.out; omega⟩, ⟨by (with_reducible repeat (first | refine blk_drewN ?_ _ | refine blk_drew ?_ | refine blk_alloc ?_ _)); exact BK213.out⟩, ⟨by (with_reducible repeat (first | refine blk_drewN ?_ _ | refine blk_drew ?_ | refine blk_alloc ?_ _)); exact BK214.out⟩, ⟨by repeat (first | (with_reducible first | exact HB.out | apply below_alloc | apply pw_below_drewN | apply below_drew1 | refine below_set ?_ GE213.out | refine below_set ?_ GE214.out) | exact HB.out)⟩⟩
             · rw [if_neg c49] at H
               exact absurd H (by simp)
           · rw [if_neg c48] at H
             exact absurd H (by simp)
         · replace c47 := Bool.eq_false_iff.mpr c47
           subst c47
           have H1 : (tableauref15_Same.l0 k2 false (wrap64 (x6_2 + 1)) a0_0 a0_1 l0_2 l0_3 a0_4 a0_5 l0_6 a0_7 l0_8 l0_9 a1_0 a1_1 l1_2 l1_3 a1_4 a1_5 l1_6 a1_7 l1_8 l1_9) = some r := by rw [if_neg (show ¬ (false = true) by decide)] at H; exact H
           clear H
           have H := H1
           clear H1
           have H' := Aside0.mk H
           clear H
           have hnb53 := NB213_214.out
           have hnc53 := NB214_213.out
           have hcz54_0 : wr.cell? ⟨gb213, 0, none⟩ = some (.bool a0_0) := (blk_cell BK213.out 0).trans rfl
           have hcz54_1 : wr.cell? ⟨gb213, 1, none⟩ = some (.int .i64 a0_1) := (blk_cell BK213.out 1).trans rfl
           have hcz54_2 : wr.cell? ⟨gb213, 2, none⟩ = some (.slice A0_2 l0_2.length c0_2) := (blk_cell BK213.out 2).trans rfl
           have hcz54_3 : wr.cell? ⟨gb213, 3, none⟩ = some (.slice A0_3 l0_3.length c0_3) := (blk_cell BK213.out 3).trans rfl
           have hcz54_4 : wr.cell? ⟨gb213, 4, none⟩ = some (.bool a0_4) := (blk_cell BK213.out 4).trans rfl
           have hcz54_5 : wr.cell? ⟨gb213, 5, none⟩ = some (.bool a0_5) := (blk_cell BK213.out 5).trans rfl
           have hcz54_6 : wr.cell? ⟨gb213, 6, none⟩ = some (.slice A0_6 l0_6.length c0_6) := (blk_cell BK213.out 6).trans rfl
           have hcz54_7 : wr.cell? ⟨gb213, 7, none⟩ = some (.bool a0_7) := (blk_cell BK213.out 7).trans rfl
           have hcz54_8 : wr.cell? ⟨gb213, 8, none⟩ = some (.slice A0_8 l0_8.length c0_8) := (blk_cell BK213.out 8).trans rfl
           have hcz54_9 : wr.cell? ⟨gb213, 9, none⟩ = some (.slice A0_9 l0_9.length c0_9) := (blk_cell BK213.out 9).trans rfl
           have hfz54_0 := blk_frozen BK213.out 0
           have hfz54_1 := blk_frozen BK213.out 1
           have hfz54_2 := blk_frozen BK213.out 2
           have hfz54_3 := blk_frozen BK213.out 3
           have hfz54_4 := blk_frozen BK213.out 4
           have hfz54_5 := blk_frozen BK213.out 5
           have hfz54_6 := blk_frozen BK213.out 6
           have hfz54_7 := blk_frozen BK213.out 7
           have hfz54_8 := blk_frozen BK213.out 8
           have hfz54_9 := blk_frozen BK213.out 9
           go_wp2
           repeat (go_quiet (fail); try go_wp2)
           go_roundg k2
           case measure => have := HJ2.out; have := HK2.out; omega
           case rel => exact ⟨(false), (wrap64 (x6_2 + 1)), (by first | rfl | (simp; done) | (simp [*]; done)), (by first | rfl | (simp; done) | (simp [*]; done)), H', ⟨by have := HJ2.out; have := HK2.out; omega⟩, ⟨by (with_reducible repeat (first | refine blk_drewN ?_ _ | refine blk_drew ?_ | refine blk_alloc ?_ _)); exact BK213.out⟩, ⟨by (with_reducible repeat (first | refine blk_drewN ?_ _ | refine blk_drew ?_ | refine blk_alloc ?_ _)); exact BK214.out⟩, ⟨by repeat (first | (with_reducible first | exact HB.out | apply below_alloc | apply pw_below_drewN | apply below_drew1 | refine below_set ?_ GE213.out | refine below_set ?_ GE214.out) | exact HB.out)⟩⟩
       · rw [if_neg c46] at H
         have c46b0 : decide (x6_2 < (l0_2.length : Int)) = false := decide_eq_false c46
         clear c46
         have H' := Aside0.mk H
         clear H
         have hnb55 := NB213_214.out
         have hnc55 := NB214_213.out
         have hcz56_0 : wr.cell? ⟨gb213, 0, none⟩ = some (.bool a0_0) := (blk_cell BK213.out 0).trans rfl
         have hcz56_1 : wr.cell? ⟨gb213, 1, none⟩ = some (.int .i64 a0_1) := (blk_cell BK213.out 1).trans rfl
         have hcz56_2 : wr.cell? ⟨gb213, 2, none⟩ = some (.slice A0_2 l0_2.length c0_2) := (blk_cell BK213.out 2).trans rfl
         have hcz56_3 : wr.cell? ⟨gb213, 3, none⟩ = some (.slice A0_3 l0_3.length c0_3) := (blk_cell BK213.out 3).trans rfl
         have hcz56_4 : wr.cell? ⟨gb213, 4, none⟩ = some (.bool a0_4) := (blk_cell BK213.out 4).trans rfl
         have hcz56_5 : wr.cell? ⟨gb213, 5, none⟩ = some (.bool a0_5) := (blk_cell BK213.out 5).trans rfl
         have hcz56_6 : wr.cell? ⟨gb213, 6, none⟩ = some (.slice A0_6 l0_6.length c0_6) := (blk_cell BK213.out 6).trans rfl
         have hcz56_7 : wr.cell? ⟨gb213, 7, none⟩ = some (.bool a0_7) := (blk_cell BK213.out 7).trans rfl
         have hcz56_8 : wr.cell? ⟨gb213, 8, none⟩ = some (.slice A0_8 l0_8.length c0_8) := (blk_cell BK213.out 8).trans rfl
         have hcz56_9 : wr.cell? ⟨gb213, 9, none⟩ = some (.slice A0_9 l0_9.length c0_9) := (blk_cell BK213.out 9).trans rfl
         have hfz56_0 := blk_frozen BK213.out 0
         have hfz56_1 := blk_frozen BK213.out 1
         have hfz56_2 := blk_frozen BK213.out 2
         have hfz56_3 := blk_frozen BK213.out 3
         have hfz56_4 := blk_frozen BK213.out 4
         have hfz56_5 := blk_frozen BK213.out 5
         have hfz56_6 := blk_frozen BK213.out 6
         have hfz56_7 := blk_frozen BK213.out 7
         have hfz56_8 := blk_frozen BK213.out 8
         have hfz56_9 := blk_frozen BK213.out 9
         go_wp2
         repeat (go_quiet (fail); try go_wp2)
         go_loopg [5, 7] k2 (fun kq v5 v7 w' => ∃ (x5_3 : Bool) (x7_3 : Int), v5 = .bool x5_3 ∧ v7 = .int .i64 x7_3 ∧ Aside0 (tableauref15_Same.l1 kq x5_3 x7_3 a0_0 a0_1 l0_2 l0_3 a0_4 a0_5 l0_6 a0_7 l0_8 l0_9 a1_0 a1_1 l1_2 l1_3 a1_4 a1_5 l1_6 a1_7 l1_8 l1_9 = some r) ∧ Aside0 (kq ≤ k2) ∧ Aside0 (w'.heap[gb213]? = some (.cells #[.bool a0_0, .int .i64 a0_1, (.slice A0_2 l0_2.length c0_2), (.slice A0_3 l0_3.length c0_3), .bool a0_4, .bool a0_5, (.slice A0_6 l0_6.length c0_6), .bool a0_7, (.slice A0_8 l0_8.length c0_8), (.slice A0_9 l0_9.length c0_9)] 33 (0, 0))) ∧ Aside0 (w'.heap[gb214]? = some (.cells #[.bool a1_0, .int .i64 a1_1, (.slice A1_2 l1_2.length c1_2), (.slice A1_3 l1_3.length c1_3), .bool a1_4, .bool a1_5, (.slice A1_6 l1_6.length c1_6), .bool a1_7, (.slice A1_8 l1_8.length c1_8), (.slice A1_9 l1_9.length c1_9)] 33 (0, 0))) ∧ Aside0 (Below w.heap.size w w'))
         case atStart => exact ⟨(x5_2), (0), (by first | rfl | (simp; done) | (simp [*]; done)), (by first | rfl | (simp; done) | (simp [*]; done)), H', ⟨Nat.le_refl _⟩, ⟨by (with_reducible repeat (first | refine blk_drewN ?_ _ | refine blk_drew ?_ | refine blk_alloc ?_ _)); exact BK213.out⟩, ⟨by (with_reducible repeat (first | refine blk_drewN ?_ _ | refine blk_drew ?_ | refine blk_alloc ?_ _)); exact BK214.out⟩, ⟨by repeat (first | (with_reducible first | exact HB.out | apply below_alloc | apply pw_below_drewN | apply below_drew1 | refine below_set ?_ GE213.out | refine below_set ?_ GE214.out) | exact HB.out)⟩⟩
         case round =>
          clear H'
          try clear c1
          try clear c2
          try clear p2
          try clear q2
          try clear hx2
          try clear c3
          try clear c4
          try clear c5
          try clear p6
          try clear c15
          try clear c15b0
          try clear c15b1
          try clear c15b2
          try clear c16
          try clear c19
          try clear c19b0
          try clear c19b1
          try clear c19b2
          try clear c20
          try clear p21
          try clear q21
          try clear hx21
          try clear c23
          try clear c23b0
          try clear c23b1
          try clear c23b2
          try clear c24
          try clear c24b0
          try clear c24b1
          try clear c24b2
          try clear c25
          try clear c25b0
          try clear c25b1
          try clear c25b2
          try clear c26
          try clear c26b0
          try clear c26b1
          try clear c26b2
          try clear c27
          try clear c30
          try clear c33
          try clear c36
          try clear c39
          try clear c42
          try clear c45
          try clear c46
          try clear c46b0
          try clear c47
          try clear c48
          try clear c48b0
          try clear c49
          try clear c49b0
          try clear c50
          try clear c53
          try clear c55
          try clear hcz13_0
          try clear hcz13_1
          try clear hcz13_2
          try clear hcz13_3
          try clear hcz13_4
          try clear hcz13_5
          try clear hcz13_6
          try clear hcz13_7
          try clear hcz13_8
          try clear hcz13_9
          try clear hcz14_0
          try clear hcz14_1
          try clear hcz14_2
          try clear hcz14_3
          try clear hcz14_4
          try clear hcz14_5
          try clear hcz14_6
          try clear hcz14_7
          try clear hcz14_8
          try clear hcz14_9
          try clear hcz17_0
          try clear hcz17_1
          try clear hcz17_2
          try clear hcz17_3
          try clear hcz17_4
          try clear hcz17_5
          try clear hcz17_6
          try clear hcz17_7
          try clear hcz17_8
          try clear hcz17_9
          try clear hcz18_0
          try clear hcz18_1
          try clear hcz18_2
          try clear hcz18_3
          try clear hcz18_4
          try clear hcz18_5
          try clear hcz18_6
          try clear hcz18_7
          try clear hcz18_8
          try clear hcz18_9
          try clear hcz21_0
          try clear hcz21_1
          try clear hcz21_2
          try clear hcz21_3
          try clear hcz21_4
          try clear hcz21_5
          try clear hcz21_6
          try clear hcz21_7
          try clear hcz21_8
          try clear hcz21_9
          try clear hcz22_0
          try clear hcz22_1
          try clear hcz22_2
          try clear hcz22_3
          try clear hcz22_4
          try clear hcz22_5
          try clear hcz22_6
          try clear hcz22_7
          try clear hcz22_8
          try clear hcz22_9
          try clear hcz28_0
          try clear hcz28_1
          try clear hcz28_2
          try clear hcz28_3
          try clear hcz28_4
          try clear hcz28_5
          try clear hcz28_6
          try clear hcz28_7
          try clear hcz28_8
          try clear hcz28_9
          try clear hcz29_0
          try clear hcz29_1
          try clear hcz29_2
          try clear hcz29_3
          try clear hcz29_4
          try clear hcz29_5
          try clear hcz29_6
          try clear hcz29_7
          try clear hcz29_8
          try clear hcz29_9
          try clear hcz31_0
          try clear hcz31_1
          try clear hcz31_2
          try clear hcz31_3
          try clear hcz31_4
          try clear hcz31_5
          try clear hcz31_6
          try clear hcz31_7
          try clear hcz31_8
          try clear hcz31_9
          try clear hcz32_0
          try clear hcz32_1
          try clear hcz32_2
          try clear hcz32_3
          try clear hcz32_4
          try clear hcz32_5
          try clear hcz32_6
          try clear hcz32_7
          try clear hcz32_8
          try clear hcz32_9
          try clear hcz34_0
          try clear hcz34_1
          try clear hcz34_2
          try clear hcz34_3
          try clear hcz34_4
          try clear hcz34_5
          try clear hcz34_6
          try clear hcz34_7
          try clear hcz34_8
          try clear hcz34_9
          try clear hcz35_0
          try clear hcz35_1
          try clear hcz35_2
          try clear hcz35_3
          try clear hcz35_4
          try clear hcz35_5
          try clear hcz35_6
          try clear hcz35_7
          try clear hcz35_8
          try clear hcz35_9
          try clear hcz37_0
          try clear hcz37_1
          try clear hcz37_2
          try clear hcz37_3
          try clear hcz37_4
          try clear hcz37_5
          try clear hcz37_6
          try clear hcz37_7
          try clear hcz37_8
          try clear hcz37_9
          try clear hcz38_0
          try clear hcz38_1
          try clear hcz38_2
          try clear hcz38_3
          try clear hcz38_4
          try clear hcz38_5
          try clear hcz38_6
          try clear hcz38_7
          try clear hcz38_8
          try clear hcz38_9
          try clear hcz40_0
          try clear hcz40_1
          try clear hcz40_2
          try clear hcz40_3
          try clear hcz40_4
          try clear hcz40_5
          try clear hcz40_6
          try clear hcz40_7
          try clear hcz40_8
          try clear hcz40_9
          try clear hcz41_0
          try clear hcz41_1
          try clear hcz41_2
          try clear hcz41_3
          try clear hcz41_4
          try clear hcz41_5
          try clear hcz41_6
          try clear hcz41_7
          try clear hcz41_8
          try clear hcz41_9
          try clear hcz43_0
          try clear hcz43_1
          try clear hcz43_2
          try clear hcz43_3
          try clear hcz43_4
          try clear hcz43_5
          try clear hcz43_6
          try clear hcz43_7
          try clear hcz43_8
          try clear hcz43_9
          try clear hcz44_0
          try clear hcz44_1
          try clear hcz44_2
          try clear hcz44_3
          try clear hcz44_4
          try clear hcz44_5
          try clear hcz44_6
          try clear hcz44_7
          try clear hcz44_8
          try clear hcz44_9
          try clear hcz51_0
          try clear hcz51_1
          try clear hcz51_2
          try clear hcz51_3
          try clear hcz51_4
          try clear hcz51_5
          try clear hcz51_6
          try clear hcz51_7
          try clear hcz51_8
          try clear hcz51_9
          try clear hcz52_0
          try clear hcz52_1
          try clear hcz52_2
          try clear hcz52_3
          try clear hcz52_4
          try clear hcz52_5
          try clear hcz52_6
          try clear hcz52_7
          try clear hcz52_8
          try clear hcz52_9
          try clear hcz54_0
          try clear hcz54_1
          try clear hcz54_2
          try clear hcz54_3
          try clear hcz54_4
          try clear hcz54_5
          try clear hcz54_6
          try clear hcz54_7
          try clear hcz54_8
          try clear hcz54_9
          try clear hcz56_0
          try clear hcz56_1
          try clear hcz56_2
          try clear hcz56_3
          try clear hcz56_4
          try clear hcz56_5
          try clear hcz56_6
          try clear hcz56_7
          try clear hcz56_8
          try clear hcz56_9
          try clear hcz8_0
          try clear hcz8_1
          try clear hcz8_2
          try clear hcz8_3
          try clear hcz8_4
          try clear hcz8_5
          try clear hcz8_6
          try clear hcz8_7
          try clear hcz8_8
          try clear hcz8_9
          try clear hcz9_0
          try clear hcz9_1
          try clear hcz9_2
          try clear hcz9_3
          try clear hcz9_4
          try clear hcz9_5
          try clear hcz9_6
          try clear hcz9_7
          try clear hcz9_8
          try clear hcz9_9
          try clear hfz13_0
          try clear hfz13_1
          try clear hfz13_2
          try clear hfz13_3
          try clear hfz13_4
          try clear hfz13_5
          try clear hfz13_6
          try clear hfz13_7
          try clear hfz13_8
          try clear hfz13_9
          try clear hfz14_0
          try clear hfz14_1
          try clear hfz14_2
          try clear hfz14_3
          try clear hfz14_4
          try clear hfz14_5
          try clear hfz14_6
          try clear hfz14_7
          try clear hfz14_8
          try clear hfz14_9
          try clear hfz17_0
          try clear hfz17_1
          try clear hfz17_2
          try clear hfz17_3
          try clear hfz17_4
          try clear hfz17_5
          try clear hfz17_6
          try clear hfz17_7
          try clear hfz17_8
          try clear hfz17_9
          try clear hfz18_0
          try clear hfz18_1
          try clear hfz18_2
          try clear hfz18_3
          try clear hfz18_4
          try clear hfz18_5
          try clear hfz18_6
          try clear hfz18_7
          try clear hfz18_8
          try clear hfz18_9
          try clear hfz21_0
          try clear hfz21_1
          try clear hfz21_2
          try clear hfz21_3
          try clear hfz21_4
          try clear hfz21_5
          try clear hfz21_6
          try clear hfz21_7
          try clear hfz21_8
          try clear hfz21_9
          try clear hfz22_0
          try clear hfz22_1
          try clear hfz22_2
          try clear hfz22_3
          try clear hfz22_4
          try clear hfz22_5
          try clear hfz22_6
          try clear hfz22_7
          try clear hfz22_8
          try clear hfz22_9
          try clear hfz28_0
          try clear hfz28_1
          try clear hfz28_2
          try clear hfz28_3
          try clear hfz28_4
          try clear hfz28_5
          try clear hfz28_6
          try clear hfz28_7
          try clear hfz28_8
          try clear hfz28_9
          try clear hfz29_0
          try clear hfz29_1
          try clear hfz29_2
          try clear hfz29_3
          try clear hfz29_4
          try clear hfz29_5
          try clear hfz29_6
          try clear hfz29_7
          try clear hfz29_8
          try clear hfz29_9
          try clear hfz31_0
          try clear hfz31_1
          try clear hfz31_2
          try clear hfz31_3
          try clear hfz31_4
          try clear hfz31_5
          try clear hfz31_6
          try clear hfz31_7
          try clear hfz31_8
          try clear hfz31_9
          try clear hfz32_0
          try clear hfz32_1
          try clear hfz32_2
          try clear hfz32_3
          try clear hfz32_4
          try clear hfz32_5
          try clear hfz32_6
          try clear hfz32_7
          try clear hfz32_8
          try clear hfz32_9
          try clear hfz34_0
          try clear hfz34_1
          try clear hfz34_2
          try clear hfz34_3
          try clear hfz34_4
          try clear hfz34_5
          try clear hfz34_6
          try clear hfz34_7
          try clear hfz34_8
          try clear hfz34_9
          try clear hfz35_0
          try clear hfz35_1
          try clear hfz35_2
          try clear hfz35_3
          try clear hfz35_4
          try clear hfz35_5
          try clear hfz35_6
          try clear hfz35_7
          try clear hfz35_8
          try clear hfz35_9
          try clear hfz37_0
          try clear hfz37_1
          try clear hfz37_2
          try clear hfz37_3
          try clear hfz37_4
          try clear hfz37_5
          try clear hfz37_6
          try clear hfz37_7
          try clear hfz37_8
          try clear hfz37_9
          try clear hfz38_0
          try clear hfz38_1
          try clear hfz38_2
          try clear hfz38_3
          try clear hfz38_4
          try clear hfz38_5
          try clear hfz38_6
          try clear hfz38_7
          try clear hfz38_8
          try clear hfz38_9
          try clear hfz40_0
          try clear hfz40_1
          try clear hfz40_2
          try clear hfz40_3
          try clear hfz40_4
          try clear hfz40_5
          try clear hfz40_6
          try clear hfz40_7
          try clear hfz40_8
          try clear hfz40_9
          try clear hfz41_0
          try clear hfz41_1
          try clear hfz41_2
          try clear hfz41_3
          try clear hfz41_4
          try clear hfz41_5
          try clear hfz41_6
          try clear hfz41_7
          try clear hfz41_8
          try clear hfz41_9
          try clear hfz43_0
          try clear hfz43_1
          try clear hfz43_2
          try clear hfz43_3
          try clear hfz43_4
          try clear hfz43_5
          try clear hfz43_6
          try clear hfz43_7
          try clear hfz43_8
          try clear hfz43_9
          try clear hfz44_0
          try clear hfz44_1
          try clear hfz44_2
          try clear hfz44_3
          try clear hfz44_4
          try clear hfz44_5
          try clear hfz44_6
          try clear hfz44_7
          try clear hfz44_8
          try clear hfz44_9
          try clear hfz51_0
          try clear hfz51_1
          try clear hfz51_2
          try clear hfz51_3
          try clear hfz51_4
          try clear hfz51_5
          try clear hfz51_6
          try clear hfz51_7
          try clear hfz51_8
          try clear hfz51_9
          try clear hfz52_0
          try clear hfz52_1
          try clear hfz52_2
          try clear hfz52_3
          try clear hfz52_4
          try clear hfz52_5
          try clear hfz52_6
          try clear hfz52_7
          try clear hfz52_8
          try clear hfz52_9
          try clear hfz54_0
          try clear hfz54_1
          try clear hfz54_2
          try clear hfz54_3
          try clear hfz54_4
          try clear hfz54_5
          try clear hfz54_6
          try clear hfz54_7
          try clear hfz54_8
          try clear hfz54_9
          try clear hfz56_0
          try clear hfz56_1
          try clear hfz56_2
          try clear hfz56_3
          try clear hfz56_4
          try clear hfz56_5
          try clear hfz56_6
          try clear hfz56_7
          try clear hfz56_8
          try clear hfz56_9
          try clear hfz8_0
          try clear hfz8_1
          try clear hfz8_2
          try clear hfz8_3
          try clear hfz8_4
          try clear hfz8_5
          try clear hfz8_6
          try clear hfz8_7
          try clear hfz8_8
          try clear hfz8_9
          try clear hfz9_0
          try clear hfz9_1
          try clear hfz9_2
          try clear hfz9_3
          try clear hfz9_4
          try clear hfz9_5
          try clear hfz9_6
          try clear hfz9_7
          try clear hfz9_8
          try clear hfz9_9
          try clear hx215_0
          try clear hx215_1
          try clear hx215_2
          try clear hx215_3
          try clear hx216_0
          try clear hx216_1
          try clear hx216_2
          try clear hx216_3
          try clear p2
          try clear p215
          try clear p216
          try clear q215
          try clear q216
          obtain ⟨x5_3, x7_3, rfl, rfl, HA, HK3, BK213, BK214, HB⟩ := hrel
          cases gk with
          | zero => exact absurd HA.out (by simp [tableauref15_Same.l1])
          | succ k3 =>
           have H := HA.out
           clear HA
           simp only [tableauref15_Same.l1] at H
           by_cases c57 : x7_3 < (l0_3.length : Int)
           · rw [if_pos c57] at H
             have c57b0 : decide (x7_3 < (l0_3.length : Int)) = true := decide_eq_true c57
             clear c57
             by_cases c58 : x5_3 = true
             · subst c58
               have H1 : (if 0 ≤ x7_3 then (if x7_3 < (l1_3.length : Int) then (tableauref15_Same.l1 k3 ((rd l0_3 x7_3) == (rd l1_3 x7_3)) (wrap64 (x7_3 + 1)) a0_0 a0_1 l0_2 l0_3 a0_4 a0_5 l0_6 a0_7 l0_8 l0_9 a1_0 a1_1 l1_2 l1_3 a1_4 a1_5 l1_6 a1_7 l1_8 l1_9) else (none)) else (none)) = some r := by rw [if_pos rfl] at H; exact H
               clear H
               have H := H1
               clear H1
               by_cases c59 : 0 ≤ x7_3
               · rw [if_pos c59] at H
                 have c59b0 : decide (0 ≤ x7_3) = true := decide_eq_true c59
                 clear c59
                 by_cases c60 : x7_3 < (l1_3.length : Int)
                 · rw [if_pos c60] at H
                   have c60b0 : decide (x7_3 < (l1_3.length : Int)) = true := decide_eq_true c60
                   clear c60
                   have H' := Aside0.mk H
                   clear H
                   have hnb61 := NB213_214.out
                   have hnc61 := NB214_213.out
                   have hcz62_0 : wr.cell? ⟨gb213, 0, none⟩ = some (.bool a0_0) := (blk_cell BK213.out 0).trans rfl
                   have hcz62_1 : wr.cell? ⟨gb213, 1, none⟩ = some (.int .i64 a0_1) := (blk_cell BK213.out 1).trans rfl
                   have hcz62_2 : wr.cell? ⟨gb213, 2, none⟩ = some (.slice A0_2 l0_2.length c0_2) := (blk_cell BK213.out 2).trans rfl
                   have hcz62_3 : wr.cell? ⟨gb213, 3, none⟩ = some (.slice A0_3 l0_3.length c0_3) := (blk_cell BK213.out 3).trans rfl
                   have hcz62_4 : wr.cell? ⟨gb213, 4, none⟩ = some (.bool a0_4) := (blk_cell BK213.out 4).trans rfl
                   have hcz62_5 : wr.cell? ⟨gb213, 5, none⟩ = some (.bool a0_5) := (blk_cell BK213.out 5).trans rfl
                   have hcz62_6 : wr.cell? ⟨gb213, 6, none⟩ = some (.slice A0_6 l0_6.length c0_6) := (blk_cell BK213.out 6).trans rfl
                   have hcz62_7 : wr.cell? ⟨gb213, 7, none⟩ = some (.bool a0_7) := (blk_cell BK213.out 7).trans rfl
                   have hcz62_8 : wr.cell? ⟨gb213, 8, none⟩ = some (.slice A0_8 l0_8.length c0_8) := (blk_cell BK213.out 8).trans rfl
                   have hcz62_9 : wr.cell? ⟨gb213, 9, none⟩ = some (.slice A0_9 l0_9.length c0_9) := (blk_cell BK213.out 9).trans rfl
                   have hfz62_0 := blk_frozen BK213.out 0
                   have hfz62_1 := blk_frozen BK213.out 1
                   have hfz62_2 := blk_frozen BK213.out 2
                   have hfz62_3 := blk_frozen BK213.out 3
                   have hfz62_4 := blk_frozen BK213.out 4
                   have hfz62_5 := blk_frozen BK213.out 5
                   have hfz62_6 := blk_frozen BK213.out 6
                   have hfz62_7 := blk_frozen BK213.out 7
                   have hfz62_8 := blk_frozen BK213.out 8
                   have hfz62_9 := blk_frozen BK213.out 9
                   have p217 : 0 ≤ (x7_3 : Int) := of_decide_eq_true (by first | (with_reducible assumption) | assumption)
                   have q217 : x7_3 < (l0_3.length : Int) := of_decide_eq_true (by first | (with_reducible assumption) | assumption)
                   obtain ⟨ad217, e217, hx217_0⟩ := Kd.at_int HR0_3.out x7_3 p217 q217
                   cases e217
                   replace hx217_0 := (HB.out.cell (World.block_lt_of_cell? w _ hx217_0)).trans hx217_0
                   replace p217 := eq_true p217
                   replace q217 := eq_true q217
                   have hcz63_0 : wr.cell? ⟨gb214, 0, none⟩ = some (.bool a1_0) := (blk_cell BK214.out 0).trans rfl
                   have hcz63_1 : wr.cell? ⟨gb214, 1, none⟩ = some (.int .i64 a1_1) := (blk_cell BK214.out 1).trans rfl
                   have hcz63_2 : wr.cell? ⟨gb214, 2, none⟩ = some (.slice A1_2 l1_2.length c1_2) := (blk_cell BK214.out 2).trans rfl
                   have hcz63_3 : wr.cell? ⟨gb214, 3, none⟩ = some (.slice A1_3 l1_3.length c1_3) := (blk_cell BK214.out 3).trans rfl
                   have hcz63_4 : wr.cell? ⟨gb214, 4, none⟩ = some (.bool a1_4) := (blk_cell BK214.out 4).trans rfl
                   have hcz63_5 : wr.cell? ⟨gb214, 5, none⟩ = some (.bool a1_5) := (blk_cell BK214.out 5).trans rfl
                   have hcz63_6 : wr.cell? ⟨gb214, 6, none⟩ = some (.slice A1_6 l1_6.length c1_6) := (blk_cell BK214.out 6).trans rfl
                   have hcz63_7 : wr.cell? ⟨gb214, 7, none⟩ = some (.bool a1_7) := (blk_cell BK214.out 7).trans rfl
                   have hcz63_8 : wr.cell? ⟨gb214, 8, none⟩ = some (.slice A1_8 l1_8.length c1_8) := (blk_cell BK214.out 8).trans rfl
                   have hcz63_9 : wr.cell? ⟨gb214, 9, none⟩ = some (.slice A1_9 l1_9.length c1_9) := (blk_cell BK214.out 9).trans rfl
                   have hfz63_0 := blk_frozen BK214.out 0
                   have hfz63_1 := blk_frozen BK214.out 1
                   have hfz63_2 := blk_frozen BK214.out 2
                   have hfz63_3 := blk_frozen BK214.out 3
                   have hfz63_4 := blk_frozen BK214.out 4
                   have hfz63_5 := blk_frozen BK214.out 5
                   have hfz63_6 := blk_frozen BK214.out 6
                   have hfz63_7 := blk_frozen BK214.out 7
                   have hfz63_8 := blk_frozen BK214.out 8
                   have hfz63_9 := blk_frozen BK214.out 9
                   have p218 : 0 ≤ (x7_3 : Int) := of_decide_eq_true (by first | (with_reducible assumption) | assumption)
                   have q218 : x7_3 < (l1_3.length : Int) := of_decide_eq_true (by first | (with_reducible assumption) | assumption)
                   obtain ⟨ad218, e218, hx218_0⟩ := Kd.at_int HR1_3.out x7_3 p218 q218
                   cases e218
                   replace hx218_0 := (HB.out.cell (World.block_lt_of_cell? w _ hx218_0)).trans hx218_0
                   replace p218 := eq_true p218
                   replace q218 := eq_true q218
                   go_wp2
                   repeat (go_quiet (fail); try go_wp2)
                   go_roundg k3
                   case measure => have := HJ2.out; have := HK2.out; have := HK3.out; omega
                   case rel => exact ⟨(((rd l0_3 x7_3) == (rd l1_3 x7_3))), (wrap64 (x7_3 + 1)), (by first | rfl | (simp; done) | (simp [*]; done)), (by first | rfl | (simp; done) | (simp [*]; done)), H', ⟨by have := HJ2.out; have := HK2.out; have := HK3.out; omega⟩, ⟨by (with_reducible repeat (first | refine blk_drewN ?_ _ | refine blk_drew ?_ | refine blk_alloc ?_ _)); exact BK213.out⟩, ⟨by (with_reducible repeat (first | refine blk_drewN ?_ _ | refine blk_drew ?_ | refine blk_alloc ?_ _)); exact BK214.out⟩, ⟨by repeat (first | (with_reducible first | exact HB.out | apply below_alloc | apply pw_below_drewN | apply below_drew1 | refine below_set ?_ GE213.out | refine below_set ?_ GE214.out) | exact HB.out)⟩⟩
                 · rw [if_neg c60] at H
                   exact absurd H (by simp)
               · rw [if_neg c59] at H
                 exact absurd H (by simp)
             · replace c58 := Bool.eq_false_iff.mpr c58
               subst c58
               have H1 : (tableauref15_Same.l1 k3 false (wrap64 (x7_3 + 1)) a0_0 a0_1 l0_2 l0_3 a0_4 a0_5 l0_6 a0_7 l0_8 l0_9 a1_0 a1_1 l1_2 l1_3 a1_4 a1_5 l1_6 a1_7 l1_8 l1_9) = some r := by rw [if_neg (show ¬ (false = true) by decide)] at H; exact H
               clear H
               have H := H1
               clear H1
               have H' := Aside0.mk H
               clear H
               have hnb64 := NB213_214.out
               have hnc64 := NB214_213.out
               have hcz65_0 : wr.cell? ⟨gb213, 0, none⟩ = some (.bool a0_0) := (blk_cell BK213.out 0).trans rfl
               have hcz65_1 : wr.cell? ⟨gb213, 1, none⟩ = some (.int .i64 a0_1) := (blk_cell BK213.out 1).trans rfl
               have hcz65_2 : wr.cell? ⟨gb213, 2, none⟩ = some (.slice A0_2 l0_2.length c0_2) := (blk_cell BK213.out 2).trans rfl
               have hcz65_3 : wr.cell? ⟨gb213, 3, none⟩ = some (.slice A0_3 l0_3.length c0_3) := (blk_cell BK213.out 3).trans rfl
               have hcz65_4 : wr.cell? ⟨gb213, 4, none⟩ = some (.bool a0_4) := (blk_cell BK213.out 4).trans rfl
               have hcz65_5 : wr.cell? ⟨gb213, 5, none⟩ = some (.bool a0_5) := (blk_cell BK213.out 5).trans rfl
               have hcz65_6 : wr.cell? ⟨gb213, 6, none⟩ = some (.slice A0_6 l0_6.length c0_6) := (blk_cell BK213.out 6).trans rfl
               have hcz65_7 : wr.cell? ⟨gb213, 7, none⟩ = some (.bool a0_7) := (blk_cell BK213.out 7).trans rfl
               have hcz65_8 : wr.cell? ⟨gb213, 8, none⟩ = some (.slice A0_8 l0_8.length c0_8) := (blk_cell BK213.out 8).trans rfl
               have hcz65_9 : wr.cell? ⟨gb213, 9, none⟩ = some (.slice A0_9 l0_9.length c0_9) := (blk_cell BK213.out 9).trans rfl
               have hfz65_0 := blk_frozen BK213.out 0
               have hfz65_1 := blk_frozen BK213.out 1
               have hfz65_2 := blk_frozen BK213.out 2
               have hfz65_3 := blk_frozen BK213.out 3
               have hfz65_4 := blk_frozen BK213.out 4
               have hfz65_5 := blk_frozen BK213.out 5
               have hfz65_6 := blk_frozen BK213.out 6
               have hfz65_7 := blk_frozen BK213.out 7
               have hfz65_8 := blk_frozen BK213.out 8
               have hfz65_9 := blk_frozen BK213.out 9
               go_wp2
               repeat (go_quiet (fail); try go_wp2)
               go_roundg k3
               case measure => have := HJ2.out; have := HK2.out; have := HK3.out; omega
               case rel => exact ⟨(false), (wrap64 (x7_3 + 1)), (by first | rfl | (simp; done) | (simp [*]; done)), (by first | rfl | (simp; done) | (simp [*]; done)), H', ⟨by have := HJ2.out; have := HK2.out; have := HK3.out; omega⟩, ⟨by (with_reducible repeat (first | refine blk_drewN ?_ _ | refine blk_drew ?_ | refine blk_alloc ?_ _)); exact BK213.out⟩, ⟨by (with_reducible repeat (first | refine blk_drewN ?_ _ | refine blk_drew ?_ | refine blk_alloc ?_ _)); exact BK214.out⟩, ⟨by repeat (first | (with_reducible first | exact HB.out | apply below_alloc | apply pw_below_drewN | apply below_drew1 | refine below_set ?_ GE213.out | refine below_set ?_ GE214.out) | exact HB.out)⟩⟩
           · rw [if_neg c57] at H
             have c57b0 : decide (x7_3 < (l0_3.length : Int)) = false := decide_eq_false c57
             clear c57
             have H' := Aside0.mk H
             clear H
             have hnb66 := NB213_214.out
             have hnc66 := NB214_213.out
             have hcz67_0 : wr.cell? ⟨gb213, 0, none⟩ = some (.bool a0_0) := (blk_cell BK213.out 0).trans rfl
             have hcz67_1 : wr.cell? ⟨gb213, 1, none⟩ = some (.int .i64 a0_1) := (blk_cell BK213.out 1).trans rfl
             have hcz67_2 : wr.cell? ⟨gb213, 2, none⟩ = some (.slice A0_2 l0_2.length c0_2) := (blk_cell BK213.out 2).trans rfl
             have hcz67_3 : wr.cell? ⟨gb213, 3, none⟩ = some (.slice A0_3 l0_3.length c0_3) := (blk_cell BK213.out 3).trans rfl
             have hcz67_4 : wr.cell? ⟨gb213, 4, none⟩ = some (.bool a0_4) := (blk_cell BK213.out 4).trans rfl
             have hcz67_5 : wr.cell? ⟨gb213, 5, none⟩ = some (.bool a0_5) := (blk_cell BK213.out 5).trans rfl
             have hcz67_6 : wr.cell? ⟨gb213, 6, none⟩ = some (.slice A0_6 l0_6.length c0_6) := (blk_cell BK213.out 6).trans rfl
             have hcz67_7 : wr.cell? ⟨gb213, 7, none⟩ = some (.bool a0_7) := (blk_cell BK213.out 7).trans rfl
             have hcz67_8 : wr.cell? ⟨gb213, 8, none⟩ = some (.slice A0_8 l0_8.length c0_8) := (blk_cell BK213.out 8).trans rfl
             have hcz67_9 : wr.cell? ⟨gb213, 9, none⟩ = some (.slice A0_9 l0_9.length c0_9) := (blk_cell BK213.out 9).trans rfl
             have hfz67_0 := blk_frozen BK213.out 0
             have hfz67_1 := blk_frozen BK213.out 1
             have hfz67_2 := blk_frozen BK213.out 2
             have hfz67_3 := blk_frozen BK213.out 3
             have hfz67_4 := blk_frozen BK213.out 4
             have hfz67_5 := blk_frozen BK213.out 5
             have hfz67_6 := blk_frozen BK213.out 6
             have hfz67_7 := blk_frozen BK213.out 7
             have hfz67_8 := blk_frozen BK213.out 8
             have hfz67_9 := blk_frozen BK213.out 9
             go_wp2
             repeat (go_quiet (fail); try go_wp2)
             go_loopg [5, 8] k3 (fun kq v5 v8 w' => ∃ (x5_4 : Bool) (x8_4 : Int), v5 = .bool x5_4 ∧ v8 = .int .i64 x8_4 ∧ Aside0 (tableauref15_Same.l2 kq x5_4 x8_4 a0_0 a0_1 l0_2 l0_3 a0_4 a0_5 l0_6 a0_7 l0_8 l0_9 a1_0 a1_1 l1_2 l1_3 a1_4 a1_5 l1_6 a1_7 l1_8 l1_9 = some r) ∧ Aside0 (kq ≤ k3) ∧ Aside0 (w'.heap[gb213]? = some (.cells #[.bool a0_0, .int .i64 a0_1, (.slice A0_2 l0_2.length c0_2), (.slice A0_3 l0_3.length c0_3), .bool a0_4, .bool a0_5, (.slice A0_6 l0_6.length c0_6), .bool a0_7, (.slice A0_8 l0_8.length c0_8), (.slice A0_9 l0_9.length c0_9)] 33 (0, 0))) ∧ Aside0 (w'.heap[gb214]? = some (.cells #[.bool a1_0, .int .i64 a1_1, (.slice A1_2 l1_2.length c1_2), (.slice A1_3 l1_3.length c1_3), .bool a1_4, .bool a1_5, (.slice A1_6 l1_6.length c1_6), .bool a1_7, (.slice A1_8 l1_8.length c1_8), (.slice A1_9 l1_9.length c1_9)] 33 (0, 0))) ∧ Aside0 (Below w.heap.size w w'))
             case atStart => exact ⟨(x5_3), (0), (by first | rfl | (simp; done) | (simp [*]; done)), (by first | rfl | (simp; done) | (simp [*]; done)), H', ⟨Nat.le_refl _⟩, ⟨by (with_reducible repeat (first | refine blk_drewN ?_ _ | refine blk_drew ?_ | refine blk_alloc ?_ _)); exact BK213.out⟩, ⟨by (with_reducible repeat (first | refine blk_drewN ?_ _ | refine blk_drew ?_ | refine blk_alloc ?_ _)); exact BK214.out⟩, ⟨by repeat (first | (with_reducible first | exact HB.out | apply below_alloc | apply pw_below_drewN | apply below_drew1 | refine below_set ?_ GE213.out | refine below_set ?_ GE214.out) | exact HB.out)⟩⟩
             case round =>
              clear H'
              try clear c1
              try clear p2
              try clear q2
              try clear hx2
              try clear c5
              try clear c6
              try clear p6
              try clear p21
              try clear q21
              try clear hx21
              try clear c57
              try clear c57b0
              try clear c58
              try clear c59
              try clear c59b0
              try clear c60
              try clear c60b0
              try clear c61
              try clear c64
              try clear p64
              try clear c66
              try clear hcz22_3
              try clear hcz22_4
              try clear hcz22_5
              try clear hcz22_6
              try clear hcz22_7
              try clear hcz22_8
              try clear hcz22_9
              try clear hcz28_0
              try clear hcz28_1
              try clear hcz28_2
              try clear hcz28_3
              try clear hcz28_4
              try clear hcz28_5
              try clear hcz28_6
              try clear hcz28_7
              try clear hcz28_8
              try clear hcz28_9
              try clear hcz29_0
              try clear hcz29_1
              try clear hcz29_2
              try clear hcz29_3
              try clear hcz29_4
              try clear hcz29_5
              try clear hcz29_6
              try clear hcz29_7
              try clear hcz29_8
              try clear hcz29_9
              try clear hcz31_0
              try clear hcz31_1
              try clear hcz31_2
              try clear hcz31_3
              try clear hcz31_4
              try clear hcz31_5
              try clear hcz31_6
              try clear hcz31_7
              try clear hcz31_8
              try clear hcz31_9
              try clear hcz32_0
              try clear hcz32_1
              try clear hcz32_2
              try clear hcz32_3
              try clear hcz32_4
              try clear hcz32_5
              try clear hcz32_6
              try clear hcz32_7
              try clear hcz32_8
              try clear hcz32_9
              try clear hcz34_0
              try clear hcz34_1
              try clear hcz34_2
              try clear hcz34_3
              try clear hcz34_4
              try clear hcz34_5
              try clear hcz34_6
              try clear hcz34_7
              try clear hcz34_8
              try clear hcz34_9
              try clear hcz35_0
              try clear hcz35_1
              try clear hcz35_2
              try clear hcz35_3
              try clear hcz35_4
              try clear hcz35_5
              try clear hcz35_6
              try clear hcz35_7
              try clear hcz35_8
              try clear hcz35_9
              try clear hcz37_0
              try clear hcz37_1
              try clear hcz37_2
              try clear hcz37_3
              try clear hcz37_4
              try clear hcz37_5
              try clear hcz37_6
              try clear hcz37_7
              try clear hcz37_8
              try clear hcz37_9
              try clear hcz38_0
              try clear hcz38_1
              try clear hcz38_2
              try clear hcz38_3
              try clear hcz38_4
              try clear hcz38_5
              try clear hcz38_6
              try clear hcz38_7
              try clear hcz38_8
              try clear hcz38_9
              try clear hcz40_0
              try clear hcz40_1
              try clear hcz40_2
              try clear hcz40_3
              try clear hcz40_4
              try clear hcz40_5
              try clear hcz40_6
              try clear hcz40_7
              try clear hcz40_8
              try clear hcz40_9
              try clear hcz41_0
              try clear hcz41_1
              try clear hcz41_2
              try clear hcz41_3
              try clear hcz41_4
              try clear hcz41_5
              try clear hcz41_6
              try clear hcz41_7
              try clear hcz41_8
              try clear hcz41_9
              try clear hcz43_0
              try clear hcz43_1
              try clear hcz43_2
              try clear hcz43_3
              try clear hcz43_4
              try clear hcz43_5
              try clear hcz43_6
              try clear hcz43_7
              try clear hcz43_8
              try clear hcz43_9
              try clear hcz44_0
              try clear hcz44_1
              try clear hcz44_2
              try clear hcz44_3
              try clear hcz44_4
              try clear hcz44_5
              try clear hcz44_6
              try clear hcz44_7
              try clear hcz44_8
              try clear hcz44_9
              try clear hcz51_0
              try clear hcz51_1
              try clear hcz51_2
              try clear hcz51_3
              try clear hcz51_4
              try clear hcz51_5
              try clear hcz51_6
              try clear hcz51_7
              try clear hcz51_8
              try clear hcz51_9
              try clear hcz52_0
              try clear hcz52_1
              try clear hcz52_2
              try clear hcz52_3
              try clear hcz52_4
              try clear hcz52_5
              try clear hcz52_6
              try clear hcz52_7
              try clear hcz52_8
              try clear hcz52_9
              try clear hcz54_0
              try clear hcz54_1
              try clear hcz54_2
              try clear hcz54_3
              try clear hcz54_4
              try clear hcz54_5
              try clear hcz54_6
              try clear hcz54_7
              try clear hcz54_8
              try clear hcz54_9
              try clear hcz56_0
              try clear hcz56_1
              try clear hcz56_2
              try clear hcz56_3
              try clear hcz56_4
              try clear hcz56_5
              try clear hcz56_6
              try clear hcz56_7
              try clear hcz56_8
              try clear hcz56_9
              try clear hcz62_0
              try clear hcz62_1
              try clear hcz62_2
              try clear hcz62_3
              try clear hcz62_4
              try clear hcz62_5
              try clear hcz62_6
              try clear hcz62_7
              try clear hcz62_8
              try clear hcz62_9
              try clear hcz63_0
              try clear hcz63_1
              try clear hcz63_2
              try clear hcz63_3
              try clear hcz63_4
              try clear hcz63_5
              try clear hcz63_6
              try clear hcz63_7
              try clear hcz63_8
              try clear hcz63_9
              try clear hcz65_0
              try clear hcz65_1
              try clear hcz65_2
              try clear hcz65_3
              try clear hcz65_4
              try clear hcz65_5
              try clear hcz65_6
              try clear hcz65_7
              try clear hcz65_8
              try clear hcz65_9
              try clear hcz67_0
              try clear hcz67_1
              try clear hcz67_2
              try clear hcz67_3
              try clear hcz67_4
              try clear hcz67_5
              try clear hcz67_6
              try clear hcz67_7
              try clear hcz67_8
              try clear hcz67_9
              try clear hcz8_0
              try clear hcz8_1
              try clear hcz8_2
              try clear hcz8_3
              try clear hcz8_4
              try clear hcz8_5
              try clear hcz8_6
              try clear hcz8_7
              try clear hcz8_8
              try clear hcz8_9
              try clear hcz9_0
              try clear hcz9_1
              try clear hcz9_2
              try clear hcz9_3
              try clear hcz9_4
              try clear hcz9_5
              try clear hcz9_6
              try clear hcz9_7
              try clear hcz9_8
              try clear hcz9_9
              try clear hfz13_0
              try clear hfz13_1
              try clear hfz13_2
              try clear hfz13_3
              try clear hfz13_4
              try clear hfz13_5
              try clear hfz13_6
              try clear hfz13_7
              try clear hfz13_8
              try clear hfz13_9
              try clear hfz14_0
              try clear hfz14_1
              try clear hfz14_2
              try clear hfz14_3
              try clear hfz14_4
              try clear hfz14_5
              try clear hfz14_6
              try clear hfz14_7
              try clear hfz14_8
              try clear hfz14_9
              try clear hfz17_0
              try clear hfz17_1
              try clear hfz17_2
              try clear hfz17_3
              try clear hfz17_4
              try clear hfz17_5
              try clear hfz17_6
              try clear hfz17_7
              try clear hfz17_8
              try clear hfz17_9
              try clear hfz18_0
              try clear hfz18_1
              try clear hfz18_2
              try clear hfz18_3
              try clear hfz18_4
              try clear hfz18_5
              try clear hfz18_6
              try clear hfz18_7
              try clear hfz18_8
              try clear hfz18_9
              try clear hfz21_0
              try clear hfz21_1
              try clear hfz21_2
              try clear hfz21_3
              try clear hfz21_4
              try clear hfz21_5
              try clear hfz21_6
              try clear hfz21_7
              try clear hfz21_8
              try clear hfz21_9
              try clear hfz22_0
              try clear hfz22_1
              try clear hfz22_2
              try clear hfz22_3
              try clear hfz22_4
              try clear hfz22_5
              try clear hfz22_6
              try clear hfz22_7
              try clear hfz22_8
              try clear hfz22_9
              try clear hfz28_0
              try clear hfz28_1
              try clear hfz28_2
              try clear hfz28_3
              try clear hfz28_4
              try clear hfz28_5
              try clear hfz28_6
              try clear hfz28_7
              try clear hfz28_8
              try clear hfz28_9
              try clear hfz29_0
              try clear hfz29_1
              try clear hfz29_2
              try clear hfz29_3
              try clear hfz29_4
              try clear hfz29_5
              try clear hfz29_6
              try clear hfz29_7
              try clear hfz29_8
              try clear hfz29_9
              try clear hfz31_0
              try clear hfz31_1
              try clear hfz31_2
              try clear hfz31_3
              try clear hfz31_4
              try clear hfz31_5
              try clear hfz31_6
              try clear hfz31_7
              try clear hfz31_8
              try clear hfz31_9
              try clear hfz32_0
              try clear hfz32_1
              try clear hfz32_2
              try clear hfz32_3
              try clear hfz32_4
              try clear hfz32_5
              try clear hfz32_6
              try clear hfz32_7
              try clear hfz32_8
              try clear hfz32_9
              try clear hfz34_0
              try clear hfz34_1
              try clear hfz34_2
              try clear hfz34_3
              try clear hfz34_4
              try clear hfz34_5
              try clear hfz34_6
              try clear hfz34_7
              try clear hfz34_8
              try clear hfz34_9
              try clear hfz35_0
              try clear hfz35_1
              try clear hfz35_2
              try clear hfz35_3
              try clear hfz35_4
              try clear hfz35_5
              try clear hfz35_6
              try clear hfz35_7
              try clear hfz35_8
              try clear hfz35_9
              try clear hfz37_0
              try clear hfz37_1
              try clear hfz37_2
              try clear hfz37_3
              try clear hfz37_4
              try clear hfz37_5
              try clear hfz37_6
              try clear hfz37_7
              try clear hfz37_8
              try clear hfz37_9
              try clear hfz38_0
              try clear hfz38_1
              try clear hfz38_2
              try clear hfz38_3
              try clear hfz38_4
              try clear hfz38_5
              try clear hfz38_6
              try clear hfz38_7
              try clear hfz38_8
              try clear hfz38_9
              try clear hfz40_0
              try clear hfz40_1
              try clear hfz40_2
              try clear hfz40_3
              try clear hfz40_4
              try clear hfz40_5
              try clear hfz40_6
              try clear hfz40_7
              try clear hfz40_8
              try clear hfz40_9
              try clear hfz41_0
              try clear hfz41_1
              try clear hfz41_2
              try clear hfz41_3
              try clear hfz41_4
              try clear hfz41_5
              try clear hfz41_6
              try clear hfz41_7
              try clear hfz41_8
              try clear hfz41_9
              try clear hfz43_0
              try clear hfz43_1
              try clear hfz43_2
              try clear hfz43_3
              try clear hfz43_4
              try clear hfz43_5
              try clear hfz43_6
              try clear hfz43_7
              try clear hfz43_8
              try clear hfz43_9
              try clear hfz44_0
              try clear hfz44_1
              try clear hfz44_2
              try clear hfz44_3
              try clear hfz44_4
              try clear hfz44_5
              try clear hfz44_6
              try clear hfz44_7
              try clear hfz44_8
              try clear hfz44_9
              try clear hfz51_0
              try clear hfz51_1
              try clear hfz51_2
              try clear hfz51_3
              try clear hfz51_4
              try clear hfz51_5
              try clear hfz51_6
              try clear hfz51_7
              try clear hfz51_8
              try clear hfz51_9
              try clear hfz52_0
              try clear hfz52_1
              try clear hfz52_2
              try clear hfz52_3
              try clear hfz52_4
              try clear hfz52_5
              try clear hfz52_6
              try clear hfz52_7
              try clear hfz52_8
              try clear hfz52_9
              try clear hfz54_0
              try clear hfz54_1
              try clear hfz54_2
              try clear hfz54_3
              try clear hfz54_4
              try clear hfz54_5
              try clear hfz54_6
              try clear hfz54_7
              try clear hfz54_8
              try clear hfz54_9
              try clear hfz56_0
              try clear hfz56_1
              try clear hfz56_2
              try clear hfz56_3
              try clear hfz56_4
              try clear hfz56_5
              try clear hfz56_6
              try clear hfz56_7
              try clear hfz56_8
              try clear hfz56_9
              try clear hfz62_0
              try clear hfz62_1
              try clear hfz62_2
              try clear hfz62_3
              try clear hfz62_4
              try clear hfz62_5
              try clear hfz62_6
              try clear hfz62_7
              try clear hfz62_8
              try clear hfz62_9
              try clear hfz63_0
              try clear hfz63_1
              try clear hfz63_2
              try clear hfz63_3
              try clear hfz63_4
              try clear hfz63_5
              try clear hfz63_6
              try clear hfz63_7
              try clear hfz63_8
              try clear hfz63_9
              try clear hfz65_0
              try clear hfz65_1
              try clear hfz65_2
              try clear hfz65_3
              try clear hfz65_4
              try clear hfz65_5
              try clear hfz65_6
              try clear hfz65_7
              try clear hfz65_8
              try clear hfz65_9
              try clear hfz67_0
              try clear hfz67_1
              try clear hfz67_2
              try clear hfz67_3
              try clear hfz67_4
              try clear hfz67_5
              try clear hfz67_6
              try clear hfz67_7
              try clear hfz67_8
              try clear hfz67_9
              try clear hfz8_0
              try clear hfz8_1
              try clear hfz8_2
              try clear hfz8_3
              try clear hfz8_4
              try clear hfz8_5
              try clear hfz8_6
              try clear hfz8_7
              try clear hfz8_8
              try clear hfz8_9
              try clear hfz9_0
              try clear hfz9_1
              try clear hfz9_2
              try clear hfz9_3
              try clear hfz9_4
              try clear hfz9_5
              try clear hfz9_6
              try clear hfz9_7
              try clear hfz9_8
              try clear hfz9_9
              try clear hx215_0
              try clear hx215_1
              try clear hx215_2
              try clear hx215_3
              try clear hx216_0
              try clear hx216_1
              try clear hx216_2
              try clear hx216_3
              try clear hx217_0
              try clear hx218_0
              try clear p2
              try clear p215
              try clear p216
              try clear p217
              try clear p218
              try clear q215
              try clear q216
              try clear q217
              try clear q218
              obtain ⟨x5_4, x8_4, rfl, rfl, HA, HK4, BK213, BK214, HB⟩ := hrel
              cases gk with
              | zero => exact absurd HA.out (by simp [tableauref15_Same.l2])
              | succ k4 =>
               have H := HA.out
               clear HA
               simp only [tableauref15_Same.l2] at H
               by_cases c68 : x8_4 < (l0_6.length : Int)
               · rw [if_pos c68] at H
                 have c68b0 : decide (x8_4 < (l0_6.length : Int)) = true := decide_eq_true c68
                 clear c68
                 by_cases c69 : x5_4 = true
                 · subst c69
                   have H1 : (if 0 ≤ x8_4 then (if x8_4 < (l1_6.length : Int) then (tableauref15_Same.l2 k4 (((rd_T47 l0_6 x8_4).f0) == ((rd_T47 l1_6 x8_4).f0) && (((rd_T47 l0_6 x8_4).f1) == ((rd_T47 l1_6 x8_4).f1) && (((rd_T47 l0_6 x8_4).f2) == ((rd_T47 l1_6 x8_4).f2) && (((rd_T47 l0_6 x8_4).f3) == ((rd_T47 l1_6 x8_4).f3))))) (wrap64 (x8_4 + 1)) a0_0 a0_1 l0_2 l0_3 a0_4 a0_5 l0_6 a0_7 l0_8 l0_9 a1_0 a1_1 l1_2 l1_3 a1_4 a1_5 l1_6 a1_7 l1_8 l1_9) else (none)) else (none)) = some r := by rw [if_pos rfl] at H; exact H
                   clear H
                   have H := H1
                   clear H1
                   by_cases c70 : 0 ≤ x8_4
                   · rw [if_pos c70] at H
                     have c70b0 : decide (0 ≤ x8_4) = true := decide_eq_true c70
                     clear c70
                     by_cases c71 : x8_4 < (l1_6.length : Int)
                     · rw [if_pos c71] at H
                       have c71b0 : decide (x8_4 < (l1_6.length : Int)) = true := decide_eq_true c71
                       clear c71
                       have H' := Aside0.mk H
                       clear H
                       have hnb72 := NB213_214.out
                       have hnc72 := NB214_213.out
                       have hcz73_0 : wr.cell? ⟨gb213, 0, none⟩ = some (.bool a0_0) := (blk_cell BK213.out 0).trans rfl
                       have hcz73_1 : wr.cell? ⟨gb213, 1, none⟩ = some (.int .i64 a0_1) := (blk_cell BK213.out 1).trans rfl
                       have hcz73_2 : wr.cell? ⟨gb213, 2, none⟩ = some (.slice A0_2 l0_2.length c0_2) := (blk_cell BK213.out 2).trans rfl
                       have hcz73_3 : wr.cell? ⟨gb213, 3, none⟩ = some (.slice A0_3 l0_3.length c0_3) := (blk_cell BK213.out 3).trans rfl
                       have hcz73_4 : wr.cell? ⟨gb213, 4, none⟩ = some (.bool a0_4) := (blk_cell BK213.out 4).trans rfl
                       have hcz73_5 : wr.cell? ⟨gb213, 5, none⟩ = some (.bool a0_5) := (blk_cell BK213.out 5).trans rfl
                       have hcz73_6 : wr.cell? ⟨gb213, 6, none⟩ = some (.slice A0_6 l0_6.length c0_6) := (blk_cell BK213.out 6).trans rfl
                       have hcz73_7 : wr.cell? ⟨gb213, 7, none⟩ = some (.bool a0_7) := (blk_cell BK213.out 7).trans rfl
                       have hcz73_8 : wr.cell? ⟨gb213, 8, none⟩ = some (.slice A0_8 l0_8.length c0_8) := (blk_cell BK213.out 8).trans rfl
                       have hcz73_9 : wr.cell? ⟨gb213, 9, none⟩ = some (.slice A0_9 l0_9.length c0_9) := (blk_cell BK213.out 9).trans rfl
                       have hfz73_0 := blk_frozen BK213.out 0
                       have hfz73_1 := blk_frozen BK213.out 1
                       have hfz73_2 := blk_frozen BK213.out 2
                       have hfz73_3 := blk_frozen BK213.out 3
                       have hfz73_4 := blk_frozen BK213.out 4
                       have hfz73_5 := blk_frozen BK213.out 5
                       have hfz73_6 := blk_frozen BK213.out 6
                       have hfz73_7 := blk_frozen BK213.out 7
                       have hfz73_8 := blk_frozen BK213.out 8
                       have hfz73_9 := blk_frozen BK213.out 9
                       have p219 : 0 ≤ (x8_4 : Int) := of_decide_eq_true (by first | (with_reducible assumption) | assumption)
                       have q219 : x8_4 < (l0_6.length : Int) := of_decide_eq_true (by first | (with_reducible assumption) | assumption)
                       obtain ⟨ad219, e219, hx219_0, hx219_1, hx219_2, hx219_3⟩ := at_T47 HR0_6.out x8_4 p219 q219
                       cases e219
                       replace hx219_0 := (HB.out.cell (World.block_lt_of_cell? w _ hx219_0)).trans hx219_0
                       replace hx219_1 := (HB.out.cell (World.block_lt_of_cell? w _ hx219_1)).trans hx219_1
                       replace hx219_2 := (HB.out.cell (World.block_lt_of_cell? w _ hx219_2)).trans hx219_2
                       replace hx219_3 := (HB.out.cell (World.block_lt_of_cell? w _ hx219_3)).trans hx219_3
                       replace p219 := eq_true p219
                       replace q219 := eq_true q219
                       have hcz74_0 : wr.cell? ⟨gb214, 0, none⟩ = some (.bool a1_0) := (blk_cell BK214.out 0).trans rfl
                       have hcz74_1 : wr.cell? ⟨gb214, 1, none⟩ = some (.int .i64 a1_1) := (blk_cell BK214.out 1).trans rfl
                       have hcz74_2 : wr.cell? ⟨gb214, 2, none⟩ = some (.slice A1_2 l1_2.length c1_2) := (blk_cell BK214.out 2).trans rfl
                       have hcz74_3 : wr.cell? ⟨gb214, 3, none⟩ = some (.slice A1_3 l1_3.length c1_3) := (blk_cell BK214.out 3).trans rfl
                       have hcz74_4 : wr.cell? ⟨gb214, 4, none⟩ = some (.bool a1_4) := (blk_cell BK214.out 4).trans rfl
                       have hcz74_5 : wr.cell? ⟨gb214, 5, none⟩ = some (.bool a1_5) := (blk_cell BK214.out 5).trans rfl
                       have hcz74_6 : wr.cell? ⟨gb214, 6, none⟩ = some (.slice A1_6 l1_6.length c1_6) := (blk_cell BK214.out 6).trans rfl
                       have hcz74_7 : wr.cell? ⟨gb214, 7, none⟩ = some (.bool a1_7) := (blk_cell BK214.out 7).trans rfl
                       have hcz74_8 : wr.cell? ⟨gb214, 8, none⟩ = some (.slice A1_8 l1_8.length c1_8) := (blk_cell BK214.out 8).trans rfl
                       have hcz74_9 : wr.cell? ⟨gb214, 9, none⟩ = some (.slice A1_9 l1_9.length c1_9) := (blk_cell BK214.out 9).trans rfl
                       have hfz74_0 := blk_frozen BK214.out 0
                       have hfz74_1 := blk_frozen BK214.out 1
                       have hfz74_2 := blk_frozen BK214.out 2
                       have hfz74_3 := blk_frozen BK214.out 3
                       have hfz74_4 := blk_frozen BK214.out 4
                       have hfz74_5 := blk_frozen BK214.out 5
                       have hfz74_6 := blk_frozen BK214.out 6
                       have hfz74_7 := blk_frozen BK214.out 7
                       have hfz74_8 := blk_frozen BK214.out 8
                       have hfz74_9 := blk_frozen BK214.out 9
                       have p220 : 0 ≤ (x8_4 : Int) := of_decide_eq_true (by first | (with_reducible assumption) | assumption)
                       have q220 : x8_4 < (l1_6.length : Int) := of_decide_eq_true (by first | (with_reducible assumption) | assumption)
                       obtain ⟨ad220, e220, hx220_0, hx220_1, hx220_2, hx220_3⟩ := at_T47 HR1_6.out x8_4 p220 q220
                       cases e220
                       replace hx220_0 := (HB.out.cell (World.block_lt_of_cell? w _ hx220_0)).trans hx220_0
                       replace hx220_1 := (HB.out.cell (World.block_lt_of_cell? w _ hx220_1)).trans hx220_1
                       replace hx220_2 := (HB.out.cell (World.block_lt_of_cell? w _ hx220_2)).trans hx220_2
                       replace hx220_3 := (HB.out.cell (World.block_lt_of_cell? w _ hx220_3)).trans hx220_3
                       replace p220 := eq_true p220
                       replace q220 := eq_true q220
                       go_wp2
                       repeat (go_quiet (fail); try go_wp2)
                       go_roundg k4
                       case measure => have := HJ2.out; have := HK2.out; have := HK3.out; have := HK4.out; omega
                       case rel => exact ⟨((((rd_T47 l0_6 x8_4).f0) == ((rd_T47 l1_6 x8_4).f0) && (((rd_T47 l0_6 x8_4).f1) == ((rd_T47 l1_6 x8_4).f1) && (((rd_T47 l0_6 x8_4).f2) == ((rd_T47 l1_6 x8_4).f2) && (((rd_T47 l0_6 x8_4).f3) == ((rd_T47 l1_6 x8_4).f3)))))), (wrap64 (x8_4 + 1)), (by first | rfl | (simp; done) | (simp [*]; done)), (by first | rfl | (simp; done) | (simp [*]; done)), H', ⟨by have := HJ2.out; have := HK2.out; have := HK3.out; have := HK4.out; omega⟩, ⟨by (with_reducible repeat (first | refine blk_drewN ?_ _ | refine blk_drew ?_ | refine blk_alloc ?_ _)); exact BK213.out⟩, ⟨by (with_reducible repeat (first | refine blk_drewN ?_ _ | refine blk_drew ?_ | refine blk_alloc ?_ _)); exact BK214.out⟩, ⟨by repeat (first | (with_reducible first | exact HB.out | apply below_alloc | apply pw_below_drewN | apply below_drew1 | refine below_set ?_ GE213.out | refine below_set ?_ GE214.out) | exact HB.out)⟩⟩
                     · rw [if_neg c71] at H
                       exact absurd H (by simp)
                   · rw [if_neg c70] at H
                     exact absurd H (by simp)
                 · replace c69 := Bool.eq_false_iff.mpr c69
                   subst c69
                   have H1 : (tableauref15_Same.l2 k4 false (wrap64 (x8_4 + 1)) a0_0 a0_1 l0_2 l0_3 a0_4 a0_5 l0_6 a0_7 l0_8 l0_9 a1_0 a1_1 l1_2 l1_3 a1_4 a1_5 l1_6 a1_7 l1_8 l1_9) = some r := by rw [if_neg (show ¬ (false = true) by decide)] at H; exact H
                   clear H
                   have H := H1
                   clear H1
                   have H' := Aside0.mk H
                   clear H
                   have hnb75 := NB213_214.out
                   have hnc75 := NB214_213.out
                   have hcz76_0 : wr.cell? ⟨gb213, 0, none⟩ = some (.bool a0_0) := (blk_cell BK213.out 0).trans rfl
                   have hcz76_1 : wr.cell? ⟨gb213, 1, none⟩ = some (.int .i64 a0_1) := (blk_cell BK213.out 1).trans rfl
                   have hcz76_2 : wr.cell? ⟨gb213, 2, none⟩ = some (.slice A0_2 l0_2.length c0_2) := (blk_cell BK213.out 2).trans rfl
                   have hcz76_3 : wr.cell? ⟨gb213, 3, none⟩ = some (.slice A0_3 l0_3.length c0_3) := (blk_cell BK213.out 3).trans rfl
                   have hcz76_4 : wr.cell? ⟨gb213, 4, none⟩ = some (.bool a0_4) := (blk_cell BK213.out 4).trans rfl
                   have hcz76_5 : wr.cell? ⟨gb213, 5, none⟩ = some (.bool a0_5) := (blk_cell BK213.out 5).trans rfl
                   have hcz76_6 : wr.cell? ⟨gb213, 6, none⟩ = some (.slice A0_6 l0_6.length c0_6) := (blk_cell BK213.out 6).trans rfl
                   have hcz76_7 : wr.cell? ⟨gb213, 7, none⟩ = some (.bool a0_7) := (blk_cell BK213.out 7).trans rfl
                   have hcz76_8 : wr.cell? ⟨gb213, 8, none⟩ = some (.slice A0_8 l0_8.length c0_8) := (blk_cell BK213.out 8).trans rfl
                   have hcz76_9 : wr.cell? ⟨gb213, 9, none⟩ = some (.slice A0_9 l0_9.length c0_9) := (blk_cell BK213.out 9).trans rfl
                   have hfz76_0 := blk_frozen BK213.out 0
                   have hfz76_1 := blk_frozen BK213.out 1
                   have hfz76_2 := blk_frozen BK213.out 2
                   have hfz76_3 := blk_frozen BK213.out 3
                   have hfz76_4 := blk_frozen BK213.out 4
                   have hfz76_5 := blk_frozen BK213.out 5
                   have hfz76_6 := blk_frozen BK213.out 6
                   have hfz76_7 := blk_frozen BK213.out 7
                   have hfz76_8 := blk_frozen BK213.out 8
                   have hfz76_9 := blk_frozen BK213.out 9
                   go_wp2
                   repeat (go_quiet (fail); try go_wp2)
                   go_roundg k4
                   case measure => have := HJ2.out; have := HK2.out; have := HK3.out; have := HK4.out; omega
                   case rel => exact ⟨(false), (wrap64 (x8_4 + 1)), (by first | rfl | (simp; done) | (simp [*]; done)), (by first | rfl | (simp; done) | (simp [*]; done)), H', ⟨by have := HJ2.out; have := HK2.out; have := HK3.out; have := HK4.out; omega⟩, ⟨by (with_reducible repeat (first | refine blk_drewN ?_ _ | refine blk_drew ?_ | refine blk_alloc ?_ _)); exact BK213.out⟩, ⟨by (with_reducible repeat (first | refine blk_drewN ?_ _ | refine blk_drew ?_ | refine blk_alloc ?_ _)); exact BK214.out⟩, ⟨by repeat (first | (with_reducible first | exact HB.out | apply below_alloc | apply pw_below_drewN | apply below_drew1 | refine below_set ?_ GE213.out | refine below_set ?_ GE214.out) | exact HB.out)⟩⟩
               · rw [if_neg c68] at H
                 have c68b0 : decide (x8_4 < (l0_6.length : Int)) = false := decide_eq_false c68
                 clear c68
                 have H' := Aside0.mk H
                 clear H
                 have hnb77 := NB213_214.out
                 have hnc77 := NB214_213.out
                 have hcz78_0 : wr.cell? ⟨gb213, 0, none⟩ = some (.bool a0_0) := (blk_cell BK213.out 0).trans rfl
                 have hcz78_1 : wr.cell? ⟨gb213, 1, none⟩ = some (.int .i64 a0_1) := (blk_cell BK213.out 1).trans rfl
                 have hcz78_2 : wr.cell? ⟨gb213, 2, none⟩ = some (.slice A0_2 l0_2.length c0_2) := (blk_cell BK213.out 2).trans rfl
                 have hcz78_3 : wr.cell? ⟨gb213, 3, none⟩ = some (.slice A0_3 l0_3.length c0_3) := (blk_cell BK213.out 3).trans rfl
                 have hcz78_4 : wr.cell? ⟨gb213, 4, none⟩ = some (.bool a0_4) := (blk_cell BK213.out 4).trans rfl
                 have hcz78_5 : wr.cell? ⟨gb213, 5, none⟩ = some (.bool a0_5) := (blk_cell BK213.out 5).trans rfl
                 have hcz78_6 : wr.cell? ⟨gb213, 6, none⟩ = some (.slice A0_6 l0_6.length c0_6) := (blk_cell BK213.out 6).trans rfl
                 have hcz78_7 : wr.cell? ⟨gb213, 7, none⟩ = some (.bool a0_7) := (blk_cell BK213.out 7).trans rfl
                 have hcz78_8 : wr.cell? ⟨gb213, 8, none⟩ = some (.slice A0_8 l0_8.length c0_8) := (blk_cell BK213.out 8).trans rfl
                 have hcz78_9 : wr.cell? ⟨gb213, 9, none⟩ = some (.slice A0_9 l0_9.length c0_9) := (blk_cell BK213.out 9).trans rfl
                 have hfz78_0 := blk_frozen BK213.out 0
                 have hfz78_1 := blk_frozen BK213.out 1
                 have hfz78_2 := blk_frozen BK213.out 2
                 have hfz78_3 := blk_frozen BK213.out 3
                 have hfz78_4 := blk_frozen BK213.out 4
                 have hfz78_5 := blk_frozen BK213.out 5
                 have hfz78_6 := blk_frozen BK213.out 6
                 have hfz78_7 := blk_frozen BK213.out 7
                 have hfz78_8 := blk_frozen BK213.out 8
                 have hfz78_9 := blk_frozen BK213.out 9
                 go_wp2
                 repeat (go_quiet (fail); try go_wp2)
                 go_loopg [5, 9] k4 (fun kq v5 v9 w' => ∃ (x5_5 : Bool) (x9_5 : Int), v5 = .bool x5_5 ∧ v9 = .int .i64 x9_5 ∧ Aside0 (tableauref15_Same.l3 kq x5_5 x9_5 a0_0 a0_1 l0_2 l0_3 a0_4 a0_5 l0_6 a0_7 l0_8 l0_9 a1_0 a1_1 l1_2 l1_3 a1_4 a1_5 l1_6 a1_7 l1_8 l1_9 = some r) ∧ Aside0 (kq ≤ k4) ∧ Aside0 (w'.heap[gb213]? = some (.cells #[.bool a0_0, .int .i64 a0_1, (.slice A0_2 l0_2.length c0_2), (.slice A0_3 l0_3.length c0_3), .bool a0_4, .bool a0_5, (.slice A0_6 l0_6.length c0_6), .bool a0_7, (.slice A0_8 l0_8.length c0_8), (.slice A0_9 l0_9.length c0_9)] 33 (0, 0))) ∧ Aside0 (w'.heap[gb214]? = some (.cells #[.bool a1_0, .int .i64 a1_1, (.slice A1_2 l1_2.length c1_2), (.slice A1_3 l1_3.length c1_3), .bool a1_4, .bool a1_5, (.slice A1_6 l1_6.length c1_6), .bool a1_7, (.slice A1_8 l1_8.length c1_8), (.slice A1_9 l1_9.length c1_9)] 33 (0, 0))) ∧ Aside0 (Below w.heap.size w w'))
                 case atStart => exact ⟨(x5_4), (0), (by first | rfl | (simp; done) | (simp [*]; done)), (by first | rfl | (simp; done) | (simp [*]; done)), H', ⟨Nat.le_refl _⟩, ⟨by (with_reducible repeat (first | refine blk_drewN ?_ _ | refine blk_drew ?_ | refine blk_alloc ?_ _)); exact BK213.out⟩, ⟨by (with_reducible repeat (first | refine blk_drewN ?_ _ | refine blk_drew ?_ | refine blk_alloc ?_ _)); exact BK214.out⟩, ⟨by repeat (first | (with_reducible first | exact HB.out | apply below_alloc | apply pw_below_drewN | apply below_drew1 | refine below_set ?_ GE213.out | refine below_set ?_ GE214.out) | exact HB.out)⟩⟩
                 case round =>
                  clear H'
                  try clear c1
                  try clear p2
                  try clear q2
                  try clear hx2
                  try clear c6
                  try clear p6
                  try clear c7
                  try clear p21
                  try clear q21
                  try clear hx21
                  try clear p22
                  try clear q22
                  try clear hx22
                  try clear p64
                  try clear c68
                  try clear c68b0
                  try clear c69
                  try clear c70
                  try clear c70b0
                  try clear c71
                  try clear c71b0
                  try clear c72
                  try clear c75
                  try clear c77
                  try clear hcz40_5
                  try clear hcz40_6
                  try clear hcz40_7
                  try clear hcz40_8
                  try clear hcz40_9
                  try clear hcz41_0
                  try clear hcz41_1
                  try clear hcz41_2
                  try clear hcz41_3
                  try clear hcz41_4
                  try clear hcz41_5
                  try clear hcz41_6
                  try clear hcz41_7
                  try clear hcz41_8
                  try clear hcz41_9
                  try clear hcz43_0
                  try clear hcz43_1
                  try clear hcz43_2
                  try clear hcz43_3
                  try clear hcz43_4
                  try clear hcz43_5
                  try clear hcz43_6
                  try clear hcz43_7
                  try clear hcz43_8
                  try clear hcz43_9
                  try clear hcz44_0
                  try clear hcz44_1
                  try clear hcz44_2
                  try clear hcz44_3
                  try clear hcz44_4
                  try clear hcz44_5
                  try clear hcz44_6
                  try clear hcz44_7
                  try clear hcz44_8
                  try clear hcz44_9
                  try clear hcz51_0
                  try clear hcz51_1
                  try clear hcz51_2
                  try clear hcz51_3
                  try clear hcz51_4
                  try clear hcz51_5
                  try clear hcz51_6
                  try clear hcz51_7
                  try clear hcz51_8
                  try clear hcz51_9
                  try clear hcz52_0
                  try clear hcz52_1
                  try clear hcz52_2
                  try clear hcz52_3
                  try clear hcz52_4
                  try clear hcz52_5
                  try clear hcz52_6
                  try clear hcz52_7
                  try clear hcz52_8
                  try clear hcz52_9
                  try clear hcz54_0
                  try clear hcz54_1
                  try clear hcz54_2
                  try clear hcz54_3
                  try clear hcz54_4
                  try clear hcz54_5
                  try clear hcz54_6
                  try clear hcz54_7
                  try clear hcz54_8
                  try clear hcz54_9
                  try clear hcz56_0
                  try clear hcz56_1
                  try clear hcz56_2
                  try clear hcz56_3
                  try clear hcz56_4
                  try clear hcz56_5
                  try clear hcz56_6
                  try clear hcz56_7
                  try clear hcz56_8
                  try clear hcz56_9
                  try clear hcz62_0
                  try clear hcz62_1
                  try clear hcz62_2
                  try clear hcz62_3
                  try clear hcz62_4
                  try clear hcz62_5
                  try clear hcz62_6
                  try clear hcz62_7
                  try clear hcz62_8
                  try clear hcz62_9
                  try clear hcz63_0
                  try clear hcz63_1
                  try clear hcz63_2
                  try clear hcz63_3
                  try clear hcz63_4
                  try clear hcz63_5
                  try clear hcz63_6
                  try clear hcz63_7
                  try clear hcz63_8
                  try clear hcz63_9
                  try clear hcz65_0
                  try clear hcz65_1
                  try clear hcz65_2
                  try clear hcz65_3
                  try clear hcz65_4
                  try clear hcz65_5
                  try clear hcz65_6
                  try clear hcz65_7
                  try clear hcz65_8
                  try clear hcz65_9
                  try clear hcz67_0
                  try clear hcz67_1
                  try clear hcz67_2
                  try clear hcz67_3
                  try clear hcz67_4
                  try clear hcz67_5
                  try clear hcz67_6
                  try clear hcz67_7
                  try clear hcz67_8
                  try clear hcz67_9
                  try clear hcz73_0
                  try clear hcz73_1
                  try clear hcz73_2
                  try clear hcz73_3
                  try clear hcz73_4
                  try clear hcz73_5
                  try clear hcz73_6
                  try clear hcz73_7
                  try clear hcz73_8
                  try clear hcz73_9
                  try clear hcz74_0
                  try clear hcz74_1
                  try clear hcz74_2
                  try clear hcz74_3
                  try clear hcz74_4
                  try clear hcz74_5
                  try clear hcz74_6
                  try clear hcz74_7
                  try clear hcz74_8
                  try clear hcz74_9
                  try clear hcz76_0
                  try clear hcz76_1
                  try clear hcz76_2
                  try clear hcz76_3
                  try clear hcz76_4
                  try clear hcz76_5
                  try clear hcz76_6
                  try clear hcz76_7
                  try clear hcz76_8
                  try clear hcz76_9
                  try clear hcz78_0
                  try clear hcz78_1
                  try clear hcz78_2
                  try clear hcz78_3
                  try clear hcz78_4
                  try clear hcz78_5
                  try clear hcz78_6
                  try clear hcz78_7
                  try clear hcz78_8
                  try clear hcz78_9
                  try clear hcz8_0
                  try clear hcz8_1
                  try clear hcz8_2
                  try clear hcz8_3
                  try clear hcz8_4
                  try clear hcz8_5
                  try clear hcz8_6
                  try clear hcz8_7
                  try clear hcz8_8
                  try clear hcz8_9
                  try clear hcz9_0
                  try clear hcz9_1
                  try clear hcz9_2
                  try clear hcz9_3
                  try clear hcz9_4
                  try clear hcz9_5
                  try clear hcz9_6
                  try clear hcz9_7
                  try clear hcz9_8
                  try clear hcz9_9
                  try clear hfz13_0
                  try clear hfz13_1
                  try clear hfz13_2
                  try clear hfz13_3
                  try clear hfz13_4
                  try clear hfz13_5
                  try clear hfz13_6
                  try clear hfz13_7
                  try clear hfz13_8
                  try clear hfz13_9
                  try clear hfz14_0
                  try clear hfz14_1
                  try clear hfz14_2
                  try clear hfz14_3
                  try clear hfz14_4
                  try clear hfz14_5
                  try clear hfz14_6
                  try clear hfz14_7
                  try clear hfz14_8
                  try clear hfz14_9
                  try clear hfz17_0
                  try clear hfz17_1
                  try clear hfz17_2
                  try clear hfz17_3
                  try clear hfz17_4
                  try clear hfz17_5
                  try clear hfz17_6
                  try clear hfz17_7
                  try clear hfz17_8
                  try clear hfz17_9
                  try clear hfz18_0
                  try clear hfz18_1
                  try clear hfz18_2
                  try clear hfz18_3
                  try clear hfz18_4
                  try clear hfz18_5
                  try clear hfz18_6
                  try clear hfz18_7
                  try clear hfz18_8
                  try clear hfz18_9
                  try clear hfz21_0
                  try clear hfz21_1
                  try clear hfz21_2
                  try clear hfz21_3
                  try clear hfz21_4
                  try clear hfz21_5
                  try clear hfz21_6
                  try clear hfz21_7
                  try clear hfz21_8
                  try clear hfz21_9
                  try clear hfz22_0
                  try clear hfz22_1
                  try clear hfz22_2
                  try clear hfz22_3
                  try clear hfz22_4
                  try clear hfz22_5
                  try clear hfz22_6
                  try clear hfz22_7
                  try clear hfz22_8
                  try clear hfz22_9
                  try clear hfz28_0
                  try clear hfz28_1
                  try clear hfz28_2
                  try clear hfz28_3
                  try clear hfz28_4
                  try clear hfz28_5
                  try clear hfz28_6
                  try clear hfz28_7
                  try clear hfz28_8
                  try clear hfz28_9
                  try clear hfz29_0
                  try clear hfz29_1
                  try clear hfz29_2
                  try clear hfz29_3
                  try clear hfz29_4
                  try clear hfz29_5
                  try clear hfz29_6
                  try clear hfz29_7
                  try clear hfz29_8
                  try clear hfz29_9
                  try clear hfz31_0
                  try clear hfz31_1
                  try clear hfz31_2
                  try clear hfz31_3
                  try clear hfz31_4
                  try clear hfz31_5
                  try clear hfz31_6
                  try clear hfz31_7
                  try clear hfz31_8
                  try clear hfz31_9
                  try clear hfz32_0
                  try clear hfz32_1
                  try clear hfz32_2
                  try clear hfz32_3
                  try clear hfz32_4
                  try clear hfz32_5
                  try clear hfz32_6
                  try clear hfz32_7
                  try clear hfz32_8
                  try clear hfz32_9
                  try clear hfz34_0
                  try clear hfz34_1
                  try clear hfz34_2
                  try clear hfz34_3
                  try clear hfz34_4
                  try clear hfz34_5
                  try clear hfz34_6
                  try clear hfz34_7
                  try clear hfz34_8
                  try clear hfz34_9
                  try clear hfz35_0
                  try clear hfz35_1
                  try clear hfz35_2
                  try clear hfz35_3
                  try clear hfz35_4
                  try clear hfz35_5
                  try clear hfz35_6
                  try clear hfz35_7
                  try clear hfz35_8
                  try clear hfz35_9
                  try clear hfz37_0
                  try clear hfz37_1
                  try clear hfz37_2
                  try clear hfz37_3
                  try clear hfz37_4
                  try clear hfz37_5
                  try clear hfz37_6
                  try clear hfz37_7
                  try clear hfz37_8
                  try clear hfz37_9
                  try clear hfz38_0
                  try clear hfz38_1
                  try clear hfz38_2
                  try clear hfz38_3
                  try clear hfz38_4
                  try clear hfz38_5
                  try clear hfz38_6
                  try clear hfz38_7
                  try clear hfz38_8
                  try clear hfz38_9
                  try clear hfz40_0
                  try clear hfz40_1
                  try clear hfz40_2
                  try clear hfz40_3
                  try clear hfz40_4
                  try clear hfz40_5
                  try clear hfz40_6
                  try clear hfz40_7
                  try clear hfz40_8
                  try clear hfz40_9
                  try clear hfz41_0
                  try clear hfz41_1
                  try clear hfz41_2
                  try clear hfz41_3
                  try clear hfz41_4
                  try clear hfz41_5
                  try clear hfz41_6
                  try clear hfz41_7
                  try clear hfz41_8
                  try clear hfz41_9
                  try clear hfz43_0
                  try clear hfz43_1
                  try clear hfz43_2
                  try clear hfz43_3
                  try clear hfz43_4
                  try clear hfz43_5
                  try clear hfz43_6
                  try clear hfz43_7
                  try clear hfz43_8
                  try clear hfz43_9
                  try clear hfz44_0
                  try clear hfz44_1
                  try clear hfz44_2
                  try clear hfz44_3
                  try clear hfz44_4
                  try clear hfz44_5
                  try clear hfz44_6
                  try clear hfz44_7
                  try clear hfz44_8
                  try clear hfz44_9
                  try clear hfz51_0
                  try clear hfz51_1
                  try clear hfz51_2
                  try clear hfz51_3
                  try clear hfz51_4
                  try clear hfz51_5
                  try clear hfz51_6
                  try clear hfz51_7
                  try clear hfz51_8
                  try clear hfz51_9
                  try clear hfz52_0
                  try clear hfz52_1
                  try clear hfz52_2
                  try clear hfz52_3
                  try clear hfz52_4
                  try clear hfz52_5
                  try clear hfz52_6
                  try clear hfz52_7
                  try clear hfz52_8
                  try clear hfz52_9
                  try clear hfz54_0
                  try clear hfz54_1
                  try clear hfz54_2
                  try clear hfz54_3
                  try clear hfz54_4
                  try clear hfz54_5
                  try clear hfz54_6
                  try clear hfz54_7
                  try clear hfz54_8
                  try clear hfz54_9
                  try clear hfz56_0
                  try clear hfz56_1
                  try clear hfz56_2
                  try clear hfz56_3
                  try clear hfz56_4
                  try clear hfz56_5
                  try clear hfz56_6
                  try clear hfz56_7
                  try clear hfz56_8
                  try clear hfz56_9
                  try clear hfz62_0
                  try clear hfz62_1
                  try clear hfz62_2
                  try clear hfz62_3
                  try clear hfz62_4
                  try clear hfz62_5
                  try clear hfz62_6
                  try clear hfz62_7
                  try clear hfz62_8
                  try clear hfz62_9
                  try clear hfz63_0
                  try clear hfz63_1
                  try clear hfz63_2
                  try clear hfz63_3
                  try clear hfz63_4
                  try clear hfz63_5
                  try clear hfz63_6
                  try clear hfz63_7
                  try clear hfz63_8
                  try clear hfz63_9
                  try clear hfz65_0
                  try clear hfz65_1
                  try clear hfz65_2
                  try clear hfz65_3
                  try clear hfz65_4
                  try clear hfz65_5
                  try clear hfz65_6
                  try clear hfz65_7
                  try clear hfz65_8
                  try clear hfz65_9
                  try clear hfz67_0
                  try clear hfz67_1
                  try clear hfz67_2
                  try clear hfz67_3
                  try clear hfz67_4
                  try clear hfz67_5
                  try clear hfz67_6
                  try clear hfz67_7
                  try clear hfz67_8
                  try clear hfz67_9
                  try clear hfz73_0
                  try clear hfz73_1
                  try clear hfz73_2
                  try clear hfz73_3
                  try clear hfz73_4
                  try clear hfz73_5
                  try clear hfz73_6
                  try clear hfz73_7
                  try clear hfz73_8
                  try clear hfz73_9
                  try clear hfz74_0
                  try clear hfz74_1
                  try clear hfz74_2
                  try clear hfz74_3
                  try clear hfz74_4
                  try clear hfz74_5
                  try clear hfz74_6
                  try clear hfz74_7
                  try clear hfz74_8
                  try clear hfz74_9
                  try clear hfz76_0
                  try clear hfz76_1
                  try clear hfz76_2
                  try clear hfz76_3
                  try clear hfz76_4
                  try clear hfz76_5
                  try clear hfz76_6
                  try clear hfz76_7
                  try clear hfz76_8
                  try clear hfz76_9
                  try clear hfz78_0
                  try clear hfz78_1
                  try clear hfz78_2
                  try clear hfz78_3
                  try clear hfz78_4
                  try clear hfz78_5
                  try clear hfz78_6
                  try clear hfz78_7
                  try clear hfz78_8
                  try clear hfz78_9
                  try clear hfz8_0
                  try clear hfz8_1
                  try clear hfz8_2
                  try clear hfz8_3
                  try clear hfz8_4
                  try clear hfz8_5
                  try clear hfz8_6
                  try clear hfz8_7
                  try clear hfz8_8
                  try clear hfz8_9
                  try clear hfz9_0
                  try clear hfz9_1
                  try clear hfz9_2
                  try clear hfz9_3
                  try clear hfz9_4
                  try clear hfz9_5
                  try clear hfz9_6
                  try clear hfz9_7
                  try clear hfz9_8
                  try clear hfz9_9
                  try clear hx215_0
                  try clear hx215_1
                  try clear hx215_2
                  try clear hx215_3
                  try clear hx216_0
                  try clear hx216_1
                  try clear hx216_2
                  try clear hx216_3
                  try clear hx217_0
                  try clear hx218_0
                  try clear hx219_0
                  try clear hx219_1
                  try clear hx219_2
                  try clear hx219_3
                  try clear hx220_0
                  try clear hx220_1
                  try clear hx220_2
                  try clear hx220_3
                  try clear p2
                  try clear p215
                  try clear p216
                  try clear p217
                  try clear p218
                  try clear p219
                  try clear p220
                  try clear q215
                  try clear q216
                  try clear q217
                  try clear q218
                  try clear q219
                  try clear q220
                  obtain ⟨x5_5, x9_5, rfl, rfl, HA, HK5, BK213, BK214, HB⟩ := hrel
                  cases gk with
                  | zero => exact absurd HA.out (by simp [tableauref15_Same.l3])
                  | succ k5 =>
                   have H := HA.out
                   clear HA
                   simp only [tableauref15_Same.l3] at H
                   by_cases c79 : x9_5 < (l0_8.length : Int)
                   · rw [if_pos c79] at H
                     have c79b0 : decide (x9_5 < (l0_8.length : Int)) = true := decide_eq_true c79
                     clear c79
                     by_cases c80 : x5_5 = true
                     · subst c80
                       have H1 : (if 0 ≤ x9_5 then (if x9_5 < (l1_8.length : Int) then (tableauref15_Same.l3 k5 ((rd l0_8 x9_5) == (rd l1_8 x9_5)) (wrap64 (x9_5 + 1)) a0_0 a0_1 l0_2 l0_3 a0_4 a0_5 l0_6 a0_7 l0_8 l0_9 a1_0 a1_1 l1_2 l1_3 a1_4 a1_5 l1_6 a1_7 l1_8 l1_9) else (none)) else (none)) = some r := by rw [if_pos rfl] at H; exact H
                       clear H
                       have H := H1
                       clear H1
                       by_cases c81 : 0 ≤ x9_5
                       · rw [if_pos c81] at H
                         have c81b0 : decide (0 ≤ x9_5) = true := decide_eq_true c81
                         clear c81
                         by_cases c82 : x9_5 < (l1_8.length : Int)
                         · rw [if_pos c82] at H
                           have c82b0 : decide (x9_5 < (l1_8.length : Int)) = true := decide_eq_true c82
                           clear c82
                           have H' := Aside0.mk H
                           clear H
                           have hnb83 := NB213_214.out
                           have hnc83 := NB214_213.out
                           have hcz84_0 : wr.cell? ⟨gb213, 0, none⟩ = some (.bool a0_0) := (blk_cell BK213.out 0).trans rfl
                           have hcz84_1 : wr.cell? ⟨gb213, 1, none⟩ = some (.int .i64 a0_1) := (blk_cell BK213.out 1).trans rfl
                           have hcz84_2 : wr.cell? ⟨gb213, 2, none⟩ = some (.slice A0_2 l0_2.length c0_2) := (blk_cell BK213.out 2).trans rfl
                           have hcz84_3 : wr.cell? ⟨gb213, 3, none⟩ = some (.slice A0_3 l0_3.length c0_3) := (blk_cell BK213.out 3).trans rfl
                           have hcz84_4 : wr.cell? ⟨gb213, 4, none⟩ = some (.bool a0_4) := (blk_cell BK213.out 4).trans rfl
                           have hcz84_5 : wr.cell? ⟨gb213, 5, none⟩ = some (.bool a0_5) := (blk_cell BK213.out 5).trans rfl
                           have hcz84_6 : wr.cell? ⟨gb213, 6, none⟩ = some (.slice A0_6 l0_6.length c0_6) := (blk_cell BK213.out 6).trans rfl
                           have hcz84_7 : wr.cell? ⟨gb213, 7, none⟩ = some (.bool a0_7) := (blk_cell BK213.out 7).trans rfl
                           have hcz84_8 : wr.cell? ⟨gb213, 8, none⟩ = some (.slice A0_8 l0_8.length c0_8) := (blk_cell BK213.out 8).trans rfl
                           have hcz84_9 : wr.cell? ⟨gb213, 9, none⟩ = some (.slice A0_9 l0_9.length c0_9) := (blk_cell BK213.out 9).trans rfl
                           have hfz84_0 := blk_frozen BK213.out 0
                           have hfz84_1 := blk_frozen BK213.out 1
                           have hfz84_2 := blk_frozen BK213.out 2
                           have hfz84_3 := blk_frozen BK213.out 3
                           have hfz84_4 := blk_frozen BK213.out 4
                           have hfz84_5 := blk_frozen BK213.out 5
                           have hfz84_6 := blk_frozen BK213.out 6
                           have hfz84_7 := blk_frozen BK213.out 7
                           have hfz84_8 := blk_frozen BK213.out 8
                           have hfz84_9 := blk_frozen BK213.out 9
                           have p221 : 0 ≤ (x9_5 : Int) := of_decide_eq_true (by first | (with_reducible assumption) | assumption)
                           have q221 : x9_5 < (l0_8.length : Int) := of_decide_eq_true (by first | (with_reducible assumption) | assumption)
                           obtain ⟨ad221, e221, hx221_0⟩ := Kd.at_int HR0_8.out x9_5 p221 q221
                           cases e221
                           replace hx221_0 := (HB.out.cell (World.block_lt_of_cell? w _ hx221_0)).trans hx221_0
                           replace p221 := eq_true p221
                           replace q221 := eq_true q221
                           have hcz85_0 : wr.cell? ⟨gb214, 0, none⟩ = some (.bool a1_0) := (blk_cell BK214.out 0).trans rfl
                           have hcz85_1 : wr.cell? ⟨gb214, 1, none⟩ = some (.int .i64 a1_1) := (blk_cell BK214.out 1).trans rfl
                           have hcz85_2 : wr.cell? ⟨gb214, 2, none⟩ = some (.slice A1_2 l1_2.length c1_2) := (blk_cell BK214.out 2).trans rfl
                           have hcz85_3 : wr.cell? ⟨gb214, 3, none⟩ = some (.slice A1_3 l1_3.length c1_3) := (blk_cell BK214.out 3).trans rfl
                           have hcz85_4 : wr.cell? ⟨gb214, 4, none⟩ = some (.bool a1_4) := (blk_cell BK214.out 4).trans rfl
                           have hcz85_5 : wr.cell? ⟨gb214, 5, none⟩ = some (.bool a1_5) := (blk_cell BK214.out 5).trans rfl
                           have hcz85_6 : wr.cell? ⟨gb214, 6, none⟩ = some (.slice A1_6 l1_6.length c1_6) := (blk_cell BK214.out 6).trans rfl
                           have hcz85_7 : wr.cell? ⟨gb214, 7, none⟩ = some (.bool a1_7) := (blk_cell BK214.out 7).trans rfl
                           have hcz85_8 : wr.cell? ⟨gb214, 8, none⟩ = some (.slice A1_8 l1_8.length c1_8) := (blk_cell BK214.out 8).trans rfl
                           have hcz85_9 : wr.cell? ⟨gb214, 9, none⟩ = some (.slice A1_9 l1_9.length c1_9) := (blk_cell BK214.out 9).trans rfl
                           have hfz85_0 := blk_frozen BK214.out 0
                           have hfz85_1 := blk_frozen BK214.out 1
                           have hfz85_2 := blk_frozen BK214.out 2
                           have hfz85_3 := blk_frozen BK214.out 3
                           have hfz85_4 := blk_frozen BK214.out 4
                           have hfz85_5 := blk_frozen BK214.out 5
                           have hfz85_6 := blk_frozen BK214.out 6
                           have hfz85_7 := blk_frozen BK214.out 7
                           have hfz85_8 := blk_frozen BK214.out 8
                           have hfz85_9 := blk_frozen BK214.out 9
                           have p222 : 0 ≤ (x9_5 : Int) := of_decide_eq_true (by first | (with_reducible assumption) | assumption)
                           have q222 : x9_5 < (l1_8.length : Int) := of_decide_eq_true (by first | (with_reducible assumption) | assumption)
                           obtain ⟨ad222, e222, hx222_0⟩ := Kd.at_int HR1_8.out x9_5 p222 q222
                           cases e222
                           replace hx222_0 := (HB.out.cell (World.block_lt_of_cell? w _ hx222_0)).trans hx222_0
                           replace p222 := eq_true p222
                           replace q222 := eq_true q222
                           go_wp2
                           repeat (go_quiet (fail); try go_wp2)
                           go_roundg k5
                           case measure => have := HJ2.out; have := HK2.out; have := HK3.out; have := HK4.out; have := HK5.out; omega
                           case rel => exact ⟨(((rd l0_8 x9_5) == (rd l1_8 x9_5))), (wrap64 (x9_5 + 1)), (by first | rfl | (simp; done) | (simp [*]; done)), (by first | rfl | (simp; done) | (simp [*]; done)), H', ⟨by have := HJ2.out; have := HK2.out; have := HK3.out; have := HK4.out; have := HK5.out; omega⟩, ⟨by (with_reducible repeat (first | refine blk_drewN ?_ _ | refine blk_drew ?_ | refine blk_alloc ?_ _)); exact BK213.out⟩, ⟨by (with_reducible repeat (first | refine blk_drewN ?_ _ | refine blk_drew ?_ | refine blk_alloc ?_ _)); exact BK214.out⟩, ⟨by repeat (first | (with_reducible first | exact HB.out | apply below_alloc | apply pw_below_drewN | apply below_drew1 | refine below_set ?_ GE213.out | refine below_set ?_ GE214.out) | exact HB.out)⟩⟩
                         · rw [if_neg c82] at H
                           exact absurd H (by simp)
                       · rw [if_neg c81] at H
                         exact absurd H (by simp)
                     · replace c80 := Bool.eq_false_iff.mpr c80
                       subst c80
                       have H1 : (tableauref15_Same.l3 k5 false (wrap64 (x9_5 + 1)) a0_0 a0_1 l0_2 l0_3 a0_4 a0_5 l0_6 a0_7 l0_8 l0_9 a1_0 a1_1 l1_2 l1_3 a1_4 a1_5 l1_6 a1_7 l1_8 l1_9) = some r := by rw [if_neg (show ¬ (false = true) by decide)] at H; exact H
                       clear H
                       have H := H1
                       clear H1
                       have H' := Aside0.mk H
                       clear H
                       have hnb86 := NB213_214.out
                       have hnc86 := NB214_213.out
                       have hcz87_0 : wr.cell? ⟨gb213, 0, none⟩ = some (.bool a0_0) := (blk_cell BK213.out 0).trans rfl
                       have hcz87_1 : wr.cell? ⟨gb213, 1, none⟩ = some (.int .i64 a0_1) := (blk_cell BK213.out 1).trans rfl
                       have hcz87_2 : wr.cell? ⟨gb213, 2, none⟩ = some (.slice A0_2 l0_2.length c0_2) := (blk_cell BK213.out 2).trans rfl
                       have hcz87_3 : wr.cell? ⟨gb213, 3, none⟩ = some (.slice A0_3 l0_3.length c0_3) := (blk_cell BK213.out 3).trans rfl
                       have hcz87_4 : wr.cell? ⟨gb213, 4, none⟩ = some (.bool a0_4) := (blk_cell BK213.out 4).trans rfl
                       have hcz87_5 : wr.cell? ⟨gb213, 5, none⟩ = some (.bool a0_5) := (blk_cell BK213.out 5).trans rfl
                       have hcz87_6 : wr.cell? ⟨gb213, 6, none⟩ = some (.slice A0_6 l0_6.length c0_6) := (blk_cell BK213.out 6).trans rfl
                       have hcz87_7 : wr.cell? ⟨gb213, 7, none⟩ = some (.bool a0_7) := (blk_cell BK213.out 7).trans rfl
                       have hcz87_8 : wr.cell? ⟨gb213, 8, none⟩ = some (.slice A0_8 l0_8.length c0_8) := (blk_cell BK213.out 8).trans rfl
                       have hcz87_9 : wr.cell? ⟨gb213, 9, none⟩ = some (.slice A0_9 l0_9.length c0_9) := (blk_cell BK213.out 9).trans rfl
                       have hfz87_0 := blk_frozen BK213.out 0
                       have hfz87_1 := blk_frozen BK213.out 1
                       have hfz87_2 := blk_frozen BK213.out 2
                       have hfz87_3 := blk_frozen BK213.out 3
                       have hfz87_4 := blk_frozen BK213.out 4
                       have hfz87_5 := blk_frozen BK213.out 5
                       have hfz87_6 := blk_frozen BK213.out 6
                       have hfz87_7 := blk_frozen BK213.out 7
                       have hfz87_8 := blk_frozen BK213.out 8
                       have hfz87_9 := blk_frozen BK213.out 9
                       go_wp2
                       repeat (go_quiet (fail); try go_wp2)
                       go_roundg k5
                       case measure => have := HJ2.out; have := HK2.out; have := HK3.out; have := HK4.out; have := HK5.out; omega
                       case rel => exact ⟨(false), (wrap64 (x9_5 + 1)), (by first | rfl | (simp; done) | (simp [*]; done)), (by first | rfl | (simp; done) | (simp [*]; done)), H', ⟨by have := HJ2.out; have := HK2.out; have := HK3.out; have := HK4.out; have := HK5.out; omega⟩, ⟨by (with_reducible repeat (first | refine blk_drewN ?_ _ | refine blk_drew ?_ | refine blk_alloc ?_ _)); exact BK213.out⟩, ⟨by (with_reducible repeat (first | refine blk_drewN ?_ _ | refine blk_drew ?_ | refine blk_alloc ?_ _)); exact BK214.out⟩, ⟨by repeat (first | (with_reducible first | exact HB.out | apply below_alloc | apply pw_below_drewN | apply below_drew1 | refine below_set ?_ GE213.out | refine below_set ?_ GE214.out) | exact HB.out)⟩⟩
                   · rw [if_neg c79] at H
                     have c79b0 : decide (x9_5 < (l0_8.length : Int)) = false := decide_eq_false c79
                     clear c79
                     have H' := Aside0.mk H
                     clear H
                     have hnb88 := NB213_214.out
                     have hnc88 := NB214_213.out
                     have hcz89_0 : wr.cell? ⟨gb213, 0, none⟩ = some (.bool a0_0) := (blk_cell BK213.out 0).trans rfl
                     have hcz89_1 : wr.cell? ⟨gb213, 1, none⟩ = some (.int .i64 a0_1) := (blk_cell BK213.out 1).trans rfl
                     have hcz89_2 : wr.cell? ⟨gb213, 2, none⟩ = some (.slice A0_2 l0_2.length c0_2) := (blk_cell BK213.out 2).trans rfl
                     have hcz89_3 : wr.cell? ⟨gb213, 3, none⟩ = some (.slice A0_3 l0_3.length c0_3) := (blk_cell BK213.out 3).trans rfl
                     have hcz89_4 : wr.cell? ⟨gb213, 4, none⟩ = some (.bool a0_4) := (blk_cell BK213.out 4).trans rfl
                     have hcz89_5 : wr.cell? ⟨gb213, 5, none⟩ = some (.bool a0_5) := (blk_cell BK213.out 5).trans rfl
                     have hcz89_6 : wr.cell? ⟨gb213, 6, none⟩ = some (.slice A0_6 l0_6.length c0_6) := (blk_cell BK213.out 6).trans rfl
                     have hcz89_7 : wr.cell? ⟨gb213, 7, none⟩ = some (.bool a0_7) := (blk_cell BK213.out 7).trans rfl
                     have hcz89_8 : wr.cell? ⟨gb213, 8, none⟩ = some (.slice A0_8 l0_8.length c0_8) := (blk_cell BK213.out 8).trans rfl
                     have hcz89_9 : wr.cell? ⟨gb213, 9, none⟩ = some (.slice A0_9 l0_9.length c0_9) := (blk_cell BK213.out 9).trans rfl
                     have hfz89_0 := blk_frozen BK213.out 0
                     have hfz89_1 := blk_frozen BK213.out 1
                     have hfz89_2 := blk_frozen BK213.out 2
                     have hfz89_3 := blk_frozen BK213.out 3
                     have hfz89_4 := blk_frozen BK213.out 4
                     have hfz89_5 := blk_frozen BK213.out 5
                     have hfz89_6 := blk_frozen BK213.out 6
                     have hfz89_7 := blk_frozen BK213.out 7
                     have hfz89_8 := blk_frozen BK213.out 8
                     have hfz89_9 := blk_frozen BK213.out 9
                     go_wp2
                     repeat (go_quiet (fail); try go_wp2)
                     go_loopg [5, 10] k5 (fun kq v5 v10 w' => ∃ (x5_6 : Bool) (x10_6 : Int), v5 = .bool x5_6 ∧ v10 = .int .i64 x10_6 ∧ Aside0 (tableauref15_Same.l4 kq x5_6 x10_6 a0_0 a0_1 l0_2 l0_3 a0_4 a0_5 l0_6 a0_7 l0_8 l0_9 a1_0 a1_1 l1_2 l1_3 a1_4 a1_5 l1_6 a1_7 l1_8 l1_9 = some r) ∧ Aside0 (kq ≤ k5) ∧ Aside0 (w'.heap[gb213]? = some (.cells #[.bool a0_0, .int .i64 a0_1, (.slice A0_2 l0_2.length c0_2), (.slice A0_3 l0_3.length c0_3), .bool a0_4, .bool a0_5, (.slice A0_6 l0_6.length c0_6), .bool a0_7, (.slice A0_8 l0_8.length c0_8), (.slice A0_9 l0_9.length c0_9)] 33 (0, 0))) ∧ Aside0 (w'.heap[gb214]? = some (.cells #[.bool a1_0, .int .i64 a1_1, (.slice A1_2 l1_2.length c1_2), (.slice A1_3 l1_3.length c1_3), .bool a1_4, .bool a1_5, (.slice A1_6 l1_6.length c1_6), .bool a1_7, (.slice A1_8 l1_8.length c1_8), (.slice A1_9 l1_9.length c1_9)] 33 (0, 0))) ∧ Aside0 (Below w.heap.size w w'))
                     case atStart => exact ⟨(x5_5), (0), (by first | rfl | (simp; done) | (simp [*]; done)), (by first | rfl | (simp; done) | (simp [*]; done)), H', ⟨Nat.le_refl _⟩, ⟨by (with_reducible repeat (first | refine blk_drewN ?_ _ | refine blk_drew ?_ | refine blk_alloc ?_ _)); exact BK213.out⟩, ⟨by (with_reducible repeat (first | refine blk_drewN ?_ _ | refine blk_drew ?_ | refine blk_alloc ?_ _)); exact BK214.out⟩, ⟨by repeat (first | (with_reducible first | exact HB.out | apply below_alloc | apply pw_below_drewN | apply below_drew1 | refine below_set ?_ GE213.out | refine below_set ?_ GE214.out) | exact HB.out)⟩⟩
                     case round =>
                      clear H'
                      try clear c1
                      try clear p2
                      try clear q2
                      try clear hx2
                      try clear p6
                      try clear c7
                      try clear c8
                      try clear p21
                      try clear q21
                      try clear hx21
                      try clear p22
                      try clear q22
                      try clear hx22
                      try clear p64
                      try clear c79
                      try clear c79b0
                      try clear c80
                      try clear c81
                      try clear c81b0
                      try clear c82
                      try clear c82b0
                      try clear c83
                      try clear c86
                      try clear c88
                      try clear hcz63_1
                      try clear hcz63_2
                      try clear hcz63_3
                      try clear hcz63_4
                      try clear hcz63_5
                      try clear hcz63_6
                      try clear hcz63_7
                      try clear hcz63_8
                      try clear hcz63_9
                      try clear hcz65_0
                      try clear hcz65_1
                      try clear hcz65_2
                      try clear hcz65_3
                      try clear hcz65_4
                      try clear hcz65_5
                      try clear hcz65_6
                      try clear hcz65_7
                      try clear hcz65_8
                      try clear hcz65_9
                      try clear hcz67_0
                      try clear hcz67_1
                      try clear hcz67_2
                      try clear hcz67_3
                      try clear hcz67_4
                      try clear hcz67_5
                      try clear hcz67_6
                      try clear hcz67_7
                      try clear hcz67_8
                      try clear hcz67_9
                      try clear hcz73_0
                      try clear hcz73_1
                      try clear hcz73_2
                      try clear hcz73_3
                      try clear hcz73_4
                      try clear hcz73_5
                      try clear hcz73_6
                      try clear hcz73_7
                      try clear hcz73_8
                      try clear hcz73_9
                      try clear hcz74_0
                      try clear hcz74_1
                      try clear hcz74_2
                      try clear hcz74_3
                      try clear hcz74_4
                      try clear hcz74_5
                      try clear hcz74_6
                      try clear hcz74_7
                      try clear hcz74_8
                      try clear hcz74_9
                      try clear hcz76_0
                      try clear hcz76_1
                      try clear hcz76_2
                      try clear hcz76_3
                      try clear hcz76_4
                      try clear hcz76_5
                      try clear hcz76_6
                      try clear hcz76_7
                      try clear hcz76_8
                      try clear hcz76_9
                      try clear hcz78_0
                      try clear hcz78_1
                      try clear hcz78_2
                      try clear hcz78_3
                      try clear hcz78_4
                      try clear hcz78_5
                      try clear hcz78_6
                      try clear hcz78_7
                      try clear hcz78_8
                      try clear hcz78_9
                      try clear hcz84_0
                      try clear hcz84_1
                      try clear hcz84_2
                      try clear hcz84_3
                      try clear hcz84_4
                      try clear hcz84_5
                      try clear hcz84_6
                      try clear hcz84_7
                      try clear hcz84_8
                      try clear hcz84_9
                      try clear hcz85_0
                      try clear hcz85_1
                      try clear hcz85_2
                      try clear hcz85_3
                      try clear hcz85_4
                      try clear hcz85_5
                      try clear hcz85_6
                      try clear hcz85_7
                      try clear hcz85_8
                      try clear hcz85_9
                      try clear hcz87_0
                      try clear hcz87_1
                      try clear hcz87_2
                      try clear hcz87_3
                      try clear hcz87_4
                      try clear hcz87_5
                      try clear hcz87_6
                      try clear hcz87_7
                      try clear hcz87_8
                      try clear hcz87_9
                      try clear hcz89_0
                      try clear hcz89_1
                      try clear hcz89_2
                      try clear hcz89_3
                      try clear hcz89_4
                      try clear hcz89_5
                      try clear hcz89_6
                      try clear hcz89_7
                      try clear hcz89_8
                      try clear hcz89_9
                      try clear hcz8_0
                      try clear hcz8_1
                      try clear hcz8_2
                      try clear hcz8_3
                      try clear hcz8_4
                      try clear hcz8_5
                      try clear hcz8_6
                      try clear hcz8_7
                      try clear hcz8_8
                      try clear hcz8_9
                      try clear hcz9_0
                      try clear hcz9_1
                      try clear hcz9_2
                      try clear hcz9_3
                      try clear hcz9_4
                      try clear hcz9_5
                      try clear hcz9_6
                      try clear hcz9_7
                      try clear hcz9_8
                      try clear hcz9_9
                      try clear hfz13_0
                      try clear hfz13_1
                      try clear hfz13_2
                      try clear hfz13_3
                      try clear hfz13_4
                      try clear hfz13_5
                      try clear hfz13_6
                      try clear hfz13_7
                      try clear hfz13_8
                      try clear hfz13_9
                      try clear hfz14_0
                      try clear hfz14_1
                      try clear hfz14_2
                      try clear hfz14_3
                      try clear hfz14_4
                      try clear hfz14_5
                      try clear hfz14_6
                      try clear hfz14_7
                      try clear hfz14_8
                      try clear hfz14_9
                      try clear hfz17_0
                      try clear hfz17_1
                      try clear hfz17_2
                      try clear hfz17_3
                      try clear hfz17_4
                      try clear hfz17_5
                      try clear hfz17_6
                      try clear hfz17_7
                      try clear hfz17_8
                      try clear hfz17_9
                      try clear hfz18_0
                      try clear hfz18_1
                      try clear hfz18_2
                      try clear hfz18_3
                      try clear hfz18_4
                      try clear hfz18_5
                      try clear hfz18_6
                      try clear hfz18_7
                      try clear hfz18_8
                      try clear hfz18_9
                      try clear hfz21_0
                      try clear hfz21_1
                      try clear hfz21_2
                      try clear hfz21_3
                      try clear hfz21_4
                      try clear hfz21_5
                      try clear hfz21_6
                      try clear hfz21_7
                      try clear hfz21_8
                      try clear hfz21_9
                      try clear hfz22_0
                      try clear hfz22_1
                      try clear hfz22_2
                      try clear hfz22_3
                      try clear hfz22_4
                      try clear hfz22_5
                      try clear hfz22_6
                      try clear hfz22_7
                      try clear hfz22_8
                      try clear hfz22_9
                      try clear hfz28_0
                      try clear hfz28_1
                      try clear hfz28_2
                      try clear hfz28_3
                      try clear hfz28_4
                      try clear hfz28_5
                      try clear hfz28_6
                      try clear hfz28_7
                      try clear hfz28_8
                      try clear hfz28_9
                      try clear hfz29_0
                      try clear hfz29_1
                      try clear hfz29_2
                      try clear hfz29_3
                      try clear hfz29_4
                      try clear hfz29_5
                      try clear hfz29_6
                      try clear hfz29_7
                      try clear hfz29_8
                      try clear hfz29_9
                      try clear hfz31_0
                      try clear hfz31_1
                      try clear hfz31_2
                      try clear hfz31_3
                      try clear hfz31_4
                      try clear hfz31_5
                      try clear hfz31_6
                      try clear hfz31_7
                      try clear hfz31_8
                      try clear hfz31_9
                      try clear hfz32_0
                      try clear hfz32_1
                      try clear hfz32_2
                      try clear hfz32_3
                      try clear hfz32_4
                      try clear hfz32_5
                      try clear hfz32_6
                      try clear hfz32_7
                      try clear hfz32_8
                      try clear hfz32_9
                      try clear hfz34_0
                      try clear hfz34_1
                      try clear hfz34_2
                      try clear hfz34_3
                      try clear hfz34_4
                      try clear hfz34_5
                      try clear hfz34_6
                      try clear hfz34_7
                      try clear hfz34_8
                      try clear hfz34_9
                      try clear hfz35_0
                      try clear hfz35_1
                      try clear hfz35_2
                      try clear hfz35_3
                      try clear hfz35_4
                      try clear hfz35_5
                      try clear hfz35_6
                      try clear hfz35_7
                      try clear hfz35_8
                      try clear hfz35_9
                      try clear hfz37_0
                      try clear hfz37_1
                      try clear hfz37_2
                      try clear hfz37_3
                      try clear hfz37_4
                      try clear hfz37_5
                      try clear hfz37_6
                      try clear hfz37_7
                      try clear hfz37_8
                      try clear hfz37_9
                      try clear hfz38_0
                      try clear hfz38_1
                      try clear hfz38_2
                      try clear hfz38_3
                      try clear hfz38_4
                      try clear hfz38_5
                      try clear hfz38_6
                      try clear hfz38_7
                      try clear hfz38_8
                      try clear hfz38_9
                      try clear hfz40_0
                      try clear hfz40_1
                      try clear hfz40_2
                      try clear hfz40_3
                      try clear hfz40_4
                      try clear hfz40_5
                      try clear hfz40_6
                      try clear hfz40_7
                      try clear hfz40_8
                      try clear hfz40_9
                      try clear hfz41_0
                      try clear hfz41_1
                      try clear hfz41_2
                      try clear hfz41_3
                      try clear hfz41_4
                      try clear hfz41_5
                      try clear hfz41_6
                      try clear hfz41_7
                      try clear hfz41_8
                      try clear hfz41_9
                      try clear hfz43_0
                      try clear hfz43_1
                      try clear hfz43_2
                      try clear hfz43_3
                      try clear hfz43_4
                      try clear hfz43_5
                      try clear hfz43_6
                      try clear hfz43_7
                      try clear hfz43_8
                      try clear hfz43_9
                      try clear hfz44_0
                      try clear hfz44_1
                      try clear hfz44_2
                      try clear hfz44_3
                      try clear hfz44_4
                      try clear hfz44_5
                      try clear hfz44_6
                      try clear hfz44_7
                      try clear hfz44_8
                      try clear hfz44_9
                      try clear hfz51_0
                      try clear hfz51_1
                      try clear hfz51_2
                      try clear hfz51_3
                      try clear hfz51_4
                      try clear hfz51_5
                      try clear hfz51_6
                      try clear hfz51_7
                      try clear hfz51_8
                      try clear hfz51_9
                      try clear hfz52_0
                      try clear hfz52_1
                      try clear hfz52_2
                      try clear hfz52_3
                      try clear hfz52_4
                      try clear hfz52_5
                      try clear hfz52_6
                      try clear hfz52_7
                      try clear hfz52_8
                      try clear hfz52_9
                      try clear hfz54_0
                      try clear hfz54_1
                      try clear hfz54_2
                      try clear hfz54_3
                      try clear hfz54_4
                      try clear hfz54_5
                      try clear hfz54_6
                      try clear hfz54_7
                      try clear hfz54_8
                      try clear hfz54_9
                      try clear hfz56_0
                      try clear hfz56_1
                      try clear hfz56_2
                      try clear hfz56_3
                      try clear hfz56_4
                      try clear hfz56_5
                      try clear hfz56_6
                      try clear hfz56_7
                      try clear hfz56_8
                      try clear hfz56_9
                      try clear hfz62_0
                      try clear hfz62_1
                      try clear hfz62_2
                      try clear hfz62_3
                      try clear hfz62_4
                      try clear hfz62_5
                      try clear hfz62_6
                      try clear hfz62_7
                      try clear hfz62_8
                      try clear hfz62_9
                      try clear hfz63_0
                      try clear hfz63_1
                      try clear hfz63_2
                      try clear hfz63_3
                      try clear hfz63_4
                      try clear hfz63_5
                      try clear hfz63_6
                      try clear hfz63_7
                      try clear hfz63_8
                      try clear hfz63_9
                      try clear hfz65_0
                      try clear hfz65_1
                      try clear hfz65_2
                      try clear hfz65_3
                      try clear hfz65_4
                      try clear hfz65_5
                      try clear hfz65_6
                      try clear hfz65_7
                      try clear hfz65_8
                      try clear hfz65_9
                      try clear hfz67_0
                      try clear hfz67_1
                      try clear hfz67_2
                      try clear hfz67_3
                      try clear hfz67_4
                      try clear hfz67_5
                      try clear hfz67_6
                      try clear hfz67_7
                      try clear hfz67_8
                      try clear hfz67_9
                      try clear hfz73_0
                      try clear hfz73_1
                      try clear hfz73_2
                      try clear hfz73_3
                      try clear hfz73_4
                      try clear hfz73_5
                      try clear hfz73_6
                      try clear hfz73_7
                      try clear hfz73_8
                      try clear hfz73_9
                      try clear hfz74_0
                      try clear hfz74_1
                      try clear hfz74_2
                      try clear hfz74_3
                      try clear hfz74_4
                      try clear hfz74_5
                      try clear hfz74_6
                      try clear hfz74_7
                      try clear hfz74_8
                      try clear hfz74_9
                      try clear hfz76_0
                      try clear hfz76_1
                      try clear hfz76_2
                      try clear hfz76_3
                      try clear hfz76_4
                      try clear hfz76_5
                      try clear hfz76_6
                      try clear hfz76_7
                      try clear hfz76_8
                      try clear hfz76_9
                      try clear hfz78_0
                      try clear hfz78_1
                      try clear hfz78_2
                      try clear hfz78_3
                      try clear hfz78_4
                      try clear hfz78_5
                      try clear hfz78_6
                      try clear hfz78_7
                      try clear hfz78_8
                      try clear hfz78_9
                      try clear hfz84_0
                      try clear hfz84_1
                      try clear hfz84_2
                      try clear hfz84_3
                      try clear hfz84_4
                      try clear hfz84_5
                      try clear hfz84_6
                      try clear hfz84_7
                      try clear hfz84_8
                      try clear hfz84_9
                      try clear hfz85_0
                      try clear hfz85_1
                      try clear hfz85_2
                      try clear hfz85_3
                      try clear hfz85_4
                      try clear hfz85_5
                      try clear hfz85_6
                      try clear hfz85_7
                      try clear hfz85_8
                      try clear hfz85_9
                      try clear hfz87_0
                      try clear hfz87_1
                      try clear hfz87_2
                      try clear hfz87_3
                      try clear hfz87_4
                      try clear hfz87_5
                      try clear hfz87_6
                      try clear hfz87_7
                      try clear hfz87_8
                      try clear hfz87_9
                      try clear hfz89_0
                      try clear hfz89_1
                      try clear hfz89_2
                      try clear hfz89_3
                      try clear hfz89_4
                      try clear hfz89_5
                      try clear hfz89_6
                      try clear hfz89_7
                      try clear hfz89_8
                      try clear hfz89_9
                      try clear hfz8_0
                      try clear hfz8_1
                      try clear hfz8_2
                      try clear hfz8_3
                      try clear hfz8_4
                      try clear hfz8_5
                      try clear hfz8_6
                      try clear hfz8_7
                      try clear hfz8_8
                      try clear hfz8_9
                      try clear hfz9_0
                      try clear hfz9_1
                      try clear hfz9_2
                      try clear hfz9_3
                      try clear hfz9_4
                      try clear hfz9_5
                      try clear hfz9_6
                      try clear hfz9_7
                      try clear hfz9_8
                      try clear hfz9_9
                      try clear hx215_0
                      try clear hx215_1
                      try clear hx215_2
                      try clear hx215_3
                      try clear hx216_0
                      try clear hx216_1
                      try clear hx216_2
                      try clear hx216_3
                      try clear hx217_0
                      try clear hx218_0
                      try clear hx219_0
                      try clear hx219_1
                      try clear hx219_2
                      try clear hx219_3
                      try clear hx220_0
                      try clear hx220_1
                      try clear hx220_2
                      try clear hx220_3
                      try clear hx221_0
                      try clear hx222_0
                      try clear p2
                      try clear p215
                      try clear p216
                      try clear p217
                      try clear p218
                      try clear p219
                      try clear p220
                      try clear p221
                      try clear p222
                      try clear q215
                      try clear q216
                      try clear q217
                      try clear q218
                      try clear q219
                      try clear q220
                      try clear q221
                      try clear q222
                      obtain ⟨x5_6, x10_6, rfl, rfl, HA, HK6, BK213, BK214, HB⟩ := hrel
                      cases gk with
                      | zero => exact absurd HA.out (by simp [tableauref15_Same.l4])
                      | succ k6 =>
                       have H := HA.out
                       clear HA
                       simp only [tableauref15_Same.l4] at H
                       by_cases c90 : x10_6 < (l0_9.length : Int)
                       · rw [if_pos c90] at H
                         have c90b0 : decide (x10_6 < (l0_9.length : Int)) = true := decide_eq_true c90
                         clear c90
                         by_cases c91 : x5_6 = true
                         · subst c91
                           have H1 : (if 0 ≤ x10_6 then (if x10_6 < (l1_9.length : Int) then (tableauref15_Same.l4 k6 (((rd_T24 l0_9 x10_6).f0) == ((rd_T24 l1_9 x10_6).f0) && (((rd_T24 l0_9 x10_6).f1) == ((rd_T24 l1_9 x10_6).f1) && (((rd_T24 l0_9 x10_6).f2) == ((rd_T24 l1_9 x10_6).f2)))) (wrap64 (x10_6 + 1)) a0_0 a0_1 l0_2 l0_3 a0_4 a0_5 l0_6 a0_7 l0_8 l0_9 a1_0 a1_1 l1_2 l1_3 a1_4 a1_5 l1_6 a1_7 l1_8 l1_9) else (none)) else (none)) = some r := by rw [if_pos rfl] at H; exact H
                           clear H
                           have H := H1
                           clear H1
                           by_cases c92 : 0 ≤ x10_6
                           · rw [if_pos c92] at H
                             have c92b0 : decide (0 ≤ x10_6) = true := decide_eq_true c92
                             clear c92
                             by_cases c93 : x10_6 < (l1_9.length : Int)
                             · rw [if_pos c93] at H
                               have c93b0 : decide (x10_6 < (l1_9.length : Int)) = true := decide_eq_true c93
                               clear c93
                               have H' := Aside0.mk H
                               clear H
                               have hnb94 := NB213_214.out
                               have hnc94 := NB214_213.out
                               have hcz95_0 : wr.cell? ⟨gb213, 0, none⟩ = some (.bool a0_0) := (blk_cell BK213.out 0).trans rfl
                               have hcz95_1 : wr.cell? ⟨gb213, 1, none⟩ = some (.int .i64 a0_1) := (blk_cell BK213.out 1).trans rfl
                               have hcz95_2 : wr.cell? ⟨gb213, 2, none⟩ = some (.slice A0_2 l0_2.length c0_2) := (blk_cell BK213.out 2).trans rfl
                               have hcz95_3 : wr.cell? ⟨gb213, 3, none⟩ = some (.slice A0_3 l0_3.length c0_3) := (blk_cell BK213.out 3).trans rfl
                               have hcz95_4 : wr.cell? ⟨gb213, 4, none⟩ = some (.bool a0_4) := (blk_cell BK213.out 4).trans rfl
                               have hcz95_5 : wr.cell? ⟨gb213, 5, none⟩ = some (.bool a0_5) := (blk_cell BK213.out 5).trans rfl
                               have hcz95_6 : wr.cell? ⟨gb213, 6, none⟩ = some (.slice A0_6 l0_6.length c0_6) := (blk_cell BK213.out 6).trans rfl
                               have hcz95_7 : wr.cell? ⟨gb213, 7, none⟩ = some (.bool a0_7) := (blk_cell BK213.out 7).trans rfl
                               have hcz95_8 : wr.cell? ⟨gb213, 8, none⟩ = some (.slice A0_8 l0_8.length c0_8) := (blk_cell BK213.out 8).trans rfl
                               have hcz95_9 : wr.cell? ⟨gb213, 9, none⟩ = some (.slice A0_9 l0_9.length c0_9) := (blk_cell BK213.out 9).trans rfl
                               have hfz95_0 := blk_frozen BK213.out 0
                               have hfz95_1 := blk_frozen BK213.out 1
                               have hfz95_2 := blk_frozen BK213.out 2
                               have hfz95_3 := blk_frozen BK213.out 3
                               have hfz95_4 := blk_frozen BK213.out 4
                               have hfz95_5 := blk_frozen BK213.out 5
                               have hfz95_6 := blk_frozen BK213.out 6
                               have hfz95_7 := blk_frozen BK213.out 7
                               have hfz95_8 := blk_frozen BK213.out 8
                               have hfz95_9 := blk_frozen BK213.out 9
                               have p223 : 0 ≤ (x10_6 : Int) := of_decide_eq_true (by first | (with_reducible assumption) | assumption)
                               have q223 : x10_6 < (l0_9.length : Int) := of_decide_eq_true (by first | (with_reducible assumption) | assumption)
                               obtain ⟨ad223, e223, hx223_0, hx223_1, hx223_2⟩ := at_T24 HR0_9.out x10_6 p223 q223
                               cases e223
                               replace hx223_0 := (HB.out.cell (World.block_lt_of_cell? w _ hx223_0)).trans hx223_0
                               replace hx223_1 := (HB.out.cell (World.block_lt_of_cell? w _ hx223_1)).trans hx223_1
                               replace hx223_2 := (HB.out.cell (World.block_lt_of_cell? w _ hx223_2)).trans hx223_2
                               replace p223 := eq_true p223
                               replace q223 := eq_true q223
                               have hcz96_0 : wr.cell? ⟨gb214, 0, none⟩ = some (.bool a1_0) := (blk_cell BK214.out 0).trans rfl
                               have hcz96_1 : wr.cell? ⟨gb214, 1, none⟩ = some (.int .i64 a1_1) := (blk_cell BK214.out 1).trans rfl
                               have hcz96_2 : wr.cell? ⟨gb214, 2, none⟩ = some (.slice A1_2 l1_2.length c1_2) := (blk_cell BK214.out 2).trans rfl
                               have hcz96_3 : wr.cell? ⟨gb214, 3, none⟩ = some (.slice A1_3 l1_3.length c1_3) := (blk_cell BK214.out 3).trans rfl
                               have hcz96_4 : wr.cell? ⟨gb214, 4, none⟩ = some (.bool a1_4) := (blk_cell BK214.out 4).trans rfl
                               have hcz96_5 : wr.cell? ⟨gb214, 5, none⟩ = some (.bool a1_5) := (blk_cell BK214.out 5).trans rfl
                               have hcz96_6 : wr.cell? ⟨gb214, 6, none⟩ = some (.slice A1_6 l1_6.length c1_6) := (blk_cell BK214.out 6).trans rfl
                               have hcz96_7 : wr.cell? ⟨gb214, 7, none⟩ = some (.bool a1_7) := (blk_cell BK214.out 7).trans rfl
                               have hcz96_8 : wr.cell? ⟨gb214, 8, none⟩ = some (.slice A1_8 l1_8.length c1_8) := (blk_cell BK214.out 8).trans rfl
                               have hcz96_9 : wr.cell? ⟨gb214, 9, none⟩ = some (.slice A1_9 l1_9.length c1_9) := (blk_cell BK214.out 9).trans rfl
                               have hfz96_0 := blk_frozen BK214.out 0
                               have hfz96_1 := blk_frozen BK214.out 1
                               have hfz96_2 := blk_frozen BK214.out 2
                               have hfz96_3 := blk_frozen BK214.out 3
                               have hfz96_4 := blk_frozen BK214.out 4
                               have hfz96_5 := blk_frozen BK214.out 5
                               have hfz96_6 := blk_frozen BK214.out 6
                               have hfz96_7 := blk_frozen BK214.out 7
                               have hfz96_8 := blk_frozen BK214.out 8
                               have hfz96_9 := blk_frozen BK214.out 9
                               have p224 : 0 ≤ (x10_6 : Int) := of_decide_eq_true (by first | (with_reducible assumption) | assumption)
                               have q224 : x10_6 < (l1_9.length : Int) := of_decide_eq_true (by first | (with_reducible assumption) | assumption)
                               obtain ⟨ad224, e224, hx224_0, hx224_1, hx224_2⟩ := at_T24 HR1_9.out x10_6 p224 q224
                               cases e224
                               replace hx224_0 := (HB.out.cell (World.block_lt_of_cell? w _ hx224_0)).trans hx224_0
                               replace hx224_1 := (HB.out.cell (World.block_lt_of_cell? w _ hx224_1)).trans hx224_1
                               replace hx224_2 := (HB.out.cell (World.block_lt_of_cell? w _ hx224_2)).trans hx224_2
                               replace p224 := eq_true p224
                               replace q224 := eq_true q224
                               go_wp2
                               repeat (go_quiet (fail); try go_wp2)
                               go_roundg k6
                               case measure => have := HJ2.out; have := HK2.out; have := HK3.out; have := HK4.out; have := HK5.out; have := HK6.out; omega
                               case rel => exact ⟨((((rd_T24 l0_9 x10_6).f0) == ((rd_T24 l1_9 x10_6).f0) && (((rd_T24 l0_9 x10_6).f1) == ((rd_T24 l1_9 x10_6).f1) && (((rd_T24 l0_9 x10_6).f2) == ((rd_T24 l1_9 x10_6).f2))))), (wrap64 (x10_6 + 1)), (by first | rfl | (simp; done) | (simp [*]; done)), (by first | rfl | (simp; done) | (simp [*]; done)), H', ⟨by have := HJ2.out; have := HK2.out; have := HK3.out; have := HK4.out; have := HK5.out; have := HK6.out; omega⟩, ⟨by (with_reducible repeat (first | refine blk_drewN ?_ _ | refine blk_drew ?_ | refine blk_alloc ?_ _)); exact BK213.out⟩, ⟨by (with_reducible repeat (first | refine blk_drewN ?_ _ | refine blk_drew ?_ | refine blk_alloc ?_ _)); exact BK214.out⟩, ⟨by repeat (first | (with_reducible first | exact HB.out | apply below_alloc | apply pw_below_drewN | apply below_drew1 | refine below_set ?_ GE213.out | refine below_set ?_ GE214.out) | exact HB.out)⟩⟩
                             · rw [if_neg c93] at H
                               exact absurd H (by simp)
                           · rw [if_neg c92] at H
                             exact absurd H (by simp)
                         · replace c91 := Bool.eq_false_iff.mpr c91
                           subst c91
                           have H1 : (tableauref15_Same.l4 k6 false (wrap64 (x10_6 + 1)) a0_0 a0_1 l0_2 l0_3 a0_4 a0_5 l0_6 a0_7 l0_8 l0_9 a1_0 a1_1 l1_2 l1_3 a1_4 a1_5 l1_6 a1_7 l1_8 l1_9) = some r := by rw [if_neg (show ¬ (false = true) by decide)] at H; exact H
                           clear H
                           have H := H1
                           clear H1
                           have H' := Aside0.mk H
                           clear H
                           have hnb97 := NB213_214.out
                           have hnc97 := NB214_213.out
                           have hcz98_0 : wr.cell? ⟨gb213, 0, none⟩ = some (.bool a0_0) := (blk_cell BK213.out 0).trans rfl
                           have hcz98_1 : wr.cell? ⟨gb213, 1, none⟩ = some (.int .i64 a0_1) := (blk_cell BK213.out 1).trans rfl
                           have hcz98_2 : wr.cell? ⟨gb213, 2, none⟩ = some (.slice A0_2 l0_2.length c0_2) := (blk_cell BK213.out 2).trans rfl
                           have hcz98_3 : wr.cell? ⟨gb213, 3, none⟩ = some (.slice A0_3 l0_3.length c0_3) := (blk_cell BK213.out 3).trans rfl
                           have hcz98_4 : wr.cell? ⟨gb213, 4, none⟩ = some (.bool a0_4) := (blk_cell BK213.out 4).trans rfl
                           have hcz98_5 : wr.cell? ⟨gb213, 5, none⟩ = some (.bool a0_5) := (blk_cell BK213.out 5).trans rfl
                           have hcz98_6 : wr.cell? ⟨gb213, 6, none⟩ = some (.slice A0_6 l0_6.length c0_6) := (blk_cell BK213.out 6).trans rfl
                           have hcz98_7 : wr.cell? ⟨gb213, 7, none⟩ = some (.bool a0_7) := (blk_cell BK213.out 7).trans rfl
                           have hcz98_8 : wr.cell? ⟨gb213, 8, none⟩ = some (.slice A0_8 l0_8.length c0_8) := (blk_cell BK213.out 8).trans rfl
                           have hcz98_9 : wr.cell? ⟨gb213, 9, none⟩ = some (.slice A0_9 l0_9.length c0_9) := (blk_cell BK213.out 9).trans rfl
                           have hfz98_0 := blk_frozen BK213.out 0
                           have hfz98_1 := blk_frozen BK213.out 1
                           have hfz98_2 := blk_frozen BK213.out 2
                           have hfz98_3 := blk_frozen BK213.out 3
                           have hfz98_4 := blk_frozen BK213.out 4
                           have hfz98_5 := blk_frozen BK213.out 5
                           have hfz98_6 := blk_frozen BK213.out 6
                           have hfz98_7 := blk_frozen BK213.out 7
                           have hfz98_8 := blk_frozen BK213.out 8
                           have hfz98_9 := blk_frozen BK213.out 9
                           go_wp2
                           repeat (go_quiet (fail); try go_wp2)
                           go_roundg k6
                           case measure => have := HJ2.out; have := HK2.out; have := HK3.out; have := HK4.out; have := HK5.out; have := HK6.out; omega
                           case rel => exact ⟨(false), (wrap64 (x10_6 + 1)), (by first | rfl | (simp; done) | (simp [*]; done)), (by first | rfl | (simp; done) | (simp [*]; done)), H', ⟨by have := HJ2.out; have := HK2.out; have := HK3.out; have := HK4.out; have := HK5.out; have := HK6.out; omega⟩, ⟨by (with_reducible repeat (first | refine blk_drewN ?_ _ | refine blk_drew ?_ | refine blk_alloc ?_ _)); exact BK213.out⟩, ⟨by (with_reducible repeat (first | refine blk_drewN ?_ _ | refine blk_drew ?_ | refine blk_alloc ?_ _)); exact BK214.out⟩, ⟨by repeat (first | (with_reducible first | exact HB.out | apply below_alloc | apply pw_below_drewN | apply below_drew1 | refine below_set ?_ GE213.out | refine below_set ?_ GE214.out) | exact HB.out)⟩⟩
                       · rw [if_neg c90] at H
                         have c90b0 : decide (x10_6 < (l0_9.length : Int)) = false := decide_eq_false c90
                         clear c90
                         obtain rfl := Option.some.inj H
                         have hnb99 := NB213_214.out
                         have hnc99 := NB214_213.out
                         have hcz100_0 : wr.cell? ⟨gb213, 0, none⟩ = some (.bool a0_0) := (blk_cell BK213.out 0).trans rfl
                         have hcz100_1 : wr.cell? ⟨gb213, 1, none⟩ = some (.int .i64 a0_1) := (blk_cell BK213.out 1).trans rfl
                         have hcz100_2 : wr.cell? ⟨gb213, 2, none⟩ = some (.slice A0_2 l0_2.length c0_2) := (blk_cell BK213.out 2).trans rfl
                         have hcz100_3 : wr.cell? ⟨gb213, 3, none⟩ = some (.slice A0_3 l0_3.length c0_3) := (blk_cell BK213.out 3).trans rfl
                         have hcz100_4 : wr.cell? ⟨gb213, 4, none⟩ = some (.bool a0_4) := (blk_cell BK213.out 4).trans rfl
                         have hcz100_5 : wr.cell? ⟨gb213, 5, none⟩ = some (.bool a0_5) := (blk_cell BK213.out 5).trans rfl
                         have hcz100_6 : wr.cell? ⟨gb213, 6, none⟩ = some (.slice A0_6 l0_6.length c0_6) := (blk_cell BK213.out 6).trans rfl
                         have hcz100_7 : wr.cell? ⟨gb213, 7, none⟩ = some (.bool a0_7) := (blk_cell BK213.out 7).trans rfl
                         have hcz100_8 : wr.cell? ⟨gb213, 8, none⟩ = some (.slice A0_8 l0_8.length c0_8) := (blk_cell BK213.out 8).trans rfl
                         have hcz100_9 : wr.cell? ⟨gb213, 9, none⟩ = some (.slice A0_9 l0_9.length c0_9) := (blk_cell BK213.out 9).trans rfl
                         have hfz100_0 := blk_frozen BK213.out 0
                         have hfz100_1 := blk_frozen BK213.out 1
                         have hfz100_2 := blk_frozen BK213.out 2
                         have hfz100_3 := blk_frozen BK213.out 3
                         have hfz100_4 := blk_frozen BK213.out 4
                         have hfz100_5 := blk_frozen BK213.out 5
                         have hfz100_6 := blk_frozen BK213.out 6
                         have hfz100_7 := blk_frozen BK213.out 7
                         have hfz100_8 := blk_frozen BK213.out 8
                         have hfz100_9 := blk_frozen BK213.out 9
                         go_wp2
                         repeat (go_quiet (fail); try go_wp2)
                         go_ret
                         exact ⟨by first | rfl | (simp [errW_none, errW_some] <;> rfl) | (simp [*, errW_none, errW_some] <;> rfl), by repeat (first | (with_reducible first | exact HB.out | apply below_alloc | apply pw_below_drewN | apply below_drew1 | refine below_set ?_ GE213.out | refine below_set ?_ GE214.out) | exact HB.out)⟩

-- NOT PRINTED: function 6 (tableaulaw15_StateAll)


end Go.Proofs.Ytnboncbekcodnaa.PR
