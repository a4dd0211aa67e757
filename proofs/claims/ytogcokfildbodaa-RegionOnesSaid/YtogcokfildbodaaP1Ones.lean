/- RegionOnes: the walk: four lists that are regions, six that are none, and the document's example. (Printed by gen_ones.py.) -/
import Derived.Test.YtogcokfildbodaaP1Awk
import Derived.Test.YtogcokfildbodaaRgJ
set_option linter.unusedVariables false
set_option linter.unusedSimpArgs false
namespace Go.Proofs.Ytogcokfildbodaa.P1
open Go.RowKit Go.Proofs.Ytogcokfildbodaa.Kit Go.Proofs.Ytogcokfildbodaa.Rect Go.Proofs.Ytogcokfildbodaa.Reg Go.Proofs.Ytogcokfildbodaa.Wk
set_option maxHeartbeats 2000000 in
theorem ones_r (a b c d : Int) (w : World) : Calls Try.prog 15 #[.int .i64 a, .int .i64 b, .int .i64 c, .int .i64 d] w fun e w' => e = .returned (.agg #[.int .i64 a, .int .i64 b, .int .i64 c, .int .i64 d]) ∧ Below w.heap.size w w' := by
  go_enter Try.func15, Try.ntmps15
  go_wp2_with fail
  refine post_cell w.heap.size 23 #[.int .i64 a, .int .i64 b, .int .i64 c, .int .i64 d] Try.results15 Try.underlying23 rfl (by kernel_rfl) rfl (Bk.new w _ _) rfl ⟨rfl, ?_⟩
  with_reducible repeat (first | exact Below.refl _ _ | apply bl_alloc | apply bl_drew | apply bl_drewN | refine bl_set ?_ (Nat.le_refl _) _)
instance (r : R) : Decidable (I64 r) := by unfold I64; infer_instance
set_option maxRecDepth 100000 in
set_option maxHeartbeats 32000000 in
theorem RegionOnes_walk (w : World) : Calls Try.prog 3 #[] w fun e w' => e = .returned (.bool true) ∧ Below w.heap.size w w' := by
  obtain ⟨ka, hka⟩ := awake_eq
  have hka := hka ka (Nat.le_refl _)
  have HKA := Lib.hid hka
  clear hka
  go_enter Try.func3, Try.ntmps3
  have ht0 : Below w.heap.size w w := Below.refl _ _
  go_wp2_with fail
  refine (ones_r _ _ _ _ _).mono ?_
  rintro e w1 ⟨rfl, hb1⟩
  have ht1 : Below w.heap.size w w1 := bl_step (by with_reducible repeat (first | exact ht0 | apply bl_alloc)) hb1
  clear hb1 ht0
  go_wp2_with fail
  refine (ones_r _ _ _ _ _).mono ?_
  rintro e w2 ⟨rfl, hb2⟩
  have ht2 : Below w.heap.size w w2 := bl_step (by with_reducible repeat (first | exact ht1 | apply bl_alloc)) hb2
  have G1 : Bk w2 w1.heap.size 23 #[.int .i64 0, .int .i64 0, .int .i64 2, .int .i64 2] := Bk.be (by repeat (first | (with_reducible exact Bk.new _ _ _) | (exact Bk.new' _ _ _ (by simp)) | (with_reducible apply Bk.al))) hb2
  clear hb2 ht1
  go_wp2_with fail
  refine (ones_r _ _ _ _ _).mono ?_
  rintro e w3 ⟨rfl, hb3⟩
  have ht3 : Below w.heap.size w w3 := bl_step (by with_reducible repeat (first | exact ht2 | apply bl_alloc)) hb3
  replace G1 := Bk.be (by with_reducible repeat (first | exact G1 | apply Bk.al)) hb3
  clear hb3 ht2
  go_wp2_with fail
  refine (ones_r _ _ _ _ _).mono ?_
  rintro e w4 ⟨rfl, hb4⟩
  have ht4 : Below w.heap.size w w4 := bl_step (by with_reducible repeat (first | exact ht3 | apply bl_alloc)) hb4
  replace G1 := Bk.be (by with_reducible repeat (first | exact G1 | apply Bk.al)) hb4
  have G2 : Bk w4 w3.heap.size 23 #[.int .i64 0, .int .i64 0, .int .i64 1, .int .i64 2, .int .i64 2, .int .i64 0, .int .i64 1, .int .i64 2] := Bk.be (by repeat (first | (with_reducible exact Bk.new _ _ _) | (exact Bk.new' _ _ _ (by simp)) | (with_reducible apply Bk.al))) hb4
  clear hb4 ht3
  go_wp2_with fail
  refine (ones_r _ _ _ _ _).mono ?_
  rintro e w5 ⟨rfl, hb5⟩
  have ht5 : Below w.heap.size w w5 := bl_step (by with_reducible repeat (first | exact ht4 | apply bl_alloc)) hb5
  replace G1 := Bk.be (by with_reducible repeat (first | exact G1 | apply Bk.al)) hb5
  replace G2 := Bk.be (by with_reducible repeat (first | exact G2 | apply Bk.al)) hb5
  clear hb5 ht4
  go_wp2_with fail
  refine (ones_r _ _ _ _ _).mono ?_
  rintro e w6 ⟨rfl, hb6⟩
  have ht6 : Below w.heap.size w w6 := bl_step (by with_reducible repeat (first | exact ht5 | apply bl_alloc)) hb6
  replace G1 := Bk.be (by with_reducible repeat (first | exact G1 | apply Bk.al)) hb6
  replace G2 := Bk.be (by with_reducible repeat (first | exact G2 | apply Bk.al)) hb6
  have G3 : Bk w6 w5.heap.size 23 #[.int .i64 0, .int .i64 0, .int .i64 2, .int .i64 2, .int .i64 0, .int .i64 2, .int .i64 3, .int .i64 1] := Bk.be (by repeat (first | (with_reducible exact Bk.new _ _ _) | (exact Bk.new' _ _ _ (by simp)) | (with_reducible apply Bk.al))) hb6
  have AG : Bk w6 (w5.heap.size + 1) 26 #[.slice none 0 0, .slice (some ⟨w1.heap.size, 0, none⟩) 1 1, .slice (some ⟨w3.heap.size, 0, none⟩) 2 2, .slice (some ⟨w5.heap.size, 0, none⟩) 2 2] := Bk.be (by repeat (first | (with_reducible exact Bk.new _ _ _) | (exact Bk.new' _ _ _ (by simp)) | (with_reducible apply Bk.al))) hb6
  clear hb6 ht5
  go_wp2_with fail
  refine (ones_r _ _ _ _ _).mono ?_
  rintro e w7 ⟨rfl, hb7⟩
  have ht7 : Below w.heap.size w w7 := bl_step (by with_reducible repeat (first | exact ht6 | apply bl_alloc)) hb7
  replace G1 := Bk.be (by with_reducible repeat (first | exact G1 | apply Bk.al)) hb7
  replace G2 := Bk.be (by with_reducible repeat (first | exact G2 | apply Bk.al)) hb7
  replace G3 := Bk.be (by with_reducible repeat (first | exact G3 | apply Bk.al)) hb7
  replace AG := Bk.be (by with_reducible repeat (first | exact AG | apply Bk.al)) hb7
  have H0 : Bk w7 w6.heap.size 23 #[.int .i64 0, .int .i64 0, .int .i64 0, .int .i64 1] := Bk.be (by repeat (first | (with_reducible exact Bk.new _ _ _) | (exact Bk.new' _ _ _ (by simp)) | (with_reducible apply Bk.al))) hb7
  clear hb7 ht6
  go_wp2_with fail
  refine (ones_r _ _ _ _ _).mono ?_
  rintro e w8 ⟨rfl, hb8⟩
  have ht8 : Below w.heap.size w w8 := bl_step (by with_reducible repeat (first | exact ht7 | apply bl_alloc)) hb8
  replace G1 := Bk.be (by with_reducible repeat (first | exact G1 | apply Bk.al)) hb8
  replace G2 := Bk.be (by with_reducible repeat (first | exact G2 | apply Bk.al)) hb8
  replace G3 := Bk.be (by with_reducible repeat (first | exact G3 | apply Bk.al)) hb8
  replace AG := Bk.be (by with_reducible repeat (first | exact AG | apply Bk.al)) hb8
  replace H0 := Bk.be (by with_reducible repeat (first | exact H0 | apply Bk.al)) hb8
  clear hb8 ht7
  go_wp2_with fail
  refine (ones_r _ _ _ _ _).mono ?_
  rintro e w9 ⟨rfl, hb9⟩
  have ht9 : Below w.heap.size w w9 := bl_step (by with_reducible repeat (first | exact ht8 | apply bl_alloc)) hb9
  replace G1 := Bk.be (by with_reducible repeat (first | exact G1 | apply Bk.al)) hb9
  replace G2 := Bk.be (by with_reducible repeat (first | exact G2 | apply Bk.al)) hb9
  replace G3 := Bk.be (by with_reducible repeat (first | exact G3 | apply Bk.al)) hb9
  replace AG := Bk.be (by with_reducible repeat (first | exact AG | apply Bk.al)) hb9
  replace H0 := Bk.be (by with_reducible repeat (first | exact H0 | apply Bk.al)) hb9
  have H1 : Bk w9 w8.heap.size 23 #[.int .i64 0, .int .i64 0, .int .i64 1, .int .i64 2, .int .i64 1, .int .i64 0, .int .i64 1, .int .i64 2] := Bk.be (by repeat (first | (with_reducible exact Bk.new _ _ _) | (exact Bk.new' _ _ _ (by simp)) | (with_reducible apply Bk.al))) hb9
  clear hb9 ht8
  go_wp2_with fail
  refine (ones_r _ _ _ _ _).mono ?_
  rintro e w10 ⟨rfl, hb10⟩
  have ht10 : Below w.heap.size w w10 := bl_step (by with_reducible repeat (first | exact ht9 | apply bl_alloc)) hb10
  replace G1 := Bk.be (by with_reducible repeat (first | exact G1 | apply Bk.al)) hb10
  replace G2 := Bk.be (by with_reducible repeat (first | exact G2 | apply Bk.al)) hb10
  replace G3 := Bk.be (by with_reducible repeat (first | exact G3 | apply Bk.al)) hb10
  replace AG := Bk.be (by with_reducible repeat (first | exact AG | apply Bk.al)) hb10
  replace H0 := Bk.be (by with_reducible repeat (first | exact H0 | apply Bk.al)) hb10
  replace H1 := Bk.be (by with_reducible repeat (first | exact H1 | apply Bk.al)) hb10
  clear hb10 ht9
  go_wp2_with fail
  refine (ones_r _ _ _ _ _).mono ?_
  rintro e w11 ⟨rfl, hb11⟩
  have ht11 : Below w.heap.size w w11 := bl_step (by with_reducible repeat (first | exact ht10 | apply bl_alloc)) hb11
  replace G1 := Bk.be (by with_reducible repeat (first | exact G1 | apply Bk.al)) hb11
  replace G2 := Bk.be (by with_reducible repeat (first | exact G2 | apply Bk.al)) hb11
  replace G3 := Bk.be (by with_reducible repeat (first | exact G3 | apply Bk.al)) hb11
  replace AG := Bk.be (by with_reducible repeat (first | exact AG | apply Bk.al)) hb11
  replace H0 := Bk.be (by with_reducible repeat (first | exact H0 | apply Bk.al)) hb11
  replace H1 := Bk.be (by with_reducible repeat (first | exact H1 | apply Bk.al)) hb11
  have H2 : Bk w11 w10.heap.size 23 #[.int .i64 0, .int .i64 0, .int .i64 2, .int .i64 2, .int .i64 0, .int .i64 2, .int .i64 2, .int .i64 1] := Bk.be (by repeat (first | (with_reducible exact Bk.new _ _ _) | (exact Bk.new' _ _ _ (by simp)) | (with_reducible apply Bk.al))) hb11
  clear hb11 ht10
  go_wp2_with fail
  refine (ones_r _ _ _ _ _).mono ?_
  rintro e w12 ⟨rfl, hb12⟩
  have ht12 : Below w.heap.size w w12 := bl_step (by with_reducible repeat (first | exact ht11 | apply bl_alloc)) hb12
  replace G1 := Bk.be (by with_reducible repeat (first | exact G1 | apply Bk.al)) hb12
  replace G2 := Bk.be (by with_reducible repeat (first | exact G2 | apply Bk.al)) hb12
  replace G3 := Bk.be (by with_reducible repeat (first | exact G3 | apply Bk.al)) hb12
  replace AG := Bk.be (by with_reducible repeat (first | exact AG | apply Bk.al)) hb12
  replace H0 := Bk.be (by with_reducible repeat (first | exact H0 | apply Bk.al)) hb12
  replace H1 := Bk.be (by with_reducible repeat (first | exact H1 | apply Bk.al)) hb12
  replace H2 := Bk.be (by with_reducible repeat (first | exact H2 | apply Bk.al)) hb12
  clear hb12 ht11
  go_wp2_with fail
  refine (ones_r _ _ _ _ _).mono ?_
  rintro e w13 ⟨rfl, hb13⟩
  have ht13 : Below w.heap.size w w13 := bl_step (by with_reducible repeat (first | exact ht12 | apply bl_alloc)) hb13
  replace G1 := Bk.be (by with_reducible repeat (first | exact G1 | apply Bk.al)) hb13
  replace G2 := Bk.be (by with_reducible repeat (first | exact G2 | apply Bk.al)) hb13
  replace G3 := Bk.be (by with_reducible repeat (first | exact G3 | apply Bk.al)) hb13
  replace AG := Bk.be (by with_reducible repeat (first | exact AG | apply Bk.al)) hb13
  replace H0 := Bk.be (by with_reducible repeat (first | exact H0 | apply Bk.al)) hb13
  replace H1 := Bk.be (by with_reducible repeat (first | exact H1 | apply Bk.al)) hb13
  replace H2 := Bk.be (by with_reducible repeat (first | exact H2 | apply Bk.al)) hb13
  have H3 : Bk w13 w12.heap.size 23 #[.int .i64 0, .int .i64 0, .int .i64 1, .int .i64 2, .int .i64 2, .int .i64 0, .int .i64 1, .int .i64 3] := Bk.be (by repeat (first | (with_reducible exact Bk.new _ _ _) | (exact Bk.new' _ _ _ (by simp)) | (with_reducible apply Bk.al))) hb13
  clear hb13 ht12
  go_wp2_with fail
  refine (ones_r _ _ _ _ _).mono ?_
  rintro e w14 ⟨rfl, hb14⟩
  have ht14 : Below w.heap.size w w14 := bl_step (by with_reducible repeat (first | exact ht13 | apply bl_alloc)) hb14
  replace G1 := Bk.be (by with_reducible repeat (first | exact G1 | apply Bk.al)) hb14
  replace G2 := Bk.be (by with_reducible repeat (first | exact G2 | apply Bk.al)) hb14
  replace G3 := Bk.be (by with_reducible repeat (first | exact G3 | apply Bk.al)) hb14
  replace AG := Bk.be (by with_reducible repeat (first | exact AG | apply Bk.al)) hb14
  replace H0 := Bk.be (by with_reducible repeat (first | exact H0 | apply Bk.al)) hb14
  replace H1 := Bk.be (by with_reducible repeat (first | exact H1 | apply Bk.al)) hb14
  replace H2 := Bk.be (by with_reducible repeat (first | exact H2 | apply Bk.al)) hb14
  replace H3 := Bk.be (by with_reducible repeat (first | exact H3 | apply Bk.al)) hb14
  clear hb14 ht13
  go_wp2_with fail
  refine (ones_r _ _ _ _ _).mono ?_
  rintro e w15 ⟨rfl, hb15⟩
  have ht15 : Below w.heap.size w w15 := bl_step (by with_reducible repeat (first | exact ht14 | apply bl_alloc)) hb15
  replace G1 := Bk.be (by with_reducible repeat (first | exact G1 | apply Bk.al)) hb15
  replace G2 := Bk.be (by with_reducible repeat (first | exact G2 | apply Bk.al)) hb15
  replace G3 := Bk.be (by with_reducible repeat (first | exact G3 | apply Bk.al)) hb15
  replace AG := Bk.be (by with_reducible repeat (first | exact AG | apply Bk.al)) hb15
  replace H0 := Bk.be (by with_reducible repeat (first | exact H0 | apply Bk.al)) hb15
  replace H1 := Bk.be (by with_reducible repeat (first | exact H1 | apply Bk.al)) hb15
  replace H2 := Bk.be (by with_reducible repeat (first | exact H2 | apply Bk.al)) hb15
  replace H3 := Bk.be (by with_reducible repeat (first | exact H3 | apply Bk.al)) hb15
  have H4 : Bk w15 w14.heap.size 23 #[.int .i64 0, .int .i64 2, .int .i64 1, .int .i64 1, .int .i64 0, .int .i64 0, .int .i64 2, .int .i64 1] := Bk.be (by repeat (first | (with_reducible exact Bk.new _ _ _) | (exact Bk.new' _ _ _ (by simp)) | (with_reducible apply Bk.al))) hb15
  clear hb15 ht14
  go_wp2_with fail
  refine (ones_r _ _ _ _ _).mono ?_
  rintro e w16 ⟨rfl, hb16⟩
  have ht16 : Below w.heap.size w w16 := bl_step (by with_reducible repeat (first | exact ht15 | apply bl_alloc)) hb16
  replace G1 := Bk.be (by with_reducible repeat (first | exact G1 | apply Bk.al)) hb16
  replace G2 := Bk.be (by with_reducible repeat (first | exact G2 | apply Bk.al)) hb16
  replace G3 := Bk.be (by with_reducible repeat (first | exact G3 | apply Bk.al)) hb16
  replace AG := Bk.be (by with_reducible repeat (first | exact AG | apply Bk.al)) hb16
  replace H0 := Bk.be (by with_reducible repeat (first | exact H0 | apply Bk.al)) hb16
  replace H1 := Bk.be (by with_reducible repeat (first | exact H1 | apply Bk.al)) hb16
  replace H2 := Bk.be (by with_reducible repeat (first | exact H2 | apply Bk.al)) hb16
  replace H3 := Bk.be (by with_reducible repeat (first | exact H3 | apply Bk.al)) hb16
  replace H4 := Bk.be (by with_reducible repeat (first | exact H4 | apply Bk.al)) hb16
  clear hb16 ht15
  go_wp2_with fail
  refine wp_loop_rounds 5 ?_
  rw [rounds_succ]
  have aG := ((AG.al (.cells #[.int .i64 0, .int .i64 0, .int .i64 2, .int .i64 2, .int .i64 1, .int .i64 1, .int .i64 3, .int .i64 3] 23)).al (.cells #[.slice (some ⟨w6.heap.size, 0, none⟩) 1 1, .slice (some ⟨w8.heap.size, 0, none⟩) 2 2, .slice (some ⟨w10.heap.size, 0, none⟩) 2 2, .slice (some ⟨w12.heap.size, 0, none⟩) 2 2, .slice (some ⟨w14.heap.size, 0, none⟩) 2 2, .slice (some ⟨w16.heap.size, 0, none⟩) 2 2] 27)).cell 0
  have aL := AG.lt
  go_wp2_with fail
  refine (RCheck_any none 0 [] _ (by decide) (by decide) (Rds.none_)).mono ?_
  rintro e w17 ⟨rfl, hb17⟩
  rw [show (bandsF ([] : List R)).isSome = true from by decide]
  have ht17 : Below w.heap.size w w17 := bl_step (by with_reducible repeat (first | exact ht16 | apply bl_alloc)) hb17
  replace G1 := Bk.be (by with_reducible repeat (first | exact G1 | apply Bk.al)) hb17
  replace G2 := Bk.be (by with_reducible repeat (first | exact G2 | apply Bk.al)) hb17
  replace G3 := Bk.be (by with_reducible repeat (first | exact G3 | apply Bk.al)) hb17
  replace AG := Bk.be (by with_reducible repeat (first | exact AG | apply Bk.al)) hb17
  replace H0 := Bk.be (by with_reducible repeat (first | exact H0 | apply Bk.al)) hb17
  replace H1 := Bk.be (by with_reducible repeat (first | exact H1 | apply Bk.al)) hb17
  replace H2 := Bk.be (by with_reducible repeat (first | exact H2 | apply Bk.al)) hb17
  replace H3 := Bk.be (by with_reducible repeat (first | exact H3 | apply Bk.al)) hb17
  replace H4 := Bk.be (by with_reducible repeat (first | exact H4 | apply Bk.al)) hb17
  have H5 : Bk w17 w16.heap.size 23 #[.int .i64 0, .int .i64 0, .int .i64 2, .int .i64 2, .int .i64 1, .int .i64 1, .int .i64 3, .int .i64 3] := Bk.be (by repeat (first | (with_reducible exact Bk.new _ _ _) | (exact Bk.new' _ _ _ (by simp)) | (with_reducible apply Bk.al))) hb17
  have AH : Bk w17 (w16.heap.size + 1) 27 #[.slice (some ⟨w6.heap.size, 0, none⟩) 1 1, .slice (some ⟨w8.heap.size, 0, none⟩) 2 2, .slice (some ⟨w10.heap.size, 0, none⟩) 2 2, .slice (some ⟨w12.heap.size, 0, none⟩) 2 2, .slice (some ⟨w14.heap.size, 0, none⟩) 2 2, .slice (some ⟨w16.heap.size, 0, none⟩) 2 2] := Bk.be (by repeat (first | (with_reducible exact Bk.new _ _ _) | (exact Bk.new' _ _ _ (by simp)) | (with_reducible apply Bk.al))) hb17
  clear hb17 ht16 aG aL
  go_wp2_with fail
  rw [rounds_succ]
  have aG1 := AG.cell 1
  go_wp2_with fail
  refine (RCheck_any (some ⟨w1.heap.size, 0, none⟩) 1 [⟨0, 0, 2, 2⟩] _ (by decide) (by decide) (Rds.block (cs := #[.int .i64 0, .int .i64 0, .int .i64 2, .int .i64 2]) (by with_reducible repeat (first | exact G1 | apply Bk.al)) rfl (by have := G1.lt; omega))).mono ?_
  rintro e w18 ⟨rfl, hb18⟩
  rw [show (bandsF ([⟨0, 0, 2, 2⟩] : List R)).isSome = true from by decide]
  have ht18 : Below w.heap.size w w18 := bl_step (by with_reducible repeat (first | exact ht17 | apply bl_alloc)) hb18
  replace G1 := Bk.be (by with_reducible repeat (first | exact G1 | apply Bk.al)) hb18
  replace G2 := Bk.be (by with_reducible repeat (first | exact G2 | apply Bk.al)) hb18
  replace G3 := Bk.be (by with_reducible repeat (first | exact G3 | apply Bk.al)) hb18
  replace AG := Bk.be (by with_reducible repeat (first | exact AG | apply Bk.al)) hb18
  replace H0 := Bk.be (by with_reducible repeat (first | exact H0 | apply Bk.al)) hb18
  replace H1 := Bk.be (by with_reducible repeat (first | exact H1 | apply Bk.al)) hb18
  replace H2 := Bk.be (by with_reducible repeat (first | exact H2 | apply Bk.al)) hb18
  replace H3 := Bk.be (by with_reducible repeat (first | exact H3 | apply Bk.al)) hb18
  replace H4 := Bk.be (by with_reducible repeat (first | exact H4 | apply Bk.al)) hb18
  replace H5 := Bk.be (by with_reducible repeat (first | exact H5 | apply Bk.al)) hb18
  replace AH := Bk.be (by with_reducible repeat (first | exact AH | apply Bk.al)) hb18
  clear hb18 ht17 aG1
  go_wp2_with fail
  rw [rounds_succ]
  have aG2 := AG.cell 2
  go_wp2_with fail
  refine (RCheck_any (some ⟨w3.heap.size, 0, none⟩) 2 [⟨0, 0, 1, 2⟩, ⟨2, 0, 1, 2⟩] _ (by decide) (by decide) (Rds.block (cs := #[.int .i64 0, .int .i64 0, .int .i64 1, .int .i64 2, .int .i64 2, .int .i64 0, .int .i64 1, .int .i64 2]) (by with_reducible repeat (first | exact G2 | apply Bk.al)) rfl (by have := G2.lt; omega))).mono ?_
  rintro e w19 ⟨rfl, hb19⟩
  rw [show (bandsF ([⟨0, 0, 1, 2⟩, ⟨2, 0, 1, 2⟩] : List R)).isSome = true from by decide]
  have ht19 : Below w.heap.size w w19 := bl_step (by with_reducible repeat (first | exact ht18 | apply bl_alloc)) hb19
  replace G1 := Bk.be (by with_reducible repeat (first | exact G1 | apply Bk.al)) hb19
  replace G2 := Bk.be (by with_reducible repeat (first | exact G2 | apply Bk.al)) hb19
  replace G3 := Bk.be (by with_reducible repeat (first | exact G3 | apply Bk.al)) hb19
  replace AG := Bk.be (by with_reducible repeat (first | exact AG | apply Bk.al)) hb19
  replace H0 := Bk.be (by with_reducible repeat (first | exact H0 | apply Bk.al)) hb19
  replace H1 := Bk.be (by with_reducible repeat (first | exact H1 | apply Bk.al)) hb19
  replace H2 := Bk.be (by with_reducible repeat (first | exact H2 | apply Bk.al)) hb19
  replace H3 := Bk.be (by with_reducible repeat (first | exact H3 | apply Bk.al)) hb19
  replace H4 := Bk.be (by with_reducible repeat (first | exact H4 | apply Bk.al)) hb19
  replace H5 := Bk.be (by with_reducible repeat (first | exact H5 | apply Bk.al)) hb19
  replace AH := Bk.be (by with_reducible repeat (first | exact AH | apply Bk.al)) hb19
  clear hb19 ht18 aG2
  go_wp2_with fail
  rw [rounds_succ]
  have aG3 := AG.cell 3
  go_wp2_with fail
  refine (RCheck_any (some ⟨w5.heap.size, 0, none⟩) 2 [⟨0, 0, 2, 2⟩, ⟨0, 2, 3, 1⟩] _ (by decide) (by decide) (Rds.block (cs := #[.int .i64 0, .int .i64 0, .int .i64 2, .int .i64 2, .int .i64 0, .int .i64 2, .int .i64 3, .int .i64 1]) (by with_reducible repeat (first | exact G3 | apply Bk.al)) rfl (by have := G3.lt; omega))).mono ?_
  rintro e w20 ⟨rfl, hb20⟩
  rw [show (bandsF ([⟨0, 0, 2, 2⟩, ⟨0, 2, 3, 1⟩] : List R)).isSome = true from by decide]
  have ht20 : Below w.heap.size w w20 := bl_step (by with_reducible repeat (first | exact ht19 | apply bl_alloc)) hb20
  replace G1 := Bk.be (by with_reducible repeat (first | exact G1 | apply Bk.al)) hb20
  replace G2 := Bk.be (by with_reducible repeat (first | exact G2 | apply Bk.al)) hb20
  replace G3 := Bk.be (by with_reducible repeat (first | exact G3 | apply Bk.al)) hb20
  replace AG := Bk.be (by with_reducible repeat (first | exact AG | apply Bk.al)) hb20
  replace H0 := Bk.be (by with_reducible repeat (first | exact H0 | apply Bk.al)) hb20
  replace H1 := Bk.be (by with_reducible repeat (first | exact H1 | apply Bk.al)) hb20
  replace H2 := Bk.be (by with_reducible repeat (first | exact H2 | apply Bk.al)) hb20
  replace H3 := Bk.be (by with_reducible repeat (first | exact H3 | apply Bk.al)) hb20
  replace H4 := Bk.be (by with_reducible repeat (first | exact H4 | apply Bk.al)) hb20
  replace H5 := Bk.be (by with_reducible repeat (first | exact H5 | apply Bk.al)) hb20
  replace AH := Bk.be (by with_reducible repeat (first | exact AH | apply Bk.al)) hb20
  clear hb20 ht19 aG3
  go_wp2_with fail
  rw [rounds_succ]
  go_wp2_with fail
  refine wp_loop_rounds 7 ?_
  rw [rounds_succ]
  have aH0 := AH.cell 0
  go_wp2_with fail
  refine (RCheck_any (some ⟨w6.heap.size, 0, none⟩) 1 [⟨0, 0, 0, 1⟩] _ (by decide) (by decide) (Rds.block (cs := #[.int .i64 0, .int .i64 0, .int .i64 0, .int .i64 1]) (by with_reducible repeat (first | exact H0 | apply Bk.al)) rfl (by have := H0.lt; omega))).mono ?_
  rintro e w21 ⟨rfl, hb21⟩
  rw [show (bandsF ([⟨0, 0, 0, 1⟩] : List R)).isSome = false from by decide]
  have ht21 : Below w.heap.size w w21 := bl_step (by with_reducible repeat (first | exact ht20 | apply bl_alloc)) hb21
  replace G1 := Bk.be (by with_reducible repeat (first | exact G1 | apply Bk.al)) hb21
  replace G2 := Bk.be (by with_reducible repeat (first | exact G2 | apply Bk.al)) hb21
  replace G3 := Bk.be (by with_reducible repeat (first | exact G3 | apply Bk.al)) hb21
  replace AG := Bk.be (by with_reducible repeat (first | exact AG | apply Bk.al)) hb21
  replace H0 := Bk.be (by with_reducible repeat (first | exact H0 | apply Bk.al)) hb21
  replace H1 := Bk.be (by with_reducible repeat (first | exact H1 | apply Bk.al)) hb21
  replace H2 := Bk.be (by with_reducible repeat (first | exact H2 | apply Bk.al)) hb21
  replace H3 := Bk.be (by with_reducible repeat (first | exact H3 | apply Bk.al)) hb21
  replace H4 := Bk.be (by with_reducible repeat (first | exact H4 | apply Bk.al)) hb21
  replace H5 := Bk.be (by with_reducible repeat (first | exact H5 | apply Bk.al)) hb21
  replace AH := Bk.be (by with_reducible repeat (first | exact AH | apply Bk.al)) hb21
  clear hb21 ht20 aH0
  go_wp2_with fail
  rw [rounds_succ]
  have aH1 := AH.cell 1
  go_wp2_with fail
  refine (RCheck_any (some ⟨w8.heap.size, 0, none⟩) 2 [⟨0, 0, 1, 2⟩, ⟨1, 0, 1, 2⟩] _ (by decide) (by decide) (Rds.block (cs := #[.int .i64 0, .int .i64 0, .int .i64 1, .int .i64 2, .int .i64 1, .int .i64 0, .int .i64 1, .int .i64 2]) (by with_reducible repeat (first | exact H1 | apply Bk.al)) rfl (by have := H1.lt; omega))).mono ?_
  rintro e w22 ⟨rfl, hb22⟩
  rw [show (bandsF ([⟨0, 0, 1, 2⟩, ⟨1, 0, 1, 2⟩] : List R)).isSome = false from by decide]
  have ht22 : Below w.heap.size w w22 := bl_step (by with_reducible repeat (first | exact ht21 | apply bl_alloc)) hb22
  replace G1 := Bk.be (by with_reducible repeat (first | exact G1 | apply Bk.al)) hb22
  replace G2 := Bk.be (by with_reducible repeat (first | exact G2 | apply Bk.al)) hb22
  replace G3 := Bk.be (by with_reducible repeat (first | exact G3 | apply Bk.al)) hb22
  replace AG := Bk.be (by with_reducible repeat (first | exact AG | apply Bk.al)) hb22
  replace H0 := Bk.be (by with_reducible repeat (first | exact H0 | apply Bk.al)) hb22
  replace H1 := Bk.be (by with_reducible repeat (first | exact H1 | apply Bk.al)) hb22
  replace H2 := Bk.be (by with_reducible repeat (first | exact H2 | apply Bk.al)) hb22
  replace H3 := Bk.be (by with_reducible repeat (first | exact H3 | apply Bk.al)) hb22
  replace H4 := Bk.be (by with_reducible repeat (first | exact H4 | apply Bk.al)) hb22
  replace H5 := Bk.be (by with_reducible repeat (first | exact H5 | apply Bk.al)) hb22
  replace AH := Bk.be (by with_reducible repeat (first | exact AH | apply Bk.al)) hb22
  clear hb22 ht21 aH1
  go_wp2_with fail
  rw [rounds_succ]
  have aH2 := AH.cell 2
  go_wp2_with fail
  refine (RCheck_any (some ⟨w10.heap.size, 0, none⟩) 2 [⟨0, 0, 2, 2⟩, ⟨0, 2, 2, 1⟩] _ (by decide) (by decide) (Rds.block (cs := #[.int .i64 0, .int .i64 0, .int .i64 2, .int .i64 2, .int .i64 0, .int .i64 2, .int .i64 2, .int .i64 1]) (by with_reducible repeat (first | exact H2 | apply Bk.al)) rfl (by have := H2.lt; omega))).mono ?_
  rintro e w23 ⟨rfl, hb23⟩
  rw [show (bandsF ([⟨0, 0, 2, 2⟩, ⟨0, 2, 2, 1⟩] : List R)).isSome = false from by decide]
  have ht23 : Below w.heap.size w w23 := bl_step (by with_reducible repeat (first | exact ht22 | apply bl_alloc)) hb23
  replace G1 := Bk.be (by with_reducible repeat (first | exact G1 | apply Bk.al)) hb23
  replace G2 := Bk.be (by with_reducible repeat (first | exact G2 | apply Bk.al)) hb23
  replace G3 := Bk.be (by with_reducible repeat (first | exact G3 | apply Bk.al)) hb23
  replace AG := Bk.be (by with_reducible repeat (first | exact AG | apply Bk.al)) hb23
  replace H0 := Bk.be (by with_reducible repeat (first | exact H0 | apply Bk.al)) hb23
  replace H1 := Bk.be (by with_reducible repeat (first | exact H1 | apply Bk.al)) hb23
  replace H2 := Bk.be (by with_reducible repeat (first | exact H2 | apply Bk.al)) hb23
  replace H3 := Bk.be (by with_reducible repeat (first | exact H3 | apply Bk.al)) hb23
  replace H4 := Bk.be (by with_reducible repeat (first | exact H4 | apply Bk.al)) hb23
  replace H5 := Bk.be (by with_reducible repeat (first | exact H5 | apply Bk.al)) hb23
  replace AH := Bk.be (by with_reducible repeat (first | exact AH | apply Bk.al)) hb23
  clear hb23 ht22 aH2
  go_wp2_with fail
  rw [rounds_succ]
  have aH3 := AH.cell 3
  go_wp2_with fail
  refine (RCheck_any (some ⟨w12.heap.size, 0, none⟩) 2 [⟨0, 0, 1, 2⟩, ⟨2, 0, 1, 3⟩] _ (by decide) (by decide) (Rds.block (cs := #[.int .i64 0, .int .i64 0, .int .i64 1, .int .i64 2, .int .i64 2, .int .i64 0, .int .i64 1, .int .i64 3]) (by with_reducible repeat (first | exact H3 | apply Bk.al)) rfl (by have := H3.lt; omega))).mono ?_
  rintro e w24 ⟨rfl, hb24⟩
  rw [show (bandsF ([⟨0, 0, 1, 2⟩, ⟨2, 0, 1, 3⟩] : List R)).isSome = false from by decide]
  have ht24 : Below w.heap.size w w24 := bl_step (by with_reducible repeat (first | exact ht23 | apply bl_alloc)) hb24
  replace G1 := Bk.be (by with_reducible repeat (first | exact G1 | apply Bk.al)) hb24
  replace G2 := Bk.be (by with_reducible repeat (first | exact G2 | apply Bk.al)) hb24
  replace G3 := Bk.be (by with_reducible repeat (first | exact G3 | apply Bk.al)) hb24
  replace AG := Bk.be (by with_reducible repeat (first | exact AG | apply Bk.al)) hb24
  replace H0 := Bk.be (by with_reducible repeat (first | exact H0 | apply Bk.al)) hb24
  replace H1 := Bk.be (by with_reducible repeat (first | exact H1 | apply Bk.al)) hb24
  replace H2 := Bk.be (by with_reducible repeat (first | exact H2 | apply Bk.al)) hb24
  replace H3 := Bk.be (by with_reducible repeat (first | exact H3 | apply Bk.al)) hb24
  replace H4 := Bk.be (by with_reducible repeat (first | exact H4 | apply Bk.al)) hb24
  replace H5 := Bk.be (by with_reducible repeat (first | exact H5 | apply Bk.al)) hb24
  replace AH := Bk.be (by with_reducible repeat (first | exact AH | apply Bk.al)) hb24
  clear hb24 ht23 aH3
  go_wp2_with fail
  rw [rounds_succ]
  have aH4 := AH.cell 4
  go_wp2_with fail
  refine (RCheck_any (some ⟨w14.heap.size, 0, none⟩) 2 [⟨0, 2, 1, 1⟩, ⟨0, 0, 2, 1⟩] _ (by decide) (by decide) (Rds.block (cs := #[.int .i64 0, .int .i64 2, .int .i64 1, .int .i64 1, .int .i64 0, .int .i64 0, .int .i64 2, .int .i64 1]) (by with_reducible repeat (first | exact H4 | apply Bk.al)) rfl (by have := H4.lt; omega))).mono ?_
  rintro e w25 ⟨rfl, hb25⟩
  rw [show (bandsF ([⟨0, 2, 1, 1⟩, ⟨0, 0, 2, 1⟩] : List R)).isSome = false from by decide]
  have ht25 : Below w.heap.size w w25 := bl_step (by with_reducible repeat (first | exact ht24 | apply bl_alloc)) hb25
  replace G1 := Bk.be (by with_reducible repeat (first | exact G1 | apply Bk.al)) hb25
  replace G2 := Bk.be (by with_reducible repeat (first | exact G2 | apply Bk.al)) hb25
  replace G3 := Bk.be (by with_reducible repeat (first | exact G3 | apply Bk.al)) hb25
  replace AG := Bk.be (by with_reducible repeat (first | exact AG | apply Bk.al)) hb25
  replace H0 := Bk.be (by with_reducible repeat (first | exact H0 | apply Bk.al)) hb25
  replace H1 := Bk.be (by with_reducible repeat (first | exact H1 | apply Bk.al)) hb25
  replace H2 := Bk.be (by with_reducible repeat (first | exact H2 | apply Bk.al)) hb25
  replace H3 := Bk.be (by with_reducible repeat (first | exact H3 | apply Bk.al)) hb25
  replace H4 := Bk.be (by with_reducible repeat (first | exact H4 | apply Bk.al)) hb25
  replace H5 := Bk.be (by with_reducible repeat (first | exact H5 | apply Bk.al)) hb25
  replace AH := Bk.be (by with_reducible repeat (first | exact AH | apply Bk.al)) hb25
  clear hb25 ht24 aH4
  go_wp2_with fail
  rw [rounds_succ]
  have aH5 := AH.cell 5
  go_wp2_with fail
  refine (RCheck_any (some ⟨w16.heap.size, 0, none⟩) 2 [⟨0, 0, 2, 2⟩, ⟨1, 1, 3, 3⟩] _ (by decide) (by decide) (Rds.block (cs := #[.int .i64 0, .int .i64 0, .int .i64 2, .int .i64 2, .int .i64 1, .int .i64 1, .int .i64 3, .int .i64 3]) (by with_reducible repeat (first | exact H5 | apply Bk.al)) rfl (by have := H5.lt; omega))).mono ?_
  rintro e w26 ⟨rfl, hb26⟩
  rw [show (bandsF ([⟨0, 0, 2, 2⟩, ⟨1, 1, 3, 3⟩] : List R)).isSome = false from by decide]
  have ht26 : Below w.heap.size w w26 := bl_step (by with_reducible repeat (first | exact ht25 | apply bl_alloc)) hb26
  replace G1 := Bk.be (by with_reducible repeat (first | exact G1 | apply Bk.al)) hb26
  replace G2 := Bk.be (by with_reducible repeat (first | exact G2 | apply Bk.al)) hb26
  replace G3 := Bk.be (by with_reducible repeat (first | exact G3 | apply Bk.al)) hb26
  replace AG := Bk.be (by with_reducible repeat (first | exact AG | apply Bk.al)) hb26
  replace H0 := Bk.be (by with_reducible repeat (first | exact H0 | apply Bk.al)) hb26
  replace H1 := Bk.be (by with_reducible repeat (first | exact H1 | apply Bk.al)) hb26
  replace H2 := Bk.be (by with_reducible repeat (first | exact H2 | apply Bk.al)) hb26
  replace H3 := Bk.be (by with_reducible repeat (first | exact H3 | apply Bk.al)) hb26
  replace H4 := Bk.be (by with_reducible repeat (first | exact H4 | apply Bk.al)) hb26
  replace H5 := Bk.be (by with_reducible repeat (first | exact H5 | apply Bk.al)) hb26
  replace AH := Bk.be (by with_reducible repeat (first | exact AH | apply Bk.al)) hb26
  clear hb26 ht25 aH5
  go_wp2_with fail
  rw [rounds_succ]
  go_wp2_with fail
  refine (tableaulaw08_awake.calls ka true _ HKA.out).mono ?_
  rintro e w27 ⟨rfl, hb27⟩
  go_wp2_with fail
  go_ret
  exact ⟨rfl, bl_step ht26 hb27⟩
end Go.Proofs.Ytogcokfildbodaa.P1
