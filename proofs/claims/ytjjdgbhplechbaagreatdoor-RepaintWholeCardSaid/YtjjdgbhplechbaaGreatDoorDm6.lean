/- tableaulaw24.awake. -/
import Derived.Test.YtjjdgbhplechbaaGreatDoorDmB
set_option linter.unusedVariables false
set_option linter.unusedSimpArgs false
namespace Go.Proofs.YtjjdgbhplechbaaGreatDoor.Cv
open Go.RowKit Go.Proofs.YtjjdgbhplechbaaGreatDoor.Kit Go.Proofs.YtjjdgbhplechbaaGreatDoor.Reg Go.Proofs.YtjjdgbhplechbaaGreatDoor.Rect
attribute [local go_sem high] rEq
theorem one_vw {w : World} {g : Nat} {v : Vw} (h : Bk w g 62 #[.int .i64 v.s, .int .i64 v.b, .int .i64 v.x, .int .i64 v.y, .int .i64 v.w, .int .i64 v.h]) : Rds w w.heap.size 6 (some ⟨g, 0, none⟩) [v].length ([v].flatMap vwC) := by
  have := Rds.block (n := 1) (sz := 6) h rfl h.lt
  simpa [vwC] using this
def awV : Vw := ⟨1, 0, 0, 0, 2, 2⟩
theorem chg_aw1 : chgV [] [awV] [] = [⟨0, 0, 2, 2⟩] := by decide +kernel
theorem chg_aw2 : chgV [awV] [awV] [] = [] := by decide +kernel
theorem near_aw : ∀ v ∈ [awV], NearV v := by
  intro v hv
  obtain rfl := List.mem_singleton.1 hv
  exact ⟨⟨by decide, by decide⟩, ⟨by decide, by decide⟩, ⟨by decide, by decide⟩, ⟨by decide, by decide⟩⟩
theorem aw_eq : eqR ⟨0, 0, 2, 2⟩ ⟨0, 0, 2, 2⟩ = true := by decide
set_option maxRecDepth 100000 in
set_option maxHeartbeats 8000000 in
theorem awake24_any (w : World) : Calls Tryz.prog 8 #[] w fun e w' => e = .returned (.bool true) ∧ Below w.heap.size w w' := by
  go_enter Tryz.func8, Tryz.ntmps8
  go_wp2_with fail
  generalize hwv : World.alloc _ _ = w1
  have B1 : Bk w1 w.heap.size 62 #[.int .i64 awV.s, .int .i64 awV.b, .int .i64 awV.x, .int .i64 awV.y, .int .i64 awV.w, .int .i64 awV.h] := hwv ▸ Bk.new _ _ _
  have hb1 : Below w.heap.size w w1 := hwv ▸ bl_alloc (Below.refl _ _) _
  obtain ⟨ga, hga⟩ : ∃ ga, w.heap.size = ga := ⟨_, rfl⟩
  rw [hga] at B1 ⊢
  clear hwv
  have H1 := changed_any none 0 [] (some ⟨ga, 0, none⟩) 1 [awV] none 0 [] w1 (by simp) near_aw Rds.none_ (one_vw B1) Rds.none_ (by simp) (by simp) (by simp) (by simp)
  rw [chg_aw1] at H1
  refine H1.mono ?_
  rintro e w2 ⟨A2, c2, rfl, hc2, hO2, hb2⟩
  have B2 := B1.be hb2
  have hb12 := bl_step hb1 hb2
  have H2 := changed_any (some ⟨ga, 0, none⟩) 1 [awV] (some ⟨ga, 0, none⟩) 1 [awV] none 0 [] w2 near_aw near_aw (one_vw B2) (one_vw B2) Rds.none_ (by simp) (by simp) (by simp) (by simp)
  rw [chg_aw2] at H2
  have H2 := Lib.hid H2
  clear H1
  go_wp2_with fail
  refine H2.out.mono ?_
  rintro e w3 ⟨A3, c3, rfl, hc3, hO3, hb3⟩
  have hb13 := bl_step hb12 hb3
  obtain ⟨ad, rfl, hbl, c0, c1, c2', c3'⟩ := Rds.rc (hO2.be hb3).1 (show 0 < 1 by omega)
  rw [Nat.zero_mul] at c0 c1 c2' c3'
  have ha0 : ad.add 0 = ad := by cases ad; simp [Addr.add]
  rw [ha0] at c0 c1 c2' c3'
  simp only [List.getElem_cons_zero] at c0 c1 c2' c3'
  have he := aw_eq
  clear hO2 hO3 H2 B1 B2
  go_wp2_with fail
  go_ret
  rw [← hga]
  exact ⟨rfl, hb13⟩
end Go.Proofs.YtjjdgbhplechbaaGreatDoor.Cv
