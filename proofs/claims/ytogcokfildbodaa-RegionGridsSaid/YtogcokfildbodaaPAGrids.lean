/- RegionGrids: what the printed law answers, is true. -/
import Derived.Test.YtogcokfildbodaaPARef4
import Derived.Test.YtogcokfildbodaaPAx7
import Derived.Test.YtogcokfildbodaaGrid
set_option linter.unusedSimpArgs false
namespace Go.Proofs.Ytogcokfildbodaa.PA
open Go.RowKit Go.Proofs.YtogcokfildbodaaW.PrintWords Go.Proofs.Ytogcokfildbodaa.Reg Go.Proofs.Ytogcokfildbodaa.Rect Go.Proofs.Ytogcokfildbodaa.Wk
set_option linter.unusedVariables false

theorem sq_f {i : Nat} (hi : i < 36) : ([(⟨wrap64 (3 * (Int.tmod (i : Int) 6)), wrap64 (2 * (wrap64 (Int.tdiv (i : Int) 6))), 3, 2⟩ : S23)] : List S23) = [sqF i].map ofR := by
  have h1 : Int.tmod (i : Int) 6 = ((i % 6 : Nat) : Int) := rfl
  have h2 : Int.tdiv (i : Int) 6 = ((i / 6 : Nat) : Int) := rfl
  have h3 : i % 6 < 6 := Nat.mod_lt _ (by omega)
  have h4 : i / 6 < 6 := by omega
  rw [h1, h2, w64 (n := ((i / 6 : Nat) : Int)) (by omega) (by omega), w64 (by omega) (by omega), w64 (by omega) (by omega)]
  rfl
theorem mid_f {i : Nat} (hi : i < 36) : wrap64 ((wrap64 (3 * (Int.tmod (i : Int) 6))) + 1) = 3 * ((i % 6 : Nat) : Int) + 1 ∧ wrap64 ((wrap64 (2 * (wrap64 (Int.tdiv (i : Int) 6)))) + 1) = 2 * ((i / 6 : Nat) : Int) + 1 := by
  have h1 : Int.tmod (i : Int) 6 = ((i % 6 : Nat) : Int) := rfl
  have h2 : Int.tdiv (i : Int) 6 = ((i / 6 : Nat) : Int) := rfl
  have h3 : i % 6 < 6 := Nat.mod_lt _ (by omega)
  have h4 : i / 6 < 6 := by omega
  rw [h1, h2, w64 (n := ((i / 6 : Nat) : Int)) (by omega) (by omega), w64 (n := 3 * _) (by omega) (by omega), w64 (n := 2 * _) (by omega) (by omega)]
  exact ⟨w64 (by omega) (by omega), w64 (by omega) (by omega)⟩
theorem rdb (l : List Bool) (i : Nat) : rdOf false l (i : Int) = l.getD i false := by unfold rdOf; rw [Int.toNat_natCast]
theorem g_l3 {l : List Bool} {m : Nat} (hm : m ≤ 36) (hml : m ≤ l.length) (hme : m = l.length ∨ m = 36) : ∀ (n i : Nat) (M : List R), i + n = m → Grd l i m M → Ev (fun k => tableaulaw08_RegionGrids.l3 k l (M.map ofR) (i : Int)) true
  | 0, i, M, h, hM => by
    obtain rfl : i = m := by omega
    obtain rfl := hM.same (Grd.none_ l i)
    have e : Ev (fun k => (tableaulaw08_awake.f k).bind fun t => some t) true := Ev.bind awake_eq (Ev.ret true)
    refine Ev.next (fun k => ?_) e
    rw [tableaulaw08_RegionGrids.l3]
    by_cases hi : (i : Int) < (l.length : Int)
    · rw [if_pos hi, if_neg (by omega)]; exact if_pos rfl
    · rw [if_neg hi]; exact if_pos rfl
  | n + 1, i, M, h, hM => by
    have hl := hM.len
    refine Ev.next (G := fun k => (region_Subtract.f (M.map ofR) ([sqF i].map ofR)).bind fun t => tableaulaw08_RegionGrids.l3 k l t ((i + 1 : Nat) : Int)) (fun k => ?_) (Ev.bind0 (Subtract_f hM.rg (rg_sq (by omega)) (by omega) (by simp)) (g_l3 hm hml hme n (i + 1) _ (by omega) (hM.sub (by omega))))
    rw [tableaulaw08_RegionGrids.l3, if_pos (by omega), if_pos (by omega), sq_f (by omega), w64 (by omega) (by omega)]
    rfl
theorem g_l2 {l : List Bool} {m c : Nat} {M N : List R} (hm : m ≤ 36) (hml : m ≤ l.length) (hme : m = l.length ∨ m = 36) (hM : Grd l 0 m M) (hN : Grd l 0 m N) (ha : Reg.area M = 6 * (c : Int)) (hc : c ≤ 36) : ∀ (n i : Nat), i + n = 36 → Ev (fun k => tableaulaw08_RegionGrids.l2 k l (M.map ofR) (N.map ofR) (c : Int) (i : Int)) true
  | 0, i, h => by
    obtain rfl : i = 36 := by omega
    obtain rfl := hM.same hN
    have hl := hM.len
    refine Ev.next (fun k => by rw [tableaulaw08_RegionGrids.l2, if_neg (by omega)]) ?_
    refine Ev.bind (SameRects_of rfl (by omega)) ?_
    refine Ev.pos rfl ?_
    refine Ev.bind (Area_eq hM.rg (by omega)) ?_
    refine Ev.pos (by rw [ha, w64 (by omega) (by omega)]) ?_
    refine Ev.bind0 (Check_f hM.rg (by omega)) ?_
    refine Ev.next (G := fun k => tableaulaw08_RegionGrids.l3 k l (M.map ofR) ((0 : Nat) : Int)) (fun k => by rw [tableaulaw08_RegionGrids.j4, if_neg (by simp)]; rfl) ?_
    exact g_l3 hm hml hme m 0 M (by omega) hM
  | n + 1, i, h => by
    have hl := hM.len
    have hi : i < 36 := by omega
    have h3 : i % 6 < 6 := Nat.mod_lt _ (by omega)
    have h4 : i / 6 < 6 := by omega
    obtain ⟨m1, m2⟩ := mid_f hi
    have hf := Has_f hM.rg (by omega) (p := 3 * ((i % 6 : Nat) : Int) + 1) (q := 2 * ((i / 6 : Nat) : Int) + 1) (by omega) (by omega)
    have ih := g_l2 hm hml hme hM hN ha hc n (i + 1) (by omega)
    by_cases hil : i < l.length
    · rw [hM.mid (.inl (by omega))] at hf
      refine Ev.next (G := fun k => (region_Has.f (M.map ofR) (3 * ((i % 6 : Nat) : Int) + 1) (2 * ((i / 6 : Nat) : Int) + 1)).bind fun t => if (t != (l.getD i false)) = true then some false else tableaulaw08_RegionGrids.l2 k l (M.map ofR) (N.map ofR) (c : Int) ((i + 1 : Nat) : Int)) (fun k => ?_) (Ev.bind0 hf (Ev.neg (by simp) ih))
      rw [tableaulaw08_RegionGrids.l2, if_pos (by omega), if_pos (by omega), if_pos (by omega), m1, m2, rdb, w64 (by omega) (by omega)]
      rfl
    · have hg : l.getD i false = false := by rw [List.getD_eq_getElem?_getD, List.getElem?_eq_none (by omega)]; rfl
      rw [hM.mid (.inr hg), hg] at hf
      refine Ev.next (G := fun k => (region_Has.f (M.map ofR) (3 * ((i % 6 : Nat) : Int) + 1) (2 * ((i / 6 : Nat) : Int) + 1)).bind fun t => if (t != false) = true then some false else tableaulaw08_RegionGrids.l2 k l (M.map ofR) (N.map ofR) (c : Int) ((i + 1 : Nat) : Int)) (fun k => ?_) (Ev.bind0 hf (Ev.neg (by simp) ih))
      rw [tableaulaw08_RegionGrids.l2, if_pos (by omega), if_neg (by omega), m1, m2, w64 (by omega) (by omega)]
      rfl
theorem g_l1 {l : List Bool} {m c : Nat} {M : List R} (hm : m ≤ 36) (hml : m ≤ l.length) (hme : m = l.length ∨ m = 36) (hM : Grd l 0 m M) (ha : Reg.area M = 6 * (c : Int)) (hc : c ≤ 36) : ∀ (i : Nat) (N : List R), i ≤ m → Grd l i m N → Ev (fun k => tableaulaw08_RegionGrids.l1 k l (M.map ofR) (N.map ofR) (c : Int) ((i : Int) - 1)) true
  | 0, N, h, hN => Ev.next (fun k => by rw [tableaulaw08_RegionGrids.l1, if_neg (by omega)]; rfl) (g_l2 hm hml hme hM hN ha hc 36 0 (by omega))
  | i + 1, N, h, hN => by
    have hl := hN.len
    have hi : ((i + 1 : Nat) : Int) - 1 = (i : Int) := by omega
    cases hb : l.getD i false with
    | true =>
      refine Ev.next (G := fun k => (region_Union.f (N.map ofR) ([sqF i].map ofR)).bind fun t => tableaulaw08_RegionGrids.l1 k l (M.map ofR) t (c : Int) ((i : Int) - 1)) (fun k => ?_) (Ev.bind0 (Union_f hN.rg (rg_sq (by omega)) (by omega) (by simp)) (g_l1 hm hml hme hM ha hc i _ (by omega) (hN.addd hb (by omega) (by omega))))
      rw [hi, tableaulaw08_RegionGrids.l1, if_pos (by omega), if_pos (by omega), if_pos (by omega), rdb, hb, if_pos rfl, sq_f (by omega), w64 (by omega) (by omega)]
    | false =>
      refine Ev.next (fun k => ?_) (g_l1 hm hml hme hM ha hc i N (by omega) (hN.skipd hb))
      rw [hi, tableaulaw08_RegionGrids.l1, if_pos (by omega), if_pos (by omega), if_pos (by omega), rdb, hb, if_neg (by simp), w64 (by omega) (by omega)]
theorem g_l0 {l : List Bool} {m : Nat} (hm : m ≤ 36) (hml : m ≤ l.length) (hme : m = l.length ∨ m = 36) : ∀ (n i c : Nat) (M : List R), i + n = m → Grd l 0 i M → Reg.area M = 6 * (c : Int) → c ≤ i → Ev (fun k => tableaulaw08_RegionGrids.l0 k l (M.map ofR) (c : Int) (i : Int)) true
  | 0, i, c, M, h, hM, ha, hc => by
    obtain rfl : i = m := by omega
    have hmn : mn (l.length : Int) 36 - 1 = (i : Int) - 1 := by unfold mn; split <;> omega
    refine Ev.next (G := fun k => tableaulaw08_RegionGrids.j1 k l (M.map ofR) ([].map ofR) (c : Int) (i : Int) false) (fun k => ?_) (Ev.next (fun k => ?_) (g_l1 hm hml hme hM ha (by omega) i [] (Nat.le_refl _) (Grd.none_ l i)))
    · rw [tableaulaw08_RegionGrids.l0]
      by_cases hi : (i : Int) < (l.length : Int)
      · rw [if_pos hi, decide_eq_false (by omega)]; rfl
      · rw [if_neg hi]; rfl
    · rw [tableaulaw08_RegionGrids.j1, if_neg (by simp), hmn]
  | n + 1, i, c, M, h, hM, ha, hc => by
    have hl := hM.len
    cases hb : l.getD i false with
    | true =>
      have ih := g_l0 hm hml hme n (i + 1) (c + 1) _ (by omega) (hM.add hb (by omega) (by omega)) (by rw [hM.area_add (by omega), ha]; omega) (by omega)
      refine Ev.next (G := fun k => tableaulaw08_RegionGrids.j1 k l (M.map ofR) [] (c : Int) (i : Int) true) (fun k => ?_) (Ev.next (G := fun k => (region_Union.f (M.map ofR) ([sqF i].map ofR)).bind fun t => tableaulaw08_RegionGrids.l0 k l t ((c + 1 : Nat) : Int) ((i + 1 : Nat) : Int)) (fun k => ?_) (Ev.bind0 (Union_f hM.rg (rg_sq (by omega)) (by omega) (by simp)) ih))
      · rw [tableaulaw08_RegionGrids.l0, if_pos (by omega), decide_eq_true (by omega)]
      · rw [tableaulaw08_RegionGrids.j1, if_pos rfl, if_pos (by omega), if_pos (by omega), rdb, hb, if_pos rfl, sq_f (by omega), w64 (by omega) (by omega), w64 (by omega) (by omega)]; rfl
    | false =>
      have ih := g_l0 hm hml hme n (i + 1) c M (by omega) (hM.skip hb) ha (by omega)
      refine Ev.next (G := fun k => tableaulaw08_RegionGrids.j1 k l (M.map ofR) [] (c : Int) (i : Int) true) (fun k => ?_) (Ev.next (fun k => ?_) ih)
      · rw [tableaulaw08_RegionGrids.l0, if_pos (by omega), decide_eq_true (by omega)]
      · rw [tableaulaw08_RegionGrids.j1, if_pos rfl, if_pos (by omega), if_pos (by omega), rdb, hb, if_neg (by simp), w64 (by omega) (by omega)]; rfl
/-- **The law, of any truths.** -/
theorem grids_true (l : List Bool) : ∃ k, tableaulaw08_RegionGrids.f k l = some true := by
  have e : Ev (fun k => tableaulaw08_RegionGrids.f k l) true := by
    by_cases h : l.length ≤ 36
    · exact g_l0 (m := l.length) h (Nat.le_refl _) (.inl rfl) l.length 0 0 [] (by omega) (Grd.none_ l 0) rfl (Nat.le_refl _)
    · exact g_l0 (m := 36) (Nat.le_refl _) (by omega) (.inr rfl) 36 0 0 [] (by omega) (Grd.none_ l 0) rfl (Nat.le_refl _)
  obtain ⟨K, hK⟩ := e
  exact ⟨K, hK K (Nat.le_refl _)⟩
end Go.Proofs.Ytogcokfildbodaa.PA
