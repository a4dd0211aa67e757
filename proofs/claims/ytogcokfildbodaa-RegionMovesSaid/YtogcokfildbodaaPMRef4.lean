/- What the printed functions answer, fourth part: made. -/
import Derived.Test.YtogcokfildbodaaPMR
import Derived.Test.YtogcokfildbodaaRf5
set_option linter.unusedSimpArgs false
namespace Go.Proofs.Ytogcokfildbodaa.PM
open Go.RowKit Go.Proofs.YtogcokfildbodaaW.PrintWords Go.Proofs.Ytogcokfildbodaa.Reg Go.Proofs.Ytogcokfildbodaa.Rect Go.Proofs.Ytogcokfildbodaa.Wk
set_option linter.unusedVariables false

theorem Rg.make (op : Bool → Bool → Bool) (h0 : op false false = false) (a b : List R) : Rg (makeF op a b) := by
  rw [← join_make h0]; exact rg_join h0 a b
def Small (M : List R) : Prop := M.length ≤ 196 ∧ ∃ XX YY, InXY XX YY M ∧ XX.length ≤ 14 ∧ YY.length ≤ 14
theorem made1 {l : List S23} (h64 : ∀ s ∈ l, I64 (toR s)) : ∀ (n i : Nat) (m X Y : List R → List Int) (M : List R), i + n = 7 → Rg M → ∀ (XX YY : List Int), InXY XX YY M → XX.length ≤ 2 * i → YY.length ≤ 2 * i → M.length ≤ 196 →
    ∃ M', Rg M' ∧ Small M' ∧ Ev (fun k => tableaulaw08_made.l0 k l (M.map ofR) (i : Int)) (M'.map ofR)
  | 0, i, m, X, Y, M, h, hM, XX, YY, hxy, hX, hY, hl => by
    refine ⟨M, hM, ⟨hl, XX, YY, hxy, by omega, by omega⟩, Ev.next (G := fun k => tableaulaw08_made.j1 k l (M.map ofR) (i : Int) false) (fun k => ?_) (Ev.next (G := fun k => some (M.map ofR)) (fun k => ?_) (Ev.ret _))⟩
    · rw [tableaulaw08_made.l0]
      by_cases h1 : (i : Int) < (l.length : Int)
      · rw [if_pos h1, decide_eq_false (by omega)]
      · rw [if_neg h1]
    · rw [tableaulaw08_made.j1, if_neg (by simp)]
  | n + 1, i, m, X, Y, M, h, hM, XX, YY, hxy, hX, hY, hl => by
    by_cases hi : i < l.length
    · have h64i := h64 _ (List.getElem_mem hi)
      have ho := Of_eq h64i
      have hoxy := of_xy (toR l[i])
      have key : ∀ o : Int, opN o false false = false → ∃ M', Rg M' ∧ Small M' ∧ Ev (fun k => (tableauref08_Of.f k l[i].f0 l[i].f1 l[i].f2 l[i].f3).bind fun t => (tableauref08_Make.f k (M.map ofR) t o).bind fun u => tableaulaw08_made.l0 k l u ((i + 1 : Nat) : Int)) (M'.map ofR) := by
        intro o h0
        have hh := make_xy (opN o) (hxy.app hoxy)
        have hlen : (XX ++ [(rBound (toR l[i])).x, (rBound (toR l[i])).x + (rBound (toR l[i])).w]).length ≤ 2 * (i + 1) := by rw [List.length_append]; simp; omega
        have hlen2 : (YY ++ [(rBound (toR l[i])).y, (rBound (toR l[i])).y + (rBound (toR l[i])).h]).length ≤ 2 * (i + 1) := by rw [List.length_append]; simp; omega
        have hl196 : (makeF (opN o) M (ofF (toR l[i]))).length ≤ 196 := Nat.le_trans hh.2 (Nat.le_trans (Nat.mul_le_mul hlen2 hlen) (by
          have : 2 * (i + 1) ≤ 14 := by omega
          exact Nat.mul_le_mul this this))
        obtain ⟨M', r1, r2, r3⟩ := made1 h64 n (i + 1) m X Y (makeF (opN o) M (ofF (toR l[i]))) (by omega) (Rg.make _ h0 _ _) _ _ hh.1 hlen hlen2 hl196
        refine ⟨M', r1, r2, Ev.bind ho ?_⟩
        have hmk := Make_eq (a := M.map ofR) (b := (ofF (toR l[i])).map ofR) (o := o) (rg64 hM) (rg64 (rg_of _)) (by rw [List.length_map]; omega) (by rw [List.length_map]; have := len_of (toR l[i]); omega)
        rw [to_map, to_map] at hmk
        exact Ev.bind hmk r3
      by_cases h2 : Int.tmod (i : Int) 3 = 2
      · obtain ⟨M', r1, r2, r3⟩ := key 1 rfl
        refine ⟨M', r1, r2, Ev.next (G := fun k => tableaulaw08_made.j1 k l (M.map ofR) (i : Int) true) (fun k => ?_) (Ev.next (fun k => ?_) r3)⟩
        · rw [tableaulaw08_made.l0, if_pos (by omega), decide_eq_true (by omega)]
        · rw [tableaulaw08_made.j1, if_pos rfl, if_pos h2, if_pos (by omega), if_pos (by omega), rdT hi, w64 (by omega) (by omega)]; rfl
      · obtain ⟨M', r1, r2, r3⟩ := key 0 rfl
        refine ⟨M', r1, r2, Ev.next (G := fun k => tableaulaw08_made.j1 k l (M.map ofR) (i : Int) true) (fun k => ?_) (Ev.next (fun k => ?_) r3)⟩
        · rw [tableaulaw08_made.l0, if_pos (by omega), decide_eq_true (by omega)]
        · rw [tableaulaw08_made.j1, if_pos rfl, if_neg h2, if_pos (by omega), if_pos (by omega), rdT hi, w64 (by omega) (by omega)]; rfl
    · refine ⟨M, hM, ⟨hl, XX, YY, hxy, by omega, by omega⟩, Ev.next (G := fun k => tableaulaw08_made.j1 k l (M.map ofR) (i : Int) false) (fun k => ?_) (Ev.next (G := fun k => some (M.map ofR)) (fun k => ?_) (Ev.ret _))⟩
      · rw [tableaulaw08_made.l0, if_neg (by omega)]
      · rw [tableaulaw08_made.j1, if_neg (by simp)]
theorem made_eq {l : List S23} (h64 : ∀ s ∈ l, I64 (toR s)) : ∃ M, Rg M ∧ Small M ∧ Ev (fun k => tableaulaw08_made.f k l) (M.map ofR) :=
  made1 h64 7 0 (fun _ => []) (fun _ => []) (fun _ => []) [] (by omega) Rg.nil [] [] (by intro r hr; simp at hr) (by simp) (by simp) (by simp)
end Go.Proofs.Ytogcokfildbodaa.PM
/- The shared part of the Region laws: the program's functions over regions, awake, Place. -/
namespace Go.Proofs.Ytogcokfildbodaa.PM
open Go.RowKit Go.Proofs.YtogcokfildbodaaW.PrintWords Go.Proofs.Ytogcokfildbodaa.Reg Go.Proofs.Ytogcokfildbodaa.Rect Go.Proofs.Ytogcokfildbodaa.Wk
set_option linter.unusedVariables false

theorem join_len {a b : List R} (op : Bool → Bool → Bool) (h0 : op false false = false) (ha : Small a) (hb : Small b) : (joinF op a b).length ≤ 784 := by
  obtain ⟨_, X, Y, h1, h2, h3⟩ := ha
  obtain ⟨_, X', Y', h4, h5, h6⟩ := hb
  rw [join_make h0]
  have := (make_xy op (h1.app h4)).2
  rw [List.length_append, List.length_append] at this
  exact Nat.le_trans this (Nat.le_trans (Nat.mul_le_mul (show Y.length + Y'.length ≤ 28 by omega) (show X.length + X'.length ≤ 28 by omega)) (by omega))
theorem awake_eq : Ev (fun k => tableaulaw08_awake.f k) true := by
  have h1 : joinF (· || ·) [⟨0, 0, 2, 2⟩] [⟨2, 0, 2, 2⟩] = [(⟨0, 0, 4, 2⟩ : R)] := by decide
  have r1 : Rg [(⟨0, 0, 2, 2⟩ : R)] := by unfold Rg; decide
  have r2 : Rg [(⟨2, 0, 2, 2⟩ : R)] := by unfold Rg; decide
  have r3 : Rg [(⟨0, 0, 4, 2⟩ : R)] := by unfold Rg; decide
  have hu := Union_f r1 r2 (by simp) (by simp)
  rw [h1] at hu
  unfold tableaulaw08_awake.f
  refine Ev.bind0 hu ?_
  show Ev (fun k => (region_Has.f ([(⟨0, 0, 4, 2⟩ : R)].map ofR) 3 1).bind fun t114 => if t114 = true then (region_Area.f k ([(⟨0, 0, 4, 2⟩ : R)].map ofR)).bind fun t => some (t == 8) else some false) true
  refine Ev.bind0 (Has_f r3 (by simp) (p := 3) (q := 1) (by omega) (by omega)) ?_
  show Ev (fun k => (region_Area.f k ([(⟨0, 0, 4, 2⟩ : R)].map ofR)).bind fun t => some (t == 8)) true
  refine Ev.bind (v := 8) ?_ (Ev.ret _)
  unfold region_Area.f
  refine Ev.bind0 (Check_f r3 (by simp)) ?_
  show Ev (fun k => region_Area.l0 k 0 ([(⟨0, 0, 4, 2⟩ : R)].map ofR) 1 0) 8
  exact Ev.next (G := fun k => region_Area.l0 k 8 ([(⟨0, 0, 4, 2⟩ : R)].map ofR) 1 1) (fun k => by rw [region_Area.l0, if_pos (by decide), if_pos (by decide), if_pos (by decide), show (rd_T23 ([(⟨0, 0, 4, 2⟩ : R)].map ofR) 0).f2 = 4 from rfl, show (rd_T23 ([(⟨0, 0, 4, 2⟩ : R)].map ofR) 0).f3 = 2 from rfl, w64 (n := 4 * 2) (by omega) (by omega), w64 (n := 0 + 4 * 2) (by omega) (by omega), w64 (n := 0 + 1) (by omega) (by omega)]; rfl) (Ev.next (G := fun k => some 8) (fun k => by rw [region_Area.l0, if_neg (by decide)]) (Ev.ret _))
theorem area_snoc (l : List R) (r : R) : Reg.area (l ++ [r]) = Reg.area l + r.w * r.h := by
  unfold Reg.area; rw [List.foldl_append]; rfl
theorem chk_area {r : R} (h : chkR r) : 0 ≤ r.w * r.h ∧ r.w * r.h ≤ 1125899906842624 := by
  obtain ⟨h1, h2, h3, h4, h5, h6⟩ := h
  refine ⟨Int.mul_nonneg (by omega) (by omega), ?_⟩
  exact Int.le_trans (Int.mul_le_mul (show r.w ≤ 33554432 by omega) (show r.h ≤ 33554432 by omega) (by omega) (by omega)) (by omega)
theorem area_le : ∀ {l : List R}, (∀ r ∈ l, chkR r) → 0 ≤ Reg.area l ∧ Reg.area l ≤ (l.length : Int) * 1125899906842624
  | [], _ => by simp [Reg.area]
  | r :: l, h => by
    have h1 := chk_area (h r (by simp))
    have h2 := area_le (l := l) fun s hs => h s (by simp [hs])
    rw [area_cons, List.length_cons]
    omega
theorem Area_l {M : List R} (hc : ∀ r ∈ M, chkR r) (hl : M.length ≤ 8000) : ∀ (n i : Nat), i + n = M.length → Ev (fun k => region_Area.l0 k (Reg.area (M.take i)) (M.map ofR) ((M.map ofR).length : Int) (i : Int)) (Reg.area M)
  | 0, i, h => by
    refine Ev.next (G := fun k => some (Reg.area M)) (fun k => ?_) (Ev.ret _)
    rw [region_Area.l0, if_neg (by rw [List.length_map]; omega), List.take_of_length_le (by omega)]
  | n + 1, i, h => by
    have hi : i < M.length := by omega
    have hi' : i < (M.map ofR).length := by rw [List.length_map]; exact hi
    have ht : M.take (i + 1) = M.take i ++ [M[i]] := by rw [List.take_succ_eq_append_getElem hi]
    have b1 := area_le (l := M.take i) (fun r hr => hc r (List.mem_of_mem_take hr))
    have b3 := chk_area (hc M[i] (List.getElem_mem hi))
    have l1 : (M.take i).length + 1 ≤ 8000 := by rw [List.length_take]; omega
    refine Ev.next (fun k => ?_) (Area_l hc hl n (i + 1) (by omega))
    rw [region_Area.l0, if_pos (by omega), if_pos (by omega), if_pos (by omega), rdT hi', List.getElem_map, ht, area_snoc]
    show region_Area.l0 k (wrap64 (Reg.area (M.take i) + wrap64 (M[i].w * M[i].h))) _ _ _ = _
    rw [w64 (n := M[i].w * M[i].h) (by omega) (by omega), w64 (n := _ + _) (by omega) (by omega), w64 (by omega) (by omega)]
    rfl
theorem Area_eq {M : List R} (h : Rg M) (hl : M.length ≤ 8000) : Ev (fun k => region_Area.f k (M.map ofR)) (Reg.area M) := by
  unfold region_Area.f
  refine Ev.bind0 (Check_f h (by omega)) ?_
  refine Ev.pos rfl ?_
  exact Area_l h.chk hl M.length 0 (by omega)
theorem area_b {M : List R} (h : Rg M) (hl : M.length ≤ 4000) : 0 ≤ Reg.area M ∧ Reg.area M ≤ 4503599627370496000 := by
  have := area_le h.chk
  omega
/-- How many places the edges of a region stand at. -/
def Sm (n : Nat) (M : List R) : Prop := ∃ XX YY, InXY XX YY M ∧ XX.length ≤ n ∧ YY.length ≤ n
theorem Small.sm {M : List R} (h : Small M) : Sm 14 M := h.2
theorem Sm.join {n m : Nat} {a b : List R} {op : Bool → Bool → Bool} (h0 : op false false = false) (ha : Sm n a) (hb : Sm m b) : Sm (n + m) (joinF op a b) ∧ (joinF op a b).length ≤ (n + m) * (n + m) := by
  obtain ⟨X, Y, h1, h2, h3⟩ := ha
  obtain ⟨X', Y', h4, h5, h6⟩ := hb
  rw [join_make h0]
  have hm := make_xy op (h1.app h4)
  refine ⟨⟨_, _, hm.1, by rw [List.length_append]; omega, by rw [List.length_append]; omega⟩, Nat.le_trans hm.2 (Nat.mul_le_mul (by rw [List.length_append]; omega) (by rw [List.length_append]; omega))⟩
end Go.Proofs.Ytogcokfildbodaa.PM
