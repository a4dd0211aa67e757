/- Areas at any list, lengths of what two lists make: shared by RegionPlays and RegionAll. -/
import Derived.Test.YtogcokfildbodaaPMRef4
import Derived.Test.YtogcokfildbodaaPMShf
set_option linter.unusedVariables false
set_option linter.unusedSimpArgs false
namespace Go.Proofs.Ytogcokfildbodaa.PM
open Go.RowKit Go.Proofs.YtogcokfildbodaaW.PrintWords Go.Proofs.Ytogcokfildbodaa.Reg Go.Proofs.Ytogcokfildbodaa.Rect Go.Proofs.Ytogcokfildbodaa.Wk

def areaF (l : List R) : Int := if (bandsF l).isSome = true then Reg.area l else 0
theorem PArea_eq {l : List S23} (h64 : ∀ s ∈ l, I64 (toR s)) (hl : l.length ≤ 8000) : Ev (fun k => region_Area.f k l) (areaF (l.map toR)) := by
  unfold areaF
  cases hb : (bandsF (l.map toR)).isSome with
  | true =>
    have := Area_eq (M := l.map toR) hb (by rw [List.length_map]; exact hl)
    rwa [to_back] at this
  | false =>
    unfold region_Area.f
    refine Ev.bind0 (v := false) (by unfold region_Check.f; rw [okL_any h64 (by omega), if_pos (by rfl), hb]) ?_
    exact Ev.neg (by simp) (Ev.ret _)
theorem RArea_l {L : List S23} (h64 : ∀ s ∈ L, I64 (toR s)) (hl : L.length ≤ 8000) (hc : chkF (L.map toR) = true) : ∀ (n i : Nat), i + n = L.length → Ev (fun k => tableauref08_Area.l0 k L (Reg.area ((L.take i).map toR)) (i : Int)) (Reg.area (L.map toR))
  | 0, i, h => by
    rw [List.take_of_length_le (by omega)]
    exact Ev.next (G := fun k => some (Reg.area (L.map toR))) (fun k => by rw [tableauref08_Area.l0, if_neg (by omega)]) (Ev.ret _)
  | n + 1, i, h => by
    have hi : i < L.length := by omega
    have e1 : wrap64 ((i : Int) + 1) = ((i + 1 : Nat) : Int) := by rw [w64 (by omega) (by omega)]; rfl
    have hall : ∀ r ∈ L.map toR, chkR r := by
      unfold chkF at hc
      rw [Bool.and_eq_true, List.all_eq_true] at hc
      exact fun r hr => chk_iff.1 (hc.1 r hr)
    have b1 := area_le (l := (L.take i).map toR) (fun r hr => by
      obtain ⟨s, hs, rfl⟩ := List.mem_map.1 hr
      exact hall _ (List.mem_map_of_mem (List.mem_of_mem_take hs)))
    have b3 := chk_area (hall _ (List.mem_map_of_mem (List.getElem_mem hi)))
    have l1 : ((L.take i).map toR).length + 1 ≤ 8000 := by rw [List.length_map, List.length_take]; omega
    have ih := RArea_l h64 hl hc n (i + 1) (by omega)
    rw [List.take_succ_eq_append_getElem hi, List.map_append, List.map_singleton, area_snoc] at ih
    refine Ev.next (fun k => by rw [tableauref08_Area.l0, if_pos (by omega), rdT hi, e1]) ?_
    refine Ev.bind (Check_eq h64 (by omega)) ?_
    rw [hc]
    refine Ev.pos rfl ?_
    refine Ev.pos (by omega) ?_
    show Ev (fun k => tableauref08_Area.l0 k L (wrap64 (Reg.area ((L.take i).map toR) + wrap64 ((toR L[i]).w * (toR L[i]).h))) ((i + 1 : Nat) : Int)) _
    rw [w64 (n := (toR L[i]).w * (toR L[i]).h) (by omega) (by omega), w64 (n := _ + _) (by omega) (by omega)]
    exact ih
theorem RArea_eq {L : List S23} (h64 : ∀ s ∈ L, I64 (toR s)) (hl : L.length ≤ 8000) : Ev (fun k => tableauref08_Area.f k L) (areaF (L.map toR)) := by
  unfold tableauref08_Area.f areaF
  cases hc : chkF (L.map toR) with
  | true =>
    have h := RArea_l h64 hl hc L.length 0 (by omega)
    rw [chk_bands] at hc
    rw [if_pos hc]
    exact h
  | false =>
    have hb := hc
    rw [chk_bands] at hb
    rw [hb]
    by_cases h0 : 0 < L.length
    · refine Ev.next (fun k => by rw [tableauref08_Area.l0, if_pos (by omega)]) ?_
      refine Ev.bind (Check_eq h64 (by omega)) ?_
      rw [hc]
      exact Ev.neg (by simp) (Ev.ret _)
    · exact Ev.next (G := fun k => some 0) (fun k => by rw [tableauref08_Area.l0, if_neg (by omega)]) (Ev.ret _)
theorem join_len4 (op : Bool → Bool → Bool) (h0 : op false false = false) (a b : List R) (ha : a.length ≤ 200) (hb : b.length ≤ 200) : (joinF op a b).length ≤ 1000000 := by
  rw [join_make h0]
  have hx : InXY ((a ++ b).flatMap fun r => [r.x, r.x + r.w]) ((a ++ b).flatMap fun r => [r.y, r.y + r.h]) (a ++ b) := fun r hr =>
    ⟨⟨List.mem_flatMap.2 ⟨r, hr, by simp⟩, List.mem_flatMap.2 ⟨r, hr, by simp⟩⟩, List.mem_flatMap.2 ⟨r, hr, by simp⟩, List.mem_flatMap.2 ⟨r, hr, by simp⟩⟩
  have h2 : ∀ (l : List R) (f g : R → Int), (l.flatMap fun r => [f r, g r]).length = 2 * l.length := by
    intro l f g
    induction l with
    | nil => rfl
    | cons a l ih => rw [List.flatMap_cons, List.length_append, ih]; simp; omega
  refine Nat.le_trans (make_xy op hx).2 ?_
  rw [h2, h2, List.length_append]
  exact Nat.le_trans (Nat.mul_le_mul (show 2 * (a.length + b.length) ≤ 800 by omega) (show 2 * (a.length + b.length) ≤ 800 by omega)) (by omega)
theorem joins_same {a b : List S23} (h64a : ∀ s ∈ a, I64 (toR s)) (h64b : ∀ s ∈ b, I64 (toR s)) (ha : a.length ≤ 200) (hb : b.length ≤ 200) {op : Bool → Bool → Bool} (o : Int) (ho : opN o = op) (h0 : op false false = false) :
    Ev (fun k => tableauref08_Make.f k a b o) ((makeF op (a.map toR) (b.map toR)).map ofR) ∧ Ev (fun k => tableaulaw00_SameRects.f k ((joinF op (a.map toR) (b.map toR)).map ofR) ((makeF op (a.map toR) (b.map toR)).map ofR)) true := by
  subst ho
  exact ⟨Make_eq h64a h64b (by omega) (by omega), SameRects_of (join_make h0 _ _) (join_len4 _ h0 _ _ (by rw [List.length_map]; exact ha) (by rw [List.length_map]; exact hb))⟩
theorem PUnion_f {a b : List S23} (h64a : ∀ s ∈ a, I64 (toR s)) (h64b : ∀ s ∈ b, I64 (toR s)) (ha : a.length ≤ 200) (hb : b.length ≤ 200) : region_Union.f a b = some ((joinF orB (a.map toR) (b.map toR)).map ofR) := by
  unfold region_Union.f; rw [okL_any h64a (by omega), okL_any h64b (by omega), if_pos (by rfl)]; rfl
theorem PSubtract_f {a b : List S23} (h64a : ∀ s ∈ a, I64 (toR s)) (h64b : ∀ s ∈ b, I64 (toR s)) (ha : a.length ≤ 200) (hb : b.length ≤ 200) : region_Subtract.f a b = some ((joinF subB (a.map toR) (b.map toR)).map ofR) := by
  unfold region_Subtract.f; rw [okL_any h64a (by omega), okL_any h64b (by omega), if_pos (by rfl)]; rfl
theorem PIntersect_f {a b : List S23} (h64a : ∀ s ∈ a, I64 (toR s)) (h64b : ∀ s ∈ b, I64 (toR s)) (ha : a.length ≤ 200) (hb : b.length ≤ 200) : region_Intersect.f a b = some ((joinF andB (a.map toR) (b.map toR)).map ofR) := by
  unfold region_Intersect.f; rw [okL_any h64a (by omega), okL_any h64b (by omega), if_pos (by rfl)]; rfl
theorem PRects_f {a : List S23} (h64a : ∀ s ∈ a, I64 (toR s)) (ha : a.length ≤ 200) : tableaulaw00_Rects.f a = some a := by
  unfold tableaulaw00_Rects.f; rw [okL_any h64a (by omega), if_pos (by rfl)]
theorem PCheck_f {a : List S23} (h64a : ∀ s ∈ a, I64 (toR s)) (ha : a.length ≤ 200) : region_Check.f a = some (bandsF (a.map toR)).isSome := by
  unfold region_Check.f; rw [okL_any h64a (by omega), if_pos (by rfl)]
theorem PHas_f {a : List S23} (h64a : ∀ s ∈ a, I64 (toR s)) (ha : a.length ≤ 200) {p q : Int} (hp : -9223372036854775808 ≤ p ∧ p ≤ 9223372036854775807) (hq : -9223372036854775808 ≤ q ∧ q ≤ 9223372036854775807) : region_Has.f a p q = some ((bandsF (a.map toR)).isSome && hasL (a.map toR) p q) := by
  unfold region_Has.f; rw [okL_any h64a (by omega), i64b_iff.2 hp, i64b_iff.2 hq, if_pos (by rfl)]
/-- The second half of both laws: moved, covered, counted. -/
theorem shift_same {a : List S23} (h64 : ∀ s ∈ a, I64 (toR s)) (ha : a.length ≤ 200) {x y : Int} (hx : -9223372036854775808 ≤ x ∧ x ≤ 9223372036854775807) (hy : -9223372036854775808 ≤ y ∧ y ≤ 9223372036854775807) {g : Nat → Option Bool} (hg : Ev g true) :
    Ev (fun k => (region_Shift.f a x y).bind fun t303 => (tableauref08_Shift.f k a x y).bind fun t306 => (tableaulaw00_SameRects.f k t303 t306).bind fun t309 => if t309 = true then ((region_Cover.f k a).bind fun bt310 => ((tableauref08_Cover.f k a).bind fun bt314 => (if (bt310.1 == bt314.1 && (bt310.2.1 == bt314.2.1 && (bt310.2.2.1 == bt314.2.2.1 && (bt310.2.2.2 == bt314.2.2.2)))) = true then ((region_Area.f k a).bind fun t318 => ((tableauref08_Area.f k a).bind fun t319 => (if t318 = t319 then g k else (some false)))) else (some false)))) else (some false)) true := by
  refine Ev.bind0 (PShift_f h64 (by omega) x y) ?_
  refine Ev.bind (RShift_eq h64 (by omega) hx hy) ?_
  refine Ev.bind (SameRects_of rfl (by have := shift_len (a.map toR) x y; rw [List.length_map] at this; omega)) ?_
  refine Ev.pos rfl ?_
  refine Ev.bind (PCover_eq h64 (by omega)) ?_
  refine Ev.bind (RCover_eq h64 (by omega)) ?_
  refine Ev.pos (by unfold tupR tup; simp) ?_
  refine Ev.bind (PArea_eq h64 (by omega)) ?_
  refine Ev.bind (RArea_eq h64 (by omega)) ?_
  exact Ev.pos rfl hg
end Go.Proofs.Ytogcokfildbodaa.PM
