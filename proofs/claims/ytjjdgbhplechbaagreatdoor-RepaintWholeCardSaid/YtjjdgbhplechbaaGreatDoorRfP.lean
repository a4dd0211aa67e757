/- How many rectangles there may be: the plain part of XRf5, for a seat without the reference. -/
import Derived.Test.YtjjdgbhplechbaaGreatDoorRgJ
set_option linter.unusedVariables false
set_option linter.unusedSimpArgs false
namespace Go.Proofs.YtjjdgbhplechbaaGreatDoor.Wk
open Go.RowKit Go.Proofs.YtjjdgbhplechbaaGreatDoor.Kit Go.Proofs.YtjjdgbhplechbaaGreatDoor.Reg Go.Proofs.YtjjdgbhplechbaaGreatDoor.Rect
theorem gaps_in : ∀ (es : List Int) (p : Int × Int), p ∈ gaps es → p.1 ∈ es ∧ p.2 ∈ es
  | [], p, h => by simp [gaps] at h
  | [_], p, h => by simp [gaps] at h
  | a :: b :: r, p, h => by
    rw [gaps] at h
    rcases List.mem_cons.1 h with rfl | h
    · simp
    · have := gaps_in (b :: r) p h
      exact ⟨List.mem_cons_of_mem _ this.1, List.mem_cons_of_mem _ this.2⟩
theorem acc_in {α : Type} [DecidableEq α] (g : Int → Option α) (es : List Int) (k : Nat) : ∀ s ∈ accK g es k, s.f ∈ es ∧ s.t ∈ es := by
  refine foldl_in (P := fun x => x ∈ es) (Q := fun x => x ∈ es) _ [] ?_ (by simp)
  intro s hs
  obtain ⟨p, hp, he⟩ := List.mem_filterMap.1 hs
  obtain ⟨v, hv, rfl⟩ := Option.map_eq_some_iff.1 he
  exact gaps_in es p (List.mem_of_mem_take hp)
theorem row_len2 {xs : List Int} (op : Bool → Bool → Bool) (la lb : List R) (y y1 : Int) : ((rowSp op la lb xs y).map (spR y y1)).length ≤ xs.length := by
  unfold rowSp
  rw [List.length_map, ← accK_all]
  have := accK_len (fun x => if op (hasL la x y) (hasL lb x y) then some () else none) xs _ (Nat.le_refl _)
  have := gaps_len' xs
  omega
theorem make_form (op : Bool → Bool → Bool) (a b : List R) : makeR op a b = flat (mrg (cut (fun q => if rowSp op a b (xsF (a ++ b)) q = [] then none else some (rowSp op a b (xsF (a ++ b)) q)) (ysF (a ++ b)))) := by
  unfold makeR mrg
  have hinc : Inc (ysF (a ++ b)) := inc_esort _
  cases hy : ysF (a ++ b) with
  | nil => rfl
  | cons y r =>
    rw [hy] at hinc
    exact mk_fold _ r y [] ([], []) hinc (Int.le_refl _) (by simp) rfl (by simp) (by simp)
theorem push1_v {P : List Sp → Prop} {out : List Bd} {s : Bd} (h : ∀ b ∈ out, P b.v) (hs : P s.v) : ∀ b ∈ push1 out s, P b.v := by
  intro b hb
  unfold push1 at hb
  split at hb
  · rename_i c hc
    split at hb
    · rcases List.mem_append.1 hb with h1 | h1
      · exact h b (List.dropLast_subset _ h1)
      · obtain rfl : b = _ := by simpa using h1
        exact h c (List.mem_of_getLast? hc)
    · rcases List.mem_append.1 hb with h1 | h1
      · exact h b h1
      · obtain rfl : b = _ := by simpa using h1
        exact hs
  · rcases List.mem_append.1 hb with h1 | h1
    · exact h b h1
    · obtain rfl : b = _ := by simpa using h1
      exact hs
theorem foldl_v {P : List Sp → Prop} : ∀ (l out : List Bd), (∀ s ∈ l, P s.v) → (∀ b ∈ out, P b.v) → ∀ b ∈ l.foldl push1 out, P b.v
  | [], out, _, h => h
  | s :: l, out, hl, h => foldl_v l (push1 out s) (fun x hx => hl x (List.mem_cons_of_mem _ hx)) (push1_v h (hl s (List.mem_cons_self ..)))
/-- The edges of what is made are edges of what it is made of. -/
theorem make_edges (op : Bool → Bool → Bool) (a b : List R) : ∀ r ∈ makeR op a b, (r.x ∈ xsF (a ++ b) ∧ r.x + r.w ∈ xsF (a ++ b)) ∧ r.y ∈ ysF (a ++ b) ∧ r.y + r.h ∈ ysF (a ++ b) := by
  intro r hr
  rw [make_form] at hr
  obtain ⟨c, hc, hr⟩ := List.mem_flatMap.1 hr
  obtain ⟨s, hs, rfl⟩ := List.mem_map.1 hr
  have hcut : ∀ s ∈ cut (fun q => if rowSp op a b (xsF (a ++ b)) q = [] then none else some (rowSp op a b (xsF (a ++ b)) q)) (ysF (a ++ b)), (s.f ∈ ysF (a ++ b) ∧ s.t ∈ ysF (a ++ b)) ∧ ∀ t ∈ s.v, t.f ∈ xsF (a ++ b) ∧ t.t ∈ xsF (a ++ b) := by
    intro s hs
    unfold cut at hs
    obtain ⟨p, hp, he⟩ := List.mem_filterMap.1 hs
    obtain ⟨v, hv, rfl⟩ := Option.map_eq_some_iff.1 he
    refine ⟨gaps_in _ p hp, fun t ht => ?_⟩
    simp only at hv
    split at hv
    · cases hv
    · obtain rfl := Option.some.inj hv
      unfold rowSp at ht
      rw [← accK_all] at ht
      exact acc_in (fun x => if op (hasL a x p.1) (hasL b x p.1) then some () else none) _ _ t ht
  have h1 := foldl_in (P := fun x => x ∈ ysF (a ++ b)) (Q := fun x => x ∈ ysF (a ++ b)) _ [] (fun s hs => (hcut s hs).1) (by simp) c hc
  have h2 := foldl_v (P := fun v => ∀ t ∈ v, t.f ∈ xsF (a ++ b) ∧ t.t ∈ xsF (a ++ b)) _ [] (fun s hs => (hcut s hs).2) (by simp) c hc s hs
  unfold spR
  simp only
  rw [show s.f + (s.t - s.f) = s.t by omega, show c.f + (c.t - c.f) = c.t by omega]
  exact ⟨h2, h1⟩
theorem make_len (op : Bool → Bool → Bool) (a b : List R) : (makeR op a b).length ≤ (ysF (a ++ b)).length * (xsF (a ++ b)).length := by
  rw [make_form]
  refine Nat.le_trans (flat_mrg_len _ _) ?_
  have hr : ∀ q, (rowSp op a b (xsF (a ++ b)) q).length ≤ (xsF (a ++ b)).length := by
    intro q
    have := row_len2 (xs := xsF (a ++ b)) op a b q q
    rwa [List.length_map] at this
  refine Nat.le_trans (sum_le _ (xsF (a ++ b)).length _ fun c _ => hr c.1) ?_
  exact Nat.mul_le_mul_right _ (by have := gaps_len' (ysF (a ++ b)); omega)
/-- All edges lie in X and Y. -/
def InXY (X Y : List Int) (l : List R) : Prop := ∀ r ∈ l, (r.x ∈ X ∧ r.x + r.w ∈ X) ∧ r.y ∈ Y ∧ r.y + r.h ∈ Y
theorem InXY.app {X Y X' Y' : List Int} {a b : List R} (ha : InXY X Y a) (hb : InXY X' Y' b) : InXY (X ++ X') (Y ++ Y') (a ++ b) := by
  intro r hr
  rcases List.mem_append.1 hr with h | h
  · have := ha r h; simp only [List.mem_append]; exact ⟨⟨.inl this.1.1, .inl this.1.2⟩, .inl this.2.1, .inl this.2.2⟩
  · have := hb r h; simp only [List.mem_append]; exact ⟨⟨.inr this.1.1, .inr this.1.2⟩, .inr this.2.1, .inr this.2.2⟩
theorem InXY.xs {X Y : List Int} {l : List R} (h : InXY X Y l) : (∀ e ∈ xsF l, e ∈ X) ∧ ∀ e ∈ ysF l, e ∈ Y := by
  refine ⟨fun e he => ?_, fun e he => ?_⟩
  · obtain ⟨r, hr, h1⟩ := mem_xs.1 he
    have := h r hr
    rcases h1 with rfl | rfl
    · exact this.1.1
    · exact this.1.2
  · obtain ⟨r, hr, h1⟩ := mem_ys.1 he
    have := h r hr
    rcases h1 with rfl | rfl
    · exact this.2.1
    · exact this.2.2
theorem make_xy (op : Bool → Bool → Bool) {X Y : List Int} {a b : List R} (h : InXY X Y (a ++ b)) : InXY X Y (makeF op a b) ∧ (makeF op a b).length ≤ Y.length * X.length := by
  unfold makeF
  split
  · obtain ⟨h1, h2⟩ := h.xs
    refine ⟨fun r hr => ?_, ?_⟩
    · have := make_edges op a b r hr
      exact ⟨⟨h1 _ this.1.1, h1 _ this.1.2⟩, h2 _ this.2.1, h2 _ this.2.2⟩
    · exact Nat.le_trans (make_len op a b) (Nat.mul_le_mul (len_sub (inc_nodup (inc_esort _)) h2) (len_sub (inc_nodup (inc_esort _)) h1))
  · exact ⟨by intro r hr; simp at hr, by simp⟩
theorem of_xy (r : R) : InXY [(rBound r).x, (rBound r).x + (rBound r).w] [(rBound r).y, (rBound r).y + (rBound r).h] (ofF r) := by
  unfold ofF
  split
  · intro s hs; simp at hs
  · intro s hs
    obtain rfl : s = _ := by simpa using hs
    simp
end Go.Proofs.YtjjdgbhplechbaaGreatDoor.Wk
