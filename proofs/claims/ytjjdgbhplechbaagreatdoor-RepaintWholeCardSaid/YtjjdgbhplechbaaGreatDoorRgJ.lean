/- Plain bounds for region.joined; no program but for the names. -/
import Derived.Test.YtjjdgbhplechbaaGreatDoorRg8
set_option linter.unusedVariables false
set_option linter.unusedSimpArgs false
namespace Go.Proofs.YtjjdgbhplechbaaGreatDoor.Wk
open Go.RowKit Go.Proofs.YtjjdgbhplechbaaGreatDoor.Kit Go.Proofs.YtjjdgbhplechbaaGreatDoor.Reg Go.Proofs.YtjjdgbhplechbaaGreatDoor.Rect

theorem push1_in {α : Type} [DecidableEq α] {P Q : Int → Prop} {out : List (Seg α)} {s : Seg α} (h : ∀ b ∈ out, P b.f ∧ Q b.t) (hs : P s.f ∧ Q s.t) : ∀ b ∈ push1 out s, P b.f ∧ Q b.t := by
  intro b hb
  unfold push1 at hb
  split at hb
  · rename_i c hc
    split at hb
    · rcases List.mem_append.1 hb with h1 | h1
      · exact h b (List.dropLast_subset _ h1)
      · obtain rfl : b = _ := by simpa using h1
        exact ⟨(h c (List.mem_of_getLast? hc)).1, hs.2⟩
    · rcases List.mem_append.1 hb with h1 | h1
      · exact h b h1
      · obtain rfl : b = _ := by simpa using h1
        exact hs
  · rcases List.mem_append.1 hb with h1 | h1
    · exact h b h1
    · obtain rfl : b = _ := by simpa using h1
      exact hs
theorem foldl_in {α : Type} [DecidableEq α] {P Q : Int → Prop} : ∀ (l out : List (Seg α)), (∀ s ∈ l, P s.f ∧ Q s.t) → (∀ b ∈ out, P b.f ∧ Q b.t) → ∀ b ∈ l.foldl push1 out, P b.f ∧ Q b.t
  | [], out, _, h => h
  | s :: l, out, hl, h => foldl_in l (push1 out s) (fun x hx => hl x (List.mem_cons_of_mem _ hx)) (push1_in h (hl s (List.mem_cons_self ..)))
theorem both_in (op : Bool → Bool → Bool) (a b : List Sp) : ∀ s ∈ bothF op a b, s.f ∈ ends a ++ ends b ∧ s.t ∈ ends a ++ ends b := by
  refine foldl_in (P := fun x => x ∈ ends a ++ ends b) (Q := fun x => x ∈ ends a ++ ends b) _ [] ?_ (by simp)
  intro s hs
  unfold cut at hs
  obtain ⟨p, hp, he⟩ := List.mem_filterMap.1 hs
  obtain ⟨h1, h2, _, _⟩ := gaps_mem (inc_esort _) hp
  obtain ⟨v, hv, rfl⟩ := Option.map_eq_some_iff.1 he
  exact ⟨mem_esort.1 h1, mem_esort.1 h2⟩
theorem both_len (op : Bool → Bool → Bool) (a b : List Sp) : (bothF op a b).length ≤ 2 * (a.length + b.length) := by
  unfold bothF
  rw [← accK_all]
  have h1 := accK_len (fun x => if op (spIn a x) (spIn b x) then some () else none) (esort (ends a ++ ends b)) _ (Nat.le_refl _)
  have h2 := gaps_len' (esort (ends a ++ ends b))
  have h3 := (esort_len (ends a ++ ends b)).1
  rw [List.length_append, ends_len, ends_len] at h3
  omega
theorem row_in {B : List Bd} (hB : ∀ b ∈ B, InB b) (q : Int) : ∀ s ∈ rowB B q, -8589934592 ≤ s.f ∧ s.f ≤ 8589934592 ∧ -8589934592 ≤ s.t ∧ s.t ≤ 8589934592 := by
  intro s hs
  unfold rowB at hs
  cases h : Reg.look B q with
  | none => rw [h] at hs; simp at hs
  | some v =>
    rw [h] at hs
    obtain ⟨b, hb, _, _, rfl⟩ := look_mem h
    exact (hB b hb).2 s hs
theorem row_len {B : List Bd} {n : Nat} (hB : ∀ b ∈ B, b.v.length ≤ n) (q : Int) : (rowB B q).length ≤ n := by
  unfold rowB
  cases h : Reg.look B q with
  | none => simp
  | some v =>
    obtain ⟨b, hb, _, _, rfl⟩ := look_mem h
    exact hB b hb
theorem ends_in {v : List Sp} (h : ∀ s ∈ v, -8589934592 ≤ s.f ∧ s.f ≤ 8589934592 ∧ -8589934592 ≤ s.t ∧ s.t ≤ 8589934592) {e : Int} (he : e ∈ ends v) : -8589934592 ≤ e ∧ e ≤ 8589934592 := by
  obtain ⟨s, hs, h1⟩ := mem_ends.1 he
  have := h s hs
  rcases h1 with rfl | rfl <;> omega
theorem ends_inB {B : List Bd} (h : ∀ b ∈ B, InB b) {e : Int} (he : e ∈ ends B) : -8589934592 ≤ e ∧ e ≤ 8589934592 := by
  obtain ⟨s, hs, h1⟩ := mem_ends.1 he
  have := (h s hs).1
  rcases h1 with rfl | rfl <;> omega
theorem join_in (op : Bool → Bool → Bool) {x y : List Bd} (hx : ∀ b ∈ x, InB b) (hy : ∀ b ∈ y, InB b) : ∀ b ∈ joinB op x y, InB b := by
  intro b hb
  unfold joinB at hb
  obtain ⟨p, hp, rfl⟩ := List.mem_map.1 hb
  obtain ⟨h1, h2, _, _⟩ := gaps_mem (inc_esort _) hp
  have k : ∀ e, e ∈ esort (ends x ++ ends y) → -8589934592 ≤ e ∧ e ≤ 8589934592 := by
    intro e he
    rcases List.mem_append.1 (mem_esort.1 he) with h | h
    · exact ends_inB hx h
    · exact ends_inB hy h
  have k1 := k _ h1
  have k2 := k _ h2
  refine ⟨⟨k1.1, k1.2, k2.1, k2.2⟩, fun s hs => ?_⟩
  obtain ⟨e1, e2⟩ := both_in op _ _ s hs
  have kk : ∀ e, e ∈ ends (rowB x p.1) ++ ends (rowB y p.1) → -8589934592 ≤ e ∧ e ≤ 8589934592 := by
    intro e he
    rcases List.mem_append.1 he with h | h
    · exact ends_in (row_in hx p.1) h
    · exact ends_in (row_in hy p.1) h
  have m1 := kk _ e1
  have m2 := kk _ e2
  omega
theorem band_in {l : List R} {B : List Bd} (e : bandsF l = some B) : ∀ b ∈ B, InB b := by
  obtain ⟨hc, hl, hr⟩ := bands_sound e
  have key : ∀ b ∈ B, ∀ s ∈ b.v, -16777216 ≤ s.f ∧ s.f ≤ 16777216 ∧ -16777216 ≤ s.t ∧ s.t ≤ 16777216 ∧ -16777216 ≤ b.f ∧ b.f ≤ 16777216 ∧ -16777216 ≤ b.t ∧ b.t ≤ 16777216 := by
    intro b hb s hs
    have hm : spR b.f b.t s ∈ l := by
      rw [hl]
      exact List.mem_flatMap.2 ⟨b, hb, List.mem_map.2 ⟨s, hs, rfl⟩⟩
    have hk := chk_iff.1 (hr _ hm)
    unfold chkR at hk
    unfold spR at hk
    simp only at hk
    omega
  intro b hb
  obtain ⟨s, hs⟩ := List.exists_mem_of_ne_nil _ (hc.2 b hb).1
  have h0 := key b hb s hs
  exact ⟨by omega, fun s hs => by have := key b hb s hs; omega⟩

/-- A region, or none. -/
theorem RCheck_any (A : Option Addr) (c : Nat) (l : List R) (w : World) (hn : l.length ≤ 1000000) (h64 : ∀ r ∈ l, I64 r) (hA : Rds w w.heap.size 4 A l.length (l.flatMap rC)) :
    Calls Tryz.prog 86 #[.slice A l.length c] w fun e w' => e = .returned (.bool (bandsF l).isSome) ∧ Below w.heap.size w w' := by
  go_enter Tryz.func86, Tryz.ntmps86
  go_wp2_with fail
  refine (bands_any A c l w hn h64 hA).mono ?_
  rintro e w1 HB
  unfold BnP at HB
  cases hb : bandsF l with
  | none =>
    rw [hb] at HB
    obtain ⟨rfl, hbe⟩ := HB
    have HBd := Lib.hid hb
    clear hb
    go_wp2_with fail
    go_ret
    exact ⟨by rw [HBd.out]; rfl, hbe⟩
  | some B =>
    rw [hb] at HB
    obtain ⟨A1, c1, P, rfl, _, _, _, _, hbe⟩ := HB
    have HBd := Lib.hid hb
    clear hb
    go_wp2_with fail
    go_ret
    exact ⟨by rw [HBd.out]; rfl, hbe⟩
end Go.Proofs.YtjjdgbhplechbaaGreatDoor.Wk
