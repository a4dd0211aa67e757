/- The shared part: what holds from some fuel on; the program's functions over regions as the plain ones, Place, SameRects. -/
import Derived.Test.YtogcokfildbodaaPOGiven
import Derived.Test.YtogcokfildbodaaPOx3
set_option linter.unusedSimpArgs false
namespace Go.Proofs.Ytogcokfildbodaa.PO
open Go.RowKit Go.Proofs.YtogcokfildbodaaW.PrintWords Go.Proofs.Ytogcokfildbodaa.Reg Go.Proofs.Ytogcokfildbodaa.Rect Go.Proofs.Ytogcokfildbodaa.Wk
set_option linter.unusedVariables false

/-- From some fuel on. -/
def Ev {α : Type} (g : Nat → Option α) (v : α) : Prop := ∃ K, ∀ k, K ≤ k → g k = some v
theorem Ev.ret {α : Type} (v : α) : Ev (fun _ => some v) v := ⟨0, fun _ _ => rfl⟩
theorem Ev.of {α : Type} {g : Option α} {v : α} (h : g = some v) : Ev (fun _ => g) v := ⟨0, fun _ _ => h⟩
theorem Ev.next {α : Type} {g G : Nat → Option α} {v : α} (h : ∀ k, g (k + 1) = G k) (e : Ev G v) : Ev g v := by
  obtain ⟨K, hK⟩ := e
  refine ⟨K + 1, fun k hk => ?_⟩
  obtain ⟨m, rfl⟩ : ∃ m, k = m + 1 := ⟨k - 1, by omega⟩
  rw [h, hK m (by omega)]
theorem Ev.congr {α : Type} {g G : Nat → Option α} {v : α} (h : ∀ k, g k = G k) (e : Ev G v) : Ev g v := by
  obtain ⟨K, hK⟩ := e
  exact ⟨K, fun k hk => by rw [h, hK k hk]⟩
theorem Ev.bind {α β : Type} {g : Nat → Option β} {h : Nat → β → Option α} {v : β} {u : α} (e1 : Ev g v) (e2 : Ev (fun k => h k v) u) : Ev (fun k => (g k).bind (h k)) u := by
  obtain ⟨K, hK⟩ := e1
  obtain ⟨M, hM⟩ := e2
  exact ⟨max K M, fun k hk => by show (g k).bind (h k) = some u; rw [hK k (by omega)]; exact hM k (by omega)⟩
theorem Ev.bind0 {α β : Type} {g : Option β} {h : Nat → β → Option α} {v : β} {u : α} (e1 : g = some v) (e2 : Ev (fun k => h k v) u) : Ev (fun k => g.bind (h k)) u := by
  subst e1; exact e2
theorem w64 {n : Int} (h0 : -9223372036854775808 ≤ n) (h1 : n ≤ 9223372036854775807) : wrap64 n = n := by unfold wrap64; omega

theorem rdT {x : List S23} {i : Nat} (h : i < x.length) : rd_T23 x (i : Int) = x[i] := by
  unfold rd_T23
  rw [Int.toNat_natCast, List.getD_eq_getElem?_getD, List.getElem?_eq_getElem h]; rfl
theorem rdI {x : List Int} {i : Nat} (h : i < x.length) : rd x (i : Int) = x[i] := by
  unfold rd
  rw [Int.toNat_natCast, List.getD_eq_getElem?_getD, List.getElem?_eq_getElem h]; rfl
theorem to_map (l : List R) : (l.map ofR).map toR = l := by
  rw [List.map_map]; exact List.map_id'' (fun r => to_of r) l
theorem rg64 {l : List R} (h : Rg l) : ∀ s ∈ l.map ofR, I64 (toR s) := by
  intro s hs
  obtain ⟨r, hr, rfl⟩ := List.mem_map.1 hs
  exact chk64 (h.chk r hr)
theorem okL_of {l : List R} (h : Rg l) (hl : l.length ≤ 200000) : okL (l.map ofR) = true := by
  simp only [okL, Bool.and_eq_true, decide_eq_true_eq, List.all_eq_true]
  refine ⟨by simpa using hl, fun s hs => ?_⟩
  have := rg64 h s hs
  unfold I64 toR at this
  simp only [okS, Bool.and_eq_true, i64b_iff]
  exact this
theorem Has_f {l : List R} (h : Rg l) (hl : l.length ≤ 200000) {p q : Int} (hp : -9223372036854775808 ≤ p ∧ p ≤ 9223372036854775807) (hq : -9223372036854775808 ≤ q ∧ q ≤ 9223372036854775807) : region_Has.f (l.map ofR) p q = some (hasL l p q) := by
  unfold region_Has.f
  rw [okL_of h hl, i64b_iff.2 hp, i64b_iff.2 hq, if_pos (by rfl), to_map, show (bandsF l).isSome = true from h, Bool.true_and]
theorem Check_f {l : List R} (h : Rg l) (hl : l.length ≤ 200000) : region_Check.f (l.map ofR) = some true := by
  unfold region_Check.f
  rw [okL_of h hl, if_pos (by rfl), to_map, show (bandsF l).isSome = true from h]
theorem Union_f {a b : List R} (ha : Rg a) (hb : Rg b) (la : a.length ≤ 200000) (lb : b.length ≤ 200000) : region_Union.f (a.map ofR) (b.map ofR) = some ((joinF (· || ·) a b).map ofR) := by
  unfold region_Union.f; rw [okL_of ha la, okL_of hb lb, if_pos (by rfl), to_map, to_map]
theorem Subtract_f {a b : List R} (ha : Rg a) (hb : Rg b) (la : a.length ≤ 200000) (lb : b.length ≤ 200000) : region_Subtract.f (a.map ofR) (b.map ofR) = some ((joinF (fun a b => a && !b) a b).map ofR) := by
  unfold region_Subtract.f; rw [okL_of ha la, okL_of hb lb, if_pos (by rfl), to_map, to_map]
theorem Intersect_f {a b : List R} (ha : Rg a) (hb : Rg b) (la : a.length ≤ 200000) (lb : b.length ≤ 200000) : region_Intersect.f (a.map ofR) (b.map ofR) = some ((joinF (· && ·) a b).map ofR) := by
  unfold region_Intersect.f; rw [okL_of ha la, okL_of hb lb, if_pos (by rfl), to_map, to_map]
theorem Place_eq (a m : Int) (hm : 0 < m) (hm2 : m ≤ 9223372036854775807) : ∃ v, tableaulaw00_Place.f a m = some v ∧ 0 ≤ v ∧ v < m := by
  have h1 := Int.tmod_lt_of_pos a hm
  have h2 := Int.lt_tmod_of_pos a hm
  unfold tableaulaw00_Place.f
  rw [if_neg (by omega)]
  by_cases h : Int.tmod a m < 0
  · rw [if_pos h, w64 (by omega) (by omega)]; exact ⟨_, rfl, by omega, by omega⟩
  · rw [if_neg h]; exact ⟨_, rfl, by omega, by omega⟩
theorem Ev.pos {α : Type} {c : Prop} [Decidable c] {g h : Nat → Option α} {v : α} (hc : c) (e : Ev g v) : Ev (fun k => if c then g k else h k) v := Ev.congr (fun k => if_pos hc) e
theorem Ev.neg {α : Type} {c : Prop} [Decidable c] {g h : Nat → Option α} {v : α} (hc : ¬ c) (e : Ev h v) : Ev (fun k => if c then g k else h k) v := Ev.congr (fun k => if_neg hc) e
theorem Same_l {l : List S23} (hl : l.length ≤ 1000000) : ∀ (n i : Nat), i + n = l.length → Ev (fun k => tableaulaw00_SameRects.l0 k l l (i : Int)) true
  | 0, i, h => Ev.next (G := fun k => some true) (fun k => by rw [tableaulaw00_SameRects.l0, if_neg (by omega)]) (Ev.ret _)
  | n + 1, i, h => by
    refine Ev.next (fun k => ?_) (Same_l hl n (i + 1) (by omega))
    rw [tableaulaw00_SameRects.l0, if_pos (by omega), if_pos (by omega), if_pos (by omega), if_neg (by simp), w64 (by omega) (by omega)]
    rfl
theorem SameRects_eq {l : List S23} (hl : l.length ≤ 1000000) : Ev (fun k => tableaulaw00_SameRects.f k l l) true := by
  unfold tableaulaw00_SameRects.f
  exact Ev.pos rfl (Same_l hl l.length 0 (by omega))
theorem SameRects_of {a b : List R} (h : a = b) (hl : a.length ≤ 1000000) : Ev (fun k => tableaulaw00_SameRects.f k (a.map ofR) (b.map ofR)) true := by
  subst h; exact SameRects_eq (by rw [List.length_map]; exact hl)
end Go.Proofs.Ytogcokfildbodaa.PO
