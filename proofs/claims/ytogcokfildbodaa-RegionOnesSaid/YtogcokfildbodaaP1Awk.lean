/- The shared part: what holds from some fuel on; the program's functions over regions as the plain ones, Place, SameRects. -/
import Derived.Test.YtogcokfildbodaaP1Given
import Derived.Test.YtogcokfildbodaaP1x3
set_option linter.unusedSimpArgs false
namespace Go.Proofs.Ytogcokfildbodaa.P1
open Go.RowKit Go.Proofs.YtogcokfildbodaaW.PrintWords Go.Proofs.Ytogcokfildbodaa.Reg Go.Proofs.Ytogcokfildbodaa.Rect Go.Proofs.Ytogcokfildbodaa.Wk
set_option linter.unusedVariables false

/-- From some fuel on. -/
def Ev {α : Type} (g : Nat → Option α) (v : α) : Prop := ∃ K, ∀ k, K ≤ k → g k = some v
theorem Ev.ret {α : Type} (v : α) : Ev (fun _ => some v) v := ⟨0, fun _ _ => rfl⟩
theorem Ev.of {α : Type} {g : Option α} {v : α} (h : g = some v) : Ev (fun _ => g) v := ⟨0, fun _ _ => h⟩
theorem Ev.next {α : Type} {g G : Nat → Option α} {v : α} (h : ∀ k, g (k + 1) = G k) (e : Ev G v) : Ev g v := by
  obtain ⟨K, hK⟩ := e
  refine ⟨K + 1, fun k hk => ?_⟩
  obtain ⟨m, rfl⟩ : ∃ m, k = m + 1 := ⟨k - 1, by omega⟩
  rw [h, hK m (by omega)]
theorem Ev.congr {α : Type} {g G : Nat → Option α} {v : α} (h : ∀ k, g k = G k) (e : Ev G v) : Ev g v := by
  obtain ⟨K, hK⟩ := e
  exact ⟨K, fun k hk => by rw [h, hK k hk]⟩
theorem Ev.bind {α β : Type} {g : Nat → Option β} {h : Nat → β → Option α} {v : β} {u : α} (e1 : Ev g v) (e2 : Ev (fun k => h k v) u) : Ev (fun k => (g k).bind (h k)) u := by
  obtain ⟨K, hK⟩ := e1
  obtain ⟨M, hM⟩ := e2
  exact ⟨max K M, fun k hk => by show (g k).bind (h k) = some u; rw [hK k (by omega)]; exact hM k (by omega)⟩
theorem Ev.bind0 {α β : Type} {g : Option β} {h : Nat → β → Option α} {v : β} {u : α} (e1 : g = some v) (e2 : Ev (fun k => h k v) u) : Ev (fun k => g.bind (h k)) u := by
  subst e1; exact e2
theorem w64 {n : Int} (h0 : -9223372036854775808 ≤ n) (h1 : n ≤ 9223372036854775807) : wrap64 n = n := by unfold wrap64; omega

theorem rdT {x : List S23} {i : Nat} (h : i < x.length) : rd_T23 x (i : Int) = x[i] := by
  unfold rd_T23
  rw [Int.toNat_natCast, List.getD_eq_getElem?_getD, List.getElem?_eq_getElem h]; rfl
theorem rdI {x : List Int} {i : Nat} (h : i < x.length) : rd x (i : Int) = x[i] := by
  unfold rd
  rw [Int.toNat_natCast, List.getD_eq_getElem?_getD, List.getElem?_eq_getElem h]; rfl
theorem to_map (l : List R) : (l.map ofR).map toR = l := by
  rw [List.map_map]; exact List.map_id'' (fun r => to_of r) l
theorem rg64 {l : List R} (h : Rg l) : ∀ s ∈ l.map ofR, I64 (toR s) := by
  intro s hs
  obtain ⟨r, hr, rfl⟩ := List.mem_map.1 hs
  exact chk64 (h.chk r hr)
theorem okL_of {l : List R} (h : Rg l) (hl : l.length ≤ 200000) : okL (l.map ofR) = true := by
  simp only [okL, Bool.and_eq_true, decide_eq_true_eq, List.all_eq_true]
  refine ⟨by simpa using hl, fun s hs => ?_⟩
  have := rg64 h s hs
  unfold I64 toR at this
  simp only [okS, Bool.and_eq_true, i64b_iff]
  exact this
theorem Has_f {l : List R} (h : Rg l) (hl : l.length ≤ 200000) {p q : Int} (hp : -9223372036854775808 ≤ p ∧ p ≤ 9223372036854775807) (hq : -9223372036854775808 ≤ q ∧ q ≤ 9223372036854775807) : region_Has.f (l.map ofR) p q = some (hasL l p q) := by
  unfold region_Has.f
  rw [okL_of h hl, i64b_iff.2 hp, i64b_iff.2 hq, if_pos (by rfl), to_map, show (bandsF l).isSome = true from h, Bool.true_and]
theorem Check_f {l : List R} (h : Rg l) (hl : l.length ≤ 200000) : region_Check.f (l.map ofR) = some true := by
  unfold region_Check.f
  rw [okL_of h hl, if_pos (by rfl), to_map, show (bandsF l).isSome = true from h]
theorem Union_f {a b : List R} (ha : Rg a) (hb : Rg b) (la : a.length ≤ 200000) (lb : b.length ≤ 200000) : region_Union.f (a.map ofR) (b.map ofR) = some ((joinF (· || ·) a b).map ofR) := by
  unfold region_Union.f; rw [okL_of ha la, okL_of hb lb, if_pos (by rfl), to_map, to_map]
theorem Subtract_f {a b : List R} (ha : Rg a) (hb : Rg b) (la : a.length ≤ 200000) (lb : b.length ≤ 200000) : region_Subtract.f (a.map ofR) (b.map ofR) = some ((joinF (fun a b => a && !b) a b).map ofR) := by
  unfold region_Subtract.f; rw [okL_of ha la, okL_of hb lb, if_pos (by rfl), to_map, to_map]
theorem Intersect_f {a b : List R} (ha : Rg a) (hb : Rg b) (la : a.length ≤ 200000) (lb : b.length ≤ 200000) : region_Intersect.f (a.map ofR) (b.map ofR) = some ((joinF (· && ·) a b).map ofR) := by
  unfold region_Intersect.f; rw [okL_of ha la, okL_of hb lb, if_pos (by rfl), to_map, to_map]
theorem Ev.pos {α : Type} {c : Prop} [Decidable c] {g h : Nat → Option α} {v : α} (hc : c) (e : Ev g v) : Ev (fun k => if c then g k else h k) v := Ev.congr (fun k => if_pos hc) e
theorem Ev.neg {α : Type} {c : Prop} [Decidable c] {g h : Nat → Option α} {v : α} (hc : ¬ c) (e : Ev h v) : Ev (fun k => if c then g k else h k) v := Ev.congr (fun k => if_neg hc) e
theorem awake_eq : Ev (fun k => tableaulaw08_awake.f k) true := by
  have h1 : joinF (· || ·) [⟨0, 0, 2, 2⟩] [⟨2, 0, 2, 2⟩] = [(⟨0, 0, 4, 2⟩ : R)] := by decide
  have r1 : Rg [(⟨0, 0, 2, 2⟩ : R)] := by unfold Rg; decide
  have r2 : Rg [(⟨2, 0, 2, 2⟩ : R)] := by unfold Rg; decide
  have r3 : Rg [(⟨0, 0, 4, 2⟩ : R)] := by unfold Rg; decide
  have hu := Union_f r1 r2 (by simp) (by simp)
  rw [h1] at hu
  unfold tableaulaw08_awake.f
  refine Ev.bind0 hu ?_
  show Ev (fun k => (region_Has.f ([(⟨0, 0, 4, 2⟩ : R)].map ofR) 3 1).bind fun t114 => if t114 = true then (region_Area.f k ([(⟨0, 0, 4, 2⟩ : R)].map ofR)).bind fun t => some (t == 8) else some false) true
  refine Ev.bind0 (Has_f r3 (by simp) (p := 3) (q := 1) (by omega) (by omega)) ?_
  show Ev (fun k => (region_Area.f k ([(⟨0, 0, 4, 2⟩ : R)].map ofR)).bind fun t => some (t == 8)) true
  refine Ev.bind (v := 8) ?_ (Ev.ret _)
  unfold region_Area.f
  refine Ev.bind0 (Check_f r3 (by simp)) ?_
  show Ev (fun k => region_Area.l0 k 0 ([(⟨0, 0, 4, 2⟩ : R)].map ofR) 1 0) 8
  exact Ev.next (G := fun k => region_Area.l0 k 8 ([(⟨0, 0, 4, 2⟩ : R)].map ofR) 1 1) (fun k => by rw [region_Area.l0, if_pos (by decide), if_pos (by decide), if_pos (by decide), show (rd_T23 ([(⟨0, 0, 4, 2⟩ : R)].map ofR) 0).f2 = 4 from rfl, show (rd_T23 ([(⟨0, 0, 4, 2⟩ : R)].map ofR) 0).f3 = 2 from rfl, w64 (n := 4 * 2) (by omega) (by omega), w64 (n := 0 + 4 * 2) (by omega) (by omega), w64 (n := 0 + 1) (by omega) (by omega)]; rfl) (Ev.next (G := fun k => some 8) (fun k => by rw [region_Area.l0, if_neg (by decide)]) (Ev.ret _))
end Go.Proofs.Ytogcokfildbodaa.P1
