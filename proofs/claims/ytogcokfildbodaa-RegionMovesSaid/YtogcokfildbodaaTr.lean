/- A region moved where nothing is cut: rectangle by rectangle. Plain; no program. -/
import Derived.Test.YtogcokfildbodaaRegMath
set_option linter.unusedVariables false
set_option linter.unusedSimpArgs false
namespace Go.Proofs.Ytogcokfildbodaa.Reg
open Go.Proofs.Ytogcokfildbodaa.Rect

def trG {α β : Type} (m : Int) (g : α → β) (s : Seg α) : Seg β := ⟨s.f + m, s.t + m, g s.v⟩
def trR (x y : Int) (r : R) : R := ⟨r.x + x, r.y + y, r.w, r.h⟩
theorem ok_tr {α β : Type} (m : Int) (g : α → β) (hg : ∀ a b, g a = g b → a = b) : ∀ {l : List (Seg α)} {lo : Int}, Ok lo l → Ok (lo + m) (l.map (trG m g))
  | [], _, _ => trivial
  | s :: r, lo, h => by
    obtain ⟨h1, h2, h3, h4⟩ := h
    refine ⟨by unfold trG; simp only; omega, by unfold trG; simp only; omega, ok_tr m g hg h3, fun b hb he => ?_⟩
    cases r with
    | nil => simp at hb
    | cons c r =>
      simp only [List.map_cons, List.head?_cons, Option.some.injEq] at hb
      subst hb
      intro e
      exact h4 c rfl (by unfold trG at he; simp only at he; omega) (hg _ _ e)
def trB (x y : Int) : Bd → Bd := trG y (fun v => v.map (trG x id))
theorem trS_inj (x : Int) : ∀ a b : Sp, trG x id a = trG x id b → a = b := by
  rintro ⟨a, b, u⟩ ⟨c, d, v⟩ h
  unfold trG at h
  simp only [Seg.mk.injEq] at h ⊢
  exact ⟨by omega, by omega, h.2.2⟩
theorem map_inj {α β : Type} {f : α → β} (hf : ∀ a b, f a = f b → a = b) : ∀ a b : List α, a.map f = b.map f → a = b
  | [], [], _ => rfl
  | [], _ :: _, h => by simp at h
  | _ :: _, [], h => by simp at h
  | a :: l, b :: m, h => by
    simp only [List.map_cons, List.cons.injEq] at h
    rw [hf _ _ h.1, map_inj hf l m h.2]
theorem canon_tr {B : List Bd} (h : Canon B) (x y : Int) : Canon (B.map (trB x y)) := by
  obtain ⟨⟨lo, h1⟩, h2⟩ := h
  refine ⟨⟨_, ok_tr y _ (map_inj (trS_inj x)) h1⟩, fun b hb => ?_⟩
  obtain ⟨c, hc, rfl⟩ := List.mem_map.1 hb
  obtain ⟨h3, lo2, h4⟩ := h2 c hc
  exact ⟨by unfold trB trG; simpa using h3, _, ok_tr x id (fun _ _ e => e) h4⟩
theorem flat_tr (x y : Int) : ∀ B : List Bd, flat (B.map (trB x y)) = (flat B).map (trR x y)
  | [] => rfl
  | b :: B => by
    rw [List.map_cons, flat_cons, flat_cons, List.map_append, flat_tr x y B]
    congr 1
    unfold bdR trB trG
    simp only [List.map_map]
    refine List.map_congr_left fun s _ => ?_
    unfold spR trR
    simp only [Function.comp, R.mk.injEq]
    refine ⟨trivial, trivial, ?_, ?_⟩ <;> omega
theorem rg_tr {M : List R} (h : Rg M) {x y : Int} (hc : ∀ r ∈ M, chkR (trR x y r)) : Rg (M.map (trR x y)) := by
  obtain ⟨B, c, e, _⟩ := h.reg
  refine bands_iff.2 ⟨fun r hr => ?_, inB (B.map (trB x y)), B.map (trB x y), canon_tr c x y, ?_, fun _ _ => Iff.rfl⟩
  · obtain ⟨s, hs, rfl⟩ := List.mem_map.1 hr
    exact hc s hs
  · rw [flat_tr, ← e]
theorem in_tr {r : R} {x y p q : Int} : inR (trR x y r) p q ↔ inR r (p - x) (q - y) := by
  unfold inR trR; simp only; omega
theorem has_tr (M : List R) (x y p q : Int) : hasL (M.map (trR x y)) p q = hasL M (p - x) (q - y) := by
  rw [Bool.eq_iff_iff, hasL_iff, hasL_iff]
  constructor
  · rintro ⟨r, hr, h⟩
    obtain ⟨s, hs, rfl⟩ := List.mem_map.1 hr
    exact ⟨s, hs, in_tr.1 h⟩
  · rintro ⟨r, hr, h⟩
    exact ⟨_, List.mem_map_of_mem hr, in_tr.2 h⟩
theorem shift_tr {M : List R} (h : Rg M) {x y : Int} (hx : farB x = false) (hy : farB y = false) (hc : ∀ r ∈ M, chkR (trR x y r)) : shiftF M x y = M.map (trR x y) := by
  refine (rg_shift M x y).ext (rg_tr h hc) fun p q => ?_
  rw [Bool.eq_iff_iff, (shift_spec hx hy h).has, has_tr]
  refine ⟨fun e => e.1, fun e => ⟨e, ?_⟩⟩
  obtain ⟨r, hr, hi⟩ := hasL_iff.1 e
  have hk := hc r hr
  unfold chkR trR at hk
  unfold inR at hi
  simp only at hk
  unfold fld; omega
theorem area_tr (x y : Int) : ∀ M : List R, area (M.map (trR x y)) = area M
  | [] => rfl
  | r :: M => by rw [List.map_cons, area_cons, area_cons, area_tr x y M]; rfl
theorem tr_back (x y : Int) (M : List R) : (M.map (trR x y)).map (trR (-x) (-y)) = M := by
  rw [List.map_map]
  have : (trR (-x) (-y)) ∘ (trR x y) = id := by
    funext r
    obtain ⟨a, b, c, d⟩ := r
    unfold trR
    simp only [Function.comp, id, R.mk.injEq]
    refine ⟨?_, ?_, trivial, trivial⟩ <;> omega
  rw [this, List.map_id]
end Go.Proofs.Ytogcokfildbodaa.Reg
