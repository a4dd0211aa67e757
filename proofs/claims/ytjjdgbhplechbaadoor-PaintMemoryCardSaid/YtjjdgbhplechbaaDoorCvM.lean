/- The canvas, plain: what is in a clip, what is painted. No program. -/
import Derived.Test.YtjjdgbhplechbaaDoorCv3
set_option linter.unusedVariables false
set_option linter.unusedSimpArgs false
namespace Go.Proofs.YtjjdgbhplechbaaDoor.Cv
open Go.RowKit Go.Proofs.YtjjdgbhplechbaaDoor.Kit Go.Proofs.YtjjdgbhplechbaaDoor.Rect

/-- one more rectangle of the clip -/
def addR (all : R) (acc : List R) (r : R) : List R :=
  if emp (rCut (rBound r) all) then acc else if acc.any (fun s => eqR (rCut (rBound r) all) s) then acc else acc ++ [rCut (rBound r) all]
def clipL (all : R) (l : List R) : List R := l.foldl (addR all) []
theorem clip_step (all : R) (l : List R) {k : Nat} (hk : k < l.length) : clipL all (l.take (k + 1)) = addR all (clipL all (l.take k)) l[k] := by
  unfold clipL
  rw [← List.take_append_getElem hk, List.foldl_append]
  rfl
theorem addR_len (all : R) (acc : List R) (r : R) : (addR all acc r).length ≤ acc.length + 1 := by
  unfold addR
  split
  · omega
  · split <;> simp
theorem clip_len (all : R) (l : List R) : ∀ k, k ≤ l.length → (clipL all (l.take k)).length ≤ k
  | 0, _ => by simp [clipL]
  | k + 1, h => by
    rw [clip_step all l (by omega)]
    have := addR_len all (clipL all (l.take k)) l[k]
    have := clip_len all l k (by omega)
    omega
theorem sm_all {W H : Nat} (hW : W ≤ 48) (hH : H ≤ 48) : Sm ⟨0, 0, (W : Int), (H : Int)⟩ := by unfold Sm; simp only; omega
theorem clip_i64 {W H : Nat} (hW : W ≤ 48) (hH : H ≤ 48) (l : List R) : ∀ k, k ≤ l.length → ∀ r ∈ clipL ⟨0, 0, (W : Int), (H : Int)⟩ (l.take k), I64 r
  | 0, _, r, hr => by simp [clipL] at hr
  | k + 1, h, r, hr => by
    rw [clip_step _ l (by omega)] at hr
    unfold addR at hr
    have ih := clip_i64 hW hH l k (by omega)
    split at hr
    · exact ih r hr
    · split at hr
      · exact ih r hr
      · rcases List.mem_append.1 hr with hr | hr
        · exact ih r hr
        · obtain rfl := List.mem_singleton.1 hr
          exact i64_cut (fun _ => bound_sm _) (fun _ => sm_all hW hH)
/-- is a point in a clip? -/
def inn (l : List R) (x y : Int) : Bool := l.any fun r => rHas (rBound r) x y
theorem addR_any {all : R} {x y : Int} (h : rHas all x y = true) (acc : List R) (r : R) :
    ((addR all acc r).any fun s => rHas s x y) = ((acc.any fun s => rHas s x y) || rHas (rBound r) x y) := by
  have e : rHas (rCut (rBound r) all) x y = rHas (rBound r) x y := by rw [has_cut, h, Bool.and_true]
  unfold addR
  split
  · rename_i he
    have : rHas (rCut (rBound r) all) x y = false := by
      rw [Bool.eq_false_iff, ne_eq, has_iff]
      exact inR_emp he
    rw [← e, this, Bool.or_false]
  · split
    · rename_i he
      obtain ⟨s, hs, hq⟩ := List.any_eq_true.1 he
      rw [eqR_iff] at hq
      cases hb : rHas (rBound r) x y with
      | false => rw [Bool.or_false]
      | true =>
        rw [Bool.or_true]
        exact List.any_eq_true.2 ⟨s, hs, by rw [← hq, e, hb]⟩
    · rw [List.any_append, List.any_cons, List.any_nil, Bool.or_false, e]
theorem clip_any {all : R} {x y : Int} (h : rHas all x y = true) (l : List R) : ((clipL all l).any fun s => rHas s x y) = inn l x y := by
  have g : ∀ (l acc : List R), ((l.foldl (addR all) acc).any fun s => rHas s x y) = ((acc.any fun s => rHas s x y) || inn l x y) := by
    intro l
    induction l with
    | nil => intro acc; simp [inn]
    | cons r l ih =>
      intro acc
      rw [List.foldl_cons, ih, addR_any h]
      simp only [inn, List.any_cons, Bool.or_assoc]
  have := g l []
  simpa [clipL] using this
theorem has_all {W H : Nat} {x y : Nat} (hx : x < W) (hy : y < H) : rHas ⟨0, 0, (W : Int), (H : Int)⟩ (x : Int) (y : Int) = true := by
  rw [has_iff]
  unfold inR
  simp only
  omega

/-- the points, the first k of them painted -/
def pnt (q : Nat → Bool) (f : Nat → Int → Int) (k : Nat) (L : List Int) : List Int := L.mapIdx fun i v => if decide (i < k) && q i then f i v else v
section
variable {q : Nat → Bool} {f : Nat → Int → Int} {L : List Int} {k : Nat}
theorem pnt_len : (pnt q f k L).length = L.length := by simp [pnt]
theorem pnt_get {i : Nat} (h : i < L.length) : (pnt q f k L)[i]'(by rw [pnt_len]; exact h) = if decide (i < k) && q i then f i L[i] else L[i] := by simp [pnt]
theorem pnt_zero : pnt q f 0 L = L := by
  apply List.ext_getElem pnt_len
  intro i h1 h2
  rw [pnt_get h2]
  simp
theorem pnt_at (h : k < L.length) : (pnt q f k L)[k]? = some L[k] := by
  rw [List.getElem?_eq_getElem (by rw [pnt_len]; exact h), pnt_get h]
  simp
theorem pnt_step (h : k < L.length) : pnt q f (k + 1) L = if q k then (pnt q f k L).set k (f k L[k]) else pnt q f k L := by
  cases hq : q k with
  | true =>
    rw [if_pos rfl]
    apply List.ext_getElem
    · simp [pnt_len]
    intro i h1 h2
    have hi : i < L.length := by rw [pnt_len] at h1; exact h1
    rw [pnt_get hi]
    by_cases hik : i = k
    · subst hik
      simp [hq]
    · have e : decide (i < k + 1) = decide (i < k) := by
        rw [decide_eq_decide]
        omega
      rw [e, List.getElem_set_ne (Ne.symm hik), pnt_get hi]
  | false =>
    rw [if_neg (by simp)]
    apply List.ext_getElem
    · simp [pnt_len]
    intro i h1 h2
    have hi : i < L.length := by rw [pnt_len] at h1; exact h1
    rw [pnt_get hi, pnt_get hi]
    by_cases hik : i = k
    · subst hik
      simp [hq]
    · have e : decide (i < k + 1) = decide (i < k) := by
        rw [decide_eq_decide]
        omega
      rw [e]
theorem pnt_u32 (hL : ∀ v ∈ L, 0 ≤ v ∧ v < 4294967296) (hf : ∀ i v, 0 ≤ v ∧ v < 4294967296 → 0 ≤ f i v ∧ f i v < 4294967296) : ∀ v ∈ pnt q f k L, 0 ≤ v ∧ v < 4294967296 := by
  intro v hv
  obtain ⟨i, hi, rfl⟩ := List.mem_iff_getElem.1 hv
  have hi' : i < L.length := by rw [pnt_len] at hi; exact hi
  rw [pnt_get hi']
  split
  · exact hf _ _ (hL _ (List.getElem_mem _))
  · exact hL _ (List.getElem_mem _)
end
/-- what a clip and a way of painting make of a canvas -/
def drawn (W H : Nat) (l : List R) (f : Nat → Nat → Int → Int) (L : List Int) : List Int :=
  pnt (fun i => inn l ((i % W : Nat) : Int) ((i / W : Nat) : Int)) (fun i v => f (i % W) (i / W) v) (W * H) L
theorem drawn_at {W H : Nat} {l : List R} {f : Nat → Nat → Int → Int} {L : List Int} {x y : Nat} (hL : L.length = W * H) (hx : x < W) (hy : y < H) :
    atP W H (drawn W H l f L) x y = if inn l x y then f x y (atP W H L x y) else atP W H L x y := by
  have hlt : y * W + x < L.length := by rw [hL]; have := mul_le (W := W) hy; omega
  have a : ∀ M : List Int, atP W H M x y = M.getD (y * W + x) 0 := by
    intro M
    unfold atP
    rw [if_pos (by omega)]
    simp
  have m1 : (y * W + x) % W = x := by rw [Nat.add_comm, Nat.add_mul_mod_self_right, Nat.mod_eq_of_lt hx]
  have m2 : (y * W + x) / W = y := by rw [Nat.add_comm, Nat.add_mul_div_right _ _ (by omega), Nat.div_eq_of_lt hx, Nat.zero_add]
  rw [a, a]
  have g : (drawn W H l f L).getD (y * W + x) 0 = (drawn W H l f L)[y * W + x]'(by unfold drawn; rw [pnt_len]; exact hlt) := by
    rw [List.getD_eq_getElem?_getD, List.getElem?_eq_getElem (by unfold drawn; rw [pnt_len]; exact hlt), Option.getD_some]
  rw [g]
  unfold drawn
  rw [pnt_get hlt, m1, m2]
  have d : decide (y * W + x < W * H) = true := by rw [decide_eq_true_iff, ← hL]; exact hlt
  have g2 : L.getD (y * W + x) 0 = L[y * W + x] := by simp [hlt]
  rw [d, Bool.true_and, g2]
/-- the first k points painted -/
def pk (W : Nat) (l : List R) (f : Nat → Nat → Int → Int) (k : Nat) (L : List Int) : List Int :=
  pnt (fun i => inn l ((i % W : Nat) : Int) ((i / W : Nat) : Int)) (fun i v => f (i % W) (i / W) v) k L
section
variable {W : Nat} {l : List R} {f : Nat → Nat → Int → Int} {k : Nat} {L : List Int}
theorem pk_len : (pk W l f k L).length = L.length := pnt_len
theorem pk_zero : pk W l f 0 L = L := pnt_zero
theorem pk_all {H : Nat} : pk W l f (W * H) L = drawn W H l f L := rfl
theorem pk_at (h : k < L.length) : (pk W l f k L)[k]? = some L[k] := pnt_at h
theorem pk_u32 (hL : ∀ v ∈ L, 0 ≤ v ∧ v < 4294967296) (hf : ∀ x y v, 0 ≤ v ∧ v < 4294967296 → 0 ≤ f x y v ∧ f x y v < 4294967296) : ∀ v ∈ pk W l f k L, 0 ≤ v ∧ v < 4294967296 := pnt_u32 hL fun i v h => hf _ _ v h
theorem at_mod {x y W : Nat} (hx : x < W) : (y * W + x) % W = x ∧ (y * W + x) / W = y :=
  ⟨by rw [Nat.add_comm, Nat.add_mul_mod_self_right, Nat.mod_eq_of_lt hx], by rw [Nat.add_comm, Nat.add_mul_div_right _ _ (by omega), Nat.div_eq_of_lt hx, Nat.zero_add]⟩
theorem pk_t {x y : Nat} (hx : x < W) (h : y * W + x < L.length) (hi : inn l (x : Int) (y : Int) = true) : pk W l f (y * W + (x + 1)) L = (pk W l f (y * W + x) L).set (y * W + x) (f x y L[y * W + x]) := by
  obtain ⟨e1, e2⟩ := at_mod (y := y) hx
  unfold pk
  rw [← Nat.add_assoc, pnt_step h]
  simp only [e1, e2, hi, if_true]
theorem pk_f {x y : Nat} (hx : x < W) (h : y * W + x < L.length) (hi : inn l (x : Int) (y : Int) = false) : pk W l f (y * W + (x + 1)) L = pk W l f (y * W + x) L := by
  obtain ⟨e1, e2⟩ := at_mod (y := y) hx
  unfold pk
  rw [← Nat.add_assoc, pnt_step h]
  simp only [e1, e2, hi, Bool.false_eq_true, if_false]
end
end Go.Proofs.YtjjdgbhplechbaaDoor.Cv
