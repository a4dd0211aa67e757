/- PaintFolds, plain: each point is the fold of what the views have there. No program. -/
import Derived.Test.YtjjdgbhplechbaaDoorCvA
set_option linter.unusedVariables false
set_option linter.unusedSimpArgs false
namespace Go.Proofs.YtjjdgbhplechbaaDoor.Cv
open Go.RowKit Go.Proofs.YtjjdgbhplechbaaDoor.Kit Go.Proofs.YtjjdgbhplechbaaDoor.Rect Go.Proofs.YtjjdgbhplechbaaDoor.Pix

/-- what a view makes of a point -/
def onePt (X Y Wd Hd : Int) (P : List Int) (x y : Int) (o : Int) : Int :=
  if okD X Y Wd Hd ∧ rHas ⟨X, Y, Wd, Hd⟩ x y = true ∧ ((y - Y) * Wd + x - X).toNat < P.length then ovr o (P.getD ((y - Y) * Wd + x - X).toNat 0) else o
def foldV (m : List Im) (x y : Int) (o : Int) (v : Vw) : Int :=
  match findI m v.b with
  | none => o
  | some g => onePt v.x v.y g.w g.h g.P x y o
theorem drawO_len {W H : Nat} {clip : List R} {X Y Wd Hd : Int} {P L : List Int} : (drawO W H clip X Y Wd Hd P L).length = L.length := by
  unfold drawO
  split
  · unfold drawn; exact pnt_len
  · rfl
theorem paintV_len {W H : Nat} {clip : List R} {m : List Im} {L : List Int} {v : Vw} : (paintV W H clip m L v).length = L.length := by
  unfold paintV
  split
  · rfl
  · exact drawO_len
theorem at_paintV {W H : Nat} {clip : List R} {m : List Im} {L : List Int} {v : Vw} {x y : Nat} (hL : L.length = W * H) (hx : x < W) (hy : y < H) (hi : inn clip (x : Int) (y : Int) = true) :
    atP W H (paintV W H clip m L v) (x : Int) (y : Int) = foldV m (x : Int) (y : Int) (atP W H L (x : Int) (y : Int)) v := by
  unfold paintV foldV
  cases findI m v.b with
  | none => rfl
  | some g =>
    simp only
    unfold drawO onePt
    by_cases ho : okD v.x v.y g.w g.h
    · rw [if_pos ho, drawn_at hL hx hy, if_pos hi]
      unfold drawF
      by_cases h2 : rHas ⟨v.x, v.y, g.w, g.h⟩ (x : Int) (y : Int) = true ∧ (((y : Int) - v.y) * g.w + (x : Int) - v.x).toNat < g.P.length
      · rw [if_pos h2, if_pos ⟨ho, h2⟩]
      · rw [if_neg h2, if_neg (fun q => h2 q.2)]
    · rw [if_neg ho, if_neg (fun q => ho q.1)]
theorem inn_field {W H x y : Nat} (hW : W ≤ 48) (hH : H ≤ 48) (hx : x < W) (hy : y < H) : inn [⟨0, 0, (W : Int), (H : Int)⟩] (x : Int) (y : Int) = true := by
  simp only [inn, List.any_cons, List.any_nil, Bool.or_false]
  rw [has_iff, inR_bound]
  unfold inR
  simp only
  omega
theorem at_fold {W H : Nat} {clip : List R} {m : List Im} {x y : Nat} (hx : x < W) (hy : y < H) (hi : inn clip (x : Int) (y : Int) = true) :
    ∀ (l : List Vw) (L : List Int), L.length = W * H → atP W H (l.foldl (paintV W H clip m) L) (x : Int) (y : Int) = l.foldl (foldV m (x : Int) (y : Int)) (atP W H L (x : Int) (y : Int))
  | [], L, _ => rfl
  | v :: l, L, hL => by
    rw [List.foldl_cons, List.foldl_cons, at_fold hx hy hi l _ (by rw [paintV_len]; exact hL), at_paintV hL hx hy hi]
theorem at_allL {W H : Nat} {back : Int} {l : List Vw} {m : List Im} {L : List Int} {x y : Nat} (hW : W ≤ 48) (hH : H ≤ 48) (hL : L.length = W * H) (hx : x < W) (hy : y < H) :
    atP W H (allL W H back l m L) (x : Int) (y : Int) = l.foldl (foldV m (x : Int) (y : Int)) back := by
  unfold allL
  rw [at_fold hx hy (inn_field hW hH hx hy) l _ (by unfold drawn; rw [pnt_len]; exact hL), drawn_at hL hx hy, if_pos (inn_field hW hH hx hy)]
theorem find_pl {m l : List Im} (h : m.map pl = l.map pl) (i : Int) : (findI m i).map pl = (findI l i).map pl := by
  induction m generalizing l with
  | nil =>
    cases l with
    | nil => rfl
    | cons a l => simp at h
  | cons g m ih =>
    cases l with
    | nil => simp at h
    | cons a l =>
      simp only [List.map_cons, List.cons.injEq] at h
      have hb : g.b = a.b := congrArg Prod.fst h.1
      unfold findI
      rw [List.find?_cons, List.find?_cons, hb]
      cases a.b == i with
      | true => simp [h.1]
      | false => exact ih h.2
theorem foldV_pl {m l : List Im} (h : m.map pl = l.map pl) (x y o : Int) (v : Vw) : foldV m x y o v = foldV l x y o v := by
  have e := find_pl h v.b
  unfold foldV
  cases h1 : findI m v.b with
  | none =>
    cases h2 : findI l v.b with
    | none => rfl
    | some a => rw [h1, h2] at e; simp at e
  | some g =>
    cases h2 : findI l v.b with
    | none => rw [h1, h2] at e; simp at e
    | some a =>
      rw [h1, h2] at e
      simp only [Option.map_some, Option.some.injEq, pl, Prod.mk.injEq] at e
      obtain ⟨_, e1, e2, e3⟩ := e
      simp only [e1, e2, e3]
theorem u32_pl {m l : List Im} (h : m.map pl = l.map pl) (hu : ∀ g ∈ l, ∀ v ∈ g.P, 0 ≤ v ∧ v < 4294967296) : ∀ g ∈ m, ∀ v ∈ g.P, 0 ≤ v ∧ v < 4294967296 := by
  intro g hg v hv
  have : pl g ∈ l.map pl := by rw [← h]; exact List.mem_map_of_mem hg
  obtain ⟨a, ha, he⟩ := List.mem_map.1 this
  have e3 : a.P = g.P := by
    simp only [pl, Prod.mk.injEq] at he
    exact he.2.2.2
  exact hu a ha v (by rw [e3]; exact hv)
theorem foldV_bd {m : List Im} (hu : ∀ g ∈ m, ∀ v ∈ g.P, 0 ≤ v ∧ v < 4294967296) (x y o : Int) (v : Vw) (ho : 0 ≤ o ∧ o < 4294967296) : 0 ≤ foldV m x y o v ∧ foldV m x y o v < 4294967296 := by
  unfold foldV
  split
  · exact ho
  · unfold onePt
    split
    · exact ovr_bd _ _
    · exact ho
theorem folds_bd {m : List Im} (hu : ∀ g ∈ m, ∀ v ∈ g.P, 0 ≤ v ∧ v < 4294967296) (x y : Int) : ∀ (l : List Vw) (o : Int), 0 ≤ o ∧ o < 4294967296 → 0 ≤ l.foldl (foldV m x y) o ∧ l.foldl (foldV m x y) o < 4294967296
  | [], o, ho => ho
  | v :: l, o, ho => folds_bd hu x y l _ (foldV_bd hu x y o v ho)
/-- the closed picture of awake -/
def awP : List Int := allL 1 1 6 [⟨0, 1, 0, 0, 0, 0⟩] [⟨1, 1, 1, [4278190087], none, 1⟩] (allL 1 1 5 [] [] (List.replicate (1 * 1) 0))
theorem awp1 : atP 1 1 awP 0 0 = 4278190087 := by decide +kernel
end Go.Proofs.YtjjdgbhplechbaaDoor.Cv
